/- Joined. -/
import Derived.Test.YtoigglljnklhlaaGreatDoorD40
set_option maxHeartbeats 8000000
set_option maxRecDepth 100000
namespace Go.Proofs.YtoigglljnklhlaaGreatDoor
open Go.RowKit Go.Sort
open Go.Proofs.Tryz
theorem aIj (k r n:Int) (w:World) (hk:k=1∨k=2∨k=3∨k=4∨k=8∨k=9) (hv:bP k r n=true) :
 Calls prog 143 #[.agg #[.int .i64 k,.int .i64 r,.int .i64 n]] w fun e w'=>e=.returned (.string (aGW k r))∧Below w.heap.size w w':=by
 have hn:=fun w=>aHo k r w om;have HV:=Hh hv;clear hv;rcases hk with rfl|rfl|rfl|rfl|rfl|rfl;all_goals
  go_enter func143,ntmps143
  go_wp2_with fail
  refine (aGZ _ r n _).mono ?_;rintro e w1 ⟨rfl,hb⟩;obtain⟨p1,rfl⟩:=aO hb;clear hb;rw[HV.out];go_wp2_with fail
  refine (hn _).mono ?_;rintro e w1 ⟨rfl,hb⟩;obtain⟨p2,rfl⟩:=aO hb;clear hb hn;go_wp2_with fail
  go_ret;exact⟨rfl,bl⟩
theorem aIG (k r n:Int) (w:World) (hv:bP k r n=false) :
 Calls prog 143 #[.agg #[.int .i64 k,.int .i64 r,.int .i64 n]] w fun e w'=>e=.returned (.string ⟨#[]⟩)∧Below w.heap.size w w':=by
 have HV:=Hh hv;clear hv;go_enter func143,ntmps143
 go_wp2_with fail
 refine (aGZ _ r n _).mono ?_;rintro e w1 ⟨rfl,hb⟩;obtain⟨p1,rfl⟩:=aO hb;clear hb;rw[HV.out];go_wp2_with fail
 go_ret;exact⟨rfl,bl⟩
theorem aJk (r n:Int) (w:World) (hv:bP 5 r n=true) :
 Calls prog 143 #[.agg #[.int .i64 5,.int .i64 r,.int .i64 n]] w fun e w'=>e=.returned (.string ((⟨#[40]⟩:ByteArray)++aGW 5 r++eI n++(⟨#[41]⟩:ByteArray)))∧Below w.heap.size w w':=by
 obtain⟨a,b,h1,h2,h3,h4,h5,h6,h7,h8⟩:=mO hv;obtain rfl:a=5:=om
 subst h2;simp only[klo,khi] at h7 h8;have hl1:=iX n;have hl2:(aGW 5 b).size≤10:=aJm ⟨5,om⟩ ⟨b,h5⟩
 clear h1;have HV:=Hh hv;clear hv;go_enter func143,ntmps143
 go_wp2_with fail
 refine (aGZ _ b n _).mono ?_;rintro e w1 ⟨rfl,hb⟩;obtain⟨p1,rfl⟩:=aO hb;clear hb;rw[HV.out];go_wp2_with fail
 refine bO kr kr ?_;repeat (go_big_quiet_step (first|exact eG (aHo 5 b _ om)|exact mR (aHm n _ om om)))
 refine wpQuiet_nil ?_;rintro _ ⟨p2,rfl⟩;go_wp2_with fail
 go_ret;exact⟨rfl,bl⟩
theorem aJB (r n:Int) (w:World) (hn:n<0) (h7:-32768≤n) (HV:Hid (bP 6 r n=true)) :
 Calls prog 143 #[.agg #[.int .i64 6,.int .i64 r,.int .i64 n]] w fun e w'=>e=.returned (.string (eI n))∧Below w.heap.size w w':=by
 go_enter func143,ntmps143
 go_wp2_with fail
 refine (aGZ 6 r n _).mono ?_;rintro e w1 ⟨rfl,hb⟩;obtain⟨p1,rfl⟩:=aO hb;clear hb;rw[HV.out];go_wp2_with fail
 refine (aHm n _ om om).mono ?_;rintro e w1 ⟨rfl,rfl⟩;go_wp2_with fail
 go_ret;exact⟨rfl,bl⟩
theorem aJA (r n:Int) (w:World) (hn:¬ n<0) (HV:Hid (bP 6 r n=true)) :
 Calls prog 143 #[.agg #[.int .i64 6,.int .i64 r,.int .i64 n]] w fun e w'=>e=.returned (.string (aX n))∧Below w.heap.size w w':=by
 go_enter func143,ntmps143
 go_wp2_with fail
 refine (aGZ 6 r n _).mono ?_;rintro e w1 ⟨rfl,hb⟩;obtain⟨p1,rfl⟩:=aO hb;clear hb;rw[HV.out];go_wp2_with fail
 refine (aDA n _).mono ?_;rintro e w1 ⟨rfl,rfl⟩;go_wp2_with fail
 go_ret;exact⟨rfl,bl⟩
theorem aJP (r n:Int) (w:World) (HV:Hid (bP 7 r n=true)) :
 Calls prog 143 #[.agg #[.int .i64 7,.int .i64 r,.int .i64 n]] w fun e w'=>e=.returned (.string ((⟨#[40]⟩:ByteArray)++aX n++(⟨#[41]⟩:ByteArray)))∧Below w.heap.size w w':=by
 have hl:=fC n;go_enter func143,ntmps143
 go_wp2_with fail
 refine (aGZ 7 r n _).mono ?_;rintro e w1 ⟨rfl,hb⟩;obtain⟨p1,rfl⟩:=aO hb;clear hb;rw[HV.out];go_wp2_with fail
 refine (aDA n _).mono ?_;rintro e w1 ⟨rfl,rfl⟩;go_wp2_with fail
 go_ret;exact⟨rfl,bl⟩
theorem aJC (r n:Int) (w:World) (h7:-128≤n) (h8:n≤127) (HV:Hid (bP 10 r n=true)) :
 Calls prog 143 #[.agg #[.int .i64 10,.int .i64 r,.int .i64 n]] w fun e w'=>e=.returned (.string ((⟨#[36]⟩:ByteArray)++eI (n+2)))∧Below w.heap.size w w':=by
 have hl:=iX (n+2);go_enter func143,ntmps143
 go_wp2_with fail
 refine (aGZ 10 r n _).mono ?_;rintro e w1 ⟨rfl,hb⟩;obtain⟨p1,rfl⟩:=aO hb;clear hb;rw[HV.out];go_wp2_with fail
 refine (aHm (n+2) _ om om).mono ?_;rintro e w1 ⟨rfl,rfl⟩;go_wp2_with fail
 go_ret;exact⟨rfl,bl⟩
theorem aHN (k r n:Int) (w:World) :
 Calls prog 143 #[.agg #[.int .i64 k,.int .i64 r,.int .i64 n]] w fun e w'=>e=.returned (.string (eT k r n))∧Below w.heap.size w w':=by
 rcases hv:bP k r n with _|_
 · have:eT k r n=⟨#[]⟩:=by unfold eT;rw[hv];rfl
   rw[this];exact aIG k r n w hv
 · obtain⟨a,b,h1,h2,h3,h4,h5,h6,h7,h8⟩:=mO hv;subst h1;by_cases h1:a=1∨a=2∨a=3∨a=4∨a=8∨a=9
   · rw[aHZ a r n h1 hv];exact aIj a r n w om hv
   · have ht:eT a r n=zJ a (nm a r.toNat) n:=by unfold eT;rw[hv,if_pos rfl,Int.toNat_natCast]
     have h9:a=5∨a=6∨a=7∨a=10:=om
     rcases h9 with rfl|rfl|rfl|rfl
     · rw[show eT ((5:Nat):Int) r n=eT 5 r n from rfl,aIM r n hv]
       exact aJk r n w hv
     · rw[ht];show Calls _ _ _ _ fun e w'=>e=.returned (.string (if n<0 then eI n else aX n))∧_
       by_cases hn:n<0
       · rw[if_pos hn];exact aJB r n w hn h7 hv
       · rw[if_neg hn];exact aJA r n w hn hv
     · rw[ht];exact aJP r n w hv
     · rw[ht];exact aJC r n w h7 h8 hv
theorem aJn (v1:Value) (l:List Op3) (w:World) (h1:Row w v1 l.length (opc l)) (hl:l.length≤1000) :
 Calls prog 99 #[v1] w fun e w'=>e=.returned (.string (mP l))∧Below w.heap.size w w':=by
 obtain⟨a1,c1,rfl,hc1,h1⟩:=h1.op;have H1:=Hh h1;clear h1;go_enter func99,ntmps99
 go_wp2_with fail
 go_loopw [3,4] (fun s i wr=>∃ j:Nat,j≤l.length∧i=.int .i64 j∧s=.string (mP (l.take j))∧Below w.heap.size w wr) (fun _ i _=>l.length - (intOf i).toNat)
 case atStart=>exact⟨0,Nat.zero_le _,rfl,rfl,Below.refl _ _⟩
 case round =>
  obtain⟨j,hj,rfl,rfl,hbel⟩:=hrel;by_cases hlt:j<l.length
  · obtain⟨⟨x0,x1,x2⟩,hx⟩:∃ x,l[j]? = some x:=⟨_,List.getElem?_eq_getElem hlt⟩;obtain⟨g,o,rfl,hg,hc⟩:=H1.out (by intro e;rw[e] at hlt;exact absurd hlt (Nat.not_lt_zero _))
    obtain⟨cx0,cx1,cx2⟩:=hc j _ hx;clear hc;rw[←hbel.cell (p:=⟨_,_,none⟩) hg] at cx0 cx1 cx2;have HBEL:=Hh hbel;clear hbel;have hi0:(0:Int)≤(j:Int):=om
    have hi1:(j:Int)<(l.length:Int):=om
    have hs1:=uW (l.take j);rw[List.length_take,Nat.min_eq_left hj] at hs1;have hs2:=sE x0 x1 x2;rcases Nat.eq_zero_or_pos j with h0|h0
    · subst h0;have hsucc:=aJr l _ hx;have Hs:=Hh hsucc;clear hsucc hx hs1;rw[show mP (l.take 0)=⟨#[]⟩ from rfl]
      simp only[Nat.zero_mul,Nat.add_zero] at cx0 cx1 cx2;go_wp2_with fail
      refine (aHN x0 x1 x2 _).mono ?_;rintro e w1 ⟨rfl,hb⟩;obtain⟨p1,rfl⟩:=aO hb;clear hb;go_wp2_with fail
      go_roundw
      case rel=>exact⟨1,om,by go_num,by rw[Hs.out,aIc],HBEL.out.trans (Below.mono (show Below wr.heap.size wr _ from bl) HBEL.out.size)⟩
      case measure=>simp[intOf];omega
    · have hsucc:=aIP l j _ hx h0;have Hs:=Hh hsucc;clear hsucc hx;have hi2:(0:Int)<(j:Int):=om
      generalize mP (l.take j)=S at hs1 Hs ⊢;go_wp2_with fail
      refine (aHN x0 x1 x2 _).mono ?_;rintro e w1 ⟨rfl,hb⟩;obtain⟨p1,rfl⟩:=aO hb;clear hb;go_wp2_with fail
      go_roundw
      case rel=>exact⟨j+1,om,by go_num,by rw[Hs.out],HBEL.out.trans (Below.mono (show Below wr.heap.size wr _ from bl) HBEL.out.size)⟩
      case measure=>simp[intOf];omega
  · obtain rfl:j=l.length:=om
    rw[List.take_length];go_wp2_with fail
    go_ret;exact⟨rfl,hbel⟩
theorem aJx (b:UInt8):vM [b]=⟨#[68,69,70,66,32]⟩++aX (b.toNat:Int):=by
 unfold vM jY uZ;rw[if_neg sm,List.map_cons,List.map_nil,List.map_cons,List.map_nil,Lib.join_one]
theorem aIX {bs:List UInt8} (b:UInt8) (h:bs≠[]):vM (bs++[b])=vM bs++⟨#[44]⟩++aX (b.toNat:Int):=by
 obtain⟨x,r,rfl⟩:=List.exists_cons_of_ne_nil h;have ht:∀ r:List (List UInt8),∀ y,Lib.joinTail [44] (r++[y])=Lib.joinTail [44] r++([44]++y):=fun r y=>by simp[Lib.joinTail]
 unfold vM;rw[if_neg sm,if_neg sm];apply ByteArray.ext
 unfold uZ jY;simp only[List.map_append,List.map_cons,List.map_nil,List.cons_append,Lib.join_cons,ht,ByteArray.data_append];apply Array.toList_inj.1
 simp
theorem aIW {bs:List UInt8} {j:Nat} {b:UInt8} (h:bs[j]? = some b) (hj:j≠0):vM (bs.take (j+1))=vM (bs.take j)++⟨#[44]⟩++aX (b.toNat:Int):=by
 rw[List.take_add_one,h];exact aIX b (by intro e;have h1:=congrArg List.length e;rw[List.length_take,List.length_nil] at h1;have:=(List.getElem?_eq_some_iff.1 h).1;omega)
theorem aIl (bs:List UInt8) (v:Value) (w:World) (hr:Row w v bs.length (aT bs)) (hl:bs.length≤100000) :
 Calls prog 62 #[v] w fun e w'=>e=.returned (.string (vM bs))∧w=w':=by
 obtain⟨a,c,rfl,hcap,hh⟩:=hr;have HH:=Hh hh;have HD:=Hh (fun j=>Dj (bs.take j));have hcc:(bs.length:Int)≤(c:Int):=om
 clear hh hcap;go_enter func62,ntmps62
 go_wp2_with fail
 go_loopw [3,4] (fun s i wr=>wr=w∧∃ j:Nat,j≤bs.length∧s=.string (vM (bs.take j))∧i=.int .i64 j) (fun _ i _=>bs.length - (intOf i).toNat)
 case atStart=>exact⟨rfl,0,Nat.zero_le _,rfl,rfl⟩
 case round =>
  obtain⟨rfl,j,hj,rfl,rfl⟩:=hrel;by_cases hlt:j<bs.length
  · obtain⟨b,hb⟩:∃ b,bs[j]? = some b:=⟨_,List.getElem?_eq_getElem hlt⟩;obtain⟨g,o,rfl,hg,hcs⟩:=HH.out (by intro e;have h1:=fS bs;rw[e] at h1;simp at h1;omega);have k0:wr.cell? ⟨g,o+j,none⟩=some (.int .u8 b.toNat):=by
     have h1:=hcs j (by rw[fS];exact hlt);rw[oS hb] at h1;exact h1
    have hwb:wrap64 (b.toNat:Int)=(b.toNat:Int):=IntWalk.wrap64_in _ (by have:=b.toNat_lt;omega);have hnt:=nD (b.toNat:Int);have hds:(vM (bs.take j)).size≤1000000:=by have h1:=HD.out j;rw[List.length_take] at h1;omega
    have hi0:(0:Int)≤(j:Int):=om
    have hi1:(j:Int)<(bs.length:Int):=om
    clear hcs;by_cases hz:j=0
    · subst hz;have hst:vM (bs.take (0+1))=⟨#[68,69,70,66,32]⟩++aX (b.toNat:Int):=by rw[List.take_add_one,hb];exact aJx b
      have HST:=Hh hst;clear hst hb;rw[Nat.add_zero] at k0;go_wp2_with fail
      (with_reducible refine (aDA (b.toNat:Int) _).mono ?_);rintro e w1 ⟨rfl,rfl⟩;go_wp2_with fail
      rw[←HST.out];go_roundw
      case rel=>exact⟨trivial,0+1,om,rfl,by go_num⟩
      case measure=>simp[intOf];omega
    · have hzb:((j:Int) == 0)=false:=by simp[hz]
      have HST:=Hh (aIW hb hz);clear hb hz;generalize vM (bs.take j)=SJ at *;go_wp2_with fail
      (with_reducible refine (aDA (b.toNat:Int) _).mono ?_);rintro e w1 ⟨rfl,rfl⟩;go_wp2_with fail
      rw[←HST.out];go_roundw
      case rel=>exact⟨trivial,j+1,om,rfl,by go_num⟩
      case measure=>simp[intOf];omega
  · obtain rfl:j=bs.length:=om
    rw[List.take_length];go_wp2_with fail
    go_ret;exact⟨rfl,rfl⟩
end Go.Proofs.YtoigglljnklhlaaGreatDoor
