/- Joined. -/
import Derived.Test.YtoigglljnklhlaaGreatDoorD05
import Derived.Test.YtoigglljnklhlaaGreatDoorD07
import Derived.StillTailTactics
set_option maxHeartbeats 8000000
set_option maxRecDepth 100000
namespace Go.Proofs.YtoigglljnklhlaaGreatDoor
open Go.RowKit Go.Sort
open Go.Proofs.Tryz
theorem aQc:∀ k:Fin 8,∀ op:Fin 256,bits BinOp.and IntKind.u8 ((op.val:Int)/2 ^ (7 - k.val)) 1=(((op.val >>> (7 - k.val))%2:Nat):Int):=by decide +kernel
theorem aPf {k op:Nat} (hk:k<8) (ho:op<256):bits BinOp.and IntKind.u8 ((op:Int)/2 ^ (7 - k)) 1=(((op >>> (7 - k))%2:Nat):Int):=aQc ⟨k,hk⟩ ⟨op,ho⟩
theorem zL {t:List UInt8} {op k:Nat} (h9:9≤t.length) (hk:k<8) (h:jI op k (t.getD k 0)=true):eH t op=false:=by
 unfold eH;rw[Nat.min_eq_right om,Bool.and_eq_false_iff];right
 rw[List.all_eq_false];exact⟨k,Yn.2 hk,by rw[h];decide⟩
theorem Ih {t:List UInt8} {op:Nat} (h9:9≤t.length) (h:∀ k,k<8→jI op k (t.getD k 0)=false):eH t op=true:=by
 unfold eH;rw[Nat.min_eq_right om,Qe];constructor
 · cases t with
   | nil=>simp at h9
   | cons a l=>rfl
 · rw[Xk];intro k hk;rw[h k (Yn.1 hk)];rfl
theorem xC {s:ByteArray} {t:List UInt8} {k:Nat} (hs:s=⟨t.toArray⟩) (h:k<s.size):s[k]=t.getD k 0:=by
 subst hs;have h2:k<t.length:=by have h3:k<t.toArray.size:=h;simpa using h3
 rw[Xh,Qb h2];rfl
theorem qZ {s:ByteArray} {t:List UInt8} {k op:Nat} {c:UInt8} (hs:s=⟨t.toArray⟩) (h:k<s.size) (hk:k<8) (ho:op<256) (hc:c=48∨c=49) (h1:(s[k].toNat:Int)=c.toNat) (b:Bool)
 (h2:((((c - 48).toNat:Nat):Int) != bits BinOp.and IntKind.u8 ((op:Int)/2 ^ (7 - k)) 1)=b):jI op k (t.getD k 0)=b:=by
 have e:t.getD k 0=c:=by
  rw[←xC hs h];exact Yv.1 om
 rw[aPf hk ho] at h2;unfold jI;rw[e];have h3:(c == 48 || c == 49)=true:=by rcases hc with rfl|rfl<;>rfl
 rw[h3,Yp,←h2];rw[Yl,Qf,bne_iff_ne];omega
theorem Sj {s:ByteArray} {t:List UInt8} {k op:Nat} (hs:s=⟨t.toArray⟩) (h:k<s.size) (h1:¬ (s[k].toNat:Int)=48) (h2:¬ (s[k].toNat:Int)=49):jI op k (t.getD k 0)=false:=by
 rw[←xC hs h];unfold jI;have e1:(s[k] == 48)=false:=by rw[Xd];intro e;rw[e] at h1;exact h1 rfl
 have e2:(s[k] == 49)=false:=by rw[Xd];intro e;rw[e] at h2;exact h2 rfl
 rw[e1,e2];rfl
theorem tL {p:Nat→Prop} {k:Nat} (h:∀ j,j<k→p j) (hk:p k):∀ j,j<k+1→p j:=fun j hj=>by
 rcases Nat.lt_or_eq_of_le (Nat.le_of_lt_succ hj) with h1|h1
 · exact h j h1
 · subst h1;exact hk
theorem zK (t:List UInt8) (op:Nat) (w:World) (h9:9≤t.length) (h100:t.length≤100) (hop:op<256) :
 Calls prog 262 #[t,.int .u8 op] w fun e w'=>e=.returned (.bool (eH t op))∧w=w':=by
 obtain⟨s,hs⟩:∃ s:ByteArray,s=⟨t.toArray⟩:=⟨_,rfl⟩;have hsz:s.size=t.length:=by rw[hs];show t.toArray.size=_;simp
 have hs9:9≤s.size:=om
 have hs100:s.size≤100:=om
 rw[←hs];have hne:s.toList.isEmpty=false:=by
  rw[hs];cases t with
  | nil=>simp at h9
  | cons a l=>simp[ByteArray.toList_eq]
 have HS:=Hh hs;clear hs;have HZ:=Hh hsz;clear hsz;go_enter func262,ntmps262
 go_wp2_with fail
 go_loop [10] (fun i=>∃ k:Nat,k≤8∧i=.int .i64 k∧Hid (∀ j,j<k→jI op j (t.getD j 0)=false)) (fun i=>8 - (intOf i).toNat)
 case atStart=>exact⟨0,om,rfl,Hh (fun j hj=>absurd hj (Qw _))⟩
 case round =>
  obtain⟨k,hk,rfl,HK⟩:=hrel;by_cases hlt:k<8
  · have h1:k<s.size:=om
    go_wp2_with fail
    · have e1:(s[k].toNat:Int)=48:=by assumption
      have e2:(0 != bits BinOp.and IntKind.u8 ((op:Int)/2 ^ (7 - k)) 1)=true:=by assumption
      go_ret;exact⟨by rw[zL h9 hlt (qZ HS.out h1 hlt hop (.inl rfl) e1 true e2)];rfl,rfl⟩
    · have e1:(s[k].toNat:Int)=48:=by assumption
      have e2:(0 != bits BinOp.and IntKind.u8 ((op:Int)/2 ^ (7 - k)) 1)=false:=by assumption
      go_round
      case rel=>exact⟨k+1,om,by go_num,Hh (tL HK.out (qZ HS.out h1 hlt hop (.inl rfl) e1 false e2))⟩
      case measure=>simp[intOf];omega
    · have e1:(s[k].toNat:Int)=49:=by assumption
      have e2:(1 != bits BinOp.and IntKind.u8 ((op:Int)/2 ^ (7 - k)) 1)=true:=by assumption
      go_ret;exact⟨by rw[zL h9 hlt (qZ HS.out h1 hlt hop (.inr rfl) e1 true e2)];rfl,rfl⟩
    · have e1:(s[k].toNat:Int)=49:=by assumption
      have e2:(1 != bits BinOp.and IntKind.u8 ((op:Int)/2 ^ (7 - k)) 1)=false:=by assumption
      go_round
      case rel=>exact⟨k+1,om,by go_num,Hh (tL HK.out (qZ HS.out h1 hlt hop (.inr rfl) e1 false e2))⟩
      case measure=>simp[intOf];omega
    · have e1:¬ (s[k].toNat:Int)=48:=by assumption
      have e2:¬ (s[k].toNat:Int)=49:=by assumption
      go_round
      case rel=>exact⟨k+1,om,by go_num,Hh (tL HK.out (Sj HS.out h1 e1 e2))⟩
      case measure=>simp[intOf];omega
  · obtain rfl:k=8:=om
    go_wp2_with fail
    go_ret;exact⟨by rw[Ih h9 HK.out];simp,rfl⟩
def gP (op:Nat) (c:UInt8) (bits:List UInt8) (k:Nat):Nat:=(List.range k).foldl (fun n i=>if bits.getD i 0=c then 2*n+(op >>> (7 - i))%2 else n) 0
theorem lV (op:Nat) (c:UInt8) (bits:List UInt8) (k:Nat):gP op c bits (k+1)=if bits.getD k 0=c then 2*gP op c bits k+(op >>> (7 - k))%2 else gP op c bits k:=by
 unfold gP;rw[Yw,List.foldl_append];rfl
theorem jU (op:Nat) (c:UInt8) (bits:List UInt8):∀ k,gP op c bits k<2 ^ k
 | 0=>by simp[gP]
 | k+1=>by
   have:=jU op c bits k
   rw[lV,Nat.pow_succ];split<;>omega
theorem vJ (op:Nat) (c:UInt8) (bits:List UInt8):∀ (r:List UInt8) (i n:Nat),bits.drop i=r→n=gP op c bits i→aM op c i r n=gP op c bits (i+r.length)
 | [],i,n,_,hn=>by rw[aM,hn];rfl
 | b::r,i,n,hd,hn=>by
   have hb:bits.getD i 0=b:=by
    have:=congrArg (fun l=>l[0]?) hd
    simp only[Yh,Xu,Zg] at this;rw[Xh,this];rfl
   rw[aM,vJ op c bits r (i+1) _ (by rw[←Zn,hd];rfl) (by rw[lV,hb,←hn])];congr 1
   simp only[Qp];omega
theorem jH (op:Nat) (c:UInt8) (bits:List UInt8):aM op c 0 bits 0=gP op c bits bits.length:=by
 rw[vJ op c bits bits 0 0 rfl rfl,Xb]
abbrev nR (bits mn:List UInt8) (v:Value) (al:Bool):Value:=.agg #[bits,mn,v,.bool al]
theorem Iu (bs mn:List UInt8) (a:Option Addr) (n c:Nat) (al:Bool) (ch:UInt8) (op:Nat) (w:World) (h8:bs.length=8) (hop:op<256) :
 Calls prog 307 #[nR bs mn (.slice a n c) al,.int .u8 ch.toNat,.int .u8 op] w fun e w'=>e=.returned (.int .i64 (aM op ch 0 bs 0))∧Below w w w':=by
 rw[jH,h8];obtain⟨s,hs⟩:∃ s:ByteArray,s=⟨bs.toArray⟩:=⟨_,rfl⟩;have hsz:s.size=8:=by rw[hs];show bs.toArray.size=_;simp[h8]
 unfold nR;rw[←hs];have HS:=Hh hs;clear hs;have HZ:=Hh hsz;have hz8:(8:Nat)≤s.size:=om
 have hz9:s.size≤8:=om
 clear hsz;go_enter func307,ntmps307
 go_wp2_with fail
 go_loop [7,12] (fun n i=>∃ k:Nat,k≤8∧i=.int .i64 k∧n=.int .i64 (gP op ch bs k)) (fun _ i=>8 - (intOf i).toNat)
 case atStart=>exact⟨0,om,rfl,rfl⟩
 case round =>
  obtain⟨k,hk,rfl,rfl⟩:=hrel;have hlt2:=jU op ch bs k;have hle:gP op ch bs k<256:=Qj hlt2 (Nat.pow_le_pow_right dc hk:2 ^ k≤2 ^ 8);clear hlt2;by_cases hlt:k<8
  · have h1:k<s.size:=om
    have hsucc:=lV op ch bs k;rw[←xC HS.out h1] at hsucc;generalize gP op ch bs k=m at *;by_cases hc:s[k]=ch
    · have hb:((s[k].toNat:Int) == (ch.toNat:Int))=true:=by rw[hc];simp
      have hbit:=aPf hlt hop;rw[if_pos hc] at hsucc;have HSUCC:=Hh hsucc;clear hsucc hc;have hbl:0≤bits BinOp.and IntKind.u8 ((op:Int)/2 ^ (7 - k)) 1∧bits BinOp.and IntKind.u8 ((op:Int)/2 ^ (7 - k)) 1≤1:=by rw[hbit];omega
      obtain⟨hbl1,hbl2⟩:=hbl;have HBIT:=Hh hbit;clear hbit;go_wp2_with fail
      go_round
      case rel=>exact⟨k+1,om,by go_num,by rw[HSUCC.out,HBIT.out];push_cast;rfl⟩
      case measure=>simp[intOf];omega
    · have hb:((s[k].toNat:Int) == (ch.toNat:Int))=false:=by rw[Xd];intro e;exact hc (Yv.1 om)
      rw[if_neg hc] at hsucc;have HSUCC:=Hh hsucc;clear hsucc hc;go_wp2_with fail
      go_round
      case rel=>exact⟨k+1,om,by go_num,by rw[HSUCC.out]⟩
      case measure=>simp[intOf];omega
  · have hk8:s.size=k:=om
    obtain rfl:k=8:=om
    go_wp2_with fail
    go_ret;exact⟨rfl,bl⟩
structure Bu where
 page:Nat
 op:Nat
 mn:List UInt8
 va:Value
 ex:List UInt8
 al:Bool
 bits:List UInt8
 rmn:List UInt8
 ra:Option Addr
 rn:Nat
 rc:Nat
 ral:Bool
def BuAt (w:World) (b:Nat) (u:Bu):Prop:=w.heap[b]? = some (.cells #[.int .i64 u.page,.int .u8 u.op,.string ⟨u.mn.toArray⟩,u.va,.string ⟨u.ex.toArray⟩,.bool u.al,.string ⟨u.bits.toArray⟩,.string ⟨u.rmn.toArray⟩,.slice u.ra u.rn u.rc,.bool u.ral] 316 (0,0))
theorem BuAt.lt {w:World} {b:Nat} {u:Bu} (h:BuAt w b u):b<w.heap.size:=(Ql.1 h).1
theorem BuAt.below {w w':World} {b:Nat} {u:Bu} (h:BuAt w b u) (hb:Below w w w'):BuAt w' b u:=(hb.block b h.lt).trans h
theorem BuAt.rule {w:World} {b:Nat} {u:Bu} (h:BuAt w b u):w.cell? ⟨b,1,none⟩=some (.int .u8 u.op)∧w.cell? ⟨b,6,none⟩=some (.string ⟨u.bits.toArray⟩)∧w.cell? ⟨b,7,none⟩=some (.string ⟨u.rmn.toArray⟩)∧w.cell? ⟨b,8,none⟩=some (.slice u.ra u.rn u.rc)∧w.cell? ⟨b,9,none⟩=some (.bool u.ral):=by
 unfold BuAt at h;refine⟨?_,?_,?_,?_,?_⟩<;>simp[World.cell?,h]
theorem BuAt.extra {w:World} {b:Nat} {u:Bu} (h:BuAt w b u):w.cell? ⟨b,4,none⟩=some (.string ⟨u.ex.toArray⟩)∧w.frozen? ⟨b,4,none⟩=false:=by
 unfold BuAt at h;refine⟨?_,?_⟩<;>simp[World.cell?,World.frozen?,h]
theorem BuAt.setExtra {w:World} {b:Nat} {u:Bu} (h:BuAt w b u) (x:List UInt8):BuAt (w.setCell ⟨b,4,none⟩ x) b { u with ex:=x }:=by
 unfold BuAt at *;show (w.heap.modify b _)[b]? = _
 rw[Yk (by rw[Array.size_modify];exact (Ql.1 h).1),Array.getElem_modify_self,(Ql.1 h).2]
 rfl
theorem gC (b:Nat) (u:Bu) (ch:UInt8) (w:World) (hB:BuAt w b u) (h8:u.bits.length=8) (hop:u.op<256) :
 Calls prog 297 #[.pointer b,.int .u8 ch.toNat] w fun e w'=>e=.returned (.int .i64 (aM u.op ch 0 u.bits 0))∧Below w w w':=by
 have hlt:=hB.lt;obtain⟨c1,c6,c7,c8,c9⟩:=hB.rule;have hf:=fun w=>Iu u.bits u.rmn u.ra u.rn u.rc u.ral ch u.op w h8 hop;generalize aM u.op ch 0 u.bits 0=R at *;have HF:=Hh hf;clear hf hB h8;go_enter func297,ntmps297
 go_wp2_with fail
 refine bO kr kr ?_;repeat (go_big_quiet_step (exact eG (HF.out _)))
 refine wpQuiet_nil ?_;rintro _ ⟨p2,rfl⟩;go_wp2_with fail
 go_ret;exact⟨rfl,bl⟩
def Mi:List UInt8:=[66,32,67,32,68,32,69,32,72,32,76,32,40,72,76,41,32,65]
def Ms:List UInt8:=[66,67,32,68,69,32,72,76,32,83,80]
def Bb:List UInt8:=[66,67,32,68,69,32,72,76,32,65,70]
def sJ (l:List UInt8) (n:Nat) (o:Op3):Bool:=match (Lib.fields l)[n]? with|some x=>rK x && decide (eJ x=o)|none=>false
theorem Rs:∀ n:Fin 8,sJ Mi n.val (cV n.val)=true:=by decide +kernel
theorem Rw:∀ n:Fin 4,sJ Ms n.val (3,(n.val:Int),0)=true:=by decide +kernel
theorem Lj:∀ n:Fin 4,sJ Bb n.val (3,(if n.val=3 then 4 else (n.val:Int)),0)=true:=by decide +kernel
theorem pI (l:List UInt8) (n:Nat) (o:Op3) (w:World) (hT:TabsA w) (hl:l.length≤1000) (ha:l.all (fun b=>decide (b.toNat<128))=true) (h:sJ l n o=true) :
 Calls prog 296 #[l,n] w fun e w'=>e=.returned (opW o)∧Below w w w':=by
 unfold sJ at h;cases hx:(Lib.fields l)[n]? with
 | none=>rw[hx] at h;cases h
 | some x =>
   rw[hx] at h;simp only[Qe,Qf] at h;rw[←h.2];exact Cc l n x w hT hl ha hx h.1
theorem nS (b:Nat) (u:Bu) (ch:UInt8) (w:World) (hT:TabsA w) (hB:BuAt w b u) (h8:u.bits.length=8) (hop:u.op<256) (hn:aM u.op ch 0 u.bits 0<8) :
 Calls prog 278 #[.pointer b,.int .u8 ch.toNat] w fun e w'=>e=.returned (opW (cV (aM u.op ch 0 u.bits 0)))∧Below w w w':=by
 have hb0:Below w w (w.alloc (.cells #[(0:Int),(0:Int),(0:Int)] 144)):=br.alloc lr _;have hnum:=gC b u ch _ (hB.below hb0) h8 hop;have hok:=Rs ⟨aM u.op ch 0 u.bits 0,hn⟩;dsimp only at hok;generalize aM u.op ch 0 u.bits 0=n at *;have hnm:=fun w hT=>pI Mi n _ w hT dc dc hok;unfold Mi at hnm;obtain⟨⟨r0,r1,r2⟩,hr⟩:∃ r:Op3,r=cV n:=⟨_,rfl⟩;rw[←hr] at hnm ⊢;have HT:=Hh (hT.below hb0);clear hT;have HNUM:=Hh hnum;clear hnum;have HNM:=Hh hnm;clear hnm;clear hr hok hB h8 hn hb0;go_enter func278,ntmps278
 go_wp2_with fail
 refine HNUM.out.mono ?_;rintro e w1 ⟨rfl,hb1⟩;have HT1:=Hh (HT.out.below hb1);have hbo:=aW hb1;have hbw:=aK hb1;have hl1:w.heap.size<w1.heap.size:=lt_of_block hbo;have HBO:=Hh hbo;clear hbo;have HBW:=Hh hbw;clear hbw hb1;go_wp2_with fail
 refine (HNM.out _ HT1.out).mono ?_;rintro e w2 ⟨rfl,hb2⟩;obtain⟨k0,k1,k2,f0,f1,f2⟩:=bE ((hb2.block _ hl1).trans HBO.out);have HB2:=Hh (HBW.out.trans (hb2.mono HBW.out.size));clear hb2;go_wp2_with fail
 refine bodyPost_ret (v:=opW (r0,r1,r2)) (by simp[results,results278,go_sem,k0,k1,k2]) rfl ⟨rfl,?_⟩;exact ((HB2.out.setCell (p:=w) lr _).setCell (p:=⟨w,1,none⟩) lr _).setCell (p:=⟨w,2,none⟩) lr _
theorem Mr (b:Nat) (u:Bu) (ch:UInt8) (w:World) (hT:TabsA w) (hB:BuAt w b u) (h8:u.bits.length=8) (hop:u.op<256) (hn:aM u.op ch 0 u.bits 0<4) :
 Calls prog 279 #[.pointer b,.int .u8 ch.toNat] w fun e w'=>e=.returned (opW ((3,((aM u.op ch 0 u.bits 0:Nat):Int),0)))∧Below w w w':=by
 have hb0:Below w w (w.alloc (.cells #[(0:Int),(0:Int),(0:Int)] 144)):=br.alloc lr _;have hnum:=gC b u ch _ (hB.below hb0) h8 hop;have hok:=Rw ⟨aM u.op ch 0 u.bits 0,hn⟩;dsimp only at hok;generalize aM u.op ch 0 u.bits 0=n at *;have hnm:=fun w hT=>pI Ms n _ w hT dc dc hok;unfold Ms at hnm;obtain⟨⟨r0,r1,r2⟩,hr⟩:∃ r:Op3,r=(3,(n:Int),0):=⟨_,rfl⟩;rw[←hr] at hnm ⊢;have HT:=Hh (hT.below hb0);clear hT;have HNUM:=Hh hnum;clear hnum;have HNM:=Hh hnm;clear hnm;clear hr hok hB h8 hn hb0;go_enter func279,ntmps279
 go_wp2_with fail
 refine HNUM.out.mono ?_;rintro e w1 ⟨rfl,hb1⟩;have HT1:=Hh (HT.out.below hb1);have hbo:=aW hb1;have hbw:=aK hb1;have hl1:w.heap.size<w1.heap.size:=lt_of_block hbo;have HBO:=Hh hbo;clear hbo;have HBW:=Hh hbw;clear hbw hb1;go_wp2_with fail
 refine (HNM.out _ HT1.out).mono ?_;rintro e w2 ⟨rfl,hb2⟩;obtain⟨k0,k1,k2,f0,f1,f2⟩:=bE ((hb2.block _ hl1).trans HBO.out);have HB2:=Hh (HBW.out.trans (hb2.mono HBW.out.size));clear hb2;go_wp2_with fail
 refine bodyPost_ret (v:=opW (r0,r1,r2)) (by simp[results,results279,go_sem,k0,k1,k2]) rfl ⟨rfl,?_⟩;exact ((HB2.out.setCell (p:=w) lr _).setCell (p:=⟨w,1,none⟩) lr _).setCell (p:=⟨w,2,none⟩) lr _
theorem Fu (b:Nat) (u:Bu) (ch:UInt8) (w:World) (hT:TabsA w) (hB:BuAt w b u) (h8:u.bits.length=8) (hop:u.op<256) (hn:aM u.op ch 0 u.bits 0<4) :
 Calls prog 280 #[.pointer b,.int .u8 ch.toNat] w fun e w'=>e=.returned (opW ((3,(if aM u.op ch 0 u.bits 0=3 then 4 else ((aM u.op ch 0 u.bits 0:Nat):Int)),0)))∧Below w w w':=by
 have hb0:Below w w (w.alloc (.cells #[(0:Int),(0:Int),(0:Int)] 144)):=br.alloc lr _;have hnum:=gC b u ch _ (hB.below hb0) h8 hop;have hok:=Lj ⟨aM u.op ch 0 u.bits 0,hn⟩;dsimp only at hok;generalize aM u.op ch 0 u.bits 0=n at *;have hnm:=fun w hT=>pI Bb n _ w hT dc dc hok;unfold Bb at hnm;obtain⟨⟨r0,r1,r2⟩,hr⟩:∃ r:Op3,r=(3,(if n=3 then 4 else (n:Int)),0):=⟨_,rfl⟩
 rw[←hr] at hnm ⊢;have HT:=Hh (hT.below hb0);clear hT;have HNUM:=Hh hnum;clear hnum;have HNM:=Hh hnm;clear hnm;clear hr hok hB h8 hn hb0;go_enter func280,ntmps280
 go_wp2_with fail
 refine HNUM.out.mono ?_;rintro e w1 ⟨rfl,hb1⟩;have HT1:=Hh (HT.out.below hb1);have hbo:=aW hb1;have hbw:=aK hb1;have hl1:w.heap.size<w1.heap.size:=lt_of_block hbo;have HBO:=Hh hbo;clear hbo;have HBW:=Hh hbw;clear hbw hb1;go_wp2_with fail
 refine (HNM.out _ HT1.out).mono ?_;rintro e w2 ⟨rfl,hb2⟩;obtain⟨k0,k1,k2,f0,f1,f2⟩:=bE ((hb2.block _ hl1).trans HBO.out);have HB2:=Hh (HBW.out.trans (hb2.mono HBW.out.size));clear hb2;go_wp2_with fail
 refine bodyPost_ret (v:=opW (r0,r1,r2)) (by simp[results,results280,go_sem,k0,k1,k2]) rfl ⟨rfl,?_⟩;exact ((HB2.out.setCell (p:=w) lr _).setCell (p:=⟨w,1,none⟩) lr _).setCell (p:=⟨w,2,none⟩) lr _
theorem oU {a b:ByteArray} (h:a.data.toList=b.data.toList):a=b:=ByteArray.ext (Array.toList_inj.1 h)
theorem Pw (W:World) (b:Nat) (ch:UInt8) (h:W.cell? b=some (.int .u8 ch.toNat)):(convert 33 9 (.slice b 1 1)).run prog W=.ok (.string ⟨#[ch]⟩) W :=
 run_convert_bytes_back (P:=prog) W 33 9 5 ⟨b,0,none⟩ 1 [ch] underlying33 underlying5 underlying9 (fun j hj=>by
  simp only[Qp,Qz] at hj;obtain rfl:j=0:=om
  rw[bD];exact h)
abbrev bF (w:World):World:=w.alloc (.cells #[(0:Int),(0:Int),(0:Int)] 144)
theorem mT (b:Nat) (u:Bu) (ch:UInt8) (w:World) (hB:BuAt w b u) (h8:u.bits.length=8) (hop:u.op<256) :
 Calls prog 281 #[.pointer b,.int .u8 ch.toNat] w fun e w'=>e=.returned (opW (8,((aM u.op ch 0 u.bits 0:Nat):Int),0))∧Below w w w':=by
 have hb0:Below w w (w.alloc (.cells #[(0:Int),(0:Int),(0:Int)] 144)):=br.alloc lr _;have hnum:=gC b u ch _ (hB.below hb0) h8 hop;have hle:aM u.op ch 0 u.bits 0<256:=by rw[jH,h8];exact jU _ _ _ 8
 generalize aM u.op ch 0 u.bits 0=n at *;have HNUM:=Hh hnum;clear hnum;clear hB h8 hb0;go_enter func281,ntmps281
 go_wp2_with fail
 refine HNUM.out.mono ?_;rintro e w1 ⟨rfl,hb1⟩;obtain⟨k0,k1,k2,f0,f1,f2⟩:=bE (aW hb1);have HB2:=Hh (aK hb1);clear hb1;go_wp2_with fail
 refine bodyPost_ret (v:=opW (8,(n:Int),0)) (by simp[results,results281,go_sem,k0,k1,k2]) rfl ⟨rfl,?_⟩;exact ((HB2.out.setCell (p:=w) lr _).setCell (p:=⟨w,1,none⟩) lr _).setCell (p:=⟨w,2,none⟩) lr _
theorem Uh (b:Nat) (u:Bu) (ch:UInt8) (w:World) (hB:BuAt w b u) (h8:u.bits.length=8) (hop:u.op<256) :
 Calls prog 282 #[.pointer b,.int .u8 ch.toNat] w fun e w'=>e=.returned (opW (6,0,((aM u.op ch 0 u.bits 0:Nat):Int)))∧Below w w w':=by
 have hb0:Below w w (w.alloc (.cells #[(0:Int),(0:Int),(0:Int)] 144)):=br.alloc lr _;have hnum:=gC b u ch _ (hB.below hb0) h8 hop;have hle:aM u.op ch 0 u.bits 0<256:=by rw[jH,h8];exact jU _ _ _ 8
 generalize aM u.op ch 0 u.bits 0=n at *;have HNUM:=Hh hnum;clear hnum;clear hB h8 hb0;go_enter func282,ntmps282
 go_wp2_with fail
 refine HNUM.out.mono ?_;rintro e w1 ⟨rfl,hb1⟩;obtain⟨k0,k1,k2,f0,f1,f2⟩:=bE (aW hb1);have HB2:=Hh (aK hb1);clear hb1;go_wp2_with fail
 refine bodyPost_ret (v:=opW (6,0,(n:Int))) (by simp[results,results282,go_sem,k0,k1,k2]) rfl ⟨rfl,?_⟩;exact ((HB2.out.setCell (p:=w) lr _).setCell (p:=⟨w,1,none⟩) lr _).setCell (p:=⟨w,2,none⟩) lr _
theorem yD (b:Nat) (u:Bu) (ch:UInt8) (w:World) (hB:BuAt w b u) (h8:u.bits.length=8) (hop:u.op<256) :
 Calls prog 283 #[.pointer b,.int .u8 ch.toNat] w fun e w'=>e=.returned (opW (6,0,8*((aM u.op ch 0 u.bits 0:Nat):Int)))∧Below w w w':=by
 have hb0:Below w w (w.alloc (.cells #[(0:Int),(0:Int),(0:Int)] 144)):=br.alloc lr _;have hnum:=gC b u ch _ (hB.below hb0) h8 hop;have hle:aM u.op ch 0 u.bits 0<256:=by rw[jH,h8];exact jU _ _ _ 8
 generalize aM u.op ch 0 u.bits 0=n at *;have HNUM:=Hh hnum;clear hnum;clear hB h8 hb0;go_enter func283,ntmps283
 go_wp2_with fail
 refine HNUM.out.mono ?_;rintro e w1 ⟨rfl,hb1⟩;obtain⟨k0,k1,k2,f0,f1,f2⟩:=bE (aW hb1);have HB2:=Hh (aK hb1);clear hb1;go_wp2_with fail
 refine bodyPost_ret (v:=opW (6,0,8*(n:Int))) (by simp[results,results283,go_sem,k0,k1,k2]) rfl ⟨rfl,?_⟩;exact ((HB2.out.setCell (p:=w) lr _).setCell (p:=⟨w,1,none⟩) lr _).setCell (p:=⟨w,2,none⟩) lr _
theorem rF (b:Nat) (ch:UInt8) (w:World) (h1:48≤ch.toNat):Calls prog 286 #[.pointer b,.int .u8 ch.toNat] w fun e w'=>e=.returned (opW (6,0,(ch.toNat:Int) - 48))∧Below w w w':=by
 have hc:=ch.toNat_lt;generalize ch.toNat=c at *;go_enter func286,ntmps286
 go_wp2_with fail
 refine bodyPost_ret (v:=opW (6,0,(c:Int) - 48)) (by simp[results,results286,go_sem]) rfl ⟨rfl,bl⟩
theorem sI (b:Nat) (ch:UInt8) (w:World) (hc:rK [ch]=true):Calls prog 277 #[.pointer b,.int .u8 ch.toNat] w fun e w'=>e=.returned (opW (eJ [ch]))∧Below w w w':=by
 have hw:=fun w=>rJ [ch] w hc;generalize eJ [ch]=r at *;obtain⟨r0,r1,r2⟩:=r;have HW:=Hh hw;clear hw;have hcv:=Pw ((w.alloc (.cells #[(0:Int),(0:Int),(0:Int)] 144)).alloc (.cells #[.int .u8 ch.toNat] 5)) (w.heap.size+1) ch (by simp[go_sem]);go_enter func277,ntmps277
 go_wp2_with fail
 refine (HW.out _).mono ?_;rintro e w2 ⟨rfl,hb⟩;have hkb:w2.heap[w.heap.size]? = some (.cells #[(0:Int),(0:Int),(0:Int)] 144):=(hb.block _ (by simp;omega)).trans (by rw[Below.heap_alloc _ _ _ sm];show (w.heap.push _)[w.heap.size]? = _;simp)
 obtain⟨k0,k1,k2,f0,f1,f2⟩:=bE hkb;have HB2:=Hh ((show Below w w _ from bl).trans (hb.mono (by simp;omega)));clear hb hkb;go_wp2_with fail
 refine bodyPost_ret (v:=opW (r0,r1,r2)) (by simp[results,results277,go_sem,k0,k1,k2]) rfl ⟨rfl,?_⟩;exact ((HB2.out.setCell (p:=w) lr _).setCell (p:=⟨w,1,none⟩) lr _).setCell (p:=⟨w,2,none⟩) lr _
theorem wZ (b:Nat) (u:Bu) (ch:UInt8) (w:World) (hB:BuAt w b u) (hx:u.ex.length≤100) :
 Calls prog 284 #[.pointer b,.int .u8 ch.toNat] w fun e w'=>e=.returned (opW (10,0,0))∧BuAt w' b { u with ex:=u.ex++[ch] }∧Kb b w w':=by
 have hlt:=hB.lt;obtain⟨c4,f4⟩:=hB.extra;have HB:=Hh hB;clear hB;have hcv:=Pw (((w.alloc (.cells #[(0:Int),(0:Int),(0:Int)] 144)).alloc (.cells #[.int .u8 ch.toNat] 5)).drew) (w.heap.size+1) ch (by simp[go_sem]);go_enter func284,ntmps284
 go_wp2_with fail
 go_region
 go_wp2_with fail
 have hap:(⟨u.ex.toArray⟩:ByteArray)++⟨#[ch]⟩=⟨(u.ex++[ch]).toArray⟩:=by apply oU;simp
 refine bodyPost_ret (v:=opW (10,0,0)) (by simp[results,results284,go_sem]) rfl ⟨rfl,?_,((((Kb.refl b w).setCell 4 _).alloc _).alloc _).drew⟩;rw[hap];exact (HB.out.setExtra (u.ex++[ch])).below (bl)
theorem uE (b:Nat) (u:Bu) (ch:UInt8) (w:World) (hB:BuAt w b u) (hx:u.ex.length≤100) :
 Calls prog 285 #[.pointer b,.int .u8 ch.toNat] w fun e w'=>e=.returned (opW (6,0,0))∧BuAt w' b { u with ex:=u.ex++[ch] }∧Kb b w w':=by
 have hlt:=hB.lt;obtain⟨c4,f4⟩:=hB.extra;have HB:=Hh hB;clear hB;have hcv:=Pw (((w.alloc (.cells #[(0:Int),(0:Int),(0:Int)] 144)).alloc (.cells #[.int .u8 ch.toNat] 5)).drew) (w.heap.size+1) ch (by simp[go_sem]);go_enter func285,ntmps285
 go_wp2_with fail
 go_region
 go_wp2_with fail
 have hap:(⟨u.ex.toArray⟩:ByteArray)++⟨#[ch]⟩=⟨(u.ex++[ch]).toArray⟩:=by apply oU;simp
 refine bodyPost_ret (v:=opW (6,0,0)) (by simp[results,results285,go_sem]) rfl ⟨rfl,?_,((((Kb.refl b w).setCell 4 _).alloc _).alloc _).drew⟩;rw[hap];exact (HB.out.setExtra (u.ex++[ch])).below (bl)
def mA (b:Nat) (u:Bu) (x:Op3 × List UInt8) (w:World) (e:Ending) (w':World):Prop:=e=.returned (opW x.1)∧BuAt w' b { u with ex:=u.ex++x.2 }∧Kb b w w'
theorem bC {b:Nat} {u:Bu} {o:Op3} {w w':World} {e:Ending} (hB:BuAt w b u) (h:e=.returned (opW o)∧Below w w w'):mA b u (o,[]) w e w' :=
 ⟨h.1,by rw[show ({ u with ex:=u.ex++[] }:Bu)=u by rw[Zd]];exact hB.below h.2,Kb.of_below h.2⟩
def aOW (b:Nat) (w:World) (r:Op3) (f:FuncId) (z:Int):Prop:=Calls prog f #[.pointer (some ⟨b,0,none⟩),.int .u8 z] (bF w) fun e w'=>e=.returned (opW r)∧Below (bF w).heap.size (bF w) w'
theorem aOU (b:Nat) (w:World) (c:UInt8) (r:Op3) (h:(c=114∧aOW b w r 278 114)∨(c=115∧aOW b w r 278 115)∨(c=112∧aOW b w r 279 112)∨(c=113∧aOW b w r 280 113)∨(c=99∧aOW b w r 281 99)∨(c=107∧aOW b w r 281 107)∨(c=98∧aOW b w r 282 98)∨(c=116∧aOW b w r 283 116)∨(c=48∧aOW b w r 286 48)∨(c=49∧aOW b w r 286 49)∨(c=50∧aOW b w r 286 50)∨(c=65∧aOW b w r 277 65)∨(c=73∧aOW b w r 277 73)∨(c=82∧aOW b w r 277 82)) :
 Calls prog 251 #[.pointer b,.string ⟨#[c]⟩] w fun e w'=>e=.returned (opW r)∧Below w w w':=by
 obtain⟨r0,r1,r2⟩:=r;rcases h with⟨rfl,hm⟩|⟨rfl,hm⟩|⟨rfl,hm⟩|⟨rfl,hm⟩|⟨rfl,hm⟩|⟨rfl,hm⟩|⟨rfl,hm⟩|⟨rfl,hm⟩|⟨rfl,hm⟩|⟨rfl,hm⟩|⟨rfl,hm⟩|⟨rfl,hm⟩|⟨rfl,hm⟩|⟨rfl,hm⟩;all_goals
  have HM:=Hh hm;clear hm;unfold aOW bF at HM;go_enter func251,ntmps251
  go_wp2_with fail
  refine HM.out.mono ?_;rintro e w1 ⟨rfl,hb1⟩;obtain⟨k0,k1,k2,f0,f1,f2⟩:=bE (aW hb1);have HB2:=Hh (aK hb1);clear hb1;go_wp2_with fail
  refine bodyPost_ret (v:=opW (r0,r1,r2)) (by simp[results,results251,go_sem,k0,k1,k2]) rfl ⟨rfl,?_⟩;exact ((HB2.out.setCell (p:=w) lr _).setCell (p:=⟨w,1,none⟩) lr _).setCell (p:=⟨w,2,none⟩) lr _
theorem aAY (b:Nat) (u:Bu) (w:World) (hT:TabsA w) (hB:BuAt w b u) (h8:u.bits.length=8) (hop:u.op<256) (hn:aM u.op 114 0 u.bits 0<8) :
 Calls prog 251 #[.pointer b,.string ⟨#[114]⟩] w fun e w'=>e=.returned (opW (cV (aM u.op 114 0 u.bits 0)))∧Below w w w':=by
 have hb0:Below w w (bF w):=br.alloc lr _;exact aOU b w 114 _ (.inl ⟨rfl,nS b u 114 _ (hT.below hb0) (hB.below hb0) h8 hop hn⟩)
theorem aAX (b:Nat) (u:Bu) (w:World) (hT:TabsA w) (hB:BuAt w b u) (h8:u.bits.length=8) (hop:u.op<256) (hn:aM u.op 115 0 u.bits 0<8) :
 Calls prog 251 #[.pointer b,.string ⟨#[115]⟩] w fun e w'=>e=.returned (opW (cV (aM u.op 115 0 u.bits 0)))∧Below w w w':=by
 have hb0:Below w w (bF w):=br.alloc lr _;exact aOU b w 115 _ (.inr (.inl ⟨rfl,nS b u 115 _ (hT.below hb0) (hB.below hb0) h8 hop hn⟩))
theorem aBa (b:Nat) (u:Bu) (w:World) (hT:TabsA w) (hB:BuAt w b u) (h8:u.bits.length=8) (hop:u.op<256) (hn:aM u.op 112 0 u.bits 0<4) :
 Calls prog 251 #[.pointer b,.string ⟨#[112]⟩] w fun e w'=>e=.returned (opW ((3,((aM u.op 112 0 u.bits 0:Nat):Int),0)))∧Below w w w':=by
 have hb0:Below w w (bF w):=br.alloc lr _;exact aOU b w 112 _ (.inr (.inr (.inl ⟨rfl,Mr b u 112 _ (hT.below hb0) (hB.below hb0) h8 hop hn⟩)))
theorem aAZ (b:Nat) (u:Bu) (w:World) (hT:TabsA w) (hB:BuAt w b u) (h8:u.bits.length=8) (hop:u.op<256) (hn:aM u.op 113 0 u.bits 0<4) :
 Calls prog 251 #[.pointer b,.string ⟨#[113]⟩] w fun e w'=>e=.returned (opW ((3,(if aM u.op 113 0 u.bits 0=3 then 4 else ((aM u.op 113 0 u.bits 0:Nat):Int)),0)))∧Below w w w':=by
 have hb0:Below w w (bF w):=br.alloc lr _;exact aOU b w 113 _ (.inr (.inr (.inr (.inl ⟨rfl,Fu b u 113 _ (hT.below hb0) (hB.below hb0) h8 hop hn⟩))))
theorem aBe (b:Nat) (u:Bu) (w:World) (hB:BuAt w b u) (h8:u.bits.length=8) (hop:u.op<256) :
 Calls prog 251 #[.pointer b,.string ⟨#[99]⟩] w fun e w'=>e=.returned (opW ((8,((aM u.op 99 0 u.bits 0:Nat):Int),0)))∧Below w w w':=by
 have hb0:Below w w (bF w):=br.alloc lr _;exact aOU b w 99 _ (.inr (.inr (.inr (.inr (.inl ⟨rfl,mT b u 99 _ (hB.below hb0) h8 hop⟩)))))
theorem aBc (b:Nat) (u:Bu) (w:World) (hB:BuAt w b u) (h8:u.bits.length=8) (hop:u.op<256) :
 Calls prog 251 #[.pointer b,.string ⟨#[107]⟩] w fun e w'=>e=.returned (opW ((8,((aM u.op 107 0 u.bits 0:Nat):Int),0)))∧Below w w w':=by
 have hb0:Below w w (bF w):=br.alloc lr _;exact aOU b w 107 _ (.inr (.inr (.inr (.inr (.inr (.inl ⟨rfl,mT b u 107 _ (hB.below hb0) h8 hop⟩))))))
theorem aBf (b:Nat) (u:Bu) (w:World) (hB:BuAt w b u) (h8:u.bits.length=8) (hop:u.op<256) :
 Calls prog 251 #[.pointer b,.string ⟨#[98]⟩] w fun e w'=>e=.returned (opW ((6,0,((aM u.op 98 0 u.bits 0:Nat):Int))))∧Below w w w':=by
 have hb0:Below w w (bF w):=br.alloc lr _;exact aOU b w 98 _ (.inr (.inr (.inr (.inr (.inr (.inr (.inl ⟨rfl,Uh b u 98 _ (hB.below hb0) h8 hop⟩)))))))
theorem aAW (b:Nat) (u:Bu) (w:World) (hB:BuAt w b u) (h8:u.bits.length=8) (hop:u.op<256) :
 Calls prog 251 #[.pointer b,.string ⟨#[116]⟩] w fun e w'=>e=.returned (opW ((6,0,8*((aM u.op 116 0 u.bits 0:Nat):Int))))∧Below w w w':=by
 have hb0:Below w w (bF w):=br.alloc lr _;exact aOU b w 116 _ (.inr (.inr (.inr (.inr (.inr (.inr (.inr (.inl ⟨rfl,yD b u 116 _ (hB.below hb0) h8 hop⟩))))))))
theorem aBl (b:Nat) (w:World) :
 Calls prog 251 #[.pointer b,.string ⟨#[48]⟩] w fun e w'=>e=.returned (opW ((6,0,0)))∧Below w w w' :=
 aOU b w 48 _ (.inr (.inr (.inr (.inr (.inr (.inr (.inr (.inr (.inl ⟨rfl,rF b 48 _ dc⟩)))))))))
theorem aBk (b:Nat) (w:World) :
 Calls prog 251 #[.pointer b,.string ⟨#[49]⟩] w fun e w'=>e=.returned (opW ((6,0,1)))∧Below w w w' :=
 aOU b w 49 _ (.inr (.inr (.inr (.inr (.inr (.inr (.inr (.inr (.inr (.inl ⟨rfl,rF b 49 _ dc⟩))))))))))
theorem aBj (b:Nat) (w:World) :
 Calls prog 251 #[.pointer b,.string ⟨#[50]⟩] w fun e w'=>e=.returned (opW ((6,0,2)))∧Below w w w' :=
 aOU b w 50 _ (.inr (.inr (.inr (.inr (.inr (.inr (.inr (.inr (.inr (.inr (.inl ⟨rfl,rF b 50 _ dc⟩)))))))))))
theorem aBi (b:Nat) (w:World) :
 Calls prog 251 #[.pointer b,.string ⟨#[65]⟩] w fun e w'=>e=.returned (opW (eJ [65]))∧Below w w w' :=
 aOU b w 65 _ (.inr (.inr (.inr (.inr (.inr (.inr (.inr (.inr (.inr (.inr (.inr (.inl ⟨rfl,sI b 65 _ (by decide +kernel)⟩))))))))))))
theorem aBh (b:Nat) (w:World) :
 Calls prog 251 #[.pointer b,.string ⟨#[73]⟩] w fun e w'=>e=.returned (opW (eJ [73]))∧Below w w w' :=
 aOU b w 73 _ (.inr (.inr (.inr (.inr (.inr (.inr (.inr (.inr (.inr (.inr (.inr (.inr (.inl ⟨rfl,sI b 73 _ (by decide +kernel)⟩)))))))))))))
theorem aBg (b:Nat) (w:World) :
 Calls prog 251 #[.pointer b,.string ⟨#[82]⟩] w fun e w'=>e=.returned (opW (eJ [82]))∧Below w w w' :=
 aOU b w 82 _ (.inr (.inr (.inr (.inr (.inr (.inr (.inr (.inr (.inr (.inr (.inr (.inr (.inr (⟨rfl,sI b 82 _ (by decide +kernel)⟩))))))))))))))
def aPv (b:Nat) (u:Bu) (w:World) (r:Op3) (f:FuncId) (z:Int) (c:UInt8):Prop:=Calls prog f #[.pointer (some ⟨b,0,none⟩),.int .u8 z] (bF w) fun e w'=>e=.returned (opW r)∧BuAt w' b { u with ex:=u.ex++[c] }∧Kb b (bF w) w'
theorem aOX (b:Nat) (u:Bu) (w:World) (c:UInt8) (r:Op3) (hB:BuAt w b u) (h:(c=101∧aPv b u w r 284 101 c)∨(c=110∧aPv b u w r 285 110 c)∨(c=119∧aPv b u w r 285 119 c)) :
 Calls prog 251 #[.pointer b,.string ⟨#[c]⟩] w (mA b u (r,[c]) w):=by
 have hlt:=hB.lt;clear hB;obtain⟨r0,r1,r2⟩:=r;rcases h with⟨rfl,hm⟩|⟨rfl,hm⟩|⟨rfl,hm⟩;all_goals
  have HM:=Hh hm;clear hm;unfold aPv bF at HM;go_enter func251,ntmps251
  go_wp2_with fail
  refine HM.out.mono ?_;rintro e w1 ⟨rfl,hb1,hk⟩;have hbk:w1.heap[w.heap.size]? = some (.cells #[(0:Int),(0:Int),(0:Int)] 144 (0,0)):=(hk.block w sm om).trans (by show (w.heap.push _)[w.heap.size]? = _;simp)
  obtain⟨k0,k1,k2,f0,f1,f2⟩:=bE hbk;have HB1:=Hh hb1;clear hb1;have HK:=Hh hk;clear hk hbk;go_wp2_with fail
  refine bodyPost_ret (v:=opW (r0,r1,r2)) (by simp[results,results251,go_sem,k0,k1,k2]) rfl ⟨rfl,?_,?_⟩
  · have h3:∀ (j:Nat) (v:Value) (W:World) (u':Bu),BuAt W b u'→BuAt (W.setCell ⟨w,j,none⟩ v) b u':=fun j v W u' h=>(Below.heap_setCell W ⟨w,j,none⟩ v b (by show b≠w.heap.size;omega)).trans h;exact h3 _ _ _ _ (h3 _ _ _ _ (h3 _ _ _ _ HB1.out))
  · have h4:Kb b w w1:=(Kb.of_below (br.alloc lr _)).trans HK.out;have h3:∀ (j:Nat) (v:Value) (W:World),Kb b w W→Kb b w (W.setCell ⟨w,j,none⟩ v):=fun j v W h=>⟨h.os,h.tape,h.output,by rw[setCell_size];exact h.size,fun k hk hne=>by rw[Below.heap_setCell _ _ _ _ (by show k≠w.heap.size;omega)];exact h.block k hk hne⟩
    exact h3 _ _ _ (h3 _ _ _ (h3 _ _ _ h4))
theorem aBd (b:Nat) (u:Bu) (w:World) (hB:BuAt w b u) (hx:u.ex.length≤100) :
 Calls prog 251 #[.pointer b,.string ⟨#[101]⟩] w (mA b u ((10,0,0),[101]) w):=by
 have hb0:Below w w (bF w):=br.alloc lr _;exact aOX b u w 101 _ hB (.inl ⟨rfl,wZ b u 101 _ (hB.below hb0) hx⟩)
theorem aBb (b:Nat) (u:Bu) (w:World) (hB:BuAt w b u) (hx:u.ex.length≤100) :
 Calls prog 251 #[.pointer b,.string ⟨#[110]⟩] w (mA b u ((6,0,0),[110]) w):=by
 have hb0:Below w w (bF w):=br.alloc lr _;exact aOX b u w 110 _ hB (.inr (.inl ⟨rfl,uE b u 110 _ (hB.below hb0) hx⟩))
theorem aAV (b:Nat) (u:Bu) (w:World) (hB:BuAt w b u) (hx:u.ex.length≤100) :
 Calls prog 251 #[.pointer b,.string ⟨#[119]⟩] w (mA b u ((6,0,0),[119]) w):=by
 have hb0:Below w w (bF w):=br.alloc lr _;exact aOX b u w 119 _ hB (.inr (.inr (⟨rfl,uE b u 119 _ (hB.below hb0) hx⟩)))
theorem aAe (b:Nat) (u:Bu) (w:World) (hB:BuAt w b u) (hx:u.ex.length≤100) :
 Calls prog 251 #[.pointer b,.string ⟨#[40,110,41]⟩] w (mA b u ((7,0,0),[110]) w):=by
 have hlt:=hB.lt;obtain⟨c4,f4⟩:=hB.extra;have HB:=Hh hB;clear hB;go_enter func251,ntmps251
 go_wp2_with fail
 go_region
 go_wp2_with fail
 have hap:(⟨u.ex.toArray⟩:ByteArray)++⟨#[110]⟩=⟨(u.ex++[110]).toArray⟩:=by apply oU;simp
 refine bodyPost_ret (v:=opW (7,0,0)) (by simp[results,results251,go_sem]) rfl ⟨rfl,?_,(((Kb.refl b w).setCell 4 _).alloc _).drew⟩;rw[show (⟨#[40,110,41]⟩:ByteArray).extract 1 2=⟨#[110]⟩ from rfl,hap]
 exact (HB.out.setExtra (u.ex++[110])).below (bl)
theorem aAd (b:Nat) (u:Bu) (w:World) (hB:BuAt w b u) (hx:u.ex.length≤100) :
 Calls prog 251 #[.pointer b,.string ⟨#[40,119,41]⟩] w (mA b u ((7,0,0),[119]) w):=by
 have hlt:=hB.lt;obtain⟨c4,f4⟩:=hB.extra;have HB:=Hh hB;clear hB;go_enter func251,ntmps251
 go_wp2_with fail
 go_region
 go_wp2_with fail
 have hap:(⟨u.ex.toArray⟩:ByteArray)++⟨#[119]⟩=⟨(u.ex++[119]).toArray⟩:=by apply oU;simp
 refine bodyPost_ret (v:=opW (7,0,0)) (by simp[results,results251,go_sem]) rfl ⟨rfl,?_,(((Kb.refl b w).setCell 4 _).alloc _).drew⟩;rw[show (⟨#[40,119,41]⟩:ByteArray).extract 1 2=⟨#[119]⟩ from rfl,hap]
 exact (HB.out.setExtra (u.ex++[119])).below (bl)
theorem eP (b:Nat) (s:List UInt8) (w:World) (hc:rK s=true) (h1:1<s.length) (hn1:s≠[40,110,41]) (hn2:s≠[40,119,41]) :
 Calls prog 251 #[.pointer b,s] w fun e w'=>e=.returned (opW (eJ s))∧Below w w w':=by
 have hm:=rJ s (bF w) hc;generalize eJ s=r at *;obtain⟨r0,r1,r2⟩:=r;have hl:s.length≤100:=by unfold rK at hc;rw[Qe,Qf] at hc;exact hc.1
 have hb1:(s == [40,110,41])=false:=by simpa using hn1
 have hb2:(s == [40,119,41])=false:=by simpa using hn2
 have HM:=Hh hm;clear hm hn1 hn2 hc;unfold bF at HM;go_enter func251,ntmps251
 go_wp2_with fail
 refine HM.out.mono ?_;rintro e w1 ⟨rfl,hb1⟩;obtain⟨k0,k1,k2,f0,f1,f2⟩:=bE (aW hb1);have HB2:=Hh (aK hb1);clear hb1;go_wp2_with fail
 refine bodyPost_ret (v:=opW (r0,r1,r2)) (by simp[results,results251,go_sem,k0,k1,k2]) rfl ⟨rfl,?_⟩;exact ((HB2.out.setCell (p:=w) lr _).setCell (p:=⟨w,1,none⟩) lr _).setCell (p:=⟨w,2,none⟩) lr _
end Go.Proofs.YtoigglljnklhlaaGreatDoor
