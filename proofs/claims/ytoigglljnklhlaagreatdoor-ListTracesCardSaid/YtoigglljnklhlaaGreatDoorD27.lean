/- Joined. -/
import Derived.Test.YtoigglljnklhlaaGreatDoorD22
set_option maxHeartbeats 8000000
set_option maxRecDepth 100000
namespace Go.Proofs.YtoigglljnklhlaaGreatDoor
open Go.RowKit Go.Sort
open Go.Proofs.Tryz
def aCR (d:Nat):UInt8:=if d<10 then UInt8.ofNat (48+d) else UInt8.ofNat (55+d)
def hx:Nat→Nat→List UInt8
 | 0,_=>[]
 | i+1,n=>aCR (n/16 ^ i%16)::hx i n
theorem aCI:∀ i n,(hx i n).length=i
 | 0,_=>rfl
 | i+1,n=>by simp[hx,aCI i n]
theorem aED:∀ (i n:Nat),hx (i+1) n=hx i (n/16)++[aCR (n%16)]
 | 0,n=>by simp[hx]
 | i+1,n=>by
   rw[hx,aED i n,hx,Nat.div_div_eq_div_mul,Nat.pow_succ,Nat.mul_comm (16 ^ i) 16];rfl
theorem aEC:∀ i,hx i 0=List.replicate i 48
 | 0=>rfl
 | i+1=>by rw[hx,aEC i,Nat.zero_div];rfl
theorem aCY:∀ d:Fin 16,up (jL d.val)=aCR d.val:=dc
theorem aFn:∀ d:Fin 16,d.val≠0→(aCR d.val≠48∧((aCR d.val).toNat≤57∨65≤(aCR d.val).toNat)):=dc
theorem aEE:∀ (f n:Nat),1≤n→n<16 ^ f→hx f n=List.replicate (f - (bL f n).length) 48++(bL f n).map up∧∃ c t,(bL f n).map up=c::t∧(c≠48∧(c.toNat≤57∨65≤c.toNat))
 | 0,n,h1,h2=>by simp at h2;omega
 | f+1,n,h1,h2=>by
   rw[aED];by_cases h:n<16
   · rw[tV f n h,Nat.div_eq_of_lt h,aEC,Nat.mod_eq_of_lt h];refine⟨by simp[aCY ⟨n,h⟩],up (jL n),[],rfl,?_⟩
     rw[aCY ⟨n,h⟩];exact aFn ⟨n,h⟩ (by show n≠0;omega)
   · obtain⟨h3,c,t,h4,h5⟩:=aEE f (n/16) om (by rw[Nat.pow_succ] at h2;omega);have hy:n%16<16:=om
     rw[zG f n om,h3];refine⟨?_,c,t++[up (jL (n%16))],by rw[Ym,h4];rfl,h5⟩
     have hu:=aCY ⟨n%16,hy⟩;simp only at hu;rw[Ym,Qc,Xt,List.map_nil,hu,Yc];simp
def aGo:Value→Nat | .string b=>b.size|_=>0
theorem aEu:∀ d:Fin 16,(({ data:=#[48,49,50,51,52,53,54,55,56,57,65,66,67,68,69,70] }:ByteArray).extract d.val (d.val+1))=⟨#[aCR d.val]⟩:=dc
theorem aDL (u:Nat) (h:u<9223372036854775808):bits BinOp.and IntKind.i64 (u:Int) 15=((u%16:Nat):Int):=by
 have h1:=bits_mask IntKind.i64 63 dc (fun n h0 h1=>IntWalk.i64_in n om) 4 dc u om om;simpa using h1
theorem aEF (n k:Nat) (w:World) (hn:n<1000000) (hk:k≤8) :
 Calls prog 34 #[n,k] w fun e w'=>e=.returned (hx k n)∧w=w':=by
 go_enter func34,ntmps34
 go_wp2
 go_loop [0,5,6,7] (fun x s i _=>∃ j:Nat,j≤k∧x=.int .i64 (n/16 ^ j:Nat)∧s=.string ⟨(hx j n).toArray⟩∧i=.int .i64 j) (fun _ _ i _=>k - (intOf i).toNat)
 case atStart=>exact⟨0,Qi _,by simp,rfl,rfl⟩
 case round =>
  obtain⟨j,hj,rfl,rfl,rfl⟩:=hrel;obtain⟨x,hx0⟩:∃ x,n/16 ^ j=x:=⟨_,rfl⟩;have hx1:x≤n:=by rw[←hx0];exact Nat.div_le_self _ _
  obtain⟨l,hl⟩:∃ l,hx j n=l:=⟨_,rfl⟩;have hll:l.length≤8:=by rw[←hl,aCI];omega
  rw[hx0,hl];have Hx0:=Hh hx0;clear hx0;have Hl:=Hh hl;clear hl;by_cases hlt:j<k
  · have hb:=aDL x om;obtain⟨y,hy⟩:∃ y,x%16=y:=⟨_,rfl⟩;have hy1:y<16:=om
    have hext:=aEu ⟨y,hy1⟩;simp only at hext;rw[hy] at hb;have Hy:=Hh hy;clear hy;go_wp2
    go_round
    case rel =>
     refine⟨j+1,om,?_,?_,by go_num⟩
     · rw[Nat.pow_succ,←Nat.div_div_eq_div_mul,Hx0.out];go_num
     · rw[hx,Hx0.out,Hy.out,Hl.out];rfl
    case measure=>simp[intOf];omega
  · obtain rfl:j=k:=om
    go_wp2
    go_ret;exact⟨by rw[Hl.out];rfl,rfl⟩
theorem aDA (n:Int) (w:World) :
 Calls prog 32 #[n] w fun e w'=>e=.returned (.string (aX n))∧w=w':=by
 by_cases h0:n<0∨65535<n
 · have hr:aX n=⟨#[]⟩:=by unfold aX;rw[if_pos h0]
   rw[hr];rcases h0 with h0|h0
   · go_enter func32,ntmps32
     go_wp2
     go_ret;exact⟨rfl,rfl⟩
   · have:0≤n:=om
     go_enter func32,ntmps32
     go_wp2
     go_ret;exact⟨rfl,rfl⟩
 · obtain⟨m,rfl⟩:=Xf (show 0≤n by omega);have hf1:m≤65535:=om
   by_cases h9:m≤9
   · have hr:aX m=⟨(hx 1 m).toArray⟩:=by
      have:m=0∨m=1∨m=2∨m=3∨m=4∨m=5∨m=6∨m=7∨m=8∨m=9:=om
      rcases this with rfl|rfl|rfl|rfl|rfl|rfl|rfl|rfl|rfl|rfl<;>rfl
     rw[hr];clear h0;go_enter func32,ntmps32
     go_wp2_with fail
     refine (aEF m 1 _ om om).mono ?_;rintro e w2 ⟨rfl,rfl⟩;go_wp2_with fail
     go_ret;exact⟨rfl,rfl⟩
   · have hr:aX m=if 57<((cH ⟨(bL 4 m).toArray⟩++(⟨#[72]⟩:ByteArray)).data[0]?.getD 0).toNat then (⟨#[48]⟩:ByteArray)++(cH ⟨(bL 4 m).toArray⟩++(⟨#[72]⟩:ByteArray)) else cH ⟨(bL 4 m).toArray⟩++(⟨#[72]⟩:ByteArray):=by
      unfold aX;rw[if_neg h0,if_neg om];rfl
     obtain⟨hd,c,t,hct,hc,hc2⟩:=aEE 4 m om (by show m<65536;omega);have hup:cH ⟨(bL 4 m).toArray⟩=⟨(c::t).toArray⟩:=by
      unfold cH;rw[←hct]
     have htl:t.length≤3:=by
      have:=gM 4 m
      have h2:((bL 4 m).map up).length=t.length+1:=by rw[hct];rfl
      rw[Qs] at h2;omega
     rw[hup] at hr;rw[hct] at hd;have hdl:(hx 4 m).length=4:=aCI 4 m;generalize hq:4 - (bL 4 m).length=q at hd;have hq4:q≤4:=om
     clear hup hct hq h0;have Hr:=Hh hr;clear hr;have Hc:=Hh hc;clear hc;have Hc2:=Hh hc2;clear hc2;have Hdl:=Hh hdl;clear hdl;have hX:(⟨(hx 4 m).toArray⟩:ByteArray)=⟨(List.replicate q 48++c::t).toArray⟩:=by rw[hd]
     clear hd;have HX:=Hh hX;clear hX;have h9i:¬ (m:Int)<10:=om
     go_enter func32,ntmps32
     go_wp2_with fail
     refine (aEF m 4 _ om om).mono ?_;rintro e w2 ⟨rfl,rfl⟩;rw[HX.out];go_wp2_with fail
     go_loop [3] (fun s=>∃ j:Nat,j≤4∧s=.string ⟨(List.replicate j 48++c::t).toArray⟩) aGo
     case atStart=>exact⟨q,hq4,rfl⟩
     case round =>
      obtain⟨j,hj,rfl⟩:=hrel;rcases j with _|j
      · go_wp2
        · rename_i h1;exfalso
          have h2:((c.toNat:Int) == 48)=true:=h1;have h3:(c.toNat:Int)=48:=by simpa using h2
          exact Hc.out (Yv.1 (by show c.toNat=48;omega))
        · go_ret;refine⟨?_,rfl⟩;have h2:(65:Int)≤(c.toNat:Int):=by assumption
          rw[Hr.out,if_pos (by show 57<c.toNat;omega),ByteArray.append_assoc];rfl
        · go_ret;refine⟨?_,rfl⟩;have h2:¬ (65:Int)≤(c.toNat:Int):=by
           intro h3;have h4:((⟨(c::t).toArray⟩:ByteArray)[0]'(by show 0<t.length+1;omega)).toNat=c.toNat:=rfl;omega
          rw[Hr.out,if_neg (by show ¬ 57<c.toNat;have:=Hc2.out;omega)];rfl
      · go_wp2
        · have hx1:((⟨(List.replicate (j+1) 48++c::t).toArray⟩:ByteArray).extract 1 (j+1+(t.length+1)))=⟨(List.replicate j 48++c::t).toArray⟩:=by
           apply ByteArray.ext
           rw[ByteArray.data_extract];show ((48::(List.replicate j 48++c::t)).toArray.extract 1 (j+1+(t.length+1)))=_
           rw[List.extract_toArray,List.extract_eq_take_drop];simp only[List.drop_succ_cons,List.drop_zero];rw[Xj (by simp;omega)]
          rw[hx1];go_round
          case rel=>exact⟨j,om,rfl⟩
          case measure=>show (List.replicate j 48++c::t).toArray.size<(List.replicate (j+1) 48++c::t).toArray.size;simp
        all_goals
         exfalso
         have h2:(((48:UInt8).toNat:Int) == 48)=false:=by assumption
         exact absurd h2 dc
def rnm:Nat→Nat→ByteArray
 | 1,0=>⟨#[66]⟩
 | 1,1=>⟨#[67]⟩
 | 1,2=>⟨#[68]⟩
 | 1,3=>⟨#[69]⟩
 | 1,4=>⟨#[72]⟩
 | 1,5=>⟨#[76]⟩
 | 1,6=>⟨#[]⟩
 | 1,7=>⟨#[65]⟩
 | 2,0=>⟨#[73,88,72]⟩
 | 2,1=>⟨#[73,88,76]⟩
 | 2,2=>⟨#[73,89,72]⟩
 | 2,3=>⟨#[73,89,76]⟩
 | 3,0=>⟨#[66,67]⟩
 | 3,1=>⟨#[68,69]⟩
 | 3,2=>⟨#[72,76]⟩
 | 3,3=>⟨#[83,80]⟩
 | 3,4=>⟨#[65,70]⟩
 | 3,5=>⟨#[73,88]⟩
 | 3,6=>⟨#[73,89]⟩
 | 3,7=>⟨#[65,70,39]⟩
 | 4,0=>⟨#[40,66,67,41]⟩
 | 4,1=>⟨#[40,68,69,41]⟩
 | 4,2=>⟨#[40,72,76,41]⟩
 | 4,3=>⟨#[40,83,80,41]⟩
 | 4,4=>⟨#[]⟩
 | 4,5=>⟨#[40,73,88,41]⟩
 | 4,6=>⟨#[40,73,89,41]⟩
 | 4,7=>⟨#[]⟩
 | 4,8=>⟨#[40,67,41]⟩
 | 5,0=>⟨#[]⟩
 | 5,1=>⟨#[]⟩
 | 5,2=>⟨#[]⟩
 | 5,3=>⟨#[]⟩
 | 5,4=>⟨#[]⟩
 | 5,5=>⟨#[73,88]⟩
 | 5,6=>⟨#[73,89]⟩
 | 8,0=>⟨#[78,90]⟩
 | 8,1=>⟨#[90]⟩
 | 8,2=>⟨#[78,67]⟩
 | 8,3=>⟨#[67]⟩
 | 8,4=>⟨#[80,79]⟩
 | 8,5=>⟨#[80,69]⟩
 | 8,6=>⟨#[80]⟩
 | 8,7=>⟨#[77]⟩
 | 9,0=>⟨#[73]⟩
 | 9,1=>⟨#[82]⟩
 | _,_=>⟨#[]⟩
def aIJ:Nat→Nat|1=>8|2=>4|3=>8|4=>9|5=>7|8=>8|9=>2|_=>0
def aGW (k r:Int):ByteArray:=if 0≤r∧r<aIJ k.toNat then rnm k.toNat r.toNat else ⟨#[]⟩
theorem aMB {p:Prop} (h:p:=by
 have hr:r=0∨r=1∨r=2∨r=3∨r=4∨r=5∨r=6∨r=7:=om
 rcases hr with rfl|rfl|rfl|rfl|rfl|rfl|rfl|rfl<;>rfl):p:=h
theorem aKj (r:Nat) (h:r<8):[Value.string ⟨#[66]⟩,.string ⟨#[67]⟩,.string ⟨#[68]⟩,.string ⟨#[69]⟩,.string ⟨#[72]⟩,.string ⟨#[76]⟩,.string ⟨#[]⟩,.string ⟨#[65]⟩][r]? = some (.string (rnm 1 r)):=by
 exact aMB
theorem aJW (r:Int) (w:World) :
 Calls prog 176 #[(1:Int),r] w fun e w'=>e=.returned (.string (aGW 1 r))∧Below w w w':=by
 by_cases h1:r<0
 · have hr:aGW 1 r=⟨#[]⟩:=by unfold aGW;rw[if_neg om]
   rw[hr];go_enter func176,ntmps176
   go_wp2
   go_ret;exact⟨rfl,bl⟩
 · by_cases h2:8≤r
   · have hr:aGW 1 r=⟨#[]⟩:=by unfold aGW;rw[if_neg (by show ¬ (0≤r∧r<8);omega)]
     rw[hr];go_enter func176,ntmps176
     go_wp2
     go_ret;exact⟨rfl,bl⟩
   · obtain⟨m,rfl⟩:=Xf (show 0≤r by omega);have hr:aGW 1 m=rnm 1 m:=by unfold aGW;rw[if_pos (by show (0:Int)≤m∧(m:Int)<8;omega)];rfl
     rw[hr];have hg:=aKj m om;have h3:(0:Int)≤(m:Int):=om
     have h4:(m:Int)<8:=om
     clear h1 h2 hr;go_enter func176,ntmps176
     go_wp2
     go_ret;exact⟨rfl,bl⟩
theorem aKi (r:Nat) (h:r<4):[Value.string ⟨#[73,88,72]⟩,.string ⟨#[73,88,76]⟩,.string ⟨#[73,89,72]⟩,.string ⟨#[73,89,76]⟩][r]? = some (.string (rnm 2 r)):=by
 have hr:r=0∨r=1∨r=2∨r=3:=om
 rcases hr with rfl|rfl|rfl|rfl<;>rfl
theorem aJV (r:Int) (w:World) :
 Calls prog 176 #[(2:Int),r] w fun e w'=>e=.returned (.string (aGW 2 r))∧Below w w w':=by
 by_cases h1:r<0
 · have hr:aGW 2 r=⟨#[]⟩:=by unfold aGW;rw[if_neg om]
   rw[hr];go_enter func176,ntmps176
   go_wp2
   go_ret;exact⟨rfl,bl⟩
 · by_cases h2:4≤r
   · have hr:aGW 2 r=⟨#[]⟩:=by unfold aGW;rw[if_neg (by show ¬ (0≤r∧r<4);omega)]
     rw[hr];go_enter func176,ntmps176
     go_wp2
     go_ret;exact⟨rfl,bl⟩
   · obtain⟨m,rfl⟩:=Xf (show 0≤r by omega);have hr:aGW 2 m=rnm 2 m:=by unfold aGW;rw[if_pos (by show (0:Int)≤m∧(m:Int)<4;omega)];rfl
     rw[hr];have hg:=aKi m om;have h3:(0:Int)≤(m:Int):=om
     have h4:(m:Int)<4:=om
     clear h1 h2 hr;go_enter func176,ntmps176
     go_wp2
     go_ret;exact⟨rfl,bl⟩
theorem aKh (r:Nat) (h:r<8):[Value.string ⟨#[66,67]⟩,.string ⟨#[68,69]⟩,.string ⟨#[72,76]⟩,.string ⟨#[83,80]⟩,.string ⟨#[65,70]⟩,.string ⟨#[73,88]⟩,.string ⟨#[73,89]⟩,.string ⟨#[65,70,39]⟩][r]? = some (.string (rnm 3 r)):=by
 exact aMB
theorem aJU (r:Int) (w:World) :
 Calls prog 176 #[(3:Int),r] w fun e w'=>e=.returned (.string (aGW 3 r))∧Below w w w':=by
 by_cases h1:r<0
 · have hr:aGW 3 r=⟨#[]⟩:=by unfold aGW;rw[if_neg om]
   rw[hr];go_enter func176,ntmps176
   go_wp2
   go_ret;exact⟨rfl,bl⟩
 · by_cases h2:8≤r
   · have hr:aGW 3 r=⟨#[]⟩:=by unfold aGW;rw[if_neg (by show ¬ (0≤r∧r<8);omega)]
     rw[hr];go_enter func176,ntmps176
     go_wp2
     go_ret;exact⟨rfl,bl⟩
   · obtain⟨m,rfl⟩:=Xf (show 0≤r by omega);have hr:aGW 3 m=rnm 3 m:=by unfold aGW;rw[if_pos (by show (0:Int)≤m∧(m:Int)<8;omega)];rfl
     rw[hr];have hg:=aKh m om;have h3:(0:Int)≤(m:Int):=om
     have h4:(m:Int)<8:=om
     clear h1 h2 hr;go_enter func176,ntmps176
     go_wp2
     go_ret;exact⟨rfl,bl⟩
theorem aKg (r:Nat) (h:r<9):[Value.string ⟨#[40,66,67,41]⟩,.string ⟨#[40,68,69,41]⟩,.string ⟨#[40,72,76,41]⟩,.string ⟨#[40,83,80,41]⟩,.string ⟨#[]⟩,.string ⟨#[40,73,88,41]⟩,.string ⟨#[40,73,89,41]⟩,.string ⟨#[]⟩,.string ⟨#[40,67,41]⟩][r]? = some (.string (rnm 4 r)):=by
 have hr:r=0∨r=1∨r=2∨r=3∨r=4∨r=5∨r=6∨r=7∨r=8:=om
 rcases hr with rfl|rfl|rfl|rfl|rfl|rfl|rfl|rfl|rfl<;>rfl
theorem aJT (r:Int) (w:World) :
 Calls prog 176 #[(4:Int),r] w fun e w'=>e=.returned (.string (aGW 4 r))∧Below w w w':=by
 by_cases h1:r<0
 · have hr:aGW 4 r=⟨#[]⟩:=by unfold aGW;rw[if_neg om]
   rw[hr];go_enter func176,ntmps176
   go_wp2
   go_ret;exact⟨rfl,bl⟩
 · by_cases h2:9≤r
   · have hr:aGW 4 r=⟨#[]⟩:=by unfold aGW;rw[if_neg (by show ¬ (0≤r∧r<9);omega)]
     rw[hr];go_enter func176,ntmps176
     go_wp2
     go_ret;exact⟨rfl,bl⟩
   · obtain⟨m,rfl⟩:=Xf (show 0≤r by omega);have hr:aGW 4 m=rnm 4 m:=by unfold aGW;rw[if_pos (by show (0:Int)≤m∧(m:Int)<9;omega)];rfl
     rw[hr];have hg:=aKg m om;have h3:(0:Int)≤(m:Int):=om
     have h4:(m:Int)<9:=om
     clear h1 h2 hr;go_enter func176,ntmps176
     go_wp2
     go_ret;exact⟨rfl,bl⟩
theorem aKf (r:Nat) (h:r<7):[Value.string ⟨#[]⟩,.string ⟨#[]⟩,.string ⟨#[]⟩,.string ⟨#[]⟩,.string ⟨#[]⟩,.string ⟨#[73,88]⟩,.string ⟨#[73,89]⟩][r]? = some (.string (rnm 5 r)):=by
 have hr:r=0∨r=1∨r=2∨r=3∨r=4∨r=5∨r=6:=om
 rcases hr with rfl|rfl|rfl|rfl|rfl|rfl|rfl<;>rfl
theorem aJS (r:Int) (w:World) :
 Calls prog 176 #[(5:Int),r] w fun e w'=>e=.returned (.string (aGW 5 r))∧Below w w w':=by
 by_cases h1:r<0
 · have hr:aGW 5 r=⟨#[]⟩:=by unfold aGW;rw[if_neg om]
   rw[hr];go_enter func176,ntmps176
   go_wp2
   go_ret;exact⟨rfl,bl⟩
 · by_cases h2:7≤r
   · have hr:aGW 5 r=⟨#[]⟩:=by unfold aGW;rw[if_neg (by show ¬ (0≤r∧r<7);omega)]
     rw[hr];go_enter func176,ntmps176
     go_wp2
     go_ret;exact⟨rfl,bl⟩
   · obtain⟨m,rfl⟩:=Xf (show 0≤r by omega);have hr:aGW 5 m=rnm 5 m:=by unfold aGW;rw[if_pos (by show (0:Int)≤m∧(m:Int)<7;omega)];rfl
     rw[hr];have hg:=aKf m om;have h3:(0:Int)≤(m:Int):=om
     have h4:(m:Int)<7:=om
     clear h1 h2 hr;go_enter func176,ntmps176
     go_wp2
     go_ret;exact⟨rfl,bl⟩
theorem aKe (r:Nat) (h:r<8):[Value.string ⟨#[78,90]⟩,.string ⟨#[90]⟩,.string ⟨#[78,67]⟩,.string ⟨#[67]⟩,.string ⟨#[80,79]⟩,.string ⟨#[80,69]⟩,.string ⟨#[80]⟩,.string ⟨#[77]⟩][r]? = some (.string (rnm 8 r)):=by
 exact aMB
theorem aJR (r:Int) (w:World) :
 Calls prog 176 #[(8:Int),r] w fun e w'=>e=.returned (.string (aGW 8 r))∧Below w w w':=by
 by_cases h1:r<0
 · have hr:aGW 8 r=⟨#[]⟩:=by unfold aGW;rw[if_neg om]
   rw[hr];go_enter func176,ntmps176
   go_wp2
   go_ret;exact⟨rfl,bl⟩
 · by_cases h2:8≤r
   · have hr:aGW 8 r=⟨#[]⟩:=by unfold aGW;rw[if_neg (by show ¬ (0≤r∧r<8);omega)]
     rw[hr];go_enter func176,ntmps176
     go_wp2
     go_ret;exact⟨rfl,bl⟩
   · obtain⟨m,rfl⟩:=Xf (show 0≤r by omega);have hr:aGW 8 m=rnm 8 m:=by unfold aGW;rw[if_pos (by show (0:Int)≤m∧(m:Int)<8;omega)];rfl
     rw[hr];have hg:=aKe m om;have h3:(0:Int)≤(m:Int):=om
     have h4:(m:Int)<8:=om
     clear h1 h2 hr;go_enter func176,ntmps176
     go_wp2
     go_ret;exact⟨rfl,bl⟩
theorem aKd (r:Nat) (h:r<2):[Value.string ⟨#[73]⟩,.string ⟨#[82]⟩][r]? = some (.string (rnm 9 r)):=by
 have hr:r=0∨r=1:=om
 rcases hr with rfl|rfl<;>rfl
theorem aJQ (r:Int) (w:World) :
 Calls prog 176 #[(9:Int),r] w fun e w'=>e=.returned (.string (aGW 9 r))∧Below w w w':=by
 by_cases h1:r<0
 · have hr:aGW 9 r=⟨#[]⟩:=by unfold aGW;rw[if_neg om]
   rw[hr];go_enter func176,ntmps176
   go_wp2
   go_ret;exact⟨rfl,bl⟩
 · by_cases h2:2≤r
   · have hr:aGW 9 r=⟨#[]⟩:=by unfold aGW;rw[if_neg (by show ¬ (0≤r∧r<2);omega)]
     rw[hr];go_enter func176,ntmps176
     go_wp2
     go_ret;exact⟨rfl,bl⟩
   · obtain⟨m,rfl⟩:=Xf (show 0≤r by omega);have hr:aGW 9 m=rnm 9 m:=by unfold aGW;rw[if_pos (by show (0:Int)≤m∧(m:Int)<2;omega)];rfl
     rw[hr];have hg:=aKd m om;have h3:(0:Int)≤(m:Int):=om
     have h4:(m:Int)<2:=om
     clear h1 h2 hr;go_enter func176,ntmps176
     go_wp2
     go_ret;exact⟨rfl,bl⟩
theorem aHo (k r:Int) (w:World) (hk:k=1∨k=2∨k=3∨k=4∨k=5∨k=8∨k=9) :
 Calls prog 176 #[k,r] w fun e w'=>e=.returned (.string (aGW k r))∧Below w w w':=by
 rcases hk with rfl|rfl|rfl|rfl|rfl|rfl|rfl
 · exact aJW r w
 · exact aJV r w
 · exact aJU r w
 · exact aJT r w
 · exact aJS r w
 · exact aJR r w
 · exact aJQ r w
theorem aHm (n:Int) (w:World) (h1:-1000000≤n) (h2:n≤1000000) :
 Calls prog 177 #[n] w fun e w'=>e=.returned (.string (eI n))∧w=w':=by
 by_cases h:n<0
 · have hr:eI n=(⟨#[45]⟩:ByteArray)++aX (-n):=by unfold eI;rw[if_pos h]
   have hl:=fC (-n);rw[hr];go_enter func177,ntmps177
   go_wp2_with fail
   refine (aDA _ _).mono ?_;rintro e w2 ⟨rfl,rfl⟩;go_wp2_with fail
   go_ret;exact⟨rfl,rfl⟩
 · have hr:eI n=(⟨#[43]⟩:ByteArray)++aX n:=by unfold eI;rw[if_neg h]
   have hl:=fC n;rw[hr];go_enter func177,ntmps177
   go_wp2_with fail
   refine (aDA _ _).mono ?_;rintro e w2 ⟨rfl,rfl⟩;go_wp2_with fail
   go_ret;exact⟨rfl,rfl⟩
theorem aHF (s:ByteArray) (h:s.toList=[]):s.toList.isEmpty=true:=by rw[h];rfl
theorem aHk (s:ByteArray) (h:¬ s.toList=[]):s.toList.isEmpty=false:=by
 cases hs:s.toList with
 | nil=>exact absurd hs h
 | cons a l=>rfl
theorem aHY (k r n:Int) (w:World) (hk:k=1∨k=2∨k=3∨k=4∨k=8∨k=9) :
 Calls prog 175 #[.agg #[k,r,n]] w fun e w'=>e=.returned (.bool (!(aGW k r).toList.isEmpty && (n == 0)))∧Below w w w':=by
 have hn:=fun w=>aHo k r w om;rcases hk with rfl|rfl|rfl|rfl|rfl|rfl;all_goals
  go_enter func175,ntmps175
  go_wp2_with fail
  refine (hn _).mono ?_;rintro e w1 ⟨rfl,hb⟩;obtain⟨p1,rfl⟩:=aO hb;clear hb hn;go_wp2_with fail
  all_goals go_ret
  all_goals refine⟨?_,bl⟩
  all_goals first|rfl|(rename_i h;simp[aHF _ h];done)|(rename_i h;simp[aHk _ h])
theorem aIF (r n:Int) (w:World) :
 Calls prog 175 #[.agg #[(5:Int),r,n]] w fun e w'=>e=.returned (.bool (!(aGW 5 r).toList.isEmpty && decide (-128≤n) && decide (n≤127)))∧Below w w w':=by
 go_enter func175,ntmps175
 go_wp2_with fail
 refine (aHo 5 r _ om).mono ?_;rintro e w1 ⟨rfl,hb⟩;obtain⟨p1,rfl⟩:=aO hb;clear hb;by_cases h1:-128≤n
 · go_wp2_with fail
   all_goals go_ret
   all_goals refine⟨?_,bl⟩
   all_goals first|rfl|(rename_i h;simp[aHF _ h];done)|(rename_i h;simp[aHk _ h,h1])|simp[h1]
 · go_wp2_with fail
   all_goals go_ret
   all_goals refine⟨?_,bl⟩
   all_goals first|rfl|(rename_i h;simp[aHF _ h];done)|(rename_i h;simp[aHk _ h];omega)|(simp;omega)
theorem aIE (k:Nat) (r n:Int) (w:World) (hk:k=6∨k=7∨k=10) :
 Calls prog 175 #[.agg #[k,r,n]] w fun e w'=>e=.returned (.bool ((r == 0) && decide (klo k≤n) && decide (n≤khi k)))∧Below w w w':=by
 rcases hk with rfl|rfl|rfl;all_goals
  simp only[klo,khi];by_cases h0:r=0
  · subst h0;go_enter func175,ntmps175
    go_wp2_with fail
    all_goals go_ret
    all_goals refine⟨?_,bl⟩
    all_goals first|rfl|(simp;omega)
  · have h0b:(r == 0)=false:=by simpa using h0
    go_enter func175,ntmps175
    go_wp2_with fail
    all_goals go_ret
    all_goals refine⟨?_,bl⟩
    all_goals first|rfl|(simp[h0b])
theorem aIi (k:Int) (r n:Int) (w:World) (hk:k<1∨10<k) :
 Calls prog 175 #[.agg #[k,r,n]] w fun e w'=>e=.returned (.bool false)∧Below w w w':=by
 have e1:(k == 1)=false:=by simp;omega
 have e2:(k == 2)=false:=by simp;omega
 have e3:(k == 3)=false:=by simp;omega
 have e4:(k == 4)=false:=by simp;omega
 have e5:(k == 5)=false:=by simp;omega
 have e6:(k == 6)=false:=by simp;omega
 have e7:(k == 7)=false:=by simp;omega
 have e8:(k == 8)=false:=by simp;omega
 have e9:(k == 9)=false:=by simp;omega
 have e10:(k == 10)=false:=by simp;omega
 clear hk;go_enter func175,ntmps175
 go_wp2_with fail
 all_goals go_ret
 all_goals exact⟨rfl,bl⟩
theorem aHQ:∀ k:Fin 11,∀ r:Fin 9,(nm k.val r.val).toList.isEmpty=false→k.val≠0→k.val≠6→k.val≠7→k.val≠10 →
 aGW k.val r.val=if k.val=4 then (⟨#[40]⟩:ByteArray)++nm k.val r.val++(⟨#[41]⟩:ByteArray) else nm k.val r.val:=by decide +kernel
theorem aHI:∀ k:Fin 11,∀ r:Fin 9,(nm k.val r.val).toList.isEmpty=true→k.val≠0→k.val≠6→k.val≠7→k.val≠10→aGW k.val r.val=⟨#[]⟩:=by decide +kernel
theorem aHH:∀ k:Fin 11,∀ r:Fin 9,(nm k.val r.val).toList.isEmpty=false→k.val≠0→k.val≠6→k.val≠7→k.val≠10→(aGW k.val r.val).toList.isEmpty=false:=by decide +kernel
theorem aIN:∀ r:Fin 9,((nm 6 r.val).toList.isEmpty=!(r.val == 0))∧((nm 7 r.val).toList.isEmpty=!(r.val == 0))∧((nm 10 r.val).toList.isEmpty=!(r.val == 0)):=by decide +kernel
theorem aJq (k:Nat):aIJ k≤9:=by unfold aIJ;split<;>omega
theorem aHP (k r:Int) (h:r<0∨9≤r):aGW k r=⟨#[]⟩:=by
 unfold aGW;have:=aJq k.toNat;rw[if_neg om]
theorem aHM (k:Nat) (r n:Int) (hk:k=1∨k=2∨k=3∨k=4∨k=8∨k=9):(!(aGW k r).toList.isEmpty && (n == 0))=bP k r n:=by
 have hk2:klo k=0∧khi k=0:=by rcases hk with rfl|rfl|rfl|rfl|rfl|rfl<;>exact⟨rfl,rfl⟩
 by_cases hr:r<0∨9≤r
 · rw[aHP k r hr];unfold bP;rcases hr with hr|hr
   · rw[Qg (show ¬ 0≤r by omega)];simp
   · rw[Qg (show ¬ r<9 by omega)];simp
 · obtain⟨m,rfl⟩:=Xf (show 0≤r by omega);unfold bP;rw[Xl,Xl,hk2.1,hk2.2,Qh (show (1:Int)≤k by omega),Qh (show (k:Int)≤10 by omega),Qh (show (0:Int)≤m by omega),Qh (show (m:Int)<9 by omega)]
   have h0:(n == 0)=(decide (0≤n) && decide (n≤0)):=by
    rw[Yl];simp;omega
   rcases he:(nm k m).toList.isEmpty with _|_
   · have:=aHH ⟨k,om⟩ ⟨m,om⟩ he (by simp;omega) (by simp;omega) (by simp;omega) (by simp;omega)
     simp only at this;rw[this,h0];simp
   · have:=aHI ⟨k,om⟩ ⟨m,om⟩ he (by simp;omega) (by simp;omega) (by simp;omega) (by simp;omega)
     simp only at this;rw[this];simp
theorem aIp (r n:Int):(!(aGW 5 r).toList.isEmpty && decide (-128≤n) && decide (n≤127))=bP 5 r n:=by
 by_cases hr:r<0∨9≤r
 · rw[aHP 5 r hr];unfold bP;rcases hr with hr|hr
   · rw[Qg (show ¬ 0≤r by omega)];simp
   · rw[Qg (show ¬ r<9 by omega)];simp
 · obtain⟨m,rfl⟩:=Xf (show 0≤r by omega);unfold bP;rw[Xl,show (5:Int).toNat=5 from rfl,Qh (show (0:Int)≤m by omega),Qh (show (m:Int)<9 by omega)]
   rcases he:(nm 5 m).toList.isEmpty with _|_
   · have:=aHH ⟨5,om⟩ ⟨m,om⟩ he sm sm sm sm
     simp only at this;rw[show aGW 5 (m:Int)=aGW ((5:Nat):Int) m from rfl,this];simp[klo,khi]
   · have:=aHI ⟨5,om⟩ ⟨m,om⟩ he sm sm sm sm
     simp only at this;rw[show aGW 5 (m:Int)=aGW ((5:Nat):Int) m from rfl,this];simp
theorem aIo (k:Nat) (r n:Int) (hk:k=6∨k=7∨k=10):((r == 0) && decide (klo k≤n) && decide (n≤khi k))=bP k r n:=by
 unfold bP;rw[Xl,Qh (show (1:Int)≤k by omega),Qh (show (k:Int)≤10 by omega)]
 by_cases hr:r<0∨9≤r
 · have:(r == 0)=false:=by simp;omega
   rw[this];rcases hr with hr|hr
   · rw[Qg (show ¬ 0≤r by omega)];simp
   · rw[Qg (show ¬ r<9 by omega)];simp
 · obtain⟨m,rfl⟩:=Xf (show 0≤r by omega);obtain⟨s6,s7,s10⟩:=aIN ⟨m,om⟩
   simp only at s6 s7 s10;have hm:(nm k m).toList.isEmpty=!(m == 0):=by rcases hk with rfl|rfl|rfl<;>assumption
   rw[Xl,hm,Qh (show (0:Int)≤m by omega),Qh (show (m:Int)<9 by omega)]
   have:((m:Int) == 0)=(m == 0):=by rw[Yl];simp
   rw[this];simp
theorem aGZ (k r n:Int) (w:World) :
 Calls prog 175 #[.agg #[k,r,n]] w fun e w'=>e=.returned (.bool (bP k r n))∧Below w w w':=by
 by_cases hk:k<1∨10<k
 · have:bP k r n=false:=by
    unfold bP;rcases hk with hk|hk
    · rw[Qg (show ¬ 1≤k by omega)];simp
    · rw[Qg (show ¬ k≤10 by omega)];simp
   rw[this];exact aIi k r n w hk
 · obtain⟨a,rfl⟩:=Xf (show 0≤k by omega);by_cases h1:a=1∨a=2∨a=3∨a=4∨a=8∨a=9
   · rw[←aHM a r n h1];exact aHY a r n w om
   · by_cases h2:a=5
     · subst h2;show Calls _ _ #[.agg #[(5:Int),r,n]] _ fun e w'=>e=.returned (.bool (bP 5 r n))∧_
       rw[←aIp r n];exact aIF r n w
     · have h3:a=6∨a=7∨a=10:=om
       rw[←aIo a r n h3];exact aIE a r n w h3
theorem aHZ (k:Nat) (r n:Int) (hk:k=1∨k=2∨k=3∨k=4∨k=8∨k=9) (hv:bP k r n=true):eT k r n=aGW k r:=by
 unfold eT;rw[hv,if_pos rfl];obtain⟨a,b,h1,rfl,h3,h4,h5,h6,h7,h8⟩:=mO hv;obtain rfl:k=a:=om
 rw[Xl,Xl]
 have:=aHQ ⟨k,om⟩ ⟨b,h5⟩ h6 (by simp;omega) (by simp;omega) (by simp;omega) (by simp;omega)
 simp only at this;rw[this];unfold zJ;rcases hk with rfl|rfl|rfl|rfl|rfl|rfl<;>rfl
theorem aIM (r n:Int) (hv:bP 5 r n=true):eT 5 r n=(⟨#[40]⟩:ByteArray)++aGW 5 r++eI n++(⟨#[41]⟩:ByteArray):=by
 unfold eT;rw[hv,if_pos rfl];obtain⟨a,b,h1,rfl,h3,h4,h5,h6,h7,h8⟩:=mO hv;obtain rfl:a=5:=om
 rw[Xl,show (5:Int).toNat=5 from rfl]
 have:=aHQ ⟨5,om⟩ ⟨b,h5⟩ h6 sm sm sm sm
 simp only at this;rw[show aGW 5 (b:Int)=aGW ((5:Nat):Int) b from rfl,this]
 rfl
theorem aJm:∀ k:Fin 11,∀ r:Fin 9,(aGW k.val r.val).size≤10:=by decide +kernel
theorem aJD (w:World):Calls prog 214 #[] w fun e w'=>e=.returned (.slice w 68 68)∧w'=w.alloc (.cells (opsL.map fun s=>Value.string ⟨s.toArray⟩).toArray 9):=by
 go_enter func214,ntmps214
 go_wp2_with fail
 go_ret;exact⟨rfl,rfl⟩
theorem aIR (m:ByteArray) (w:World):Calls prog 174 #[.string m] w fun e w'=>e=.returned (.bool (decide (m.data.toList∈opsL)))∧Below w w w':=by
 obtain⟨R,hR⟩:∃ R,decide (m.data.toList∈opsL)=R:=⟨_,rfl⟩;rw[hR];have HR:=Hh hR;clear hR;go_enter func174,ntmps174
 go_wp2_with fail
 refine (aJD w).mono ?_;rintro e w1 ⟨rfl,hw1⟩;have hblk:w1.heap[w.heap.size]? = some (.cells (opsL.map fun s=>Value.string ⟨s.toArray⟩).toArray 9 (0,0)):=by rw[hw1];exact aF _ _
 have hlt:=aA hblk;have hcl:∀ (j:Nat) (x:List UInt8),opsL[j]? = some x→w1.cell? ⟨w,j,none⟩=some (.string ⟨x.toArray⟩):=fun j x hx=>by
  rw[Lib.cell_of_heap hblk];simp[hx]
 have hb:Below w w w1:=by rw[hw1];exact br.alloc lr _
 have HB:=Hh hb;have HCL:=Hh hcl;clear hb hcl hblk hw1;go_wp2_with fail
 go_loopw [4] (fun i wr=>wr=w1∧∃ j:Nat,j≤68∧i=.int .i64 j∧Hid (∀ y∈opsL.take j,y≠m.data.toList)) (fun i _=>68 - (intOf i).toNat)
 case atStart=>exact⟨rfl,0,om,rfl,Hh sm⟩
 case round =>
  obtain⟨rfl,j,hj,rfl,HNO⟩:=hrel;by_cases hlt:j<68
  · obtain⟨x,hx⟩:∃ x,opsL[j]? = some x:=⟨_,Qb (by rw[Mx];exact hlt)⟩;have k0:=HCL.out j x hx;obtain⟨X,hX⟩:∃ X:ByteArray,⟨x.toArray⟩=X:=⟨_,rfl⟩;have hxX:x=X.data.toList:=by rw[←hX]
    rw[hX] at k0;have he:=eqK X m;have hi0:(0:Int)≤(j:Int):=om
    have hi1:(j:Int)<68:=om
    have HX:=Hh hx;clear hx;by_cases hm:x=m.data.toList
    · rw[Qh (show X=m by rw[←hX,hm])] at he;have hr:R=true:=by rw[←HR.out];exact Qh (by rw[←hm];exact Qu HX.out)
      subst hr;clear hm hX hxX;go_wp2_with fail
      go_ret;exact⟨rfl,HB.out⟩
    · rw[Qg (show ¬ X=m from fun e=>hm (by rw[hxX,e]))] at he
      have HM:=Hh hm;clear hm hX hxX;go_wp2_with fail
      go_roundw
      case rel=>exact⟨trivial,j+1,om,by go_num,Hh (aHv HX.out HNO.out HM.out)⟩
      case measure=>simp[intOf];omega
  · obtain rfl:j=68:=om
    have hr:R=false:=by
     rw[←HR.out];have h1:=HNO.out;rw[Xj (by rw[Mx];exact Qk _)] at h1;exact Qg (fun h=>h1 _ h rfl)
    subst hr;go_wp2_with fail
    go_ret;exact⟨rfl,HB.out⟩
theorem aIm (m:List UInt8) (v:Value) (l:List Op3) (w:World) (hr:Row w v l.length (opc l)) :
 Calls prog 136 #[eU m v] w fun e w'=>e=.returned (.int .i64 (iR (m,l)))∧Below w w w':=by
 have HKN:=Hh (fun X=>aIR ⟨m.toArray⟩ X);have HVL:=Hh aGZ;obtain⟨a,c,rfl,hc,hh⟩:=hr.op;have HH:=Hh hh;obtain⟨R,hR⟩:∃ R,iR (m,l)=R:=⟨_,rfl⟩;rw[hR];unfold iR at hR;dsimp only at hR;have HR:=Hh hR;clear hh hR;unfold eU;have hgl:∀ (X:World) (i:Nat),Below w w X→i<l.length→∃ x,l[i]? = some x∧∃ g o,a=some ⟨g,o,none⟩∧g<X.heap.size∧X.cell? ⟨g,o+i*3,none⟩=some (.int .i64 x.1)∧X.cell? ⟨g,o+i*3+1,none⟩=some (.int .i64 x.2.1)∧X.cell? ⟨g,o+i*3+2,none⟩=some (.int .i64 x.2.2):=fun X i hb hi=>by
  obtain⟨x,hx⟩:∃ x,l[i]? = some x:=⟨_,Qb hi⟩;obtain⟨g,o,ha,hg,hcs⟩:=HH.out (by rintro rfl;exact absurd hi (Qw _))
  obtain⟨c0,c1,c2⟩:=hcs i x hx;exact⟨x,hx,g,o,ha,Qj hg hb.size,(hb.cell (p:=⟨g,_,none⟩) hg).trans c0,(hb.cell (p:=⟨g,_,none⟩) hg).trans c1,(hb.cell (p:=⟨g,_,none⟩) hg).trans c2⟩
 have HGL:=Hh hgl;clear hgl HH;have HC:=Hh hc;have hcc:(l.length:Int)≤(c:Int):=om
 clear hc;go_enter func136,ntmps136
 go_wp2_with fail
 obtain⟨W0,hW0⟩:∃ W,w.alloc (.cells #[m,.slice a l.length c] 53)=W:=⟨_,rfl⟩;rw[hW0];have hb0:Below w w W0:=by rw[←hW0];exact bl
 have hblk:W0.heap[w.heap.size]? = some (.cells #[m,.slice a l.length c] 53 (0,0)):=by rw[←hW0];exact aF _ _
 have HBX:=Hh (fun W (hb:Below W0 W0 W)=>And.intro (aB hblk hb (aA hblk)) (hb0.trans (hb.mono hb0.size)));obtain⟨p0,p1,_,_⟩:=aL hblk;have hl0:=aA hblk;clear hW0 hb0 hblk;go_wp2_with fail
 refine (HKN.out W0).mono ?_;rintro e w1 ⟨rfl,hb1⟩;have HB1:=Hh hb1;obtain⟨q0,q1,_,_⟩:=aL (HBX.out w1 hb1).1;have hl1:=aA (HBX.out w1 hb1).1;clear hb1 p0 p1;by_cases hm:m∈opsL
 · have hr:(if 3<l.length then (11:Int) else if l.any (fun o=>!bP o.1 o.2.1 o.2.2) then 2 else 0)=R:=by rw[←HR.out];rw[if_neg (show ¬ (m∉opsL) from fun h=>h hm)]
   have HR2:=Hh hr;rw[show decide ((⟨m.toArray⟩:ByteArray).data.toList∈opsL)=true from Qh hm]
   clear hr hm HR;by_cases h3:3<l.length
   · have h3i:(3:Int)<(l.length:Int):=om
     have hr:R=11:=by rw[←HR2.out,if_pos h3]
     subst hr;clear h3 HR2;go_wp2_with fail
     go_ret;exact⟨rfl,(HBX.out w1 HB1.out).2⟩
   · have h3i:¬ (3:Int)<(l.length:Int):=om
     have hr:(if l.any (fun o=>!bP o.1 o.2.1 o.2.2) then (2:Int) else 0)=R:=by rw[←HR2.out,if_neg h3]
     have HR3:=Hh hr;have hl3:l.length≤3:=om
     clear h3 hr HR2;go_wp2_with fail
     go_loopw [3] (fun i wr=>∃ j:Nat,j≤l.length∧i=.int .i64 j∧Hid (Below W0 W0 wr)∧Hid (∀ o∈l.take j,bP o.1 o.2.1 o.2.2=true)) (fun i _=>l.length - (intOf i).toNat)
     case atStart=>exact⟨0,Qi _,rfl,HB1,Hh sm⟩
     case round =>
      obtain⟨j,hj,rfl,HB,HOK⟩:=hrel;obtain⟨q0,q1,_,_⟩:=aL (HBX.out wr HB.out).1;have hlr:=aA (HBX.out wr HB.out).1;by_cases hlt:j<l.length
      · obtain⟨x,hx,g,o,rfl,hg,m0,m1,m2⟩:=HGL.out wr j (HBX.out wr HB.out).2 hlt;obtain⟨x0,x1,x2⟩:=x;dsimp only at m0 m1 m2;have hi0:(0:Int)≤(j:Int):=om
        have hi1:(j:Int)<(l.length:Int):=om
        have HX:=Hh hx;have HV:=Hh (HVL.out x0 x1 x2 wr);have hop:∀ y∈l.take (j+1),y∈l.take j∨y=(x0,x1,x2):=fun y hy=>by
         rw[Qo,hx] at hy;rcases Xs.1 hy with h1|h1
         · exact .inl h1
         · simp at h1;exact .inr h1
        have HOP:=Hh hop;clear hx hop;go_wp2_with fail
        refine HV.out.mono ?_;rintro e w2 ⟨rfl,hb2⟩;have HB2:=Hh (HB.out.trans (hb2.mono HB.out.size));clear hb2 m0 m1 m2 q0 q1;cases hv:bP x0 x1 x2
        · have hr:R=2:=by
           rw[←HR3.out,if_pos];rw[Xx];exact⟨_,Qu HX.out,by rw[hv];rfl⟩
          subst hr;clear hv;go_wp2_with fail
          go_ret;exact⟨rfl,(HBX.out w2 HB2.out).2⟩
        · have HV2:=Hh hv;clear hv;go_wp2_with fail
          go_roundw
          case rel=>exact⟨j+1,om,by go_num,HB2,Hh (fun y hy=>(HOP.out y hy).elim (fun h=>HOK.out y h) (fun h=>by rw[h];exact HV2.out))⟩
          case measure=>simp[intOf];omega
      · obtain rfl:j=l.length:=om
        have hr:R=0:=by
         rw[←HR3.out,if_neg];intro h;rw[Xx] at h;obtain⟨y,hy,h⟩:=h
         have:=HOK.out y (by rw[Qy];exact hy)
         rw[this] at h;cases h
        subst hr;clear HR3;go_wp2_with fail
        go_ret;exact⟨rfl,(HBX.out wr HB.out).2⟩
 · have hr:R=12:=by rw[←HR.out];rw[if_pos hm]
   subst hr;rw[show decide ((⟨m.toArray⟩:ByteArray).data.toList∈opsL)=false from Qg hm]
   clear hm HR;go_wp2_with fail
   go_ret;exact⟨rfl,(HBX.out w1 HB1.out).2⟩
end Go.Proofs.YtoigglljnklhlaaGreatDoor
