/- Joined. -/
import Derived.Test.YtoigglljnklhlaaGreatDoorD07
set_option maxHeartbeats 8000000
set_option maxRecDepth 100000
namespace Go.Proofs.YtoigglljnklhlaaGreatDoor
section
open Go.RowKit
open Go.Proofs.Tryz
theorem aOB {p:Prop} (h:p:=by
 go_enter func70,ntmps70
 go_wp2
 refine wp_loop_rounds 2 ?_;rw[rounds_succ];go_wp2
 go_ret;exact⟨by simp;omega,rfl⟩):p:=h
theorem jS (lo hi n:Int) (b:Nat) (w:World) (hc:w.cell? b=some (.int .i64 n)) :
 Calls prog 70 #[lo,hi,.slice b 1 1] w fun e w'=>e=.returned (.bool (decide (lo≤n) && decide (n≤hi)))∧w=w':=by
 by_cases h1:n<lo
 · exact aOB
 · by_cases h2:hi<n
   · exact aOB
   · go_enter func70,ntmps70
     go_wp2
     refine wp_loop_rounds 2 ?_;rw[rounds_succ];go_wp2
     rw[rounds_succ];go_wp2
     go_ret;exact⟨by simp;omega,rfl⟩
end
section
open Go.RowKit Go.Sort
open Go.Proofs.Tryz
theorem pH (k r:Nat) (h3:r<9):[Value.string (nm k 0),.string (nm k 1),.string (nm k 2),.string (nm k 3),.string (nm k 4),.string (nm k 5),.string (nm k 6),.string (nm k 7),.string (nm k 8),.int .i64 (klo k),.int .i64 (khi k),.func (.func (kf k)) #[] #[]][r]? = some (.string (nm k r)):=by
 have hr:r=0∨r=1∨r=2∨r=3∨r=4∨r=5∨r=6∨r=7∨r=8:=om
 rcases hr with rfl|rfl|rfl|rfl|rfl|rfl|rfl|rfl|rfl<;>rfl
theorem Na (k r:Nat) (n:Int) (w:World) (h1:1≤k) (h2:k≤10) (h3:r<9) (h4:(nm k r).toList.isEmpty=false) (h5:klo k≤n) (h6:n≤khi k) :
 Calls prog 209 #[.agg #[k,r,n]] w fun e w' =>
  e=.returned (.tuple #[.agg #[.string (nm k 0),.string (nm k 1),.string (nm k 2),.string (nm k 3),.string (nm k 4),.string (nm k 5),.string (nm k 6),.string (nm k 7),.string (nm k 8),.int .i64 (klo k),.int .i64 (khi k),.func (.func (kf k)) #[] #[]],.string (nm k r),.bool true])∧Below w w w':=by
 have hf:(decide (klo k≤n) && decide (n≤khi k))=true:=by simp[h5,h6]
 have hg:=pH k r h3;have hr0:(0:Int)≤(r:Int):=om
 have hr9:(r:Int)<9:=om
 go_enter func209,ntmps209
 go_wp2_with fail
 refine (lT k _ h1 h2).mono ?_;rintro e w1 ⟨rfl,hb⟩;obtain⟨p1,rfl⟩:=aO hb;clear hb;go_wp2_with fail
 refine (jS _ _ n _ _ ?hc1).mono ?_
 case hc1=>simp[go_sem]
 rintro e w2 ⟨rfl,rfl⟩;rw[hf];go_wp2_with fail
 go_region
 all_goals go_wp2
 all_goals
  refine bodyPost_ret (v:=.tuple #[.agg #[.string (nm k 0),.string (nm k 1),.string (nm k 2),.string (nm k 3),.string (nm k 4),.string (nm k 5),.string (nm k 6),.string (nm k 7),.string (nm k 8),.int .i64 (klo k),.int .i64 (khi k),.func (.func (kf k)) #[] #[]],.string (nm k r),.bool true]) (by simp[results,results209,go_sem]) rfl ⟨rfl,?_⟩
  (repeat (first|exact Below.refl _ _|refine Below.drew ?_|(refine cD ?_ (by first|omega|(simp[go_sem];done)|(simp[go_sem];omega)) _)|(refine Below.alloc ?_ (by first|omega|(simp[go_sem];done)|(simp[go_sem];omega)) _)|(refine Below.setCell ?_ (by first|omega|(simp[go_sem];done)|(simp[go_sem];omega)) _)))
theorem By (k r n:Int) (w:World) (h:k<1∨10<k) :
 Calls prog 209 #[.agg #[k,r,n]] w fun e w' =>
  e=.returned (.tuple #[.agg #[(),(),(),(),(),(),(),(),(),(0:Int),(0:Int),.nilFunc],(),.bool false])∧Below w w w':=by
 have H:=Hh h;clear h;go_enter func209,ntmps209
 go_wp2_with fail
 refine (Tj k _ H.out).mono ?_;rintro e w1 ⟨rfl,hb⟩;obtain⟨p1,rfl⟩:=aO hb;clear hb;go_wp2_with fail
 all_goals
  refine bodyPost_ret (v:=.tuple #[.agg #[(),(),(),(),(),(),(),(),(),(0:Int),(0:Int),.nilFunc],(),.bool false]) (by simp[results,results209,go_sem]) rfl ⟨rfl,?_⟩
  (repeat (first|exact Below.refl _ _|refine Below.drew ?_|(refine cD ?_ (by first|omega|(simp[go_sem];done)|(simp[go_sem];omega)) _)|(refine Below.alloc ?_ (by first|omega|(simp[go_sem];done)|(simp[go_sem];omega)) _)|(refine Below.setCell ?_ (by first|omega|(simp[go_sem];done)|(simp[go_sem];omega)) _)))
theorem Gt (k:Nat) (r n:Int) (w:World) (h1:1≤k) (h2:k≤10) (h:r<0∨9≤r) :
 Calls prog 209 #[.agg #[k,r,n]] w fun e w' =>
  e=.returned (.tuple #[.agg #[(),(),(),(),(),(),(),(),(),(0:Int),(0:Int),.nilFunc],(),.bool false])∧Below w w w':=by
 rcases h with h|h;all_goals
  go_enter func209,ntmps209
  go_wp2_with fail
  refine (lT k _ h1 h2).mono ?_;rintro e w1 ⟨rfl,hb⟩;obtain⟨p1,rfl⟩:=aO hb;clear hb;go_wp2_with fail
  refine bodyPost_ret (v:=.tuple #[.agg #[(),(),(),(),(),(),(),(),(),(0:Int),(0:Int),.nilFunc],(),.bool false]) (by simp[results,results209,go_sem]) rfl ⟨rfl,?_⟩
  (repeat (first|exact Below.refl _ _|refine Below.drew ?_|(refine cD ?_ (by first|omega|(simp[go_sem];done)|(simp[go_sem];omega)) _)|(refine Below.alloc ?_ (by first|omega|(simp[go_sem];done)|(simp[go_sem];omega)) _)|(refine Below.setCell ?_ (by first|omega|(simp[go_sem];done)|(simp[go_sem];omega)) _)))
theorem Bw (k r:Nat) (n:Int) (w:World) (h1:1≤k) (h2:k≤10) (h3:r<9) (h4:(nm k r).toList.isEmpty=true) :
 Calls prog 209 #[.agg #[k,r,n]] w fun e w' =>
  e=.returned (.tuple #[.agg #[(),(),(),(),(),(),(),(),(),(0:Int),(0:Int),.nilFunc],(),.bool false])∧Below w w w':=by
 have hg:=pH k r h3;have hr0:(0:Int)≤(r:Int):=om
 have hr9:(r:Int)<9:=om
 go_enter func209,ntmps209
 go_wp2_with fail
 refine (lT k _ h1 h2).mono ?_;rintro e w1 ⟨rfl,hb⟩;obtain⟨p1,rfl⟩:=aO hb;clear hb;go_wp2_with fail
 refine bodyPost_ret (v:=.tuple #[.agg #[(),(),(),(),(),(),(),(),(),(0:Int),(0:Int),.nilFunc],(),.bool false]) (by simp[results,results209,go_sem]) rfl ⟨rfl,?_⟩
 (repeat (first|exact Below.refl _ _|refine Below.drew ?_|(refine cD ?_ (by first|omega|(simp[go_sem];done)|(simp[go_sem];omega)) _)|(refine Below.alloc ?_ (by first|omega|(simp[go_sem];done)|(simp[go_sem];omega)) _)|(refine Below.setCell ?_ (by first|omega|(simp[go_sem];done)|(simp[go_sem];omega)) _)))
theorem Gu (k r:Nat) (n:Int) (w:World) (h1:1≤k) (h2:k≤10) (h3:r<9) (h4:(nm k r).toList.isEmpty=false) (h5:n<klo k∨khi k<n) :
 Calls prog 209 #[.agg #[k,r,n]] w fun e w' =>
  e=.returned (.tuple #[.agg #[(),(),(),(),(),(),(),(),(),(0:Int),(0:Int),.nilFunc],(),.bool false])∧Below w w w':=by
 have hf:(decide (klo k≤n) && decide (n≤khi k))=false:=by simp;omega
 have hg:=pH k r h3;have hr0:(0:Int)≤(r:Int):=om
 have hr9:(r:Int)<9:=om
 clear h5;go_enter func209,ntmps209
 go_wp2_with fail
 refine (lT k _ h1 h2).mono ?_;rintro e w1 ⟨rfl,hb⟩;obtain⟨p1,rfl⟩:=aO hb;clear hb;go_wp2_with fail
 refine (jS _ _ n _ _ ?hc1).mono ?_
 case hc1=>simp[go_sem]
 rintro e w2 ⟨rfl,rfl⟩;rw[hf];go_wp2_with fail
 refine bodyPost_ret (v:=.tuple #[.agg #[(),(),(),(),(),(),(),(),(),(0:Int),(0:Int),.nilFunc],(),.bool false]) (by simp[results,results209,go_sem]) rfl ⟨rfl,?_⟩
 (repeat (first|exact Below.refl _ _|refine Below.drew ?_|(refine cD ?_ (by first|omega|(simp[go_sem];done)|(simp[go_sem];omega)) _)|(refine Below.alloc ?_ (by first|omega|(simp[go_sem];done)|(simp[go_sem];omega)) _)|(refine Below.setCell ?_ (by first|omega|(simp[go_sem];done)|(simp[go_sem];omega)) _)))
def aX (n:Int):ByteArray :=
 if n<0∨65535<n then ⟨#[]⟩
 else if n≤9 then ⟨#[UInt8.ofNat (48+n.toNat)]⟩
 else if 57<((cH ⟨(bL 4 n.toNat).toArray⟩++(⟨#[72]⟩:ByteArray)).data[0]?.getD 0).toNat then (⟨#[48]⟩:ByteArray)++(cH ⟨(bL 4 n.toNat).toArray⟩++(⟨#[72]⟩:ByteArray))
 else cH ⟨(bL 4 n.toNat).toArray⟩++(⟨#[72]⟩:ByteArray)
theorem gM:∀ (f u:Nat),(bL f u).length≤f
 | 0,_=>by simp[bL]
 | f+1,u=>by
   unfold bL;split
   · simp
   · have:=gM f (u/16);simp;omega
theorem sS (X:ByteArray) (h:0<X.size):X.data[0]?.getD 0=X[0]:=by
 rw[Yk (by exact h)];rfl
theorem fD (n:Int) (w:World) (hT:Tabs w) :
 Calls prog 60 #[n] w fun e w'=>e=.returned (.string (aX n))∧Below w w w':=by
 by_cases h0:n<0∨65535<n
 · have hf:(decide (0≤n) && decide (n≤65535))=false:=by simp;omega
   have hr:aX n=⟨#[]⟩:=by unfold aX;rw[if_pos h0]
   rw[hr];clear h0;go_enter func60,ntmps60
   go_wp2_with fail
   refine (jS _ _ n _ _ ?hc1).mono ?_
   case hc1=>simp[go_sem]
   rintro e w2 ⟨rfl,rfl⟩;rw[hf];go_wp2_with fail
   go_ret;exact⟨rfl,bl⟩
 · have hf:(decide (0≤n) && decide (n≤65535))=true:=by simp;omega
   have hf0:0≤n:=om
   obtain⟨m,rfl⟩:=Xf hf0;have hf1:m≤65535:=om
   by_cases h9:m≤9
   · have hr:aX m=⟨(Lib.decDigits m).toArray⟩:=by
      have:m=0∨m=1∨m=2∨m=3∨m=4∨m=5∨m=6∨m=7∨m=8∨m=9:=om
      rcases this with rfl|rfl|rfl|rfl|rfl|rfl|rfl|rfl|rfl|rfl<;>rw[Lib.decDigits]<;>rfl
     have h9i:(m:Int)≤9:=om
     rw[hr];clear h0;go_enter func60,ntmps60
     go_wp2_with fail
     refine (jS _ _ m _ _ ?hc2).mono ?_
     case hc2=>simp[go_sem]
     rintro e w2 ⟨rfl,rfl⟩;rw[hf];go_wp2_with fail
     refine (Tryz.strconv_Itoa_small m om _).mono ?_;rintro e w2 ⟨rfl,rfl⟩;go_wp2_with fail
     go_ret;exact⟨rfl,bl⟩
   · have h9i:¬ (m:Int)≤9:=om
     go_enter func60,ntmps60
     go_wp2_with fail
     refine (jS _ _ m _ _ ?hc3).mono ?_
     case hc3=>simp[go_sem]
     rintro e w2 ⟨rfl,rfl⟩;rw[hf];go_wp2_with fail
     refine (Ox m _ om hf1 (hT.below (bl))).mono ?_;rintro e w2 ⟨rfl,hb⟩;obtain⟨p1,rfl⟩:=aO hb;clear hb;go_wp2_with fail
     refine (pB _ _ ?hu).mono ?_
     case hu=>have:=gM 4 m;unfold maxLen;show (bL 4 m).toArray.size≤_;simp;omega
     rintro e w2 ⟨rfl,hb⟩;obtain⟨p2,rfl⟩:=aO hb;clear hb;have hr:aX m=if 57<((cH ⟨(bL 4 m).toArray⟩++(⟨#[72]⟩:ByteArray)).data[0]?.getD 0).toNat then (⟨#[48]⟩:ByteArray)++(cH ⟨(bL 4 m).toArray⟩++(⟨#[72]⟩:ByteArray)) else cH ⟨(bL 4 m).toArray⟩++(⟨#[72]⟩:ByteArray):=by
      unfold aX;rw[if_neg h0,if_neg om];rfl
     have hU4:(cH ⟨(bL 4 m).toArray⟩).size≤4:=by
      have:=gM 4 m
      show ((((bL 4 m).toArray.toList.map up).toArray).size≤4)
      simp;omega
     have Hr:=Hh hr;clear hr h0;generalize cH ⟨(bL 4 m).toArray⟩=U at Hr hU4 ⊢;go_wp2_with fail
     · go_ret;refine⟨?_,bl⟩;rename_i h;rw[Hr.out,if_pos (by rw[sS _ (by simp;show 0<U.size+1;omega)];omega)]
       rfl
     · go_ret;refine⟨?_,bl⟩;rename_i h;rw[Hr.out,if_neg (by rw[sS _ (by simp;show 0<U.size+1;omega)];omega)]
       rfl
def eI (n:Int):ByteArray:=if n<0 then (⟨#[45]⟩:ByteArray)++aX (-n) else (⟨#[43]⟩:ByteArray)++aX n
theorem fC (n:Int):(aX n).size≤6:=by
 unfold aX;split
 · exact Qi _
 · split
   · show 1≤6;omega
   · have hU4:(cH ⟨(bL 4 n.toNat).toArray⟩).size≤4:=by
      have:=gM 4 n.toNat
      show ((((bL 4 n.toNat).toArray.toList.map up).toArray).size≤4)
      simp;omega
     split
     · rw[Qm,Qm];show 1+(_+1)≤6;omega
     · rw[Qm];show _+1≤6;omega
theorem iX (n:Int):(eI n).size≤7:=by
 unfold eI;split
 · have:=fC (-n);rw[Qm];show 1+_≤7;omega
 · have:=fC n;rw[Qm];show 1+_≤7;omega
theorem mW (n:Int) (w:World) (hT:Tabs w) (h1:-1000000≤n) (h2:n≤1000000) :
 Calls prog 270 #[n] w fun e w'=>e=.returned (.string (eI n))∧Below w w w':=by
 by_cases h:n<0
 · have hr:eI n=(⟨#[45]⟩:ByteArray)++aX (-n):=by unfold eI;rw[if_pos h]
   have hl:=fC (-n);rw[hr];go_enter func270,ntmps270
   go_wp2_with fail
   refine (fD _ _ hT).mono ?_;rintro e w2 ⟨rfl,hb⟩;go_wp2_with fail
   go_ret;exact⟨rfl,hb⟩
 · have hr:eI n=(⟨#[43]⟩:ByteArray)++aX n:=by unfold eI;rw[if_neg h]
   have hl:=fC n;rw[hr];go_enter func270,ntmps270
   go_wp2_with fail
   refine (fD _ _ hT).mono ?_;rintro e w2 ⟨rfl,hb⟩;go_wp2_with fail
   go_ret;exact⟨rfl,hb⟩
def zJ (k:Nat) (reg:ByteArray) (n:Int):ByteArray :=
 if k=4 then (⟨#[40]⟩:ByteArray)++reg++(⟨#[41]⟩:ByteArray)
 else if k=5 then (⟨#[40]⟩:ByteArray)++reg++eI n++(⟨#[41]⟩:ByteArray)
 else if k=6 then (if n<0 then eI n else aX n)
 else if k=7 then (⟨#[40]⟩:ByteArray)++aX n++(⟨#[41]⟩:ByteArray)
 else if k=10 then (⟨#[36]⟩:ByteArray)++eI (n+2)
 else reg
theorem Ow (k:Nat) (reg:ByteArray) (n:Int) (w:World) (hT:Tabs w) (hk1:1≤k) (hk2:k≤10) (h1:-100000≤n) (h2:n≤100000) (hreg:reg.size≤10) :
 Calls prog (kf k) #[.string reg,n] w fun e w'=>e=.returned (.string (zJ k reg n))∧Below w w w':=by
 have hk:k=1∨k=2∨k=3∨k=4∨k=5∨k=6∨k=7∨k=8∨k=9∨k=10:=om
 have hplain:Calls prog 267 #[.string reg,n] w fun e w'=>e=.returned (.string reg)∧Below w w w':=by
  go_enter func267,ntmps267
  go_wp2
  go_ret;exact⟨rfl,Below.refl _ _⟩
 rcases hk with rfl|rfl|rfl|rfl|rfl|rfl|rfl|rfl|rfl|rfl
 · exact hplain
 · exact hplain
 · exact hplain
 · clear hplain hk1 hk2;show Calls prog 268 #[.string reg,n] w fun e w'=>e=.returned (.string ((⟨#[40]⟩:ByteArray)++reg++(⟨#[41]⟩:ByteArray)))∧Below w w w'
   go_enter func268,ntmps268
   go_wp2
   go_ret;exact⟨rfl,Below.refl _ _⟩
 · clear hplain hk1 hk2;show Calls prog 269 #[.string reg,n] w fun e w'=>e=.returned (.string ((⟨#[40]⟩:ByteArray)++reg++eI n++(⟨#[41]⟩:ByteArray)))∧Below w w w'
   have hl:=iX n;go_enter func269,ntmps269
   go_wp2_with fail
   refine (mW _ _ hT om om).mono ?_;rintro e w2 ⟨rfl,hb⟩;go_wp2_with fail
   go_ret;exact⟨rfl,hb⟩
 · clear hplain hk1 hk2;show Calls prog 271 #[.string reg,n] w fun e w'=>e=.returned (.string (if n<0 then eI n else aX n))∧Below w w w'
   by_cases h:n<0
   · rw[if_pos h];go_enter func271,ntmps271
     go_wp2_with fail
     refine (mW _ _ hT om om).mono ?_;rintro e w2 ⟨rfl,hb⟩;go_wp2_with fail
     go_ret;exact⟨rfl,hb⟩
   · rw[if_neg h];go_enter func271,ntmps271
     go_wp2_with fail
     refine (fD _ _ hT).mono ?_;rintro e w2 ⟨rfl,hb⟩;go_wp2_with fail
     go_ret;exact⟨rfl,hb⟩
 · clear hplain hk1 hk2;show Calls prog 272 #[.string reg,n] w fun e w'=>e=.returned (.string ((⟨#[40]⟩:ByteArray)++aX n++(⟨#[41]⟩:ByteArray)))∧Below w w w'
   have hl:=fC n;go_enter func272,ntmps272
   go_wp2_with fail
   refine (fD _ _ hT).mono ?_;rintro e w2 ⟨rfl,hb⟩;go_wp2_with fail
   go_ret;exact⟨rfl,hb⟩
 · exact hplain
 · exact hplain
 · clear hplain hk1 hk2;show Calls prog 273 #[.string reg,n] w fun e w'=>e=.returned (.string ((⟨#[36]⟩:ByteArray)++eI (n+2)))∧Below w w w'
   have hl:=iX (n+2);go_enter func273,ntmps273
   go_wp2_with fail
   refine (mW _ _ hT om om).mono ?_;rintro e w2 ⟨rfl,hb⟩;go_wp2_with fail
   go_ret;exact⟨rfl,hb⟩
def bP (k r n:Int):Bool:=decide (1≤k) && decide (k≤10) && decide (0≤r) && decide (r<9) && !(nm k.toNat r.toNat).toList.isEmpty && decide (klo k.toNat≤n) && decide (n≤khi k.toNat)
def eT (k r n:Int):ByteArray:=if bP k r n then zJ k.toNat (nm k.toNat r.toNat) n else ⟨#[]⟩
theorem Hg (k:Nat) (hk1:1≤k) (hk2:k≤10):∀ args w,(callFunc (kf k) args).run prog w=.ok (.enter (kf k) args) w:=by
 have hk:k=1∨k=2∨k=3∨k=4∨k=5∨k=6∨k=7∨k=8∨k=9∨k=10:=om
 rcases hk with rfl|rfl|rfl|rfl|rfl|rfl|rfl|rfl|rfl|rfl
 · exact enters_of func267 kr rfl
 · exact enters_of func267 kr rfl
 · exact enters_of func267 kr rfl
 · exact enters_of func268 kr rfl
 · exact enters_of func269 kr rfl
 · exact enters_of func271 kr rfl
 · exact enters_of func272 kr rfl
 · exact enters_of func267 kr rfl
 · exact enters_of func267 kr rfl
 · exact enters_of func273 kr rfl
theorem Nf (k r:Nat):(nm k r).size≤10:=by
 unfold nm;split<;>decide
theorem aPK (k:Nat):-100000≤klo k:=by unfold klo;split<;>omega
theorem aPL (k:Nat):khi k≤100000:=by unfold khi;split<;>omega
theorem Vo (k r n:Int) (w:World) (h:bP k r n=false) :
 Calls prog 209 #[.agg #[k,r,n]] w fun e w' =>
  e=.returned (.tuple #[.agg #[(),(),(),(),(),(),(),(),(),(0:Int),(0:Int),.nilFunc],(),.bool false])∧Below w w w':=by
 by_cases hk:k<1∨10<k
 · exact By k r n w hk
 · obtain⟨k,rfl⟩:=Xf (show 0≤k by omega);by_cases hr:r<0∨9≤r
   · exact Gt k r n w om om hr
   · obtain⟨r,rfl⟩:=Xf (show 0≤r by omega);by_cases hn:(nm k r).toList.isEmpty=true
     · exact Bw k r n w om om om hn
     · have hn':(nm k r).toList.isEmpty=false:=by simpa using hn
       refine Gu k r n w om om om hn' ?_;unfold bP at h;rw[Xl,Xl,hn',Qh (show (1:Int)≤k by omega),Qh (show (k:Int)≤10 by omega),Qh (show (0:Int)≤r by omega),Qh (show (r:Int)<9 by omega)] at h
       simp at h
       omega
theorem mO {k r n:Int} (h:bP k r n=true):∃ a b:Nat,k=a∧r=b∧1≤a∧a≤10∧b<9∧(nm a b).toList.isEmpty=false∧klo a≤n∧n≤khi a:=by
 unfold bP at h;simp only[Qe,Qf,Bool.not_eq_true'] at h;obtain⟨⟨⟨⟨⟨⟨h1,h2⟩,h3⟩,h4⟩,h5⟩,h6⟩,h7⟩:=h;obtain⟨a,rfl⟩:=Xf (show 0≤k by omega);obtain⟨b,rfl⟩:=Xf h3;exact⟨a,b,rfl,rfl,om,om,om,h5,h6,h7⟩
theorem pA (k r n:Int) (w:World) :
 Calls prog 237 #[.agg #[k,r,n]] w fun e w'=>e=.returned (.bool (bP k r n))∧Below w w w':=by
 rcases hv:bP k r n with _|_
 · go_enter func237,ntmps237
   go_wp2_with fail
   refine (Vo k r n _ hv).mono ?_;rintro e w1 ⟨rfl,hb⟩;obtain⟨p1,rfl⟩:=aO hb;clear hb;go_wp2_with fail
   go_ret;exact⟨rfl,bl⟩
 · obtain⟨a,b,rfl,rfl,h1,h2,h3,h4,h5,h6⟩:=mO hv;go_enter func237,ntmps237
   go_wp2_with fail
   refine (Na a b n _ h1 h2 h3 h4 h5 h6).mono ?_;rintro e w1 ⟨rfl,hb⟩;obtain⟨p1,rfl⟩:=aO hb;clear hb;go_wp2_with fail
   go_ret;exact⟨rfl,bl⟩
def iM (i:Int):List (Int × Int × Int):=[(2,2*(5+i - 5),0),(2,2*(5+i - 5)+1,0),(3,5+i,0),(4,5+i,0),(5,5+i,0)]
def eF (k r n:Int):Int :=
 if bP k r n=false then 0 else if (k,r,(0:Int))∈iM 0 then 5 else if (k,r,(0:Int))∈iM 1 then 6 else 0
theorem Cw (i:Int) (j:Nat) (hj:j<5):∃ x0 x1 x2:Int,(iM i)[j]? = some (x0,x1,x2):=by
 have:j=0∨j=1∨j=2∨j=3∨j=4:=om
 rcases this with rfl|rfl|rfl|rfl|rfl<;>exact⟨_,_,_,rfl⟩
theorem Hv (i:Int) (j:Nat) (hj:j<5) (x0 x1 x2:Int) (h:(iM i)[j]? = some (x0,x1,x2)) (w:World) :
 (w.alloc (.cells #[(2:Int),.int .i64 (2*(5+i - 5)),(0:Int),(2:Int),.int .i64 (2*(5+i - 5)+1),(0:Int),(3:Int),.int .i64 (5+i),(0:Int),(4:Int),.int .i64 (5+i),(0:Int),(5:Int),.int .i64 (5+i),(0:Int)] 144)).cell? ⟨w,j*3,none⟩=some (.int .i64 x0) ∧
 (w.alloc (.cells #[(2:Int),.int .i64 (2*(5+i - 5)),(0:Int),(2:Int),.int .i64 (2*(5+i - 5)+1),(0:Int),(3:Int),.int .i64 (5+i),(0:Int),(4:Int),.int .i64 (5+i),(0:Int),(5:Int),.int .i64 (5+i),(0:Int)] 144)).cell? ⟨w,j*3+1,none⟩=some (.int .i64 x1) ∧
 (w.alloc (.cells #[(2:Int),.int .i64 (2*(5+i - 5)),(0:Int),(2:Int),.int .i64 (2*(5+i - 5)+1),(0:Int),(3:Int),.int .i64 (5+i),(0:Int),(4:Int),.int .i64 (5+i),(0:Int),(5:Int),.int .i64 (5+i),(0:Int)] 144)).cell? ⟨w,j*3+2,none⟩=some (.int .i64 x2):=by
 rw[World.cell?_alloc_at _ _ _ _ rfl,World.cell?_alloc_at _ _ _ _ rfl,World.cell?_alloc_at _ _ _ _ rfl]
 have:j=0∨j=1∨j=2∨j=3∨j=4:=om
 rcases this with rfl|rfl|rfl|rfl|rfl<;>(simp[iM] at h;obtain⟨rfl,rfl,rfl⟩:=h;exact⟨rfl,rfl,rfl⟩)
theorem Hu (k r n:Int) (w:World) :
 Calls prog 263 #[.agg #[k,r,n]] w fun e w'=>e=.returned (.int .i64 (eF k r n))∧Below w w w':=by
 rcases hv:bP k r n with _|_
 · have hr:eF k r n=0:=by unfold eF;rw[if_pos hv]
   rw[hr];have HV:=Hh hv;clear hv hr;go_enter func263,ntmps263
   go_wp2_with fail
   refine (pA k r n _).mono ?_;rintro e w1 ⟨rfl,hb⟩;obtain⟨p1,rfl⟩:=aO hb;clear hb;rw[HV.out];go_wp2_with fail
   go_ret;exact⟨rfl,bl⟩
 · have hr:eF k r n=if (k,r,(0:Int))∈iM 0 then 5 else if (k,r,(0:Int))∈iM 1 then 6 else 0:=by unfold eF;rw[if_neg (by rw[hv];decide)]
   have HV:=Hh hv;clear hv;have HR:=Hh hr;clear hr;go_enter func263,ntmps263
   go_wp2_with fail
   refine (pA k r n _).mono ?_;rintro e w1 ⟨rfl,hb⟩;obtain⟨p1,rfl⟩:=aO hb;clear hb;rw[HV.out];go_wp2_with fail
   go_loopw [13] (fun i wr=>∃ j:Nat,j≤2∧i=.int .i64 j∧Below w w wr∧w.heap.size+1+p1.os.size<wr.heap.size ∧
    wr.cell? w=some (.int .i64 k)∧wr.cell? ⟨w,1,none⟩=some (.int .i64 r)∧(∃ m,wr.cell? ⟨w,2,none⟩=some (.int .i64 m))∧wr.frozen? ⟨w,2,none⟩=false ∧
    wr.cell? ⟨w.heap.size+1+p1.os.size,0,none⟩=some (.int .i64 5)∧wr.cell? ⟨w.heap.size+1+p1.os.size,1,none⟩=some (.int .i64 6)∧(∀ i:Nat,i<j→(k,r,(0:Int))∉iM i))
    (fun i _=>2 - (intOf i).toNat)
   case atStart=>exact⟨0,om,rfl,bl,by simp[go_sem],by simp[go_sem],by simp[go_sem],⟨n,by simp[go_sem]⟩,by simp[go_sem],by simp[go_sem],by simp[go_sem],by intro i hi;omega⟩
   case round =>
    obtain⟨j,hj,rfl,hbel,hsz,c0,c1,⟨m,c2⟩,f2,s0,s1,hno⟩:=hrel;by_cases hlt:j<2
    · have hs:wr.cell? ⟨w.heap.size+1+p1.os.size,j,none⟩=some (.int .i64 (5+(j:Int))):=by
       have:j=0∨j=1:=om
       rcases this with rfl|rfl
       · exact s0
       · exact s1
      have hN:w.heap.size<wr.heap.size:=om
      have HNO:=Hh hno;clear hno;have HBEL:=Hh hbel;clear hbel;have S0:=Hh s0;clear s0;have S1:=Hh s1;clear s1;go_wp2_with fail
      obtain⟨wo,rfl⟩:∃ wo:World,wo=wr:=⟨_,rfl⟩;have hb1:Below w w ((wo.setCell ⟨w,2,none⟩ (0:Int)).alloc (.cells #[(2:Int),.int .i64 (2*(5+(j:Int) - 5)),(0:Int),(2:Int),.int .i64 (2*(5+(j:Int) - 5)+1),(0:Int),(3:Int),.int .i64 (5+(j:Int)),(0:Int),(4:Int),.int .i64 (5+(j:Int)),(0:Int),(5:Int),.int .i64 (5+(j:Int)),(0:Int)] 144)) :=
       (HBEL.out.setCell (p:=⟨w,2,none⟩) lr _).alloc (by simp[World.setCell];omega) _
      have hs1:((wo.setCell ⟨w,2,none⟩ (0:Int)).alloc (.cells #[(2:Int),.int .i64 (2*(5+(j:Int) - 5)),(0:Int),(2:Int),.int .i64 (2*(5+(j:Int) - 5)+1),(0:Int),(3:Int),.int .i64 (5+(j:Int)),(0:Int),(4:Int),.int .i64 (5+(j:Int)),(0:Int),(5:Int),.int .i64 (5+(j:Int)),(0:Int)] 144)).heap.size=wo.heap.size+1:=by simp[go_sem,World.setCell]
      have hc0:∀ o,((wo.setCell ⟨w,2,none⟩ (0:Int)).alloc o).cell? w=some (.int .i64 k):=fun o=>by
       rw[World.cell?_alloc_past _ _ _ (by simp[World.setCell];omega),World.cell?_setCell_other _ _ _ _ sm];exact c0
      have hc1:∀ o,((wo.setCell ⟨w,2,none⟩ (0:Int)).alloc o).cell? ⟨w,1,none⟩=some (.int .i64 r):=fun o=>by
       rw[World.cell?_alloc_past _ _ _ (by simp[World.setCell];omega),World.cell?_setCell_other _ _ _ _ sm];exact c1
      have hc2:∀ o,((wo.setCell ⟨w,2,none⟩ (0:Int)).alloc o).cell? ⟨w,2,none⟩=some (.int .i64 0):=fun o=>by
       rw[World.cell?_alloc_past _ _ _ (by simp[World.setCell];omega),World.cell?_setCell_same _ _ _ c2]
      have hf2:∀ o,((wo.setCell ⟨w,2,none⟩ (0:Int)).alloc o).frozen? ⟨w,2,none⟩=false:=fun o=>by
       rw[World.frozen?_alloc_past _ _ _ (by simp[World.setCell];omega),World.frozen?_setCell];exact f2
      have hss:∀ o q x,wo.cell? ⟨w.heap.size+1+p1.os.size,q,none⟩=some x→((wo.setCell ⟨w,2,none⟩ (0:Int)).alloc o).cell? ⟨w.heap.size+1+p1.os.size,q,none⟩=some x:=fun o q x hx=>by
       rw[World.cell?_alloc_past _ _ _ (by simp[World.setCell];omega),World.cell?_setCell_other _ _ _ _ sm];exact hx
      have hli:=fun q hq x0 x1 x2 h=>Hv (j:Int) q hq x0 x1 x2 h (wo.setCell ⟨w,2,none⟩ (0:Int));replace hc0:=hc0 (.cells #[(2:Int),.int .i64 (2*(5+(j:Int) - 5)),(0:Int),(2:Int),.int .i64 (2*(5+(j:Int) - 5)+1),(0:Int),(3:Int),.int .i64 (5+(j:Int)),(0:Int),(4:Int),.int .i64 (5+(j:Int)),(0:Int),(5:Int),.int .i64 (5+(j:Int)),(0:Int)] 144);replace hc1:=hc1 (.cells #[(2:Int),.int .i64 (2*(5+(j:Int) - 5)),(0:Int),(2:Int),.int .i64 (2*(5+(j:Int) - 5)+1),(0:Int),(3:Int),.int .i64 (5+(j:Int)),(0:Int),(4:Int),.int .i64 (5+(j:Int)),(0:Int),(5:Int),.int .i64 (5+(j:Int)),(0:Int)] 144);replace hc2:=hc2 (.cells #[(2:Int),.int .i64 (2*(5+(j:Int) - 5)),(0:Int),(2:Int),.int .i64 (2*(5+(j:Int) - 5)+1),(0:Int),(3:Int),.int .i64 (5+(j:Int)),(0:Int),(4:Int),.int .i64 (5+(j:Int)),(0:Int),(5:Int),.int .i64 (5+(j:Int)),(0:Int)] 144);replace hf2:=hf2 (.cells #[(2:Int),.int .i64 (2*(5+(j:Int) - 5)),(0:Int),(2:Int),.int .i64 (2*(5+(j:Int) - 5)+1),(0:Int),(3:Int),.int .i64 (5+(j:Int)),(0:Int),(4:Int),.int .i64 (5+(j:Int)),(0:Int),(5:Int),.int .i64 (5+(j:Int)),(0:Int)] 144);replace hss:=hss (.cells #[(2:Int),.int .i64 (2*(5+(j:Int) - 5)),(0:Int),(2:Int),.int .i64 (2*(5+(j:Int) - 5)+1),(0:Int),(3:Int),.int .i64 (5+(j:Int)),(0:Int),(4:Int),.int .i64 (5+(j:Int)),(0:Int),(5:Int),.int .i64 (5+(j:Int)),(0:Int)] 144);have hs0':=hss 0 _ S0.out;have hs1':=hss 1 _ S1.out;rw[show (wo.setCell ⟨w,2,none⟩ (0:Int)).heap.size=wo.heap.size from by simp[World.setCell]] at hli
      clear hss;generalize ((wo.setCell ⟨w,2,none⟩ (0:Int)).alloc (.cells #[(2:Int),.int .i64 (2*(5+(j:Int) - 5)),(0:Int),(2:Int),.int .i64 (2*(5+(j:Int) - 5)+1),(0:Int),(3:Int),.int .i64 (5+(j:Int)),(0:Int),(4:Int),.int .i64 (5+(j:Int)),(0:Int),(5:Int),.int .i64 (5+(j:Int)),(0:Int)] 144))=W1 at hb1 hs1 hc0 hc1 hc2 hf2 hli hs0' hs1' ⊢;generalize hwos:wo.heap.size=wz at hs1 hli hsz hN ⊢;clear hs c0 c1 c2 f2 S0 S1 HBEL hwos;have HS1:=Hh hs1;clear hs1;have HLI:=Hh hli;clear hli;have HB1:=Hh hb1;clear hb1;have HS0':=Hh hs0';clear hs0';have HS1':=Hh hs1';clear hs1';have HF2:=Hh hf2;clear hf2;have HC0:=Hh hc0;clear hc0;have HC1:=Hh hc1;clear hc1;have HC2:=Hh hc2;clear hc2;go_loopw [34] (fun i wr=>∃ q:Nat,q≤5∧i=.int .i64 q∧Below W1 W1 wr∧(∀ q',q'<q→(iM j)[q']? ≠ some (k,r,0))) (fun i _=>5 - (intOf i).toNat)
      case atStart=>exact⟨0,Qi _,rfl,Below.refl _ _,by intro q hq;omega⟩
      case round =>
       obtain⟨q,hq,rfl,hbq,hnq⟩:=hrel;have HBQ:=Hh hbq;clear hbq;have HNQ:=Hh hnq;clear hnq;by_cases hlq:q<5
       · obtain⟨x0,x1,x2,hx⟩:=Cw (j:Int) q hlq;obtain⟨cx0,cx1,cx2⟩:=HLI.out q hlq x0 x1 x2 hx;have hsz1:=HS1.out;have d0:wr.cell? w=some (.int .i64 k):=(HBQ.out.cell (p:=w) (by show w.heap.size<W1.heap.size;omega)).trans HC0.out;have d1:wr.cell? ⟨w,1,none⟩=some (.int .i64 r):=(HBQ.out.cell (p:=⟨w,1,none⟩) (by show w.heap.size<W1.heap.size;omega)).trans HC1.out;have d2:wr.cell? ⟨w,2,none⟩=some (.int .i64 0):=(HBQ.out.cell (p:=⟨w,2,none⟩) (by show w.heap.size<W1.heap.size;omega)).trans HC2.out;rw[←HBQ.out.cell (p:=⟨wz,_,none⟩) (by show wz<W1.heap.size;omega)] at cx0 cx1 cx2;have hN1:w.heap.size<wr.heap.size:=by have:=HBQ.out.size;omega
         have HX:=Hh hx;clear hx;have HSZ1:=Hh hsz1;clear hsz1;have hq0:(0:Int)≤(q:Int):=om
         have hq5:(q:Int)<5:=om
         by_cases e0:k=x0
         · by_cases e1:r=x1
           · by_cases e2:(0:Int)=x2
             · subst e0 e1 e2;go_wp2_with fail
               go_ret;refine⟨?_,?_⟩
               · have hm:(k,r,(0:Int))∈iM j:=Qu HX.out;have hj01:j=0∨j=1:=om
                 rcases hj01 with rfl|rfl
                 · have hfin:eF k r n=5:=by rw[HR.out];exact if_pos hm
                   rw[hfin];rfl
                 · have hfin:eF k r n=6:=by rw[HR.out];exact (if_neg (HNO.out 0 om)).trans (if_pos hm)
                   rw[hfin];rfl
               · exact (HB1.out.trans (HBQ.out.mono (by have:=HSZ1.out;omega))).alloc om _
             · subst e0 e1;go_wp2_with fail
               go_roundw
               case rel=>exact⟨q+1,om,by go_num,HBQ.out.alloc (by have:=HBQ.out.size;omega) _,by
                intro q' hq';by_cases hqq:q'=q
                · subst hqq;rw[HX.out];intro h;cases h;exact e2 rfl
                · exact HNQ.out q' om⟩
               case measure=>simp[intOf];omega
           · subst e0;go_wp2_with fail
             go_roundw
             case rel=>exact⟨q+1,om,by go_num,HBQ.out.alloc (by have:=HBQ.out.size;omega) _,by
              intro q' hq';by_cases hqq:q'=q
              · subst hqq;rw[HX.out];intro h;cases h;exact e1 rfl
              · exact HNQ.out q' om⟩
             case measure=>simp[intOf];omega
         · go_wp2_with fail
           go_roundw
           case rel=>exact⟨q+1,om,by go_num,HBQ.out.alloc (by have:=HBQ.out.size;omega) _,by
            intro q' hq';by_cases hqq:q'=q
            · subst hqq;rw[HX.out];intro h;cases h;exact e0 rfl
            · exact HNQ.out q' om⟩
           case measure=>simp[intOf];omega
       · obtain rfl:q=5:=om
         have hnm:(k,r,(0:Int))∉iM j:=by
          intro hm;obtain⟨q,hq⟩:=List.mem_iff_getElem?.1 hm
          have:q<5:=(Qd.1 hq).1
          exact HNQ.out q this hq
         have HNM:=Hh hnm;clear hnm;go_wp2_with fail
         go_roundw
         case rel =>
          refine⟨j+1,om,by go_num,HB1.out.trans (HBQ.out.mono (by have:=HS1.out;omega)),by have:=HBQ.out.size;have:=HS1.out;omega,?_,?_,⟨0,?_⟩,?_,?_,?_,?_⟩
          · exact (HBQ.out.cell (p:=w) (by have:=HS1.out;show w.heap.size<W1.heap.size;omega)).trans HC0.out
          · exact (HBQ.out.cell (p:=⟨w,1,none⟩) (by have:=HS1.out;show w.heap.size<W1.heap.size;omega)).trans HC1.out
          · exact (HBQ.out.cell (p:=⟨w,2,none⟩) (by have:=HS1.out;show w.heap.size<W1.heap.size;omega)).trans HC2.out
          · exact (HBQ.out.frozen (p:=⟨w,2,none⟩) (by have:=HS1.out;show w.heap.size<W1.heap.size;omega)).trans HF2.out
          · exact (HBQ.out.cell (p:=⟨w.heap.size+1+p1.os.size,0,none⟩) (by have:=HS1.out;show w.heap.size+1+p1.os.size<W1.heap.size;omega)).trans HS0'.out
          · exact (HBQ.out.cell (p:=⟨w.heap.size+1+p1.os.size,1,none⟩) (by have:=HS1.out;show w.heap.size+1+p1.os.size<W1.heap.size;omega)).trans HS1'.out
          · intro i hi;by_cases hij:i=j
            · subst hij;exact HNM.out
            · exact HNO.out i om
         case measure=>simp[intOf];omega
    · obtain rfl:j=2:=om
      have HNO:=Hh hno;clear hno;have HBEL:=Hh hbel;clear hbel;go_wp2_with fail
      go_ret;refine⟨?_,HBEL.out⟩;have hfin:eF k r n=0:=by rw[HR.out];exact (if_neg (HNO.out 0 om)).trans (if_neg (HNO.out 1 om))
      rw[hfin];rfl
end
end Go.Proofs.YtoigglljnklhlaaGreatDoor
