/- Joined. -/
import Derived.Test.YtoigglljnklhlaaGreatDoorD15
import Derived.Deep.RegionHeld3
import Derived.Lib.IndexAny
set_option maxHeartbeats 8000000
set_option maxRecDepth 100000
namespace Go.Proofs.YtoigglljnklhlaaGreatDoor
open Go.RowKit
open Go.Proofs.Tryz
theorem Ux {p:Prop} (h:p:=by
 go_enter func70,ntmps70
 go_wp2
 refine wp_loop_rounds 2 ?_;rw[rounds_succ];go_wp2
 go_ret;exact⟨by simp;omega,rfl⟩):p:=h
theorem jS (lo hi n:Int) (b:Nat) (w:World) (hc:w.cell? ⟨b,0,none⟩=some (.int .i64 n)) :
 Calls prog 70 #[.int .i64 lo,.int .i64 hi,.slice (some ⟨b,0,none⟩) 1 1] w fun e w'=>e=.returned (.bool (decide (lo≤n) && decide (n≤hi)))∧w=w':=by
 by_cases h1:n<lo
 · exact Ux
 · by_cases h2:hi<n
   · exact Ux
   · go_enter func70,ntmps70
     go_wp2
     refine wp_loop_rounds 2 ?_;rw[rounds_succ];go_wp2
     rw[rounds_succ];go_wp2
     go_ret;exact⟨by simp;omega,rfl⟩
end Go.Proofs.YtoigglljnklhlaaGreatDoor
namespace Go.Proofs.YtoigglljnklhlaaGreatDoor
open Go.RowKit Go.Sort
open Go.Proofs.Tryz
theorem pH (k r:Nat) (h3:r<9):[Value.string (nm k 0),.string (nm k 1),.string (nm k 2),.string (nm k 3),.string (nm k 4),.string (nm k 5),.string (nm k 6),.string (nm k 7),.string (nm k 8),.int .i64 (klo k),.int .i64 (khi k),.func (.func (kf k)) #[] #[]][r]? = some (.string (nm k r)):=by
 have hr:r=0∨r=1∨r=2∨r=3∨r=4∨r=5∨r=6∨r=7∨r=8:=om
 rcases hr with rfl|rfl|rfl|rfl|rfl|rfl|rfl|rfl|rfl<;>rfl
theorem Na (k r:Nat) (n:Int) (w:World) (h1:1≤k) (h2:k≤10) (h3:r<9) (h4:(nm k r).toList.isEmpty=false) (h5:klo k≤n) (h6:n≤khi k) :
 Calls prog 209 #[.agg #[.int .i64 k,.int .i64 r,.int .i64 n]] w fun e w' =>
  e=.returned (.tuple #[.agg #[.string (nm k 0),.string (nm k 1),.string (nm k 2),.string (nm k 3),.string (nm k 4),.string (nm k 5),.string (nm k 6),.string (nm k 7),.string (nm k 8),.int .i64 (klo k),.int .i64 (khi k),.func (.func (kf k)) #[] #[]],.string (nm k r),.bool true])∧Below w.heap.size w w':=by
 have hf:(decide (klo k≤n) && decide (n≤khi k))=true:=by simp[h5,h6]
 have hg:=pH k r h3;have hr0:(0:Int)≤(r:Int):=om
 have hr9:(r:Int)<9:=om
 go_enter func209,ntmps209
 go_wp2_with fail
 refine (lT k _ h1 h2).mono ?_;rintro e w1 ⟨rfl,hb⟩;obtain⟨p1,rfl⟩:=aO hb;clear hb;go_wp2_with fail
 refine (jS _ _ n _ _ ?hc1).mono ?_
 case hc1=>simp[go_sem]
 rintro e w2 ⟨rfl,rfl⟩;rw[hf];go_wp2_with fail
 go_region
 all_goals go_wp2
 all_goals
  refine bodyPost_ret (v:=.tuple #[.agg #[.string (nm k 0),.string (nm k 1),.string (nm k 2),.string (nm k 3),.string (nm k 4),.string (nm k 5),.string (nm k 6),.string (nm k 7),.string (nm k 8),.int .i64 (klo k),.int .i64 (khi k),.func (.func (kf k)) #[] #[]],.string (nm k r),.bool true]) (by simp[results,results209,go_sem]) rfl ⟨rfl,?_⟩
  (repeat (first|exact Below.refl _ _|refine Below.drew ?_|(refine cD ?_ (by first|omega|(simp[go_sem];done)|(simp[go_sem];omega)) _)|(refine Below.alloc ?_ (by first|omega|(simp[go_sem];done)|(simp[go_sem];omega)) _)|(refine Below.setCell ?_ (by first|omega|(simp[go_sem];done)|(simp[go_sem];omega)) _)))
theorem By (k r n:Int) (w:World) (h:k<1∨10<k) :
 Calls prog 209 #[.agg #[.int .i64 k,.int .i64 r,.int .i64 n]] w fun e w' =>
  e=.returned (.tuple #[.agg #[.string ⟨#[]⟩,.string ⟨#[]⟩,.string ⟨#[]⟩,.string ⟨#[]⟩,.string ⟨#[]⟩,.string ⟨#[]⟩,.string ⟨#[]⟩,.string ⟨#[]⟩,.string ⟨#[]⟩,.int .i64 0,.int .i64 0,.nilFunc],.string ⟨#[]⟩,.bool false])∧Below w.heap.size w w':=by
 have H:=Hh h;clear h;go_enter func209,ntmps209
 go_wp2_with fail
 refine (Tj k _ H.out).mono ?_;rintro e w1 ⟨rfl,hb⟩;obtain⟨p1,rfl⟩:=aO hb;clear hb;go_wp2_with fail
 all_goals
  refine bodyPost_ret (v:=.tuple #[.agg #[.string ⟨#[]⟩,.string ⟨#[]⟩,.string ⟨#[]⟩,.string ⟨#[]⟩,.string ⟨#[]⟩,.string ⟨#[]⟩,.string ⟨#[]⟩,.string ⟨#[]⟩,.string ⟨#[]⟩,.int .i64 0,.int .i64 0,.nilFunc],.string ⟨#[]⟩,.bool false]) (by simp[results,results209,go_sem]) rfl ⟨rfl,?_⟩
  (repeat (first|exact Below.refl _ _|refine Below.drew ?_|(refine cD ?_ (by first|omega|(simp[go_sem];done)|(simp[go_sem];omega)) _)|(refine Below.alloc ?_ (by first|omega|(simp[go_sem];done)|(simp[go_sem];omega)) _)|(refine Below.setCell ?_ (by first|omega|(simp[go_sem];done)|(simp[go_sem];omega)) _)))
theorem Gt (k:Nat) (r n:Int) (w:World) (h1:1≤k) (h2:k≤10) (h:r<0∨9≤r) :
 Calls prog 209 #[.agg #[.int .i64 k,.int .i64 r,.int .i64 n]] w fun e w' =>
  e=.returned (.tuple #[.agg #[.string ⟨#[]⟩,.string ⟨#[]⟩,.string ⟨#[]⟩,.string ⟨#[]⟩,.string ⟨#[]⟩,.string ⟨#[]⟩,.string ⟨#[]⟩,.string ⟨#[]⟩,.string ⟨#[]⟩,.int .i64 0,.int .i64 0,.nilFunc],.string ⟨#[]⟩,.bool false])∧Below w.heap.size w w':=by
 rcases h with h|h;all_goals
  go_enter func209,ntmps209
  go_wp2_with fail
  refine (lT k _ h1 h2).mono ?_;rintro e w1 ⟨rfl,hb⟩;obtain⟨p1,rfl⟩:=aO hb;clear hb;go_wp2_with fail
  refine bodyPost_ret (v:=.tuple #[.agg #[.string ⟨#[]⟩,.string ⟨#[]⟩,.string ⟨#[]⟩,.string ⟨#[]⟩,.string ⟨#[]⟩,.string ⟨#[]⟩,.string ⟨#[]⟩,.string ⟨#[]⟩,.string ⟨#[]⟩,.int .i64 0,.int .i64 0,.nilFunc],.string ⟨#[]⟩,.bool false]) (by simp[results,results209,go_sem]) rfl ⟨rfl,?_⟩
  (repeat (first|exact Below.refl _ _|refine Below.drew ?_|(refine cD ?_ (by first|omega|(simp[go_sem];done)|(simp[go_sem];omega)) _)|(refine Below.alloc ?_ (by first|omega|(simp[go_sem];done)|(simp[go_sem];omega)) _)|(refine Below.setCell ?_ (by first|omega|(simp[go_sem];done)|(simp[go_sem];omega)) _)))
theorem Bw (k r:Nat) (n:Int) (w:World) (h1:1≤k) (h2:k≤10) (h3:r<9) (h4:(nm k r).toList.isEmpty=true) :
 Calls prog 209 #[.agg #[.int .i64 k,.int .i64 r,.int .i64 n]] w fun e w' =>
  e=.returned (.tuple #[.agg #[.string ⟨#[]⟩,.string ⟨#[]⟩,.string ⟨#[]⟩,.string ⟨#[]⟩,.string ⟨#[]⟩,.string ⟨#[]⟩,.string ⟨#[]⟩,.string ⟨#[]⟩,.string ⟨#[]⟩,.int .i64 0,.int .i64 0,.nilFunc],.string ⟨#[]⟩,.bool false])∧Below w.heap.size w w':=by
 have hg:=pH k r h3;have hr0:(0:Int)≤(r:Int):=om
 have hr9:(r:Int)<9:=om
 go_enter func209,ntmps209
 go_wp2_with fail
 refine (lT k _ h1 h2).mono ?_;rintro e w1 ⟨rfl,hb⟩;obtain⟨p1,rfl⟩:=aO hb;clear hb;go_wp2_with fail
 refine bodyPost_ret (v:=.tuple #[.agg #[.string ⟨#[]⟩,.string ⟨#[]⟩,.string ⟨#[]⟩,.string ⟨#[]⟩,.string ⟨#[]⟩,.string ⟨#[]⟩,.string ⟨#[]⟩,.string ⟨#[]⟩,.string ⟨#[]⟩,.int .i64 0,.int .i64 0,.nilFunc],.string ⟨#[]⟩,.bool false]) (by simp[results,results209,go_sem]) rfl ⟨rfl,?_⟩
 (repeat (first|exact Below.refl _ _|refine Below.drew ?_|(refine cD ?_ (by first|omega|(simp[go_sem];done)|(simp[go_sem];omega)) _)|(refine Below.alloc ?_ (by first|omega|(simp[go_sem];done)|(simp[go_sem];omega)) _)|(refine Below.setCell ?_ (by first|omega|(simp[go_sem];done)|(simp[go_sem];omega)) _)))
theorem Gu (k r:Nat) (n:Int) (w:World) (h1:1≤k) (h2:k≤10) (h3:r<9) (h4:(nm k r).toList.isEmpty=false) (h5:n<klo k∨khi k<n) :
 Calls prog 209 #[.agg #[.int .i64 k,.int .i64 r,.int .i64 n]] w fun e w' =>
  e=.returned (.tuple #[.agg #[.string ⟨#[]⟩,.string ⟨#[]⟩,.string ⟨#[]⟩,.string ⟨#[]⟩,.string ⟨#[]⟩,.string ⟨#[]⟩,.string ⟨#[]⟩,.string ⟨#[]⟩,.string ⟨#[]⟩,.int .i64 0,.int .i64 0,.nilFunc],.string ⟨#[]⟩,.bool false])∧Below w.heap.size w w':=by
 have hf:(decide (klo k≤n) && decide (n≤khi k))=false:=by simp;omega
 have hg:=pH k r h3;have hr0:(0:Int)≤(r:Int):=om
 have hr9:(r:Int)<9:=om
 clear h5;go_enter func209,ntmps209
 go_wp2_with fail
 refine (lT k _ h1 h2).mono ?_;rintro e w1 ⟨rfl,hb⟩;obtain⟨p1,rfl⟩:=aO hb;clear hb;go_wp2_with fail
 refine (jS _ _ n _ _ ?hc1).mono ?_
 case hc1=>simp[go_sem]
 rintro e w2 ⟨rfl,rfl⟩;rw[hf];go_wp2_with fail
 refine bodyPost_ret (v:=.tuple #[.agg #[.string ⟨#[]⟩,.string ⟨#[]⟩,.string ⟨#[]⟩,.string ⟨#[]⟩,.string ⟨#[]⟩,.string ⟨#[]⟩,.string ⟨#[]⟩,.string ⟨#[]⟩,.string ⟨#[]⟩,.int .i64 0,.int .i64 0,.nilFunc],.string ⟨#[]⟩,.bool false]) (by simp[results,results209,go_sem]) rfl ⟨rfl,?_⟩
 (repeat (first|exact Below.refl _ _|refine Below.drew ?_|(refine cD ?_ (by first|omega|(simp[go_sem];done)|(simp[go_sem];omega)) _)|(refine Below.alloc ?_ (by first|omega|(simp[go_sem];done)|(simp[go_sem];omega)) _)|(refine Below.setCell ?_ (by first|omega|(simp[go_sem];done)|(simp[go_sem];omega)) _)))
def aX (n:Int):ByteArray :=
 if n<0∨65535<n then ⟨#[]⟩
 else if n≤9 then ⟨#[UInt8.ofNat (48+n.toNat)]⟩
 else if 57<((cH ⟨(bL 4 n.toNat).toArray⟩++(⟨#[72]⟩:ByteArray)).data[0]?.getD 0).toNat then (⟨#[48]⟩:ByteArray)++(cH ⟨(bL 4 n.toNat).toArray⟩++(⟨#[72]⟩:ByteArray))
 else cH ⟨(bL 4 n.toNat).toArray⟩++(⟨#[72]⟩:ByteArray)
theorem gM:∀ (f u:Nat),(bL f u).length≤f
 | 0,_=>by simp[bL]
 | f+1,u=>by
   unfold bL;split
   · simp
   · have:=gM f (u/16);simp;omega
theorem sS (X:ByteArray) (h:0<X.size):X.data[0]?.getD 0=X[0]:=by
 rw[Array.getElem?_eq_getElem (by exact h)];rfl
theorem fD (n:Int) (w:World) (hT:Tabs w) :
 Calls prog 60 #[.int .i64 n] w fun e w'=>e=.returned (.string (aX n))∧Below w.heap.size w w':=by
 by_cases h0:n<0∨65535<n
 · have hf:(decide (0≤n) && decide (n≤65535))=false:=by simp;omega
   have hr:aX n=⟨#[]⟩:=by unfold aX;rw[if_pos h0]
   rw[hr];clear h0;go_enter func60,ntmps60
   go_wp2_with fail
   refine (jS _ _ n _ _ ?hc1).mono ?_
   case hc1=>simp[go_sem]
   rintro e w2 ⟨rfl,rfl⟩;rw[hf];go_wp2_with fail
   go_ret;exact⟨rfl,bl⟩
 · have hf:(decide (0≤n) && decide (n≤65535))=true:=by simp;omega
   have hf0:0≤n:=om
   obtain⟨m,rfl⟩:=Int.eq_ofNat_of_zero_le hf0;have hf1:m≤65535:=om
   by_cases h9:m≤9
   · have hr:aX m=⟨(Lib.decDigits m).toArray⟩:=by
      have:m=0∨m=1∨m=2∨m=3∨m=4∨m=5∨m=6∨m=7∨m=8∨m=9:=om
      rcases this with rfl|rfl|rfl|rfl|rfl|rfl|rfl|rfl|rfl|rfl<;>rw[Lib.decDigits]<;>rfl
     have h9i:(m:Int)≤9:=om
     rw[hr];clear h0;go_enter func60,ntmps60
     go_wp2_with fail
     refine (jS _ _ m _ _ ?hc2).mono ?_
     case hc2=>simp[go_sem]
     rintro e w2 ⟨rfl,rfl⟩;rw[hf];go_wp2_with fail
     refine (Tryz.strconv_Itoa_small m om _).mono ?_;rintro e w2 ⟨rfl,rfl⟩;go_wp2_with fail
     go_ret;exact⟨rfl,bl⟩
   · have h9i:¬ (m:Int)≤9:=om
     go_enter func60,ntmps60
     go_wp2_with fail
     refine (jS _ _ m _ _ ?hc3).mono ?_
     case hc3=>simp[go_sem]
     rintro e w2 ⟨rfl,rfl⟩;rw[hf];go_wp2_with fail
     refine (Ox m _ om hf1 (hT.below (bl))).mono ?_;rintro e w2 ⟨rfl,hb⟩;obtain⟨p1,rfl⟩:=aO hb;clear hb;go_wp2_with fail
     refine (pB _ _ ?hu).mono ?_
     case hu=>have:=gM 4 m;unfold maxLen;show (bL 4 m).toArray.size≤_;simp;omega
     rintro e w2 ⟨rfl,hb⟩;obtain⟨p2,rfl⟩:=aO hb;clear hb;have hr:aX m=if 57<((cH ⟨(bL 4 m).toArray⟩++(⟨#[72]⟩:ByteArray)).data[0]?.getD 0).toNat then (⟨#[48]⟩:ByteArray)++(cH ⟨(bL 4 m).toArray⟩++(⟨#[72]⟩:ByteArray)) else cH ⟨(bL 4 m).toArray⟩++(⟨#[72]⟩:ByteArray):=by
      unfold aX;rw[if_neg h0,if_neg om];rfl
     have hU4:(cH ⟨(bL 4 m).toArray⟩).size≤4:=by
      have:=gM 4 m
      show ((((bL 4 m).toArray.toList.map up).toArray).size≤4)
      simp;omega
     have Hr:=Hh hr;clear hr h0;generalize cH ⟨(bL 4 m).toArray⟩=U at Hr hU4 ⊢;go_wp2_with fail
     · go_ret;refine⟨?_,bl⟩;rename_i h;rw[Hr.out,if_pos (by rw[sS _ (by simp;show 0<U.size+1;omega)];omega)]
       rfl
     · go_ret;refine⟨?_,bl⟩;rename_i h;rw[Hr.out,if_neg (by rw[sS _ (by simp;show 0<U.size+1;omega)];omega)]
       rfl
def eI (n:Int):ByteArray:=if n<0 then (⟨#[45]⟩:ByteArray)++aX (-n) else (⟨#[43]⟩:ByteArray)++aX n
theorem fC (n:Int):(aX n).size≤6:=by
 unfold aX;split
 · exact Nat.zero_le _
 · split
   · show 1≤6;omega
   · have hU4:(cH ⟨(bL 4 n.toNat).toArray⟩).size≤4:=by
      have:=gM 4 n.toNat
      show ((((bL 4 n.toNat).toArray.toList.map up).toArray).size≤4)
      simp;omega
     split
     · rw[ByteArray.size_append,ByteArray.size_append];show 1+(_+1)≤6;omega
     · rw[ByteArray.size_append];show _+1≤6;omega
theorem iX (n:Int):(eI n).size≤7:=by
 unfold eI;split
 · have:=fC (-n);rw[ByteArray.size_append];show 1+_≤7;omega
 · have:=fC n;rw[ByteArray.size_append];show 1+_≤7;omega
theorem mW (n:Int) (w:World) (hT:Tabs w) (h1:-1000000≤n) (h2:n≤1000000) :
 Calls prog 270 #[.int .i64 n] w fun e w'=>e=.returned (.string (eI n))∧Below w.heap.size w w':=by
 by_cases h:n<0
 · have hr:eI n=(⟨#[45]⟩:ByteArray)++aX (-n):=by unfold eI;rw[if_pos h]
   have hl:=fC (-n);rw[hr];go_enter func270,ntmps270
   go_wp2_with fail
   refine (fD _ _ hT).mono ?_;rintro e w2 ⟨rfl,hb⟩;go_wp2_with fail
   go_ret;exact⟨rfl,hb⟩
 · have hr:eI n=(⟨#[43]⟩:ByteArray)++aX n:=by unfold eI;rw[if_neg h]
   have hl:=fC n;rw[hr];go_enter func270,ntmps270
   go_wp2_with fail
   refine (fD _ _ hT).mono ?_;rintro e w2 ⟨rfl,hb⟩;go_wp2_with fail
   go_ret;exact⟨rfl,hb⟩
def zJ (k:Nat) (reg:ByteArray) (n:Int):ByteArray :=
 if k=4 then (⟨#[40]⟩:ByteArray)++reg++(⟨#[41]⟩:ByteArray)
 else if k=5 then (⟨#[40]⟩:ByteArray)++reg++eI n++(⟨#[41]⟩:ByteArray)
 else if k=6 then (if n<0 then eI n else aX n)
 else if k=7 then (⟨#[40]⟩:ByteArray)++aX n++(⟨#[41]⟩:ByteArray)
 else if k=10 then (⟨#[36]⟩:ByteArray)++eI (n+2)
 else reg
theorem Ow (k:Nat) (reg:ByteArray) (n:Int) (w:World) (hT:Tabs w) (hk1:1≤k) (hk2:k≤10) (h1:-100000≤n) (h2:n≤100000) (hreg:reg.size≤10) :
 Calls prog (kf k) #[.string reg,.int .i64 n] w fun e w'=>e=.returned (.string (zJ k reg n))∧Below w.heap.size w w':=by
 have hk:k=1∨k=2∨k=3∨k=4∨k=5∨k=6∨k=7∨k=8∨k=9∨k=10:=om
 have hplain:Calls prog 267 #[.string reg,.int .i64 n] w fun e w'=>e=.returned (.string reg)∧Below w.heap.size w w':=by
  go_enter func267,ntmps267
  go_wp2
  go_ret;exact⟨rfl,Below.refl _ _⟩
 rcases hk with rfl|rfl|rfl|rfl|rfl|rfl|rfl|rfl|rfl|rfl
 · exact hplain
 · exact hplain
 · exact hplain
 · clear hplain hk1 hk2;show Calls prog 268 #[.string reg,.int .i64 n] w fun e w'=>e=.returned (.string ((⟨#[40]⟩:ByteArray)++reg++(⟨#[41]⟩:ByteArray)))∧Below w.heap.size w w'
   go_enter func268,ntmps268
   go_wp2
   go_ret;exact⟨rfl,Below.refl _ _⟩
 · clear hplain hk1 hk2;show Calls prog 269 #[.string reg,.int .i64 n] w fun e w'=>e=.returned (.string ((⟨#[40]⟩:ByteArray)++reg++eI n++(⟨#[41]⟩:ByteArray)))∧Below w.heap.size w w'
   have hl:=iX n;go_enter func269,ntmps269
   go_wp2_with fail
   refine (mW _ _ hT om om).mono ?_;rintro e w2 ⟨rfl,hb⟩;go_wp2_with fail
   go_ret;exact⟨rfl,hb⟩
 · clear hplain hk1 hk2;show Calls prog 271 #[.string reg,.int .i64 n] w fun e w'=>e=.returned (.string (if n<0 then eI n else aX n))∧Below w.heap.size w w'
   by_cases h:n<0
   · rw[if_pos h];go_enter func271,ntmps271
     go_wp2_with fail
     refine (mW _ _ hT om om).mono ?_;rintro e w2 ⟨rfl,hb⟩;go_wp2_with fail
     go_ret;exact⟨rfl,hb⟩
   · rw[if_neg h];go_enter func271,ntmps271
     go_wp2_with fail
     refine (fD _ _ hT).mono ?_;rintro e w2 ⟨rfl,hb⟩;go_wp2_with fail
     go_ret;exact⟨rfl,hb⟩
 · clear hplain hk1 hk2;show Calls prog 272 #[.string reg,.int .i64 n] w fun e w'=>e=.returned (.string ((⟨#[40]⟩:ByteArray)++aX n++(⟨#[41]⟩:ByteArray)))∧Below w.heap.size w w'
   have hl:=fC n;go_enter func272,ntmps272
   go_wp2_with fail
   refine (fD _ _ hT).mono ?_;rintro e w2 ⟨rfl,hb⟩;go_wp2_with fail
   go_ret;exact⟨rfl,hb⟩
 · exact hplain
 · exact hplain
 · clear hplain hk1 hk2;show Calls prog 273 #[.string reg,.int .i64 n] w fun e w'=>e=.returned (.string ((⟨#[36]⟩:ByteArray)++eI (n+2)))∧Below w.heap.size w w'
   have hl:=iX (n+2);go_enter func273,ntmps273
   go_wp2_with fail
   refine (mW _ _ hT om om).mono ?_;rintro e w2 ⟨rfl,hb⟩;go_wp2_with fail
   go_ret;exact⟨rfl,hb⟩
def bP (k r n:Int):Bool:=decide (1≤k) && decide (k≤10) && decide (0≤r) && decide (r<9) && !(nm k.toNat r.toNat).toList.isEmpty && decide (klo k.toNat≤n) && decide (n≤khi k.toNat)
def eT (k r n:Int):ByteArray:=if bP k r n then zJ k.toNat (nm k.toNat r.toNat) n else ⟨#[]⟩
theorem Hg (k:Nat) (hk1:1≤k) (hk2:k≤10):∀ args w,(callFunc (kf k) args).run prog w=.ok (.enter (kf k) args) w:=by
 have hk:k=1∨k=2∨k=3∨k=4∨k=5∨k=6∨k=7∨k=8∨k=9∨k=10:=om
 rcases hk with rfl|rfl|rfl|rfl|rfl|rfl|rfl|rfl|rfl|rfl
 · exact enters_of func267 kr rfl
 · exact enters_of func267 kr rfl
 · exact enters_of func267 kr rfl
 · exact enters_of func268 kr rfl
 · exact enters_of func269 kr rfl
 · exact enters_of func271 kr rfl
 · exact enters_of func272 kr rfl
 · exact enters_of func267 kr rfl
 · exact enters_of func267 kr rfl
 · exact enters_of func273 kr rfl
theorem Nf (k r:Nat):(nm k r).size≤10:=by
 unfold nm;split<;>decide
theorem Xs (k:Nat):-100000≤klo k:=by unfold klo;split<;>omega
theorem Xt (k:Nat):khi k≤100000:=by unfold khi;split<;>omega
theorem Vo (k r n:Int) (w:World) (h:bP k r n=false) :
 Calls prog 209 #[.agg #[.int .i64 k,.int .i64 r,.int .i64 n]] w fun e w' =>
  e=.returned (.tuple #[.agg #[.string ⟨#[]⟩,.string ⟨#[]⟩,.string ⟨#[]⟩,.string ⟨#[]⟩,.string ⟨#[]⟩,.string ⟨#[]⟩,.string ⟨#[]⟩,.string ⟨#[]⟩,.string ⟨#[]⟩,.int .i64 0,.int .i64 0,.nilFunc],.string ⟨#[]⟩,.bool false])∧Below w.heap.size w w':=by
 by_cases hk:k<1∨10<k
 · exact By k r n w hk
 · obtain⟨k,rfl⟩:=Int.eq_ofNat_of_zero_le (show 0≤k by omega);by_cases hr:r<0∨9≤r
   · exact Gt k r n w om om hr
   · obtain⟨r,rfl⟩:=Int.eq_ofNat_of_zero_le (show 0≤r by omega);by_cases hn:(nm k r).toList.isEmpty=true
     · exact Bw k r n w om om om hn
     · have hn':(nm k r).toList.isEmpty=false:=by simpa using hn
       refine Gu k r n w om om om hn' ?_;unfold bP at h;rw[Int.toNat_natCast,Int.toNat_natCast,hn',decide_eq_true (show (1:Int)≤k by omega),decide_eq_true (show (k:Int)≤10 by omega),decide_eq_true (show (0:Int)≤r by omega),decide_eq_true (show (r:Int)<9 by omega)] at h
       simp at h
       omega
theorem mO {k r n:Int} (h:bP k r n=true):∃ a b:Nat,k=a∧r=b∧1≤a∧a≤10∧b<9∧(nm a b).toList.isEmpty=false∧klo a≤n∧n≤khi a:=by
 unfold bP at h;simp only[Bool.and_eq_true,decide_eq_true_eq,Bool.not_eq_true'] at h;obtain⟨⟨⟨⟨⟨⟨h1,h2⟩,h3⟩,h4⟩,h5⟩,h6⟩,h7⟩:=h;obtain⟨a,rfl⟩:=Int.eq_ofNat_of_zero_le (show 0≤k by omega);obtain⟨b,rfl⟩:=Int.eq_ofNat_of_zero_le h3;exact⟨a,b,rfl,rfl,om,om,om,h5,h6,h7⟩
theorem pA (k r n:Int) (w:World) :
 Calls prog 237 #[.agg #[.int .i64 k,.int .i64 r,.int .i64 n]] w fun e w'=>e=.returned (.bool (bP k r n))∧Below w.heap.size w w':=by
 rcases hv:bP k r n with _|_
 · go_enter func237,ntmps237
   go_wp2_with fail
   refine (Vo k r n _ hv).mono ?_;rintro e w1 ⟨rfl,hb⟩;obtain⟨p1,rfl⟩:=aO hb;clear hb;go_wp2_with fail
   go_ret;exact⟨rfl,bl⟩
 · obtain⟨a,b,rfl,rfl,h1,h2,h3,h4,h5,h6⟩:=mO hv;go_enter func237,ntmps237
   go_wp2_with fail
   refine (Na a b n _ h1 h2 h3 h4 h5 h6).mono ?_;rintro e w1 ⟨rfl,hb⟩;obtain⟨p1,rfl⟩:=aO hb;clear hb;go_wp2_with fail
   go_ret;exact⟨rfl,bl⟩
def iM (i:Int):List (Int × Int × Int):=[(2,2*(5+i - 5),0),(2,2*(5+i - 5)+1,0),(3,5+i,0),(4,5+i,0),(5,5+i,0)]
def eF (k r n:Int):Int :=
 if bP k r n=false then 0 else if (k,r,(0:Int))∈iM 0 then 5 else if (k,r,(0:Int))∈iM 1 then 6 else 0
theorem Cw (i:Int) (j:Nat) (hj:j<5):∃ x0 x1 x2:Int,(iM i)[j]? = some (x0,x1,x2):=by
 have:j=0∨j=1∨j=2∨j=3∨j=4:=om
 rcases this with rfl|rfl|rfl|rfl|rfl<;>exact⟨_,_,_,rfl⟩
theorem Hv (i:Int) (j:Nat) (hj:j<5) (x0 x1 x2:Int) (h:(iM i)[j]? = some (x0,x1,x2)) (w:World) :
 (w.alloc (.cells #[.int .i64 2,.int .i64 (2*(5+i - 5)),.int .i64 0,.int .i64 2,.int .i64 (2*(5+i - 5)+1),.int .i64 0,.int .i64 3,.int .i64 (5+i),.int .i64 0,.int .i64 4,.int .i64 (5+i),.int .i64 0,.int .i64 5,.int .i64 (5+i),.int .i64 0] 144)).cell? ⟨w.heap.size,j*3,none⟩=some (.int .i64 x0) ∧
 (w.alloc (.cells #[.int .i64 2,.int .i64 (2*(5+i - 5)),.int .i64 0,.int .i64 2,.int .i64 (2*(5+i - 5)+1),.int .i64 0,.int .i64 3,.int .i64 (5+i),.int .i64 0,.int .i64 4,.int .i64 (5+i),.int .i64 0,.int .i64 5,.int .i64 (5+i),.int .i64 0] 144)).cell? ⟨w.heap.size,j*3+1,none⟩=some (.int .i64 x1) ∧
 (w.alloc (.cells #[.int .i64 2,.int .i64 (2*(5+i - 5)),.int .i64 0,.int .i64 2,.int .i64 (2*(5+i - 5)+1),.int .i64 0,.int .i64 3,.int .i64 (5+i),.int .i64 0,.int .i64 4,.int .i64 (5+i),.int .i64 0,.int .i64 5,.int .i64 (5+i),.int .i64 0] 144)).cell? ⟨w.heap.size,j*3+2,none⟩=some (.int .i64 x2):=by
 rw[World.cell?_alloc_at _ _ _ _ rfl,World.cell?_alloc_at _ _ _ _ rfl,World.cell?_alloc_at _ _ _ _ rfl]
 have:j=0∨j=1∨j=2∨j=3∨j=4:=om
 rcases this with rfl|rfl|rfl|rfl|rfl<;>(simp[iM] at h;obtain⟨rfl,rfl,rfl⟩:=h;exact⟨rfl,rfl,rfl⟩)
theorem Hu (k r n:Int) (w:World) :
 Calls prog 263 #[.agg #[.int .i64 k,.int .i64 r,.int .i64 n]] w fun e w'=>e=.returned (.int .i64 (eF k r n))∧Below w.heap.size w w':=by
 rcases hv:bP k r n with _|_
 · have hr:eF k r n=0:=by unfold eF;rw[if_pos hv]
   rw[hr];have HV:=Hh hv;clear hv hr;go_enter func263,ntmps263
   go_wp2_with fail
   refine (pA k r n _).mono ?_;rintro e w1 ⟨rfl,hb⟩;obtain⟨p1,rfl⟩:=aO hb;clear hb;rw[HV.out];go_wp2_with fail
   go_ret;exact⟨rfl,bl⟩
 · have hr:eF k r n=if (k,r,(0:Int))∈iM 0 then 5 else if (k,r,(0:Int))∈iM 1 then 6 else 0:=by unfold eF;rw[if_neg (by rw[hv];decide)]
   have HV:=Hh hv;clear hv;have HR:=Hh hr;clear hr;go_enter func263,ntmps263
   go_wp2_with fail
   refine (pA k r n _).mono ?_;rintro e w1 ⟨rfl,hb⟩;obtain⟨p1,rfl⟩:=aO hb;clear hb;rw[HV.out];go_wp2_with fail
   go_loopw [13] (fun i wr=>∃ j:Nat,j≤2∧i=.int .i64 j∧Below w.heap.size w wr∧w.heap.size+1+p1.os.size<wr.heap.size ∧
    wr.cell? ⟨w.heap.size,0,none⟩=some (.int .i64 k)∧wr.cell? ⟨w.heap.size,1,none⟩=some (.int .i64 r)∧(∃ m,wr.cell? ⟨w.heap.size,2,none⟩=some (.int .i64 m))∧wr.frozen? ⟨w.heap.size,2,none⟩=false ∧
    wr.cell? ⟨w.heap.size+1+p1.os.size,0,none⟩=some (.int .i64 5)∧wr.cell? ⟨w.heap.size+1+p1.os.size,1,none⟩=some (.int .i64 6)∧(∀ i:Nat,i<j→(k,r,(0:Int))∉iM i))
    (fun i _=>2 - (intOf i).toNat)
   case atStart=>exact⟨0,om,rfl,bl,by simp[go_sem],by simp[go_sem],by simp[go_sem],⟨n,by simp[go_sem]⟩,by simp[go_sem],by simp[go_sem],by simp[go_sem],by intro i hi;omega⟩
   case round =>
    obtain⟨j,hj,rfl,hbel,hsz,c0,c1,⟨m,c2⟩,f2,s0,s1,hno⟩:=hrel;by_cases hlt:j<2
    · have hs:wr.cell? ⟨w.heap.size+1+p1.os.size,j,none⟩=some (.int .i64 (5+(j:Int))):=by
       have:j=0∨j=1:=om
       rcases this with rfl|rfl
       · exact s0
       · exact s1
      have hN:w.heap.size<wr.heap.size:=om
      have HNO:=Hh hno;clear hno;have HBEL:=Hh hbel;clear hbel;have S0:=Hh s0;clear s0;have S1:=Hh s1;clear s1;go_wp2_with fail
      obtain⟨wo,rfl⟩:∃ wo:World,wo=wr:=⟨_,rfl⟩;have hb1:Below w.heap.size w ((wo.setCell ⟨w.heap.size,2,none⟩ (.int .i64 0)).alloc (.cells #[.int .i64 2,.int .i64 (2*(5+(j:Int) - 5)),.int .i64 0,.int .i64 2,.int .i64 (2*(5+(j:Int) - 5)+1),.int .i64 0,.int .i64 3,.int .i64 (5+(j:Int)),.int .i64 0,.int .i64 4,.int .i64 (5+(j:Int)),.int .i64 0,.int .i64 5,.int .i64 (5+(j:Int)),.int .i64 0] 144)) :=
       (HBEL.out.setCell (p:=⟨w.heap.size,2,none⟩) lr _).alloc (by simp[World.setCell];omega) _
      have hs1:((wo.setCell ⟨w.heap.size,2,none⟩ (.int .i64 0)).alloc (.cells #[.int .i64 2,.int .i64 (2*(5+(j:Int) - 5)),.int .i64 0,.int .i64 2,.int .i64 (2*(5+(j:Int) - 5)+1),.int .i64 0,.int .i64 3,.int .i64 (5+(j:Int)),.int .i64 0,.int .i64 4,.int .i64 (5+(j:Int)),.int .i64 0,.int .i64 5,.int .i64 (5+(j:Int)),.int .i64 0] 144)).heap.size=wo.heap.size+1:=by simp[go_sem,World.setCell]
      have hc0:∀ o,((wo.setCell ⟨w.heap.size,2,none⟩ (.int .i64 0)).alloc o).cell? ⟨w.heap.size,0,none⟩=some (.int .i64 k):=fun o=>by
       rw[World.cell?_alloc_past _ _ _ (by simp[World.setCell];omega),World.cell?_setCell_other _ _ _ _ sm];exact c0
      have hc1:∀ o,((wo.setCell ⟨w.heap.size,2,none⟩ (.int .i64 0)).alloc o).cell? ⟨w.heap.size,1,none⟩=some (.int .i64 r):=fun o=>by
       rw[World.cell?_alloc_past _ _ _ (by simp[World.setCell];omega),World.cell?_setCell_other _ _ _ _ sm];exact c1
      have hc2:∀ o,((wo.setCell ⟨w.heap.size,2,none⟩ (.int .i64 0)).alloc o).cell? ⟨w.heap.size,2,none⟩=some (.int .i64 0):=fun o=>by
       rw[World.cell?_alloc_past _ _ _ (by simp[World.setCell];omega),World.cell?_setCell_same _ _ _ c2]
      have hf2:∀ o,((wo.setCell ⟨w.heap.size,2,none⟩ (.int .i64 0)).alloc o).frozen? ⟨w.heap.size,2,none⟩=false:=fun o=>by
       rw[World.frozen?_alloc_past _ _ _ (by simp[World.setCell];omega),World.frozen?_setCell];exact f2
      have hss:∀ o q x,wo.cell? ⟨w.heap.size+1+p1.os.size,q,none⟩=some x→((wo.setCell ⟨w.heap.size,2,none⟩ (.int .i64 0)).alloc o).cell? ⟨w.heap.size+1+p1.os.size,q,none⟩=some x:=fun o q x hx=>by
       rw[World.cell?_alloc_past _ _ _ (by simp[World.setCell];omega),World.cell?_setCell_other _ _ _ _ sm];exact hx
      have hli:=fun q hq x0 x1 x2 h=>Hv (j:Int) q hq x0 x1 x2 h (wo.setCell ⟨w.heap.size,2,none⟩ (.int .i64 0));replace hc0:=hc0 (.cells #[.int .i64 2,.int .i64 (2*(5+(j:Int) - 5)),.int .i64 0,.int .i64 2,.int .i64 (2*(5+(j:Int) - 5)+1),.int .i64 0,.int .i64 3,.int .i64 (5+(j:Int)),.int .i64 0,.int .i64 4,.int .i64 (5+(j:Int)),.int .i64 0,.int .i64 5,.int .i64 (5+(j:Int)),.int .i64 0] 144);replace hc1:=hc1 (.cells #[.int .i64 2,.int .i64 (2*(5+(j:Int) - 5)),.int .i64 0,.int .i64 2,.int .i64 (2*(5+(j:Int) - 5)+1),.int .i64 0,.int .i64 3,.int .i64 (5+(j:Int)),.int .i64 0,.int .i64 4,.int .i64 (5+(j:Int)),.int .i64 0,.int .i64 5,.int .i64 (5+(j:Int)),.int .i64 0] 144);replace hc2:=hc2 (.cells #[.int .i64 2,.int .i64 (2*(5+(j:Int) - 5)),.int .i64 0,.int .i64 2,.int .i64 (2*(5+(j:Int) - 5)+1),.int .i64 0,.int .i64 3,.int .i64 (5+(j:Int)),.int .i64 0,.int .i64 4,.int .i64 (5+(j:Int)),.int .i64 0,.int .i64 5,.int .i64 (5+(j:Int)),.int .i64 0] 144);replace hf2:=hf2 (.cells #[.int .i64 2,.int .i64 (2*(5+(j:Int) - 5)),.int .i64 0,.int .i64 2,.int .i64 (2*(5+(j:Int) - 5)+1),.int .i64 0,.int .i64 3,.int .i64 (5+(j:Int)),.int .i64 0,.int .i64 4,.int .i64 (5+(j:Int)),.int .i64 0,.int .i64 5,.int .i64 (5+(j:Int)),.int .i64 0] 144);replace hss:=hss (.cells #[.int .i64 2,.int .i64 (2*(5+(j:Int) - 5)),.int .i64 0,.int .i64 2,.int .i64 (2*(5+(j:Int) - 5)+1),.int .i64 0,.int .i64 3,.int .i64 (5+(j:Int)),.int .i64 0,.int .i64 4,.int .i64 (5+(j:Int)),.int .i64 0,.int .i64 5,.int .i64 (5+(j:Int)),.int .i64 0] 144);have hs0':=hss 0 _ S0.out;have hs1':=hss 1 _ S1.out;rw[show (wo.setCell ⟨w.heap.size,2,none⟩ (.int .i64 0)).heap.size=wo.heap.size from by simp[World.setCell]] at hli
      clear hss;generalize ((wo.setCell ⟨w.heap.size,2,none⟩ (.int .i64 0)).alloc (.cells #[.int .i64 2,.int .i64 (2*(5+(j:Int) - 5)),.int .i64 0,.int .i64 2,.int .i64 (2*(5+(j:Int) - 5)+1),.int .i64 0,.int .i64 3,.int .i64 (5+(j:Int)),.int .i64 0,.int .i64 4,.int .i64 (5+(j:Int)),.int .i64 0,.int .i64 5,.int .i64 (5+(j:Int)),.int .i64 0] 144))=W1 at hb1 hs1 hc0 hc1 hc2 hf2 hli hs0' hs1' ⊢;generalize hwos:wo.heap.size=wz at hs1 hli hsz hN ⊢;clear hs c0 c1 c2 f2 S0 S1 HBEL hwos;have HS1:=Hh hs1;clear hs1;have HLI:=Hh hli;clear hli;have HB1:=Hh hb1;clear hb1;have HS0':=Hh hs0';clear hs0';have HS1':=Hh hs1';clear hs1';have HF2:=Hh hf2;clear hf2;have HC0:=Hh hc0;clear hc0;have HC1:=Hh hc1;clear hc1;have HC2:=Hh hc2;clear hc2;go_loopw [34] (fun i wr=>∃ q:Nat,q≤5∧i=.int .i64 q∧Below W1.heap.size W1 wr∧(∀ q',q'<q→(iM j)[q']? ≠ some (k,r,0))) (fun i _=>5 - (intOf i).toNat)
      case atStart=>exact⟨0,Nat.zero_le _,rfl,Below.refl _ _,by intro q hq;omega⟩
      case round =>
       obtain⟨q,hq,rfl,hbq,hnq⟩:=hrel;have HBQ:=Hh hbq;clear hbq;have HNQ:=Hh hnq;clear hnq;by_cases hlq:q<5
       · obtain⟨x0,x1,x2,hx⟩:=Cw (j:Int) q hlq;obtain⟨cx0,cx1,cx2⟩:=HLI.out q hlq x0 x1 x2 hx;have hsz1:=HS1.out;have d0:wr.cell? ⟨w.heap.size,0,none⟩=some (.int .i64 k):=(HBQ.out.cell (p:=⟨w.heap.size,0,none⟩) (by show w.heap.size<W1.heap.size;omega)).trans HC0.out;have d1:wr.cell? ⟨w.heap.size,1,none⟩=some (.int .i64 r):=(HBQ.out.cell (p:=⟨w.heap.size,1,none⟩) (by show w.heap.size<W1.heap.size;omega)).trans HC1.out;have d2:wr.cell? ⟨w.heap.size,2,none⟩=some (.int .i64 0):=(HBQ.out.cell (p:=⟨w.heap.size,2,none⟩) (by show w.heap.size<W1.heap.size;omega)).trans HC2.out;rw[←HBQ.out.cell (p:=⟨wz,_,none⟩) (by show wz<W1.heap.size;omega)] at cx0 cx1 cx2;have hN1:w.heap.size<wr.heap.size:=by have:=HBQ.out.size;omega
         have HX:=Hh hx;clear hx;have HSZ1:=Hh hsz1;clear hsz1;have hq0:(0:Int)≤(q:Int):=om
         have hq5:(q:Int)<5:=om
         by_cases e0:k=x0
         · by_cases e1:r=x1
           · by_cases e2:(0:Int)=x2
             · subst e0 e1 e2;go_wp2_with fail
               go_ret;refine⟨?_,?_⟩
               · have hm:(k,r,(0:Int))∈iM j:=List.mem_of_getElem? HX.out;have hj01:j=0∨j=1:=om
                 rcases hj01 with rfl|rfl
                 · have hfin:eF k r n=5:=by rw[HR.out];exact if_pos hm
                   rw[hfin];rfl
                 · have hfin:eF k r n=6:=by rw[HR.out];exact (if_neg (HNO.out 0 om)).trans (if_pos hm)
                   rw[hfin];rfl
               · exact (HB1.out.trans (HBQ.out.mono (by have:=HSZ1.out;omega))).alloc om _
             · subst e0 e1;go_wp2_with fail
               go_roundw
               case rel=>exact⟨q+1,om,by go_num,HBQ.out.alloc (by have:=HBQ.out.size;omega) _,by
                intro q' hq';by_cases hqq:q'=q
                · subst hqq;rw[HX.out];intro h;cases h;exact e2 rfl
                · exact HNQ.out q' om⟩
               case measure=>simp[intOf];omega
           · subst e0;go_wp2_with fail
             go_roundw
             case rel=>exact⟨q+1,om,by go_num,HBQ.out.alloc (by have:=HBQ.out.size;omega) _,by
              intro q' hq';by_cases hqq:q'=q
              · subst hqq;rw[HX.out];intro h;cases h;exact e1 rfl
              · exact HNQ.out q' om⟩
             case measure=>simp[intOf];omega
         · go_wp2_with fail
           go_roundw
           case rel=>exact⟨q+1,om,by go_num,HBQ.out.alloc (by have:=HBQ.out.size;omega) _,by
            intro q' hq';by_cases hqq:q'=q
            · subst hqq;rw[HX.out];intro h;cases h;exact e0 rfl
            · exact HNQ.out q' om⟩
           case measure=>simp[intOf];omega
       · obtain rfl:q=5:=om
         have hnm:(k,r,(0:Int))∉iM j:=by
          intro hm;obtain⟨q,hq⟩:=List.mem_iff_getElem?.1 hm
          have:q<5:=(List.getElem?_eq_some_iff.1 hq).1
          exact HNQ.out q this hq
         have HNM:=Hh hnm;clear hnm;go_wp2_with fail
         go_roundw
         case rel =>
          refine⟨j+1,om,by go_num,HB1.out.trans (HBQ.out.mono (by have:=HS1.out;omega)),by have:=HBQ.out.size;have:=HS1.out;omega,?_,?_,⟨0,?_⟩,?_,?_,?_,?_⟩
          · exact (HBQ.out.cell (p:=⟨w.heap.size,0,none⟩) (by have:=HS1.out;show w.heap.size<W1.heap.size;omega)).trans HC0.out
          · exact (HBQ.out.cell (p:=⟨w.heap.size,1,none⟩) (by have:=HS1.out;show w.heap.size<W1.heap.size;omega)).trans HC1.out
          · exact (HBQ.out.cell (p:=⟨w.heap.size,2,none⟩) (by have:=HS1.out;show w.heap.size<W1.heap.size;omega)).trans HC2.out
          · exact (HBQ.out.frozen (p:=⟨w.heap.size,2,none⟩) (by have:=HS1.out;show w.heap.size<W1.heap.size;omega)).trans HF2.out
          · exact (HBQ.out.cell (p:=⟨w.heap.size+1+p1.os.size,0,none⟩) (by have:=HS1.out;show w.heap.size+1+p1.os.size<W1.heap.size;omega)).trans HS0'.out
          · exact (HBQ.out.cell (p:=⟨w.heap.size+1+p1.os.size,1,none⟩) (by have:=HS1.out;show w.heap.size+1+p1.os.size<W1.heap.size;omega)).trans HS1'.out
          · intro i hi;by_cases hij:i=j
            · subst hij;exact HNM.out
            · exact HNO.out i om
         case measure=>simp[intOf];omega
    · obtain rfl:j=2:=om
      have HNO:=Hh hno;clear hno;have HBEL:=Hh hbel;clear hbel;go_wp2_with fail
      go_ret;refine⟨?_,HBEL.out⟩;have hfin:eF k r n=0:=by rw[HR.out];exact (if_neg (HNO.out 0 om)).trans (if_neg (HNO.out 1 om))
      rw[hfin];rfl
abbrev eU (m:List UInt8) (v:Value):Value:=.agg #[.string ⟨m.toArray⟩,v]
theorem uM (m1 m2:List UInt8) (v1 v2:Value) (l1 l2:List Op3) (w:World) (h1:Row w v1 l1.length (opc l1)) (h2:Row w v2 l2.length (opc l2)) (hl1:l1.length≤1000000) (hl2:l2.length≤1000000) :
 Calls prog 241 #[eU m1 v1,eU m2 v2] w fun e w'=>e=.returned (.bool (decide (m1=m2∧l1=l2)))∧Below w.heap.size w w':=by
 obtain⟨b,hb⟩:∃ b,(m1 == m2)=b:=⟨_,rfl⟩;have H1:=Hh h1;have H2:=Hh h2;obtain⟨a1,c1,rfl,_,_⟩:=h1;obtain⟨a2,c2,rfl,_,_⟩:=h2;cases b with
 | false =>
   have hr:decide (m1=m2∧l1=l2)=false:=decide_eq_false (fun h=>by rw[h.1] at hb;simp at hb);rw[hr];clear hr;go_enter func241,ntmps241
   go_wp2_with fail
   go_ret;exact⟨rfl,bl⟩
 | true =>
   have hr:decide (m1=m2∧l1=l2)=decide (l1=l2):=by
    have:m1=m2:=by simpa using hb
    simp[this]
   rw[hr];clear hr;go_enter func241,ntmps241
   go_wp2_with fail
   refine (qG _ _ l1 l2 _ (H1.out.below (bl)) (H2.out.below (bl)) hl1 hl2).mono ?_;rintro e w1 ⟨rfl,hb1⟩;obtain⟨p1,rfl⟩:=aO hb1;clear hb1;go_wp2_with fail
   go_ret;exact⟨rfl,bl⟩
theorem Dt (o:Op3) (w:World):Calls prog 236 #[.agg #[.int .i64 o.1,.int .i64 o.2.1,.int .i64 o.2.2]] w fun e w'=>e=.returned (.bool (!bP o.1 o.2.1 o.2.2))∧Below w.heap.size w w':=by
 obtain⟨k,r,n⟩:=o;go_enter func236,ntmps236
 go_wp2_with fail
 refine (pA k r n _).mono ?_;rintro e w1 ⟨rfl,hb1⟩;obtain⟨p1,rfl⟩:=aO hb1;clear hb1;go_wp2_with fail
 go_ret;exact⟨rfl,bl⟩
def bW:List Op3→List Nat
 | []=>[0,1,2]
 | o::l=>if eF o.1 o.2.1 0=5 then [3,5] else if eF o.1 o.2.1 0=6 then [4,6] else bW l
def pgc (l:List Nat):List Value:=l.map fun p:Nat=>Value.int .i64 (p:Int)
theorem yH {l:List Op3} {j:Nat} {o:Op3} (h:l[j]? = some o) (h5:eF o.1 o.2.1 0≠5) (h6:eF o.1 o.2.1 0≠6):bW (l.drop j)=bW (l.drop (j+1)):=by
 obtain⟨hj,he⟩:=List.getElem?_eq_some_iff.1 h;rw[List.drop_eq_getElem_cons hj,he];show (if _ then _ else _)=_
 rw[if_neg h5,if_neg h6]
theorem yI {l:List Op3} {j:Nat} {o:Op3} (h:l[j]? = some o) (h5:eF o.1 o.2.1 0=5):bW (l.drop j)=[3,5]:=by
 obtain⟨hj,he⟩:=List.getElem?_eq_some_iff.1 h;rw[List.drop_eq_getElem_cons hj,he];exact if_pos h5
theorem Bq {l:List Op3} {j:Nat} {o:Op3} (h:l[j]? = some o) (h6:eF o.1 o.2.1 0=6):bW (l.drop j)=[4,6]:=by
 obtain⟨hj,he⟩:=List.getElem?_eq_some_iff.1 h;rw[List.drop_eq_getElem_cons hj,he];show (if _ then _ else _)=_
 rw[if_neg (by rw[h6];decide),if_pos h6]
theorem mD (w:World) (xs:List Value) (T:TypeId):Row (w.alloc (.cells xs.toArray T)) (.slice (some ⟨w.heap.size,0,none⟩) xs.length xs.length) xs.length xs:=by
 refine⟨_,_,rfl,Nat.le_refl _,fun _=>⟨w.heap.size,0,rfl,by rw[World.size_alloc];omega,fun j hj=>?_⟩⟩
 rw[Nat.zero_add,aC (aF w _)];simp
theorem Gp (m:List UInt8) (v:Value) (l:List Op3) (w:World) (hr:Row w v l.length (opc l)) (hl:l.length≤1000) :
 Calls prog 240 #[eU m v] w fun e w'=>∃ a c,e=.returned (.slice a (bW l).length c)∧Row w' (.slice a (bW l).length c) (bW l).length (pgc (bW l))∧Below w.heap.size w w':=by
 have HR:=Hh hr;obtain⟨a,c,rfl,_,_⟩:=hr;go_enter func240,ntmps240
 go_wp2_with fail
 go_loopw [8] (fun i wr=>∃ j:Nat,j≤l.length∧i=.int .i64 j∧Below w.heap.size w wr∧Hid (bW l=bW (l.drop j))) (fun i _=>l.length - (intOf i).toNat)
 case atStart=>exact⟨0,Nat.zero_le _,rfl,bl,Hh rfl⟩
 case round =>
  obtain⟨j,hj,rfl,hbel,HP⟩:=hrel;have HB:=Hh hbel;clear hbel;by_cases hlt:j<l.length
  · obtain⟨o,ho⟩:∃ o,l[j]? = some o:=⟨_,List.getElem?_eq_getElem hlt⟩;have hrw:=(HR.out.below HB.out).op;obtain⟨a',c',hv,_,hc⟩:=hrw;cases hv
    obtain⟨g,off,rfl,hg,hc⟩:=hc (by rintro rfl;exact absurd hlt (Nat.not_lt_zero _))
    obtain⟨k0,k1,k2⟩:=hc j o ho;clear hc;have hi0:(0:Int)≤(j:Int):=om
    have hi1:(j:Int)<(l.length:Int):=om
    have hidx:=fun W=>Hu o.1 o.2.1 0 W;have hs5:=yI ho;have hs6:=Bq ho;have hst:=yH ho;generalize eF o.1 o.2.1 0=x at *;have HI:=Hh hidx;clear hidx;have HO:=Hh ho;clear ho;rcases Decidable.em (x=5) with rfl|h5
    · have hp:=HP.out.trans (hs5 rfl);have HP2:=Hh hp;clear hp hs5 hs6 hst;go_wp2_with fail
      refine (HI.out _).mono ?_;rintro e w2 ⟨rfl,hb2⟩;have hle:=HB.out.size;have HB3:=Hh (HB.out.trans (aK hb2 |>.mono hle));clear hb2;go_wp2_with fail
      go_ret;refine⟨some ⟨w2.heap.size,0,none⟩,2,?_,?_,HB3.out.alloc HB3.out.size _⟩
      · rw[HP2.out];rfl
      · rw[HP2.out];exact mD w2 (pgc [3,5]) _
    · rcases Decidable.em (x=6) with rfl|h6
      · have hp:=HP.out.trans (hs6 rfl);have HP2:=Hh hp;clear hp hs5 hs6 hst;go_wp2_with fail
        refine (HI.out _).mono ?_;rintro e w2 ⟨rfl,hb2⟩;have hle:=HB.out.size;have HB3:=Hh (HB.out.trans (aK hb2 |>.mono hle));clear hb2;go_wp2_with fail
        go_ret;refine⟨some ⟨w2.heap.size,0,none⟩,2,?_,?_,HB3.out.alloc HB3.out.size _⟩
        · rw[HP2.out];rfl
        · rw[HP2.out];exact mD w2 (pgc [4,6]) _
      · have hp:=HP.out.trans (hst h5 h6);have HP2:=Hh hp;clear hp hs5 hs6 hst;have e5:(x == 5)=false:=beq_eq_false_iff_ne.2 h5;have e6:(x == 6)=false:=beq_eq_false_iff_ne.2 h6;go_wp2_with fail
        refine (HI.out _).mono ?_;rintro e w2 ⟨rfl,hb2⟩;have hle:=HB.out.size;have HB3:=Hh (HB.out.trans (aK hb2 |>.mono hle));clear hb2;go_wp2_with fail
        go_roundw
        case rel=>exact⟨j+1,om,by go_num,HB3.out,HP2⟩
        case measure=>simp[intOf];omega
  · obtain rfl:j=l.length:=om
    have hp:=HP.out;rw[List.drop_length] at hp;have HP2:=Hh hp;clear hp;go_wp2_with fail
    go_ret;refine⟨some ⟨wr.heap.size,0,none⟩,3,?_,?_,HB.out.alloc HB.out.size _⟩
    · rw[HP2.out];rfl
    · rw[HP2.out];exact mD wr (pgc [0,1,2]) _
def z3 (o:Op3):Op3:=(o.1,o.2.1,0)
theorem uP (m:List UInt8) (v:Value) (l:List Op3) (w:World) (hr:Row w v l.length (opc l)) (hl:l.length≤1000) (hm:m.length≤1000) :
 Calls prog 242 #[eU m v] w fun e w'=>∃ v',e=.returned (eU m v')∧WRow w' w.heap.size v' l.length (opc (l.map z3))∧Below w.heap.size w w':=by
 have hms:(⟨m.toArray⟩:ByteArray).size≤maxLen:=by show m.toArray.size≤maxLen;rw[List.size_toArray];unfold maxLen;omega
 have HR:=Hh hr;have HM:=Hh hms;clear hms;obtain⟨a,c,rfl,_,_⟩:=hr;go_enter func242,ntmps242
 go_wp2_with fail
 obtain⟨W,hW⟩:∃ W,((w.alloc (.cells #[.string ⟨m.toArray⟩,.slice a l.length c] 53)).alloc (.cells #[.string ⟨#[]⟩,.slice none 0 0] 53))=W:=⟨_,rfl⟩;have hbW:Below w.heap.size w W:=by rw[←hW];exact (br.alloc lr _).alloc sm _
 have hsz:W.heap.size=w.heap.size+1+1:=by rw[←hW];simp
 have h0:W.heap[w.heap.size]? = some (.cells #[.string ⟨m.toArray⟩,.slice a l.length c] 53 (0,0)):=by rw[←hW];exact aE (aF _ _)
 have h1:W.heap[w.heap.size+1]? = some (.cells #[.string ⟨#[]⟩,.slice none 0 0] 53 (0,0)):=by rw[←hW];have:=aF (w.alloc (.cells #[.string ⟨m.toArray⟩,.slice a l.length c] 53)) (.cells #[.string ⟨#[]⟩,.slice none 0 0] 53);rwa [World.size_alloc] at this
 rw[hW];clear hW;refine (lF ⟨m.toArray⟩ _ l _ HM.out (HR.out.below hbW) om).mono ?_;rintro e W1 ⟨v1,rfl,hown,hb1⟩;obtain⟨a1,c1,rfl⟩:=aI hown;have hsz1:W.heap.size≤W1.heap.size:=hb1.size;have hl0:w.heap.size<W1.heap.size:=om
 have hl1:w.heap.size+1<W1.heap.size:=om
 have h01:=aB h0 hb1 om;have h11:=aB h1 hb1 om;obtain⟨t0,t1,s0,s1⟩:=aL h01;obtain⟨r0,r1,q0,q1⟩:=aL h11;have hbW1:Below w.heap.size w W1:=hbW.trans (hb1.mono hbW.size);have HROW:=Hh ((WRow.of_owns hown).mono (b':=w.heap.size+1+1) om);have HB1:=Hh hbW1;have H11:=Hh h11;have hgo:l≠[]→∃ g o,a1=some ⟨g,o,none⟩∧w.heap.size+1+1≤g∧g<W1.heap.size:=by
  intro hne;obtain⟨_,_,he,_,hh⟩:=(HROW.out).op;cases he
  obtain⟨g,o,e,h2,h3,_⟩:=hh hne;exact⟨g,o,e,h2,h3⟩
 have HGO:=Hh hgo;clear hown hb1 h01 h11 hbW1 hbW h0 h1 hsz hsz1 hgo;go_wp2_with fail
 go_loopw [16] (fun i wr=>∃ j:Nat,j≤l.length∧i=.int .i64 j∧Below w.heap.size w wr∧W1.heap.size<wr.heap.size∧Hid (WRow wr (w.heap.size+1+1) (.slice a1 l.length c1) l.length (opc (lkL z3 l j))∧wr.heap[W1.heap.size]? = some (.cells #[.string ⟨m.toArray⟩,.slice a1 l.length c1] 53 (0,0))∧wr.heap[w.heap.size+1]? = some (.cells #[.string ⟨#[]⟩,.slice none 0 0] 53 (0,0)))) (fun i _=>l.length - (intOf i).toNat)
 case atStart=>exact⟨0,Nat.zero_le _,rfl,HB1.out.alloc om _,by simp,Hh ⟨HROW.out.below (br.alloc lr _),aF _ _,aE H11.out⟩⟩
 case round =>
  obtain⟨j,hj,rfl,hbel,hszr,HV⟩:=hrel;have HB:=Hh hbel;clear hbel;obtain⟨z0,z1,y0,y1⟩:=aL HV.out.2.1;obtain⟨r0,r1,q0,q1⟩:=aL HV.out.2.2;by_cases hlt:j<l.length
  · obtain⟨g,o,rfl,hg1,hg2⟩:=HGO.out (by rintro rfl;exact absurd hlt (Nat.not_lt_zero _))
    obtain⟨x,hx⟩:∃ x,l[j]? = some x:=⟨_,List.getElem?_eq_getElem hlt⟩;have hlk:=nF (f:=z3) hx;have hset:=kG (f:=z3) hx (y:=(x.1,x.2.1,0)) rfl;have hrow:=HV.out.1;have hlen:=bY z3 l j;rw[←hlen] at hrow;have hsetN:=WRow.setN (m:=0) hrow hlk;rw[hset,hlen] at hsetN;obtain⟨_,_,he,_,hh⟩:=hrow.op;cases he
    obtain⟨g',o',he,_,hg3,hh⟩:=hh (by intro e;rw[e] at hlen;simp at hlen;omega);cases he
    obtain⟨k0,k1,k2,f0,f1,f2⟩:=hh j x hlk;have hi0:(0:Int)≤(j:Int):=om
    have hi1:(j:Int)<(l.length:Int):=om
    have HS:=Hh hsetN;have HX:=Hh hx;clear hsetN hrow hh hset hlk hx HROW;go_wp2_with fail
    go_roundw
    case rel =>
     exact⟨j+1,om,by go_num,HB.out.setCell (p:=⟨g,o+j*3+2,none⟩) (by show w.heap.size≤g;omega) _,by rw[setCell_size];exact hszr,Hh ⟨HS.out,aD HV.out.2.1 om,aD HV.out.2.2 om⟩⟩
    case measure=>simp[intOf];omega
  · obtain rfl:j=l.length:=om
    have hrow:=HV.out.1;rw[show lkL z3 l l.length=l.map z3 by unfold lkL;simp] at hrow
    have HROW2:=Hh hrow;clear hrow;have hlw:w.heap.size+1<wr.heap.size:=om
    go_wp2_with fail
    refine bodyPost_ret (v:=.agg #[.string ⟨m.toArray⟩,.slice a1 l.length c1]) (by simp[results,results242,go_sem,r0,r1]) rfl ⟨_,rfl,?_,(HB.out.setCell (p:=⟨w.heap.size+1,0,none⟩) (by show w.heap.size≤w.heap.size+1;omega) _).setCell (p:=⟨w.heap.size+1,1,none⟩) (by show w.heap.size≤w.heap.size+1;omega) _⟩;exact ((HROW2.out.kb ((Kb.refl (w.heap.size+1) wr).setCell 0 _) om).kb ((Kb.refl (w.heap.size+1) _).setCell 1 _) om).mono om
theorem Jo {a b:List Op3}:decide (a.map z3=b.map z3)=decide (kB a=kB b):=by
 rw[decide_eq_decide];have hinj:∀ (x y:List Op3),x.map z3=y.map z3↔x.map (fun o=>(o.1,o.2.1))=y.map (fun o=>(o.1,o.2.1)):=by
  intro x;induction x with
  | nil=>intro y;cases y<;>simp
  | cons p x ih =>
    intro y;cases y with
    | nil=>simp
    | cons q y=>simp[z3,ih y,Prod.ext_iff]
 exact hinj a b
theorem mX (E:Ent) (ve:Value) (m:List UInt8) (v:Value) (l:List Op3) (w:World) (he:Row w ve E.args.length (opc E.args)) (hr:Row w v l.length (opc l)) (hel:E.args.length≤1000) (hem:E.mn.length≤1000) (hl:l.length≤1000) (hm:m.length≤1000) :
 Calls prog 202 #[cP E ve,eU m v] w fun e w'=>e=.returned (.bool (cT E (m,l)))∧Below w.heap.size w w':=by
 obtain⟨page,op,mn,args,ex,al⟩:=E;dsimp only at he hel hem;have hR:cT ⟨page,op,mn,args,ex,al⟩ (m,l)=decide (mn=m∧args.map z3=l.map z3):=by
  unfold cT;dsimp only;rw[←Jo];by_cases h:mn=m<;>simp[h]
 rw[hR];clear hR;have hA:=fun X (hb:Below w.heap.size w X)=>uP mn ve args X (he.below hb) hel hem;have hB:=fun X (hb:Below w.heap.size w X)=>uP m v l X (hr.below hb) hl hm;have hS:=fun X v1 v2 (h1:Row X v1 args.length (opc (args.map z3))) (h2:Row X v2 l.length (opc (l.map z3)))=>uM mn m v1 v2 (args.map z3) (l.map z3) X (by rw[List.length_map];exact h1) (by rw[List.length_map];exact h2) (by rw[List.length_map];omega) (by rw[List.length_map];omega);obtain⟨R,hR⟩:∃ R,decide (mn=m∧args.map z3=l.map z3)=R:=⟨_,rfl⟩;rw[hR] at hS ⊢;clear hR;have HA:=Hh hA;clear hA;have HB:=Hh hB;clear hB;have HS:=Hh hS;clear hS;obtain⟨a,c,rfl,_,_⟩:=hr;obtain⟨ae,ce,rfl,_,_⟩:=he;show Calls prog 202 #[.agg #[.int .i64 page,.int .u8 op,.string ⟨mn.toArray⟩,.slice ae args.length ce,.string ⟨ex.toArray⟩,.bool al],.agg #[.string ⟨m.toArray⟩,.slice a l.length c]] w _
 go_enter func202,ntmps202
 go_wp2_with fail
 obtain⟨W,hW⟩:∃ W,((w.alloc (.cells #[.int .i64 page,.int .u8 op,.string ⟨mn.toArray⟩,.slice ae args.length ce,.string ⟨ex.toArray⟩,.bool al] 211)).alloc (.cells #[.string ⟨m.toArray⟩,.slice a l.length c] 53))=W:=⟨_,rfl⟩;have hbW:Below w.heap.size w W:=by rw[←hW];exact (br.alloc lr _).alloc sm _
 have hsz:W.heap.size=w.heap.size+1+1:=by rw[←hW];simp
 have h0:W.heap[w.heap.size]? = some (.cells #[.int .i64 page,.int .u8 op,.string ⟨mn.toArray⟩,.slice ae args.length ce,.string ⟨ex.toArray⟩,.bool al] 211 (0,0)):=by rw[←hW];exact aE (aF _ _)
 have h1:W.heap[w.heap.size+1]? = some (.cells #[.string ⟨m.toArray⟩,.slice a l.length c] 53 (0,0)):=by rw[←hW];have:=aF (w.alloc (.cells #[.int .i64 page,.int .u8 op,.string ⟨mn.toArray⟩,.slice ae args.length ce,.string ⟨ex.toArray⟩,.bool al] 211)) (.cells #[.string ⟨m.toArray⟩,.slice a l.length c] 53);rwa [World.size_alloc] at this
 rw[hW];clear hW;obtain⟨⟨_,_,t2,t3,_,_⟩,_⟩:=aN h0;obtain⟨r0,r1,_,_⟩:=aL h1;have hl0:w.heap.size<W.heap.size:=om
 have hl1:w.heap.size+1<W.heap.size:=om
 have HSZ:=Hh hsz;clear hsz h0 h1;have hK:∀ X,Below W.heap.size W X→X.cell? ⟨w.heap.size,2,none⟩=some (.string ⟨mn.toArray⟩)∧X.cell? ⟨w.heap.size,3,none⟩=some (.slice ae args.length ce)∧X.cell? ⟨w.heap.size+1,0,none⟩=some (.string ⟨m.toArray⟩)∧X.cell? ⟨w.heap.size+1,1,none⟩=some (.slice a l.length c):=fun X hb =>
  ⟨(hb.cell (p:=⟨w.heap.size,2,none⟩) hl0).trans t2,(hb.cell (p:=⟨w.heap.size,3,none⟩) hl0).trans t3,(hb.cell (p:=⟨w.heap.size+1,0,none⟩) hl1).trans r0,(hb.cell (p:=⟨w.heap.size+1,1,none⟩) hl1).trans r1⟩
 have HBW:=Hh hbW;clear hbW;have hd:Below W.heap.size W W.drew:=bl;have hd2:Below w.heap.size w W.drew:=HBW.out.trans (hd.mono HBW.out.size);go_region_held3 (fun w'=>w'.cell? ⟨w.heap.size,2,none⟩=some (.string ⟨mn.toArray⟩)∧w'.cell? ⟨w.heap.size,3,none⟩=some (.slice ae args.length ce)∧w'.cell? ⟨w.heap.size+1,0,none⟩=some (.string ⟨m.toArray⟩)∧w'.cell? ⟨w.heap.size+1,1,none⟩=some (.slice a l.length c)) (first|exact⟨t2,t3,r0,r1⟩|exact K4|exact K5|exact K6) (first|((with_reducible refine (HA.out _ hd2).mono ?_);rintro e w4 ⟨v4,rfl,ho4,hb4⟩;have hbw4:Below W.heap.size W w4:=hd.trans hb4;have K4:=hK w4 hbw4)|((with_reducible refine (HB.out _ (HBW.out.trans (hbw4.mono HBW.out.size))).mono ?_);rintro e w5 ⟨v5,rfl,ho5,hb5⟩;have hbw5:Below W.heap.size W w5:=hbw4.trans (hb5.mono hbw4.size);have K5:=hK w5 hbw5)|((with_reducible refine (HS.out _ _ _ (ho4.below hb5).row ho5.row).mono ?_);rintro e w6 ⟨rfl,hb6⟩;have hbw6:Below W.heap.size W w6:=hbw5.trans (hb6.mono hbw5.size);have K6:=hK w6 hbw6))
 have HB6:=Hh (HBW.out.trans (hbw6.mono HBW.out.size));clear hd hd2 hbw4 hbw5 hbw6 hb4 hb5 hb6 ho4 ho5 K4 K5 K6 hK;go_wp2_with fail
 go_ret;exact⟨rfl,HB6.out⟩
theorem sA (p:Nat→Bool):∀ (n k:Nat),k<n→p k=true→(∀ j,k<j→j<n→p j=false)→(List.range n).reverse.find? p=some k
 | 0,k,h,_,_=>absurd h (Nat.not_lt_zero _)
 | n+1,k,h,hp,hno=>by
   rw[List.range_succ,List.reverse_append];show (n::(List.range n).reverse).find? p=_
   rw[List.find?_cons];rcases Nat.lt_or_ge k n with hk|hk
   · rw[hno n hk om];exact sA p n k hk hp fun j h1 h2=>hno j h1 om
   · obtain rfl:k=n:=om
     rw[hp]
theorem Bk (p:Nat→Bool) (n:Nat) (hno:∀ j,j<n→p j=false):(List.range n).reverse.find? p=none:=by
 rw[List.find?_eq_none];intro x hx;rw[hno x (by simpa using hx)];decide
def dK (ks:List Int) (l:List Op3):Int:=match kR ks l with|some k=>(k:Int)|none=>-1
theorem zX (ks:List Int) (v:Value) (x:Int) (w:World) (hr:Row w v ks.length (ks.map fun k=>Value.int .i64 k)) (hne:ks≠[]) (hl:ks.length≤1000) :
 Calls prog 150 #[v,.int .i64 x] w fun e w'=>e=.returned (.bool (decide (x∈ks)))∧w'=w:=by
 obtain⟨a,cap,rfl,_,hc⟩:=hr;obtain⟨g,o,rfl,hg,hcc⟩:=hc (by simpa using hne);refine (Tryz.slices_Contains_int g o ks.length cap ks x w lr om (fun j hj=>(hcc j (by rw[List.length_map];exact hj)).trans ?_)).mono ?_
 · simp[List.getD,List.getElem?_eq_getElem hj]
 · rintro e w' ⟨he,rfl⟩;refine⟨?_,rfl⟩;rw[he,List.take_of_length_le lr,List.contains_eq_mem]
theorem sM (m:List UInt8) (v vk:Value) (l:List Op3) (ks:List Int) (w:World) (hr:Row w v l.length (opc l)) (hl:l.length≤1000) (hk:Row w vk ks.length (ks.map fun k=>Value.int .i64 k)) (hne:ks≠[]) (hkl:ks.length≤1000) :
 Calls prog 253 #[eU m v,vk] w fun e w'=>e=.returned (.int .i64 (dK ks l))∧Below w.heap.size w w':=by
 have HR:=Hh hr;have hco:=fun X x (hb:Below w.heap.size w X)=>zX ks vk x X (hk.below hb) hne hkl;have HC:=Hh hco;clear hco hk;obtain⟨a,c,rfl,_,_⟩:=hr;have ws:IntKind.i64.wrap ((l.length:Int) - 1)=(l.length:Int) - 1:=IntWalk.i64_in _ om;obtain⟨R,hR⟩:∃ R,dK ks l=R:=⟨_,rfl⟩;rw[hR];have HRR:=Hh hR;clear hR;go_enter func253,ntmps253
 go_wp2_with fail
 go_loopw [5] (fun i wr=>∃ j:Nat,j≤l.length∧i=.int .i64 ((j:Int) - 1)∧Below w.heap.size w wr∧wr.cell? ⟨w.heap.size,1,none⟩=some (.slice a l.length c)∧w.heap.size<wr.heap.size∧Hid (∀ k,j≤k→k<l.length→decide ((l.getD k (0,0,0)).1∈ks)=false)) (fun i _=>(intOf i+1).toNat)
 case atStart=>exact⟨l.length,Nat.le_refl _,rfl,bl,by simp[go_sem],by simp,Hh fun k h1 h2=>om⟩
 case round =>
  obtain⟨j,hj,rfl,hbel,hbx,hlw,HN⟩:=hrel;have HB:=Hh hbel;clear hbel;by_cases hlt:0<j
  · obtain⟨q,rfl⟩:∃ q,j=q+1:=⟨j - 1,om⟩
    have eq1:((q+1:Nat):Int) - 1=(q:Int):=om
    rw[eq1];obtain⟨x,hx⟩:∃ x,l[q]? = some x:=⟨_,List.getElem?_eq_getElem om⟩;have hrw:=(HR.out.below HB.out).op;obtain⟨a',c',hv,_,hc⟩:=hrw;cases hv
    obtain⟨g,off,rfl,hg,hc⟩:=hc (by rintro rfl;exact absurd hj sm)
    obtain⟨k0,k1,k2⟩:=hc q x hx;have hi0:(0:Int)≤(q:Int):=om
    have hi1:(q:Int)<(l.length:Int):=om
    have hd:(l.getD q (0,0,0)).1=x.1:=by simp[List.getD,hx]
    have hcall:=HC.out wr x.1 HB.out;have ws2:IntKind.i64.wrap ((q:Int) - 1)=(q:Int) - 1:=IntWalk.i64_in _ om;clear hc;cases hm:decide (x.1∈ks) with
    | true =>
      have hres:dK ks l=(q:Int):=by
       unfold dK kR;rw[sA _ l.length q om (by rw[hd];exact hm) (fun k h1 h2=>HN.out k om h2)]
      obtain rfl:R=(q:Int):=HRR.out.symm.trans hres;rw[hm] at hcall;have HCA:=Hh hcall;clear hcall hm hres hd;go_wp2_with fail
      refine HCA.out.mono ?_;rintro e w2 ⟨rfl,rfl⟩;go_wp2_with fail
      go_ret;exact⟨rfl,HB.out⟩
    | false =>
      have hno:∀ k,q≤k→k<l.length→decide ((l.getD k (0,0,0)).1∈ks)=false:=fun k h1 h2=>by
       rcases Nat.eq_or_lt_of_le h1 with rfl|h3
       · rw[hd];exact hm
       · exact HN.out k h3 h2
      have HNO:=Hh hno;clear hno;rw[hm] at hcall;have HCA:=Hh hcall;clear hcall hm hd;go_wp2_with fail
      refine HCA.out.mono ?_;rintro e w2 ⟨rfl,rfl⟩;go_wp2_with fail
      go_roundw
      case rel=>exact⟨q,om,rfl,HB.out,hbx,hlw,HNO⟩
      case measure=>simp[intOf]
  · obtain rfl:j=0:=om
    have hres:dK ks l=-1:=by
     unfold dK kR;rw[Bk _ l.length (fun k h2=>HN.out k om h2)]
    obtain rfl:R=-1:=HRR.out.symm.trans hres;clear hres;go_wp2_with fail
    go_ret;exact⟨rfl,HB.out⟩
theorem wP (lo hi:Int) (w:World):Calls prog 254 #[.int .i64 lo,.int .i64 hi] w fun e w'=>e=.returned (.func (.func 287) #[] #[.pointer (some ⟨w.heap.size,0,none⟩),.pointer (some ⟨w.heap.size+1,0,none⟩)])∧w'=(w.alloc (.cells #[.int .i64 lo] 3)).alloc (.cells #[.int .i64 hi] 3):=by
 go_enter func254,ntmps254
 go_wp2_with fail
 go_ret;exact ⟨rfl,rfl⟩
theorem wS (n lo hi:Int) (b1 b2:Nat) (w:World) (h1:w.cell? ⟨b1,0,none⟩=some (.int .i64 lo)) (h2:w.cell? ⟨b2,0,none⟩=some (.int .i64 hi)) :
 Calls prog 287 #[.int .i64 n,.pointer (some ⟨b1,0,none⟩),.pointer (some ⟨b2,0,none⟩)] w fun e w'=>e=.returned (.bool (decide (lo≤n) && decide (n≤hi)))∧Below w.heap.size w w':=by
 go_enter func287,ntmps287
 go_wp2_with fail
 refine (jS lo hi n _ _ ?hc).mono ?_
 case hc=>simp [go_sem]
 rintro e w2 ⟨rfl,rfl⟩;go_wp2_with fail
 go_ret;exact ⟨rfl,bl⟩
def InF (w:World) (base:Nat) (lo hi:Int) (f:Value):Prop:=∃ b1 b2,f=.func (.func 287) #[] #[.pointer (some ⟨b1,0,none⟩),.pointer (some ⟨b2,0,none⟩)]∧base≤b1∧base≤b2∧b1<w.heap.size∧b2<w.heap.size∧w.cell? ⟨b1,0,none⟩=some (.int .i64 lo)∧w.cell? ⟨b2,0,none⟩=some (.int .i64 hi)
theorem gI (l:List UInt8) (c:UInt8) (w:World):Calls prog 255 #[.string ⟨l.toArray⟩,.string ⟨#[c]⟩] w fun e w'=>e=.returned (.bool (decide (c∈l)))∧w'=w:=by
 refine (Tryz.strings_Contains_one ⟨l.toArray⟩ c w).mono ?_;rintro e w' ⟨he,hw⟩;refine ⟨?_,hw⟩;rw [he];rw [←Lib.contains_iff_indexByte,List.contains_eq_mem]
theorem mS (E:Ent) (ve:Value) (w:World) (he:Row w ve E.args.length (opc E.args)) (hel:E.args.length≤1000) :
 Calls prog 232 #[cP E ve] w fun e w'=>∃ f,e=.returned (.tuple #[.agg #[.int .i64 (dK [5] E.args),f],.bool (decide (100∈E.extra) && decide (0≤dK [5] E.args))])∧InF w' w.heap.size (-128) 127 f∧Below w.heap.size w w':=by
 obtain ⟨page,op,mn,args,ex,al⟩:=E;dsimp only at he hel ⊢;have HR:=Hh he;obtain ⟨ae,ce,rfl,_,_⟩:=he;show Calls prog 232 #[.agg #[.int .i64 page,.int .u8 op,.string ⟨mn.toArray⟩,.slice ae args.length ce,.string ⟨ex.toArray⟩,.bool al]] w _
 obtain ⟨R,hR⟩:∃ R,dK [5] args=R:=⟨_,rfl⟩;have hlast:=fun X vk (hb:Below w.heap.size w X) (hk:Row X vk 1 [Value.int .i64 5])=>sM mn (.slice ae args.length ce) vk args [5] X (HR.out.below hb) hel hk dc dc;rw [hR] at hlast ⊢;have HL:=Hh hlast; clear hlast hR;obtain ⟨D,hD⟩:∃ D,decide ((100:UInt8)∈ex)=D:=⟨_,rfl⟩;have hcon:=fun X=>gI ex 100 X;rw [hD] at hcon ⊢;have HCON:=Hh hcon; clear hcon hD;go_enter func232,ntmps232
 go_wp2_with fail
 obtain ⟨W,hW⟩:∃ W,((w.alloc (.cells #[.int .i64 page,.int .u8 op,.string ⟨mn.toArray⟩,.slice ae args.length ce,.string ⟨ex.toArray⟩,.bool al] 211)).alloc (.cells #[.int .i64 0,.nilFunc] 291))=W:=⟨_,rfl⟩;have hbW:Below w.heap.size w W:=by rw [←hW]; exact (br.alloc lr _).alloc sm _
 have hsz:W.heap.size=w.heap.size+1+1:=by rw [←hW]; simp
 have h0:W.heap[w.heap.size]? = some (.cells #[.int .i64 page,.int .u8 op,.string ⟨mn.toArray⟩,.slice ae args.length ce,.string ⟨ex.toArray⟩,.bool al] 211 (0,0)):=by rw [←hW]; exact aE (aF _ _)
 have h1:W.heap[w.heap.size+1]? = some (.cells #[.int .i64 0,.nilFunc] 291 (0,0)):=by rw [←hW]; have:=aF (w.alloc (.cells #[.int .i64 page,.int .u8 op,.string ⟨mn.toArray⟩,.slice ae args.length ce,.string ⟨ex.toArray⟩,.bool al] 211)) (.cells #[.int .i64 0,.nilFunc] 291); rwa [World.size_alloc] at this
 rw [hW];clear hW;have hb5:Below W.heap.size W (W.alloc (.cells #[.int .i64 5] 3)):=br.alloc lr _;refine (HL.out _ _ (hbW.trans (hb5.mono hbW.size)) (by have:=mD W [Value.int .i64 5] 3; rw [hsz] at this; exact this)).mono ?_;rintro e w3 ⟨rfl,hb3⟩;have hb3':Below W.heap.size W w3:=hb5.trans (hb3.mono hb5.size);have hlt:w.heap.size+1+1≤w3.heap.size:=by have:=hb3'.size; omega
 have h03:=aB h0 hb3' om;have h13:=aB h1 hb3' om;have HB3:=Hh (hbW.trans (hb3'.mono hbW.size));clear hb5 hb3 hb3' h0 h1 hbW hsz;go_wp2_with fail
 refine (wP (-128) 127 _).mono ?_;rintro e w4 ⟨rfl,rfl⟩;go_wp2_with fail
 obtain ⟨V,hV⟩:∃ V,(((w3.alloc (.cells #[.int .i64 (-128)] 3)).alloc (.cells #[.int .i64 127] 3)).alloc (.cells #[.int .i64 R,.func (.func 287) #[] #[.pointer (some ⟨w3.heap.size,0,none⟩),.pointer (some ⟨w3.heap.size+1,0,none⟩)]] 291))=V:=⟨_,rfl⟩;have hbV:Below w3.heap.size w3 V:=by rw [←hV]; exact ((br.alloc lr _).alloc sm _).alloc (by simp; omega) _
 have hszV:V.heap.size=w3.heap.size+1+1+1:=by rw [←hV]; simp
 have v4:V.heap[w3.heap.size+1+1]? = some (.cells #[.int .i64 R,.func (.func 287) #[] #[.pointer (some ⟨w3.heap.size,0,none⟩),.pointer (some ⟨w3.heap.size+1,0,none⟩)]] 291 (0,0)):=by
  rw [←hV]; have:=aF ((w3.alloc (.cells #[.int .i64 (-128)] 3)).alloc (.cells #[.int .i64 127] 3)) (.cells #[.int .i64 R,.func (.func 287) #[] #[.pointer (some ⟨w3.heap.size,0,none⟩),.pointer (some ⟨w3.heap.size+1,0,none⟩)]] 291); rwa [World.size_alloc,World.size_alloc] at this
 have v1:V.heap[w3.heap.size]? = some (.cells #[.int .i64 (-128)] 3 (0,0)):=by rw [←hV]; exact aE (aE (aF _ _))
 have v2:V.heap[w3.heap.size+1]? = some (.cells #[.int .i64 127] 3 (0,0)):=by
  rw [←hV]; have:=aF (w3.alloc (.cells #[.int .i64 (-128)] 3)) (.cells #[.int .i64 127] 3); rw [World.size_alloc] at this; exact aE this
 have v0:=aB h03 hbV om;have v3:=aB h13 hbV om;rw [hV];clear hV h03 h13;obtain ⟨⟨_,_,_,_,t4,_⟩,_⟩:=aN v0;obtain ⟨r0,r1,q0,q1⟩:=aL v3;obtain ⟨s0,s1,_,_⟩:=aL v4;have hfin:∀ X,X=(V.setCell ⟨w.heap.size+1,0,none⟩ (.int .i64 R)).setCell ⟨w.heap.size+1,1,none⟩ (.func (.func 287) #[] #[.pointer (some ⟨w3.heap.size,0,none⟩),.pointer (some ⟨w3.heap.size+1,0,none⟩)])→InF X w.heap.size (-128) 127 (.func (.func 287) #[] #[.pointer (some ⟨w3.heap.size,0,none⟩),.pointer (some ⟨w3.heap.size+1,0,none⟩)])∧Below w.heap.size w X:=by
  intro X hX;rw [hX];have hbw:=HB3.out.trans (hbV.mono om);refine ⟨⟨w3.heap.size,w3.heap.size+1,rfl,om,om,by rw [setCell_size,setCell_size]; omega,by rw [setCell_size,setCell_size]; omega,?_,?_⟩,(hbw.setCell (p:=⟨w.heap.size+1,0,none⟩) (by show w.heap.size≤w.heap.size+1; omega) _).setCell (p:=⟨w.heap.size+1,1,none⟩) (by show w.heap.size≤w.heap.size+1; omega) _⟩
  · exact aC (aD (aD v1 om) om) 0
  · exact aC (aD (aD v2 om) om) 0
 have HFIN:=Hh hfin;have hl1:w.heap.size+1<V.heap.size:=om
 have hne:w3.heap.size+1+1≠w.heap.size+1:=om
 have hkeep:∀ x y,((V.setCell ⟨w.heap.size+1,0,none⟩ x).setCell ⟨w.heap.size+1,1,none⟩ y).cell? ⟨w3.heap.size+1+1,0,none⟩=some (.int .i64 R)∧((V.setCell ⟨w.heap.size+1,0,none⟩ x).setCell ⟨w.heap.size+1,1,none⟩ y).cell? ⟨w3.heap.size+1+1,1,none⟩=some (.func (.func 287) #[] #[.pointer (some ⟨w3.heap.size,0,none⟩),.pointer (some ⟨w3.heap.size+1,0,none⟩)])∧((V.setCell ⟨w.heap.size+1,0,none⟩ x).setCell ⟨w.heap.size+1,1,none⟩ y).cell? ⟨w.heap.size,4,none⟩=some (.string ⟨ex.toArray⟩):=fun x y =>
  ⟨aC (aD (aD v4 om) om) 0,aC (aD (aD v4 om) om) 1,aC (aD (aD v0 om) om) 4⟩
 clear hfin v0 v1 v2 v3 v4 hbV hszV HL HR HB3;cases D with
 | false =>
   first
   | (go_region_law (first | (go_simp; go_at_call 255; refine (HCON.out _).mono ?_; rintro e w' ⟨rfl,rfl⟩)))
   | fail "no way"
   all_goals
    obtain ⟨hin,hbe⟩:=HFIN.out _ rfl;have HIN:=Hh hin;have HBE:=Hh hbe;clear hin hbe;go_wp2_with fail
    refine bodyPost_ret (v:=.tuple #[.agg #[.int .i64 R,.func (.func 287) #[] #[.pointer (some ⟨w3.heap.size,0,none⟩),.pointer (some ⟨w3.heap.size+1,0,none⟩)]],.bool false]) (by simp [results,results232,go_sem,r0,r1]) rfl ⟨_,rfl,HIN.out,HBE.out.trans ⟨rfl,rfl,rfl,Nat.le_refl _,fun _ _=>rfl⟩⟩
 | true =>
   first
   | (go_region_law (first | (go_simp; go_at_call 255; refine (HCON.out _).mono ?_; rintro e w' ⟨rfl,rfl⟩)))
   | fail "no way"
   all_goals
    obtain ⟨hin,hbe⟩:=HFIN.out _ rfl;have HIN:=Hh hin;have HBE:=Hh hbe;clear hin hbe;go_wp2_with fail
    refine bodyPost_ret (v:=.tuple #[.agg #[.int .i64 R,.func (.func 287) #[] #[.pointer (some ⟨w3.heap.size,0,none⟩),.pointer (some ⟨w3.heap.size+1,0,none⟩)]],.bool (decide (0≤R))]) (by simp [results,results232,go_sem,r0,r1]) rfl ⟨_,rfl,HIN.out,HBE.out.trans ⟨rfl,rfl,rfl,Nat.le_refl _,fun _ _=>rfl⟩⟩
end Go.Proofs.YtoigglljnklhlaaGreatDoor
