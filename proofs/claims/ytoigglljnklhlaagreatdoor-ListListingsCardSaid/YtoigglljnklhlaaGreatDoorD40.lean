/- Joined. -/
import Derived.Test.YtoigglljnklhlaaGreatDoorD35
set_option maxHeartbeats 8000000
set_option maxRecDepth 100000
namespace Go.Proofs.YtoigglljnklhlaaGreatDoor
open Go.RowKit Go.Sort
open Go.Proofs.Tryz
def rnm:Nat→Nat→ByteArray
 | 1,0=>⟨#[66]⟩
 | 1,1=>⟨#[67]⟩
 | 1,2=>⟨#[68]⟩
 | 1,3=>⟨#[69]⟩
 | 1,4=>⟨#[72]⟩
 | 1,5=>⟨#[76]⟩
 | 1,6=>⟨#[]⟩
 | 1,7=>⟨#[65]⟩
 | 2,0=>⟨#[73,88,72]⟩
 | 2,1=>⟨#[73,88,76]⟩
 | 2,2=>⟨#[73,89,72]⟩
 | 2,3=>⟨#[73,89,76]⟩
 | 3,0=>⟨#[66,67]⟩
 | 3,1=>⟨#[68,69]⟩
 | 3,2=>⟨#[72,76]⟩
 | 3,3=>⟨#[83,80]⟩
 | 3,4=>⟨#[65,70]⟩
 | 3,5=>⟨#[73,88]⟩
 | 3,6=>⟨#[73,89]⟩
 | 3,7=>⟨#[65,70,39]⟩
 | 4,0=>⟨#[40,66,67,41]⟩
 | 4,1=>⟨#[40,68,69,41]⟩
 | 4,2=>⟨#[40,72,76,41]⟩
 | 4,3=>⟨#[40,83,80,41]⟩
 | 4,4=>⟨#[]⟩
 | 4,5=>⟨#[40,73,88,41]⟩
 | 4,6=>⟨#[40,73,89,41]⟩
 | 4,7=>⟨#[]⟩
 | 4,8=>⟨#[40,67,41]⟩
 | 5,0=>⟨#[]⟩
 | 5,1=>⟨#[]⟩
 | 5,2=>⟨#[]⟩
 | 5,3=>⟨#[]⟩
 | 5,4=>⟨#[]⟩
 | 5,5=>⟨#[73,88]⟩
 | 5,6=>⟨#[73,89]⟩
 | 8,0=>⟨#[78,90]⟩
 | 8,1=>⟨#[90]⟩
 | 8,2=>⟨#[78,67]⟩
 | 8,3=>⟨#[67]⟩
 | 8,4=>⟨#[80,79]⟩
 | 8,5=>⟨#[80,69]⟩
 | 8,6=>⟨#[80]⟩
 | 8,7=>⟨#[77]⟩
 | 9,0=>⟨#[73]⟩
 | 9,1=>⟨#[82]⟩
 | _,_=>⟨#[]⟩
def aIJ:Nat→Nat|1=>8|2=>4|3=>8|4=>9|5=>7|8=>8|9=>2|_=>0
def aGW (k r:Int):ByteArray:=if 0≤r∧r<aIJ k.toNat then rnm k.toNat r.toNat else ⟨#[]⟩
theorem Kq {p:Prop} (h:p:=by
 have hr:r=0∨r=1∨r=2∨r=3∨r=4∨r=5∨r=6∨r=7:=om
 rcases hr with rfl|rfl|rfl|rfl|rfl|rfl|rfl|rfl<;>rfl):p:=h
theorem aKj (r:Nat) (h:r<8):[Value.string ⟨#[66]⟩,.string ⟨#[67]⟩,.string ⟨#[68]⟩,.string ⟨#[69]⟩,.string ⟨#[72]⟩,.string ⟨#[76]⟩,.string ⟨#[]⟩,.string ⟨#[65]⟩][r]? = some (.string (rnm 1 r)):=by
 exact Kq
theorem aJW (r:Int) (w:World) :
 Calls prog 176 #[.int .i64 1,.int .i64 r] w fun e w'=>e=.returned (.string (aGW 1 r))∧Below w.heap.size w w':=by
 by_cases h1:r<0
 · have hr:aGW 1 r=⟨#[]⟩:=by unfold aGW;rw[if_neg om]
   rw[hr];go_enter func176,ntmps176
   go_wp2
   go_ret;exact⟨rfl,bl⟩
 · by_cases h2:8≤r
   · have hr:aGW 1 r=⟨#[]⟩:=by unfold aGW;rw[if_neg (by show ¬ (0≤r∧r<8);omega)]
     rw[hr];go_enter func176,ntmps176
     go_wp2
     go_ret;exact⟨rfl,bl⟩
   · obtain⟨m,rfl⟩:=Int.eq_ofNat_of_zero_le (show 0≤r by omega);have hr:aGW 1 m=rnm 1 m:=by unfold aGW;rw[if_pos (by show (0:Int)≤m∧(m:Int)<8;omega)];rfl
     rw[hr];have hg:=aKj m om;have h3:(0:Int)≤(m:Int):=om
     have h4:(m:Int)<8:=om
     clear h1 h2 hr;go_enter func176,ntmps176
     go_wp2
     go_ret;exact⟨rfl,bl⟩
theorem aKi (r:Nat) (h:r<4):[Value.string ⟨#[73,88,72]⟩,.string ⟨#[73,88,76]⟩,.string ⟨#[73,89,72]⟩,.string ⟨#[73,89,76]⟩][r]? = some (.string (rnm 2 r)):=by
 have hr:r=0∨r=1∨r=2∨r=3:=om
 rcases hr with rfl|rfl|rfl|rfl<;>rfl
theorem aJV (r:Int) (w:World) :
 Calls prog 176 #[.int .i64 2,.int .i64 r] w fun e w'=>e=.returned (.string (aGW 2 r))∧Below w.heap.size w w':=by
 by_cases h1:r<0
 · have hr:aGW 2 r=⟨#[]⟩:=by unfold aGW;rw[if_neg om]
   rw[hr];go_enter func176,ntmps176
   go_wp2
   go_ret;exact⟨rfl,bl⟩
 · by_cases h2:4≤r
   · have hr:aGW 2 r=⟨#[]⟩:=by unfold aGW;rw[if_neg (by show ¬ (0≤r∧r<4);omega)]
     rw[hr];go_enter func176,ntmps176
     go_wp2
     go_ret;exact⟨rfl,bl⟩
   · obtain⟨m,rfl⟩:=Int.eq_ofNat_of_zero_le (show 0≤r by omega);have hr:aGW 2 m=rnm 2 m:=by unfold aGW;rw[if_pos (by show (0:Int)≤m∧(m:Int)<4;omega)];rfl
     rw[hr];have hg:=aKi m om;have h3:(0:Int)≤(m:Int):=om
     have h4:(m:Int)<4:=om
     clear h1 h2 hr;go_enter func176,ntmps176
     go_wp2
     go_ret;exact⟨rfl,bl⟩
theorem aKh (r:Nat) (h:r<8):[Value.string ⟨#[66,67]⟩,.string ⟨#[68,69]⟩,.string ⟨#[72,76]⟩,.string ⟨#[83,80]⟩,.string ⟨#[65,70]⟩,.string ⟨#[73,88]⟩,.string ⟨#[73,89]⟩,.string ⟨#[65,70,39]⟩][r]? = some (.string (rnm 3 r)):=by
 exact Kq
theorem aJU (r:Int) (w:World) :
 Calls prog 176 #[.int .i64 3,.int .i64 r] w fun e w'=>e=.returned (.string (aGW 3 r))∧Below w.heap.size w w':=by
 by_cases h1:r<0
 · have hr:aGW 3 r=⟨#[]⟩:=by unfold aGW;rw[if_neg om]
   rw[hr];go_enter func176,ntmps176
   go_wp2
   go_ret;exact⟨rfl,bl⟩
 · by_cases h2:8≤r
   · have hr:aGW 3 r=⟨#[]⟩:=by unfold aGW;rw[if_neg (by show ¬ (0≤r∧r<8);omega)]
     rw[hr];go_enter func176,ntmps176
     go_wp2
     go_ret;exact⟨rfl,bl⟩
   · obtain⟨m,rfl⟩:=Int.eq_ofNat_of_zero_le (show 0≤r by omega);have hr:aGW 3 m=rnm 3 m:=by unfold aGW;rw[if_pos (by show (0:Int)≤m∧(m:Int)<8;omega)];rfl
     rw[hr];have hg:=aKh m om;have h3:(0:Int)≤(m:Int):=om
     have h4:(m:Int)<8:=om
     clear h1 h2 hr;go_enter func176,ntmps176
     go_wp2
     go_ret;exact⟨rfl,bl⟩
theorem aKg (r:Nat) (h:r<9):[Value.string ⟨#[40,66,67,41]⟩,.string ⟨#[40,68,69,41]⟩,.string ⟨#[40,72,76,41]⟩,.string ⟨#[40,83,80,41]⟩,.string ⟨#[]⟩,.string ⟨#[40,73,88,41]⟩,.string ⟨#[40,73,89,41]⟩,.string ⟨#[]⟩,.string ⟨#[40,67,41]⟩][r]? = some (.string (rnm 4 r)):=by
 have hr:r=0∨r=1∨r=2∨r=3∨r=4∨r=5∨r=6∨r=7∨r=8:=om
 rcases hr with rfl|rfl|rfl|rfl|rfl|rfl|rfl|rfl|rfl<;>rfl
theorem aJT (r:Int) (w:World) :
 Calls prog 176 #[.int .i64 4,.int .i64 r] w fun e w'=>e=.returned (.string (aGW 4 r))∧Below w.heap.size w w':=by
 by_cases h1:r<0
 · have hr:aGW 4 r=⟨#[]⟩:=by unfold aGW;rw[if_neg om]
   rw[hr];go_enter func176,ntmps176
   go_wp2
   go_ret;exact⟨rfl,bl⟩
 · by_cases h2:9≤r
   · have hr:aGW 4 r=⟨#[]⟩:=by unfold aGW;rw[if_neg (by show ¬ (0≤r∧r<9);omega)]
     rw[hr];go_enter func176,ntmps176
     go_wp2
     go_ret;exact⟨rfl,bl⟩
   · obtain⟨m,rfl⟩:=Int.eq_ofNat_of_zero_le (show 0≤r by omega);have hr:aGW 4 m=rnm 4 m:=by unfold aGW;rw[if_pos (by show (0:Int)≤m∧(m:Int)<9;omega)];rfl
     rw[hr];have hg:=aKg m om;have h3:(0:Int)≤(m:Int):=om
     have h4:(m:Int)<9:=om
     clear h1 h2 hr;go_enter func176,ntmps176
     go_wp2
     go_ret;exact⟨rfl,bl⟩
theorem aKf (r:Nat) (h:r<7):[Value.string ⟨#[]⟩,.string ⟨#[]⟩,.string ⟨#[]⟩,.string ⟨#[]⟩,.string ⟨#[]⟩,.string ⟨#[73,88]⟩,.string ⟨#[73,89]⟩][r]? = some (.string (rnm 5 r)):=by
 have hr:r=0∨r=1∨r=2∨r=3∨r=4∨r=5∨r=6:=om
 rcases hr with rfl|rfl|rfl|rfl|rfl|rfl|rfl<;>rfl
theorem aJS (r:Int) (w:World) :
 Calls prog 176 #[.int .i64 5,.int .i64 r] w fun e w'=>e=.returned (.string (aGW 5 r))∧Below w.heap.size w w':=by
 by_cases h1:r<0
 · have hr:aGW 5 r=⟨#[]⟩:=by unfold aGW;rw[if_neg om]
   rw[hr];go_enter func176,ntmps176
   go_wp2
   go_ret;exact⟨rfl,bl⟩
 · by_cases h2:7≤r
   · have hr:aGW 5 r=⟨#[]⟩:=by unfold aGW;rw[if_neg (by show ¬ (0≤r∧r<7);omega)]
     rw[hr];go_enter func176,ntmps176
     go_wp2
     go_ret;exact⟨rfl,bl⟩
   · obtain⟨m,rfl⟩:=Int.eq_ofNat_of_zero_le (show 0≤r by omega);have hr:aGW 5 m=rnm 5 m:=by unfold aGW;rw[if_pos (by show (0:Int)≤m∧(m:Int)<7;omega)];rfl
     rw[hr];have hg:=aKf m om;have h3:(0:Int)≤(m:Int):=om
     have h4:(m:Int)<7:=om
     clear h1 h2 hr;go_enter func176,ntmps176
     go_wp2
     go_ret;exact⟨rfl,bl⟩
theorem aKe (r:Nat) (h:r<8):[Value.string ⟨#[78,90]⟩,.string ⟨#[90]⟩,.string ⟨#[78,67]⟩,.string ⟨#[67]⟩,.string ⟨#[80,79]⟩,.string ⟨#[80,69]⟩,.string ⟨#[80]⟩,.string ⟨#[77]⟩][r]? = some (.string (rnm 8 r)):=by
 exact Kq
theorem aJR (r:Int) (w:World) :
 Calls prog 176 #[.int .i64 8,.int .i64 r] w fun e w'=>e=.returned (.string (aGW 8 r))∧Below w.heap.size w w':=by
 by_cases h1:r<0
 · have hr:aGW 8 r=⟨#[]⟩:=by unfold aGW;rw[if_neg om]
   rw[hr];go_enter func176,ntmps176
   go_wp2
   go_ret;exact⟨rfl,bl⟩
 · by_cases h2:8≤r
   · have hr:aGW 8 r=⟨#[]⟩:=by unfold aGW;rw[if_neg (by show ¬ (0≤r∧r<8);omega)]
     rw[hr];go_enter func176,ntmps176
     go_wp2
     go_ret;exact⟨rfl,bl⟩
   · obtain⟨m,rfl⟩:=Int.eq_ofNat_of_zero_le (show 0≤r by omega);have hr:aGW 8 m=rnm 8 m:=by unfold aGW;rw[if_pos (by show (0:Int)≤m∧(m:Int)<8;omega)];rfl
     rw[hr];have hg:=aKe m om;have h3:(0:Int)≤(m:Int):=om
     have h4:(m:Int)<8:=om
     clear h1 h2 hr;go_enter func176,ntmps176
     go_wp2
     go_ret;exact⟨rfl,bl⟩
theorem aKd (r:Nat) (h:r<2):[Value.string ⟨#[73]⟩,.string ⟨#[82]⟩][r]? = some (.string (rnm 9 r)):=by
 have hr:r=0∨r=1:=om
 rcases hr with rfl|rfl<;>rfl
theorem aJQ (r:Int) (w:World) :
 Calls prog 176 #[.int .i64 9,.int .i64 r] w fun e w'=>e=.returned (.string (aGW 9 r))∧Below w.heap.size w w':=by
 by_cases h1:r<0
 · have hr:aGW 9 r=⟨#[]⟩:=by unfold aGW;rw[if_neg om]
   rw[hr];go_enter func176,ntmps176
   go_wp2
   go_ret;exact⟨rfl,bl⟩
 · by_cases h2:2≤r
   · have hr:aGW 9 r=⟨#[]⟩:=by unfold aGW;rw[if_neg (by show ¬ (0≤r∧r<2);omega)]
     rw[hr];go_enter func176,ntmps176
     go_wp2
     go_ret;exact⟨rfl,bl⟩
   · obtain⟨m,rfl⟩:=Int.eq_ofNat_of_zero_le (show 0≤r by omega);have hr:aGW 9 m=rnm 9 m:=by unfold aGW;rw[if_pos (by show (0:Int)≤m∧(m:Int)<2;omega)];rfl
     rw[hr];have hg:=aKd m om;have h3:(0:Int)≤(m:Int):=om
     have h4:(m:Int)<2:=om
     clear h1 h2 hr;go_enter func176,ntmps176
     go_wp2
     go_ret;exact⟨rfl,bl⟩
theorem aHo (k r:Int) (w:World) (hk:k=1∨k=2∨k=3∨k=4∨k=5∨k=8∨k=9) :
 Calls prog 176 #[.int .i64 k,.int .i64 r] w fun e w'=>e=.returned (.string (aGW k r))∧Below w.heap.size w w':=by
 rcases hk with rfl|rfl|rfl|rfl|rfl|rfl|rfl
 · exact aJW r w
 · exact aJV r w
 · exact aJU r w
 · exact aJT r w
 · exact aJS r w
 · exact aJR r w
 · exact aJQ r w
theorem aHm (n:Int) (w:World) (h1:-1000000≤n) (h2:n≤1000000) :
 Calls prog 177 #[.int .i64 n] w fun e w'=>e=.returned (.string (eI n))∧w=w':=by
 by_cases h:n<0
 · have hr:eI n=(⟨#[45]⟩:ByteArray)++aX (-n):=by unfold eI;rw[if_pos h]
   have hl:=fC (-n);rw[hr];go_enter func177,ntmps177
   go_wp2_with fail
   refine (aDA _ _).mono ?_;rintro e w2 ⟨rfl,rfl⟩;go_wp2_with fail
   go_ret;exact⟨rfl,rfl⟩
 · have hr:eI n=(⟨#[43]⟩:ByteArray)++aX n:=by unfold eI;rw[if_neg h]
   have hl:=fC n;rw[hr];go_enter func177,ntmps177
   go_wp2_with fail
   refine (aDA _ _).mono ?_;rintro e w2 ⟨rfl,rfl⟩;go_wp2_with fail
   go_ret;exact⟨rfl,rfl⟩
theorem aHF (s:ByteArray) (h:s.toList=[]):s.toList.isEmpty=true:=by rw[h];rfl
theorem aHk (s:ByteArray) (h:¬ s.toList=[]):s.toList.isEmpty=false:=by
 cases hs:s.toList with
 | nil=>exact absurd hs h
 | cons a l=>rfl
theorem aHY (k r n:Int) (w:World) (hk:k=1∨k=2∨k=3∨k=4∨k=8∨k=9) :
 Calls prog 175 #[.agg #[.int .i64 k,.int .i64 r,.int .i64 n]] w fun e w'=>e=.returned (.bool (!(aGW k r).toList.isEmpty && (n == 0)))∧Below w.heap.size w w':=by
 have hn:=fun w=>aHo k r w om;rcases hk with rfl|rfl|rfl|rfl|rfl|rfl;all_goals
  go_enter func175,ntmps175
  go_wp2_with fail
  refine (hn _).mono ?_;rintro e w1 ⟨rfl,hb⟩;obtain⟨p1,rfl⟩:=aO hb;clear hb hn;go_wp2_with fail
  all_goals go_ret
  all_goals refine⟨?_,bl⟩
  all_goals first|rfl|(rename_i h;simp[aHF _ h];done)|(rename_i h;simp[aHk _ h])
theorem aIF (r n:Int) (w:World) :
 Calls prog 175 #[.agg #[.int .i64 5,.int .i64 r,.int .i64 n]] w fun e w'=>e=.returned (.bool (!(aGW 5 r).toList.isEmpty && decide (-128≤n) && decide (n≤127)))∧Below w.heap.size w w':=by
 go_enter func175,ntmps175
 go_wp2_with fail
 refine (aHo 5 r _ om).mono ?_;rintro e w1 ⟨rfl,hb⟩;obtain⟨p1,rfl⟩:=aO hb;clear hb;by_cases h1:-128≤n
 · go_wp2_with fail
   all_goals go_ret
   all_goals refine⟨?_,bl⟩
   all_goals first|rfl|(rename_i h;simp[aHF _ h];done)|(rename_i h;simp[aHk _ h,h1])|simp[h1]
 · go_wp2_with fail
   all_goals go_ret
   all_goals refine⟨?_,bl⟩
   all_goals first|rfl|(rename_i h;simp[aHF _ h];done)|(rename_i h;simp[aHk _ h];omega)|(simp;omega)
theorem aIE (k:Nat) (r n:Int) (w:World) (hk:k=6∨k=7∨k=10) :
 Calls prog 175 #[.agg #[.int .i64 k,.int .i64 r,.int .i64 n]] w fun e w'=>e=.returned (.bool ((r == 0) && decide (klo k≤n) && decide (n≤khi k)))∧Below w.heap.size w w':=by
 rcases hk with rfl|rfl|rfl;all_goals
  simp only[klo,khi];by_cases h0:r=0
  · subst h0;go_enter func175,ntmps175
    go_wp2_with fail
    all_goals go_ret
    all_goals refine⟨?_,bl⟩
    all_goals first|rfl|(simp;omega)
  · have h0b:(r == 0)=false:=by simpa using h0
    go_enter func175,ntmps175
    go_wp2_with fail
    all_goals go_ret
    all_goals refine⟨?_,bl⟩
    all_goals first|rfl|(simp[h0b])
theorem aIi (k:Int) (r n:Int) (w:World) (hk:k<1∨10<k) :
 Calls prog 175 #[.agg #[.int .i64 k,.int .i64 r,.int .i64 n]] w fun e w'=>e=.returned (.bool false)∧Below w.heap.size w w':=by
 have e1:(k == 1)=false:=by simp;omega
 have e2:(k == 2)=false:=by simp;omega
 have e3:(k == 3)=false:=by simp;omega
 have e4:(k == 4)=false:=by simp;omega
 have e5:(k == 5)=false:=by simp;omega
 have e6:(k == 6)=false:=by simp;omega
 have e7:(k == 7)=false:=by simp;omega
 have e8:(k == 8)=false:=by simp;omega
 have e9:(k == 9)=false:=by simp;omega
 have e10:(k == 10)=false:=by simp;omega
 clear hk;go_enter func175,ntmps175
 go_wp2_with fail
 all_goals go_ret
 all_goals exact⟨rfl,bl⟩
theorem aHQ:∀ k:Fin 11,∀ r:Fin 9,(nm k.val r.val).toList.isEmpty=false→k.val≠0→k.val≠6→k.val≠7→k.val≠10 →
 aGW k.val r.val=if k.val=4 then (⟨#[40]⟩:ByteArray)++nm k.val r.val++(⟨#[41]⟩:ByteArray) else nm k.val r.val:=by decide +kernel
theorem aHI:∀ k:Fin 11,∀ r:Fin 9,(nm k.val r.val).toList.isEmpty=true→k.val≠0→k.val≠6→k.val≠7→k.val≠10→aGW k.val r.val=⟨#[]⟩:=by decide +kernel
theorem aHH:∀ k:Fin 11,∀ r:Fin 9,(nm k.val r.val).toList.isEmpty=false→k.val≠0→k.val≠6→k.val≠7→k.val≠10→(aGW k.val r.val).toList.isEmpty=false:=by decide +kernel
theorem aIN:∀ r:Fin 9,((nm 6 r.val).toList.isEmpty=!(r.val == 0))∧((nm 7 r.val).toList.isEmpty=!(r.val == 0))∧((nm 10 r.val).toList.isEmpty=!(r.val == 0)):=by decide +kernel
theorem aJq (k:Nat):aIJ k≤9:=by unfold aIJ;split<;>omega
theorem aHP (k r:Int) (h:r<0∨9≤r):aGW k r=⟨#[]⟩:=by
 unfold aGW;have:=aJq k.toNat;rw[if_neg om]
theorem aHM (k:Nat) (r n:Int) (hk:k=1∨k=2∨k=3∨k=4∨k=8∨k=9):(!(aGW k r).toList.isEmpty && (n == 0))=bP k r n:=by
 have hk2:klo k=0∧khi k=0:=by rcases hk with rfl|rfl|rfl|rfl|rfl|rfl<;>exact⟨rfl,rfl⟩
 by_cases hr:r<0∨9≤r
 · rw[aHP k r hr];unfold bP;rcases hr with hr|hr
   · rw[decide_eq_false (show ¬ 0≤r by omega)];simp
   · rw[decide_eq_false (show ¬ r<9 by omega)];simp
 · obtain⟨m,rfl⟩:=Int.eq_ofNat_of_zero_le (show 0≤r by omega);unfold bP;rw[Int.toNat_natCast,Int.toNat_natCast,hk2.1,hk2.2,decide_eq_true (show (1:Int)≤k by omega),decide_eq_true (show (k:Int)≤10 by omega),decide_eq_true (show (0:Int)≤m by omega),decide_eq_true (show (m:Int)<9 by omega)]
   have h0:(n == 0)=(decide (0≤n) && decide (n≤0)):=by
    rw[Bool.eq_iff_iff];simp;omega
   rcases he:(nm k m).toList.isEmpty with _|_
   · have:=aHH ⟨k,om⟩ ⟨m,om⟩ he (by simp;omega) (by simp;omega) (by simp;omega) (by simp;omega)
     simp only at this;rw[this,h0];simp
   · have:=aHI ⟨k,om⟩ ⟨m,om⟩ he (by simp;omega) (by simp;omega) (by simp;omega) (by simp;omega)
     simp only at this;rw[this];simp
theorem aIp (r n:Int):(!(aGW 5 r).toList.isEmpty && decide (-128≤n) && decide (n≤127))=bP 5 r n:=by
 by_cases hr:r<0∨9≤r
 · rw[aHP 5 r hr];unfold bP;rcases hr with hr|hr
   · rw[decide_eq_false (show ¬ 0≤r by omega)];simp
   · rw[decide_eq_false (show ¬ r<9 by omega)];simp
 · obtain⟨m,rfl⟩:=Int.eq_ofNat_of_zero_le (show 0≤r by omega);unfold bP;rw[Int.toNat_natCast,show (5:Int).toNat=5 from rfl,decide_eq_true (show (0:Int)≤m by omega),decide_eq_true (show (m:Int)<9 by omega)]
   rcases he:(nm 5 m).toList.isEmpty with _|_
   · have:=aHH ⟨5,om⟩ ⟨m,om⟩ he sm sm sm sm
     simp only at this;rw[show aGW 5 (m:Int)=aGW ((5:Nat):Int) m from rfl,this];simp[klo,khi]
   · have:=aHI ⟨5,om⟩ ⟨m,om⟩ he sm sm sm sm
     simp only at this;rw[show aGW 5 (m:Int)=aGW ((5:Nat):Int) m from rfl,this];simp
theorem aIo (k:Nat) (r n:Int) (hk:k=6∨k=7∨k=10):((r == 0) && decide (klo k≤n) && decide (n≤khi k))=bP k r n:=by
 unfold bP;rw[Int.toNat_natCast,decide_eq_true (show (1:Int)≤k by omega),decide_eq_true (show (k:Int)≤10 by omega)]
 by_cases hr:r<0∨9≤r
 · have:(r == 0)=false:=by simp;omega
   rw[this];rcases hr with hr|hr
   · rw[decide_eq_false (show ¬ 0≤r by omega)];simp
   · rw[decide_eq_false (show ¬ r<9 by omega)];simp
 · obtain⟨m,rfl⟩:=Int.eq_ofNat_of_zero_le (show 0≤r by omega);obtain⟨s6,s7,s10⟩:=aIN ⟨m,om⟩
   simp only at s6 s7 s10;have hm:(nm k m).toList.isEmpty=!(m == 0):=by rcases hk with rfl|rfl|rfl<;>assumption
   rw[Int.toNat_natCast,hm,decide_eq_true (show (0:Int)≤m by omega),decide_eq_true (show (m:Int)<9 by omega)]
   have:((m:Int) == 0)=(m == 0):=by rw[Bool.eq_iff_iff];simp
   rw[this];simp
theorem aGZ (k r n:Int) (w:World) :
 Calls prog 175 #[.agg #[.int .i64 k,.int .i64 r,.int .i64 n]] w fun e w'=>e=.returned (.bool (bP k r n))∧Below w.heap.size w w':=by
 by_cases hk:k<1∨10<k
 · have:bP k r n=false:=by
    unfold bP;rcases hk with hk|hk
    · rw[decide_eq_false (show ¬ 1≤k by omega)];simp
    · rw[decide_eq_false (show ¬ k≤10 by omega)];simp
   rw[this];exact aIi k r n w hk
 · obtain⟨a,rfl⟩:=Int.eq_ofNat_of_zero_le (show 0≤k by omega);by_cases h1:a=1∨a=2∨a=3∨a=4∨a=8∨a=9
   · rw[←aHM a r n h1];exact aHY a r n w om
   · by_cases h2:a=5
     · subst h2;show Calls _ _ #[.agg #[.int .i64 5,.int .i64 r,.int .i64 n]] _ fun e w'=>e=.returned (.bool (bP 5 r n))∧_
       rw[←aIp r n];exact aIF r n w
     · have h3:a=6∨a=7∨a=10:=om
       rw[←aIo a r n h3];exact aIE a r n w h3
theorem aHZ (k:Nat) (r n:Int) (hk:k=1∨k=2∨k=3∨k=4∨k=8∨k=9) (hv:bP k r n=true):eT k r n=aGW k r:=by
 unfold eT;rw[hv,if_pos rfl];obtain⟨a,b,h1,rfl,h3,h4,h5,h6,h7,h8⟩:=mO hv;obtain rfl:k=a:=om
 rw[Int.toNat_natCast,Int.toNat_natCast]
 have:=aHQ ⟨k,om⟩ ⟨b,h5⟩ h6 (by simp;omega) (by simp;omega) (by simp;omega) (by simp;omega)
 simp only at this;rw[this];unfold zJ;rcases hk with rfl|rfl|rfl|rfl|rfl|rfl<;>rfl
theorem aIM (r n:Int) (hv:bP 5 r n=true):eT 5 r n=(⟨#[40]⟩:ByteArray)++aGW 5 r++eI n++(⟨#[41]⟩:ByteArray):=by
 unfold eT;rw[hv,if_pos rfl];obtain⟨a,b,h1,rfl,h3,h4,h5,h6,h7,h8⟩:=mO hv;obtain rfl:a=5:=om
 rw[Int.toNat_natCast,show (5:Int).toNat=5 from rfl]
 have:=aHQ ⟨5,om⟩ ⟨b,h5⟩ h6 sm sm sm sm
 simp only at this;rw[show aGW 5 (b:Int)=aGW ((5:Nat):Int) b from rfl,this]
 rfl
theorem aJm:∀ k:Fin 11,∀ r:Fin 9,(aGW k.val r.val).size≤10:=by decide +kernel
theorem aJD (w:World):Calls prog 214 #[] w fun e w'=>e=.returned (.slice (some ⟨w.heap.size,0,none⟩) 68 68)∧w'=w.alloc (.cells (opsL.map fun s=>Value.string ⟨s.toArray⟩).toArray 9):=by
 go_enter func214,ntmps214
 go_wp2_with fail
 go_ret;exact⟨rfl,rfl⟩
theorem aIR (m:ByteArray) (w:World):Calls prog 174 #[.string m] w fun e w'=>e=.returned (.bool (decide (m.data.toList∈opsL)))∧Below w.heap.size w w':=by
 obtain⟨R,hR⟩:∃ R,decide (m.data.toList∈opsL)=R:=⟨_,rfl⟩;rw[hR];have HR:=Hh hR;clear hR;go_enter func174,ntmps174
 go_wp2_with fail
 (with_reducible refine (aJD w).mono ?_);rintro e w1 ⟨rfl,hw1⟩;have hblk:w1.heap[w.heap.size]? = some (.cells (opsL.map fun s=>Value.string ⟨s.toArray⟩).toArray 9 (0,0)):=by rw[hw1];exact aF _ _
 have hlt:=aA hblk;have hcl:∀ (j:Nat) (x:List UInt8),opsL[j]? = some x→w1.cell? ⟨w.heap.size,j,none⟩=some (.string ⟨x.toArray⟩):=fun j x hx=>by
  rw[Lib.cell_of_heap hblk];simp[hx]
 have hb:Below w.heap.size w w1:=by rw[hw1];exact br.alloc lr _
 have HB:=Hh hb;have HCL:=Hh hcl;clear hb hcl hblk hw1;go_wp2_with fail
 go_loopw [4] (fun i wr=>wr=w1∧∃ j:Nat,j≤68∧i=.int .i64 j∧Hid (∀ y∈opsL.take j,y≠m.data.toList)) (fun i _=>68 - (intOf i).toNat)
 case atStart=>exact⟨rfl,0,om,rfl,Hh sm⟩
 case round =>
  obtain⟨rfl,j,hj,rfl,HNO⟩:=hrel;by_cases hlt:j<68
  · obtain⟨x,hx⟩:∃ x,opsL[j]? = some x:=⟨_,List.getElem?_eq_getElem (by rw[Mx];exact hlt)⟩;have k0:=HCL.out j x hx;obtain⟨X,hX⟩:∃ X:ByteArray,⟨x.toArray⟩=X:=⟨_,rfl⟩;have hxX:x=X.data.toList:=by rw[←hX]
    rw[hX] at k0;have he:=eqK X m;have hi0:(0:Int)≤(j:Int):=om
    have hi1:(j:Int)<68:=om
    have HX:=Hh hx;clear hx;by_cases hm:x=m.data.toList
    · rw[decide_eq_true (show X=m by rw[←hX,hm])] at he;have hr:R=true:=by rw[←HR.out];exact decide_eq_true (by rw[←hm];exact List.mem_of_getElem? HX.out)
      subst hr;clear hm hX hxX;go_wp2_with fail
      go_ret;exact⟨rfl,HB.out⟩
    · rw[decide_eq_false (show ¬ X=m from fun e=>hm (by rw[hxX,e]))] at he
      have HM:=Hh hm;clear hm hX hxX;go_wp2_with fail
      go_roundw
      case rel=>exact⟨trivial,j+1,om,by go_num,Hh (aHv HX.out HNO.out HM.out)⟩
      case measure=>simp[intOf];omega
  · obtain rfl:j=68:=om
    have hr:R=false:=by
     rw[←HR.out];have h1:=HNO.out;rw[List.take_of_length_le (by rw[Mx];exact Nat.le_refl _)] at h1;exact decide_eq_false (fun h=>h1 _ h rfl)
    subst hr;go_wp2_with fail
    go_ret;exact⟨rfl,HB.out⟩
theorem aIm (m:List UInt8) (v:Value) (l:List Op3) (w:World) (hr:Row w v l.length (opc l)) :
 Calls prog 136 #[eU m v] w fun e w'=>e=.returned (.int .i64 (iR (m,l)))∧Below w.heap.size w w':=by
 have HKN:=Hh (fun X=>aIR ⟨m.toArray⟩ X);have HVL:=Hh aGZ;obtain⟨a,c,rfl,hc,hh⟩:=hr.op;have HH:=Hh hh;obtain⟨R,hR⟩:∃ R,iR (m,l)=R:=⟨_,rfl⟩;rw[hR];unfold iR at hR;dsimp only at hR;have HR:=Hh hR;clear hh hR;unfold eU;have hgl:∀ (X:World) (i:Nat),Below w.heap.size w X→i<l.length→∃ x,l[i]? = some x∧∃ g o,a=some ⟨g,o,none⟩∧g<X.heap.size∧X.cell? ⟨g,o+i*3,none⟩=some (.int .i64 x.1)∧X.cell? ⟨g,o+i*3+1,none⟩=some (.int .i64 x.2.1)∧X.cell? ⟨g,o+i*3+2,none⟩=some (.int .i64 x.2.2):=fun X i hb hi=>by
  obtain⟨x,hx⟩:∃ x,l[i]? = some x:=⟨_,List.getElem?_eq_getElem hi⟩;obtain⟨g,o,ha,hg,hcs⟩:=HH.out (by rintro rfl;exact absurd hi (Nat.not_lt_zero _))
  obtain⟨c0,c1,c2⟩:=hcs i x hx;exact⟨x,hx,g,o,ha,Nat.lt_of_lt_of_le hg hb.size,(hb.cell (p:=⟨g,_,none⟩) hg).trans c0,(hb.cell (p:=⟨g,_,none⟩) hg).trans c1,(hb.cell (p:=⟨g,_,none⟩) hg).trans c2⟩
 have HGL:=Hh hgl;clear hgl HH;have HC:=Hh hc;have hcc:(l.length:Int)≤(c:Int):=om
 clear hc;go_enter func136,ntmps136
 go_wp2_with fail
 obtain⟨W0,hW0⟩:∃ W,w.alloc (.cells #[.string ⟨m.toArray⟩,.slice a l.length c] 53)=W:=⟨_,rfl⟩;rw[hW0];have hb0:Below w.heap.size w W0:=by rw[←hW0];exact bl
 have hblk:W0.heap[w.heap.size]? = some (.cells #[.string ⟨m.toArray⟩,.slice a l.length c] 53 (0,0)):=by rw[←hW0];exact aF _ _
 have HBX:=Hh (fun W (hb:Below W0.heap.size W0 W)=>And.intro (aB hblk hb (aA hblk)) (hb0.trans (hb.mono hb0.size)));obtain⟨p0,p1,_,_⟩:=aL hblk;have hl0:=aA hblk;clear hW0 hb0 hblk;go_wp2_with fail
 (with_reducible refine (HKN.out W0).mono ?_);rintro e w1 ⟨rfl,hb1⟩;have HB1:=Hh hb1;obtain⟨q0,q1,_,_⟩:=aL (HBX.out w1 hb1).1;have hl1:=aA (HBX.out w1 hb1).1;clear hb1 p0 p1;by_cases hm:m∈opsL
 · have hr:(if 3<l.length then (11:Int) else if l.any (fun o=>!bP o.1 o.2.1 o.2.2) then 2 else 0)=R:=by rw[←HR.out];rw[if_neg (show ¬ (m∉opsL) from fun h=>h hm)]
   have HR2:=Hh hr;rw[show decide ((⟨m.toArray⟩:ByteArray).data.toList∈opsL)=true from decide_eq_true hm]
   clear hr hm HR;by_cases h3:3<l.length
   · have h3i:(3:Int)<(l.length:Int):=om
     have hr:R=11:=by rw[←HR2.out,if_pos h3]
     subst hr;clear h3 HR2;go_wp2_with fail
     go_ret;exact⟨rfl,(HBX.out w1 HB1.out).2⟩
   · have h3i:¬ (3:Int)<(l.length:Int):=om
     have hr:(if l.any (fun o=>!bP o.1 o.2.1 o.2.2) then (2:Int) else 0)=R:=by rw[←HR2.out,if_neg h3]
     have HR3:=Hh hr;have hl3:l.length≤3:=om
     clear h3 hr HR2;go_wp2_with fail
     go_loopw [3] (fun i wr=>∃ j:Nat,j≤l.length∧i=.int .i64 j∧Hid (Below W0.heap.size W0 wr)∧Hid (∀ o∈l.take j,bP o.1 o.2.1 o.2.2=true)) (fun i _=>l.length - (intOf i).toNat)
     case atStart=>exact⟨0,Nat.zero_le _,rfl,HB1,Hh sm⟩
     case round =>
      obtain⟨j,hj,rfl,HB,HOK⟩:=hrel;obtain⟨q0,q1,_,_⟩:=aL (HBX.out wr HB.out).1;have hlr:=aA (HBX.out wr HB.out).1;by_cases hlt:j<l.length
      · obtain⟨x,hx,g,o,rfl,hg,m0,m1,m2⟩:=HGL.out wr j (HBX.out wr HB.out).2 hlt;obtain⟨x0,x1,x2⟩:=x;dsimp only at m0 m1 m2;have hi0:(0:Int)≤(j:Int):=om
        have hi1:(j:Int)<(l.length:Int):=om
        have HX:=Hh hx;have HV:=Hh (HVL.out x0 x1 x2 wr);have hop:∀ y∈l.take (j+1),y∈l.take j∨y=(x0,x1,x2):=fun y hy=>by
         rw[List.take_add_one,hx] at hy;rcases List.mem_append.1 hy with h1|h1
         · exact .inl h1
         · simp at h1;exact .inr h1
        have HOP:=Hh hop;clear hx hop;go_wp2_with fail
        (with_reducible refine HV.out.mono ?_);rintro e w2 ⟨rfl,hb2⟩;have HB2:=Hh (HB.out.trans (hb2.mono HB.out.size));clear hb2 m0 m1 m2 q0 q1;cases hv:bP x0 x1 x2
        · have hr:R=2:=by
           rw[←HR3.out,if_pos];rw[List.any_eq_true];exact⟨_,List.mem_of_getElem? HX.out,by rw[hv];rfl⟩
          subst hr;clear hv;go_wp2_with fail
          go_ret;exact⟨rfl,(HBX.out w2 HB2.out).2⟩
        · have HV2:=Hh hv;clear hv;go_wp2_with fail
          go_roundw
          case rel=>exact⟨j+1,om,by go_num,HB2,Hh (fun y hy=>(HOP.out y hy).elim (fun h=>HOK.out y h) (fun h=>by rw[h];exact HV2.out))⟩
          case measure=>simp[intOf];omega
      · obtain rfl:j=l.length:=om
        have hr:R=0:=by
         rw[←HR3.out,if_neg];intro h;rw[List.any_eq_true] at h;obtain⟨y,hy,h⟩:=h
         have:=HOK.out y (by rw[List.take_length];exact hy)
         rw[this] at h;cases h
        subst hr;clear HR3;go_wp2_with fail
        go_ret;exact⟨rfl,(HBX.out wr HB.out).2⟩
 · have hr:R=12:=by rw[←HR.out];rw[if_pos hm]
   subst hr;rw[show decide ((⟨m.toArray⟩:ByteArray).data.toList∈opsL)=false from decide_eq_false hm]
   clear hm HR;go_wp2_with fail
   go_ret;exact⟨rfl,(HBX.out w1 HB1.out).2⟩
end Go.Proofs.YtoigglljnklhlaaGreatDoor
