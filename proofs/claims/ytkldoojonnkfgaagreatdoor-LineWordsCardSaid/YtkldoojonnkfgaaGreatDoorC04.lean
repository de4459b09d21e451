/- Joined texts: Fits, Of. -/
import Derived.Test.YtkldoojonnkfgaaGreatDoorC03
namespace Go.Proofs.YtkldoojonnkfgaaGreatDoor
open Go.RowKit
theorem t12_0 {p:Prop} (h:p:=by
 go_enter Tryz.func222,Tryz.ntmps222
 go_wp2
 refine wp_loop_rounds 2 ?_
 rw [rounds_succ]
 go_wp2
 go_ret
 exact ⟨by simp; omega,rfl⟩):p:=h
set_option maxHeartbeats 400000 in
theorem numFits1 (lo hi n:Int) (b:Nat) (w:World) (hc:w.cell? ⟨b,0,none⟩=some (.int .i64 n)) :
 Calls Tryz.prog 222 #[.int .i64 lo,.int .i64 hi,.slice (some ⟨b,0,none⟩) 1 1] w fun e w'=>e=.returned (.bool (decide (lo≤n) && decide (n≤hi)))∧w=w':=by
 by_cases h1:n<lo
 · exact t12_0
 · by_cases h2:hi<n
   · exact t12_0
   · go_enter Tryz.func222,Tryz.ntmps222
     go_wp2
     refine wp_loop_rounds 2 ?_
     rw [rounds_succ]
     go_wp2
     rw [rounds_succ]
     go_wp2
     go_ret
     exact ⟨by simp; omega,rfl⟩
end Go.Proofs.YtkldoojonnkfgaaGreatDoor
namespace Go.Proofs.YtkldoojonnkfgaaGreatDoor
open Go.RowKit Go.Sort
theorem names_get (k r:Nat) (h3:r<9):[Value.string (nm k 0),.string (nm k 1),.string (nm k 2),.string (nm k 3),.string (nm k 4),.string (nm k 5),.string (nm k 6),.string (nm k 7),.string (nm k 8),.int .i64 (klo k),.int .i64 (khi k),.func (.func (kf k)) #[] #[]][r]? = some (.string (nm k r)):=by
 have hr:r=0∨r=1∨r=2∨r=3∨r=4∨r=5∨r=6∨r=7∨r=8:=by omega
 rcases hr with rfl | rfl | rfl | rfl | rfl | rfl | rfl | rfl | rfl<;>rfl
set_option maxHeartbeats 4000000 in
theorem of_yes (k r:Nat) (n:Int) (w:World) (h1:1≤k) (h2:k≤10) (h3:r<9) (h4:(nm k r).toList.isEmpty=false) (h5:klo k≤n) (h6:n≤khi k) :
 Calls Tryz.prog 172 #[.agg #[.int .i64 k,.int .i64 r,.int .i64 n]] w fun e w' =>
  e=.returned (.tuple #[.agg #[.string (nm k 0),.string (nm k 1),.string (nm k 2),.string (nm k 3),.string (nm k 4),.string (nm k 5),.string (nm k 6),.string (nm k 7),.string (nm k 8),.int .i64 (klo k),.int .i64 (khi k),.func (.func (kf k)) #[] #[]],.string (nm k r),.bool true])∧Below w.heap.size w w':=by
 have hf:(decide (klo k≤n) && decide (n≤khi k))=true:=by simp [h5,h6]
 have hg:=names_get k r h3
 have hr0:(0:Int)≤(r:Int):=by omega
 have hr9:(r:Int)<9:=by omega
 go_enter Tryz.func172,Tryz.ntmps172
 go_wp2_with fail
 refine (find_yes k _ h1 h2).mono ?_
 rintro e w1 ⟨rfl,hb⟩
 obtain ⟨p1,rfl⟩:=gw_of_below hb
 clear hb
 go_wp2_with fail
 refine (numFits1 _ _ n _ _ ?hc1).mono ?_
 case hc1=>simp [go_sem]
 rintro e w2 ⟨rfl,rfl⟩
 rw [hf]
 go_wp2_with fail
 go_region
 all_goals go_wp2
 all_goals
  refine bodyPost_ret (v:=.tuple #[.agg #[.string (nm k 0),.string (nm k 1),.string (nm k 2),.string (nm k 3),.string (nm k 4),.string (nm k 5),.string (nm k 6),.string (nm k 7),.string (nm k 8),.int .i64 (klo k),.int .i64 (khi k),.func (.func (kf k)) #[] #[]],.string (nm k r),.bool true]) (by simp [results,Tryz.results172,go_sem]) rfl ⟨rfl,?_⟩
  (repeat (first | exact Below.refl _ _ | refine Below.drew ?_ | (refine below_gw' ?_ (by first | omega | (simp [go_sem]; done) | (simp [go_sem]; omega)) _) | (refine Below.alloc ?_ (by first | omega | (simp [go_sem]; done) | (simp [go_sem]; omega)) _) | (refine Below.setCell ?_ (by first | omega | (simp [go_sem]; done) | (simp [go_sem]; omega)) _)))
set_option maxHeartbeats 4000000 in
theorem of_no_kind (k r n:Int) (w:World) (h:k<1∨10<k) :
 Calls Tryz.prog 172 #[.agg #[.int .i64 k,.int .i64 r,.int .i64 n]] w fun e w' =>
  e=.returned (.tuple #[.agg #[.string ⟨#[]⟩,.string ⟨#[]⟩,.string ⟨#[]⟩,.string ⟨#[]⟩,.string ⟨#[]⟩,.string ⟨#[]⟩,.string ⟨#[]⟩,.string ⟨#[]⟩,.string ⟨#[]⟩,.int .i64 0,.int .i64 0,.nilFunc],.string ⟨#[]⟩,.bool false])∧Below w.heap.size w w':=by
 have H:=Hh h; clear h
 go_enter Tryz.func172,Tryz.ntmps172
 go_wp2_with fail
 refine (find_no k _ H.out).mono ?_
 rintro e w1 ⟨rfl,hb⟩
 obtain ⟨p1,rfl⟩:=gw_of_below hb
 clear hb
 go_wp2_with fail
 all_goals
  refine bodyPost_ret (v:=.tuple #[.agg #[.string ⟨#[]⟩,.string ⟨#[]⟩,.string ⟨#[]⟩,.string ⟨#[]⟩,.string ⟨#[]⟩,.string ⟨#[]⟩,.string ⟨#[]⟩,.string ⟨#[]⟩,.string ⟨#[]⟩,.int .i64 0,.int .i64 0,.nilFunc],.string ⟨#[]⟩,.bool false]) (by simp [results,Tryz.results172,go_sem]) rfl ⟨rfl,?_⟩
  (repeat (first | exact Below.refl _ _ | refine Below.drew ?_ | (refine below_gw' ?_ (by first | omega | (simp [go_sem]; done) | (simp [go_sem]; omega)) _) | (refine Below.alloc ?_ (by first | omega | (simp [go_sem]; done) | (simp [go_sem]; omega)) _) | (refine Below.setCell ?_ (by first | omega | (simp [go_sem]; done) | (simp [go_sem]; omega)) _)))
set_option maxHeartbeats 4000000 in
theorem of_no_reg (k:Nat) (r n:Int) (w:World) (h1:1≤k) (h2:k≤10) (h:r<0∨9≤r) :
 Calls Tryz.prog 172 #[.agg #[.int .i64 k,.int .i64 r,.int .i64 n]] w fun e w' =>
  e=.returned (.tuple #[.agg #[.string ⟨#[]⟩,.string ⟨#[]⟩,.string ⟨#[]⟩,.string ⟨#[]⟩,.string ⟨#[]⟩,.string ⟨#[]⟩,.string ⟨#[]⟩,.string ⟨#[]⟩,.string ⟨#[]⟩,.int .i64 0,.int .i64 0,.nilFunc],.string ⟨#[]⟩,.bool false])∧Below w.heap.size w w':=by
 rcases h with h | h
 all_goals
  go_enter Tryz.func172,Tryz.ntmps172
  go_wp2_with fail
  refine (find_yes k _ h1 h2).mono ?_
  rintro e w1 ⟨rfl,hb⟩
  obtain ⟨p1,rfl⟩:=gw_of_below hb
  clear hb
  go_wp2_with fail
  refine bodyPost_ret (v:=.tuple #[.agg #[.string ⟨#[]⟩,.string ⟨#[]⟩,.string ⟨#[]⟩,.string ⟨#[]⟩,.string ⟨#[]⟩,.string ⟨#[]⟩,.string ⟨#[]⟩,.string ⟨#[]⟩,.string ⟨#[]⟩,.int .i64 0,.int .i64 0,.nilFunc],.string ⟨#[]⟩,.bool false]) (by simp [results,Tryz.results172,go_sem]) rfl ⟨rfl,?_⟩
  (repeat (first | exact Below.refl _ _ | refine Below.drew ?_ | (refine below_gw' ?_ (by first | omega | (simp [go_sem]; done) | (simp [go_sem]; omega)) _) | (refine Below.alloc ?_ (by first | omega | (simp [go_sem]; done) | (simp [go_sem]; omega)) _) | (refine Below.setCell ?_ (by first | omega | (simp [go_sem]; done) | (simp [go_sem]; omega)) _)))
set_option maxHeartbeats 4000000 in
theorem of_no_name (k r:Nat) (n:Int) (w:World) (h1:1≤k) (h2:k≤10) (h3:r<9) (h4:(nm k r).toList.isEmpty=true) :
 Calls Tryz.prog 172 #[.agg #[.int .i64 k,.int .i64 r,.int .i64 n]] w fun e w' =>
  e=.returned (.tuple #[.agg #[.string ⟨#[]⟩,.string ⟨#[]⟩,.string ⟨#[]⟩,.string ⟨#[]⟩,.string ⟨#[]⟩,.string ⟨#[]⟩,.string ⟨#[]⟩,.string ⟨#[]⟩,.string ⟨#[]⟩,.int .i64 0,.int .i64 0,.nilFunc],.string ⟨#[]⟩,.bool false])∧Below w.heap.size w w':=by
 have hg:=names_get k r h3
 have hr0:(0:Int)≤(r:Int):=by omega
 have hr9:(r:Int)<9:=by omega
 go_enter Tryz.func172,Tryz.ntmps172
 go_wp2_with fail
 refine (find_yes k _ h1 h2).mono ?_
 rintro e w1 ⟨rfl,hb⟩
 obtain ⟨p1,rfl⟩:=gw_of_below hb
 clear hb
 go_wp2_with fail
 refine bodyPost_ret (v:=.tuple #[.agg #[.string ⟨#[]⟩,.string ⟨#[]⟩,.string ⟨#[]⟩,.string ⟨#[]⟩,.string ⟨#[]⟩,.string ⟨#[]⟩,.string ⟨#[]⟩,.string ⟨#[]⟩,.string ⟨#[]⟩,.int .i64 0,.int .i64 0,.nilFunc],.string ⟨#[]⟩,.bool false]) (by simp [results,Tryz.results172,go_sem]) rfl ⟨rfl,?_⟩
 (repeat (first | exact Below.refl _ _ | refine Below.drew ?_ | (refine below_gw' ?_ (by first | omega | (simp [go_sem]; done) | (simp [go_sem]; omega)) _) | (refine Below.alloc ?_ (by first | omega | (simp [go_sem]; done) | (simp [go_sem]; omega)) _) | (refine Below.setCell ?_ (by first | omega | (simp [go_sem]; done) | (simp [go_sem]; omega)) _)))
set_option maxHeartbeats 4000000 in
theorem of_no_num (k r:Nat) (n:Int) (w:World) (h1:1≤k) (h2:k≤10) (h3:r<9) (h4:(nm k r).toList.isEmpty=false) (h5:n<klo k∨khi k<n) :
 Calls Tryz.prog 172 #[.agg #[.int .i64 k,.int .i64 r,.int .i64 n]] w fun e w' =>
  e=.returned (.tuple #[.agg #[.string ⟨#[]⟩,.string ⟨#[]⟩,.string ⟨#[]⟩,.string ⟨#[]⟩,.string ⟨#[]⟩,.string ⟨#[]⟩,.string ⟨#[]⟩,.string ⟨#[]⟩,.string ⟨#[]⟩,.int .i64 0,.int .i64 0,.nilFunc],.string ⟨#[]⟩,.bool false])∧Below w.heap.size w w':=by
 have hf:(decide (klo k≤n) && decide (n≤khi k))=false:=by simp; omega
 have hg:=names_get k r h3
 have hr0:(0:Int)≤(r:Int):=by omega
 have hr9:(r:Int)<9:=by omega
 clear h5
 go_enter Tryz.func172,Tryz.ntmps172
 go_wp2_with fail
 refine (find_yes k _ h1 h2).mono ?_
 rintro e w1 ⟨rfl,hb⟩
 obtain ⟨p1,rfl⟩:=gw_of_below hb
 clear hb
 go_wp2_with fail
 refine (numFits1 _ _ n _ _ ?hc1).mono ?_
 case hc1=>simp [go_sem]
 rintro e w2 ⟨rfl,rfl⟩
 rw [hf]
 go_wp2_with fail
 refine bodyPost_ret (v:=.tuple #[.agg #[.string ⟨#[]⟩,.string ⟨#[]⟩,.string ⟨#[]⟩,.string ⟨#[]⟩,.string ⟨#[]⟩,.string ⟨#[]⟩,.string ⟨#[]⟩,.string ⟨#[]⟩,.string ⟨#[]⟩,.int .i64 0,.int .i64 0,.nilFunc],.string ⟨#[]⟩,.bool false]) (by simp [results,Tryz.results172,go_sem]) rfl ⟨rfl,?_⟩
 (repeat (first | exact Below.refl _ _ | refine Below.drew ?_ | (refine below_gw' ?_ (by first | omega | (simp [go_sem]; done) | (simp [go_sem]; omega)) _) | (refine Below.alloc ?_ (by first | omega | (simp [go_sem]; done) | (simp [go_sem]; omega)) _) | (refine Below.setCell ?_ (by first | omega | (simp [go_sem]; done) | (simp [go_sem]; omega)) _)))
end Go.Proofs.YtkldoojonnkfgaaGreatDoor
