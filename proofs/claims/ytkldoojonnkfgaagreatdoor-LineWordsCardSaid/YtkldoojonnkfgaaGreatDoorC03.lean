/- Joined texts: Find. -/
import Derived.Test.YtkldoojonnkfgaaGreatDoorC01
namespace Go.Proofs.YtkldoojonnkfgaaGreatDoor
open Go.RowKit
def nm:Nat→Nat→ByteArray
 | 1,0=>⟨#[66]⟩
 | 1,1=>⟨#[67]⟩
 | 1,2=>⟨#[68]⟩
 | 1,3=>⟨#[69]⟩
 | 1,4=>⟨#[72]⟩
 | 1,5=>⟨#[76]⟩
 | 1,6=>⟨#[]⟩
 | 1,7=>⟨#[65]⟩
 | 1,8=>⟨#[]⟩
 | 2,0=>⟨#[73,88,72]⟩
 | 2,1=>⟨#[73,88,76]⟩
 | 2,2=>⟨#[73,89,72]⟩
 | 2,3=>⟨#[73,89,76]⟩
 | 2,4=>⟨#[]⟩
 | 2,5=>⟨#[]⟩
 | 2,6=>⟨#[]⟩
 | 2,7=>⟨#[]⟩
 | 2,8=>⟨#[]⟩
 | 3,0=>⟨#[66,67]⟩
 | 3,1=>⟨#[68,69]⟩
 | 3,2=>⟨#[72,76]⟩
 | 3,3=>⟨#[83,80]⟩
 | 3,4=>⟨#[65,70]⟩
 | 3,5=>⟨#[73,88]⟩
 | 3,6=>⟨#[73,89]⟩
 | 3,7=>⟨#[65,70,39]⟩
 | 3,8=>⟨#[]⟩
 | 4,0=>⟨#[66,67]⟩
 | 4,1=>⟨#[68,69]⟩
 | 4,2=>⟨#[72,76]⟩
 | 4,3=>⟨#[83,80]⟩
 | 4,4=>⟨#[]⟩
 | 4,5=>⟨#[73,88]⟩
 | 4,6=>⟨#[73,89]⟩
 | 4,7=>⟨#[]⟩
 | 4,8=>⟨#[67]⟩
 | 5,0=>⟨#[]⟩
 | 5,1=>⟨#[]⟩
 | 5,2=>⟨#[]⟩
 | 5,3=>⟨#[]⟩
 | 5,4=>⟨#[]⟩
 | 5,5=>⟨#[73,88]⟩
 | 5,6=>⟨#[73,89]⟩
 | 5,7=>⟨#[]⟩
 | 5,8=>⟨#[]⟩
 | 6,0=>⟨#[42]⟩
 | 6,1=>⟨#[]⟩
 | 6,2=>⟨#[]⟩
 | 6,3=>⟨#[]⟩
 | 6,4=>⟨#[]⟩
 | 6,5=>⟨#[]⟩
 | 6,6=>⟨#[]⟩
 | 6,7=>⟨#[]⟩
 | 6,8=>⟨#[]⟩
 | 7,0=>⟨#[42]⟩
 | 7,1=>⟨#[]⟩
 | 7,2=>⟨#[]⟩
 | 7,3=>⟨#[]⟩
 | 7,4=>⟨#[]⟩
 | 7,5=>⟨#[]⟩
 | 7,6=>⟨#[]⟩
 | 7,7=>⟨#[]⟩
 | 7,8=>⟨#[]⟩
 | 8,0=>⟨#[78,90]⟩
 | 8,1=>⟨#[90]⟩
 | 8,2=>⟨#[78,67]⟩
 | 8,3=>⟨#[67]⟩
 | 8,4=>⟨#[80,79]⟩
 | 8,5=>⟨#[80,69]⟩
 | 8,6=>⟨#[80]⟩
 | 8,7=>⟨#[77]⟩
 | 8,8=>⟨#[]⟩
 | 9,0=>⟨#[73]⟩
 | 9,1=>⟨#[82]⟩
 | 9,2=>⟨#[]⟩
 | 9,3=>⟨#[]⟩
 | 9,4=>⟨#[]⟩
 | 9,5=>⟨#[]⟩
 | 9,6=>⟨#[]⟩
 | 9,7=>⟨#[]⟩
 | 9,8=>⟨#[]⟩
 | 10,0=>⟨#[42]⟩
 | 10,1=>⟨#[]⟩
 | 10,2=>⟨#[]⟩
 | 10,3=>⟨#[]⟩
 | 10,4=>⟨#[]⟩
 | 10,5=>⟨#[]⟩
 | 10,6=>⟨#[]⟩
 | 10,7=>⟨#[]⟩
 | 10,8=>⟨#[]⟩
 | _,_=>⟨#[]⟩
def klo:Nat→Int | 5=>-128 | 6=>-32768 | 10=>-128 | _=>0
def khi:Nat→Int | 5=>127 | 6=>65535 | 7=>65535 | 10=>127 | _=>0
def kf:Nat→Nat
 | 4=>304 | 5=>305 | 6=>307 | 7=>308 | 10=>309 | _=>303
theorem find_1 (w:World) :
 Calls Tryz.prog 249 #[.int .i64 1] w fun e w'=>e=.returned (.tuple #[.agg #[.string (nm 1 0),.string (nm 1 1),.string (nm 1 2),.string (nm 1 3),.string (nm 1 4),.string (nm 1 5),.string (nm 1 6),.string (nm 1 7),.string (nm 1 8),.int .i64 (klo 1),.int .i64 (khi 1),.func (.func (kf 1)) #[] #[]],.bool true])∧Below w.heap.size w w':=by
 go_enter Tryz.func249,Tryz.ntmps249
 go_wp2
 refine bodyPost_ret (v:=.tuple #[.agg #[.string ⟨#[66]⟩,.string ⟨#[67]⟩,.string ⟨#[68]⟩,.string ⟨#[69]⟩,.string ⟨#[72]⟩,.string ⟨#[76]⟩,.string ⟨#[]⟩,.string ⟨#[65]⟩,.string ⟨#[]⟩,.int .i64 (0),.int .i64 (0),.func (.func 303) #[] #[]],.bool true]) (by simp [results,Tryz.results249,go_sem]) rfl ⟨rfl,?_⟩
 exact (Below.refl _ _).alloc (Nat.le_refl _) _
theorem find_2 (w:World) :
 Calls Tryz.prog 249 #[.int .i64 2] w fun e w'=>e=.returned (.tuple #[.agg #[.string (nm 2 0),.string (nm 2 1),.string (nm 2 2),.string (nm 2 3),.string (nm 2 4),.string (nm 2 5),.string (nm 2 6),.string (nm 2 7),.string (nm 2 8),.int .i64 (klo 2),.int .i64 (khi 2),.func (.func (kf 2)) #[] #[]],.bool true])∧Below w.heap.size w w':=by
 go_enter Tryz.func249,Tryz.ntmps249
 go_wp2
 refine bodyPost_ret (v:=.tuple #[.agg #[.string ⟨#[73,88,72]⟩,.string ⟨#[73,88,76]⟩,.string ⟨#[73,89,72]⟩,.string ⟨#[73,89,76]⟩,.string ⟨#[]⟩,.string ⟨#[]⟩,.string ⟨#[]⟩,.string ⟨#[]⟩,.string ⟨#[]⟩,.int .i64 (0),.int .i64 (0),.func (.func 303) #[] #[]],.bool true]) (by simp [results,Tryz.results249,go_sem]) rfl ⟨rfl,?_⟩
 exact (Below.refl _ _).alloc (Nat.le_refl _) _
theorem find_3 (w:World) :
 Calls Tryz.prog 249 #[.int .i64 3] w fun e w'=>e=.returned (.tuple #[.agg #[.string (nm 3 0),.string (nm 3 1),.string (nm 3 2),.string (nm 3 3),.string (nm 3 4),.string (nm 3 5),.string (nm 3 6),.string (nm 3 7),.string (nm 3 8),.int .i64 (klo 3),.int .i64 (khi 3),.func (.func (kf 3)) #[] #[]],.bool true])∧Below w.heap.size w w':=by
 go_enter Tryz.func249,Tryz.ntmps249
 go_wp2
 refine bodyPost_ret (v:=.tuple #[.agg #[.string ⟨#[66,67]⟩,.string ⟨#[68,69]⟩,.string ⟨#[72,76]⟩,.string ⟨#[83,80]⟩,.string ⟨#[65,70]⟩,.string ⟨#[73,88]⟩,.string ⟨#[73,89]⟩,.string ⟨#[65,70,39]⟩,.string ⟨#[]⟩,.int .i64 (0),.int .i64 (0),.func (.func 303) #[] #[]],.bool true]) (by simp [results,Tryz.results249,go_sem]) rfl ⟨rfl,?_⟩
 exact (Below.refl _ _).alloc (Nat.le_refl _) _
theorem find_4 (w:World) :
 Calls Tryz.prog 249 #[.int .i64 4] w fun e w'=>e=.returned (.tuple #[.agg #[.string (nm 4 0),.string (nm 4 1),.string (nm 4 2),.string (nm 4 3),.string (nm 4 4),.string (nm 4 5),.string (nm 4 6),.string (nm 4 7),.string (nm 4 8),.int .i64 (klo 4),.int .i64 (khi 4),.func (.func (kf 4)) #[] #[]],.bool true])∧Below w.heap.size w w':=by
 go_enter Tryz.func249,Tryz.ntmps249
 go_wp2
 refine bodyPost_ret (v:=.tuple #[.agg #[.string ⟨#[66,67]⟩,.string ⟨#[68,69]⟩,.string ⟨#[72,76]⟩,.string ⟨#[83,80]⟩,.string ⟨#[]⟩,.string ⟨#[73,88]⟩,.string ⟨#[73,89]⟩,.string ⟨#[]⟩,.string ⟨#[67]⟩,.int .i64 (0),.int .i64 (0),.func (.func 304) #[] #[]],.bool true]) (by simp [results,Tryz.results249,go_sem]) rfl ⟨rfl,?_⟩
 exact (Below.refl _ _).alloc (Nat.le_refl _) _
theorem find_5 (w:World) :
 Calls Tryz.prog 249 #[.int .i64 5] w fun e w'=>e=.returned (.tuple #[.agg #[.string (nm 5 0),.string (nm 5 1),.string (nm 5 2),.string (nm 5 3),.string (nm 5 4),.string (nm 5 5),.string (nm 5 6),.string (nm 5 7),.string (nm 5 8),.int .i64 (klo 5),.int .i64 (khi 5),.func (.func (kf 5)) #[] #[]],.bool true])∧Below w.heap.size w w':=by
 go_enter Tryz.func249,Tryz.ntmps249
 go_wp2
 refine bodyPost_ret (v:=.tuple #[.agg #[.string ⟨#[]⟩,.string ⟨#[]⟩,.string ⟨#[]⟩,.string ⟨#[]⟩,.string ⟨#[]⟩,.string ⟨#[73,88]⟩,.string ⟨#[73,89]⟩,.string ⟨#[]⟩,.string ⟨#[]⟩,.int .i64 (-128),.int .i64 (127),.func (.func 305) #[] #[]],.bool true]) (by simp [results,Tryz.results249,go_sem]) rfl ⟨rfl,?_⟩
 exact (Below.refl _ _).alloc (Nat.le_refl _) _
theorem find_6 (w:World) :
 Calls Tryz.prog 249 #[.int .i64 6] w fun e w'=>e=.returned (.tuple #[.agg #[.string (nm 6 0),.string (nm 6 1),.string (nm 6 2),.string (nm 6 3),.string (nm 6 4),.string (nm 6 5),.string (nm 6 6),.string (nm 6 7),.string (nm 6 8),.int .i64 (klo 6),.int .i64 (khi 6),.func (.func (kf 6)) #[] #[]],.bool true])∧Below w.heap.size w w':=by
 go_enter Tryz.func249,Tryz.ntmps249
 go_wp2
 refine bodyPost_ret (v:=.tuple #[.agg #[.string ⟨#[42]⟩,.string ⟨#[]⟩,.string ⟨#[]⟩,.string ⟨#[]⟩,.string ⟨#[]⟩,.string ⟨#[]⟩,.string ⟨#[]⟩,.string ⟨#[]⟩,.string ⟨#[]⟩,.int .i64 (-32768),.int .i64 (65535),.func (.func 307) #[] #[]],.bool true]) (by simp [results,Tryz.results249,go_sem]) rfl ⟨rfl,?_⟩
 exact (Below.refl _ _).alloc (Nat.le_refl _) _
theorem find_7 (w:World) :
 Calls Tryz.prog 249 #[.int .i64 7] w fun e w'=>e=.returned (.tuple #[.agg #[.string (nm 7 0),.string (nm 7 1),.string (nm 7 2),.string (nm 7 3),.string (nm 7 4),.string (nm 7 5),.string (nm 7 6),.string (nm 7 7),.string (nm 7 8),.int .i64 (klo 7),.int .i64 (khi 7),.func (.func (kf 7)) #[] #[]],.bool true])∧Below w.heap.size w w':=by
 go_enter Tryz.func249,Tryz.ntmps249
 go_wp2
 refine bodyPost_ret (v:=.tuple #[.agg #[.string ⟨#[42]⟩,.string ⟨#[]⟩,.string ⟨#[]⟩,.string ⟨#[]⟩,.string ⟨#[]⟩,.string ⟨#[]⟩,.string ⟨#[]⟩,.string ⟨#[]⟩,.string ⟨#[]⟩,.int .i64 (0),.int .i64 (65535),.func (.func 308) #[] #[]],.bool true]) (by simp [results,Tryz.results249,go_sem]) rfl ⟨rfl,?_⟩
 exact (Below.refl _ _).alloc (Nat.le_refl _) _
theorem find_8 (w:World) :
 Calls Tryz.prog 249 #[.int .i64 8] w fun e w'=>e=.returned (.tuple #[.agg #[.string (nm 8 0),.string (nm 8 1),.string (nm 8 2),.string (nm 8 3),.string (nm 8 4),.string (nm 8 5),.string (nm 8 6),.string (nm 8 7),.string (nm 8 8),.int .i64 (klo 8),.int .i64 (khi 8),.func (.func (kf 8)) #[] #[]],.bool true])∧Below w.heap.size w w':=by
 go_enter Tryz.func249,Tryz.ntmps249
 go_wp2
 refine bodyPost_ret (v:=.tuple #[.agg #[.string ⟨#[78,90]⟩,.string ⟨#[90]⟩,.string ⟨#[78,67]⟩,.string ⟨#[67]⟩,.string ⟨#[80,79]⟩,.string ⟨#[80,69]⟩,.string ⟨#[80]⟩,.string ⟨#[77]⟩,.string ⟨#[]⟩,.int .i64 (0),.int .i64 (0),.func (.func 303) #[] #[]],.bool true]) (by simp [results,Tryz.results249,go_sem]) rfl ⟨rfl,?_⟩
 exact (Below.refl _ _).alloc (Nat.le_refl _) _
theorem find_9 (w:World) :
 Calls Tryz.prog 249 #[.int .i64 9] w fun e w'=>e=.returned (.tuple #[.agg #[.string (nm 9 0),.string (nm 9 1),.string (nm 9 2),.string (nm 9 3),.string (nm 9 4),.string (nm 9 5),.string (nm 9 6),.string (nm 9 7),.string (nm 9 8),.int .i64 (klo 9),.int .i64 (khi 9),.func (.func (kf 9)) #[] #[]],.bool true])∧Below w.heap.size w w':=by
 go_enter Tryz.func249,Tryz.ntmps249
 go_wp2
 refine bodyPost_ret (v:=.tuple #[.agg #[.string ⟨#[73]⟩,.string ⟨#[82]⟩,.string ⟨#[]⟩,.string ⟨#[]⟩,.string ⟨#[]⟩,.string ⟨#[]⟩,.string ⟨#[]⟩,.string ⟨#[]⟩,.string ⟨#[]⟩,.int .i64 (0),.int .i64 (0),.func (.func 303) #[] #[]],.bool true]) (by simp [results,Tryz.results249,go_sem]) rfl ⟨rfl,?_⟩
 exact (Below.refl _ _).alloc (Nat.le_refl _) _
theorem find_10 (w:World) :
 Calls Tryz.prog 249 #[.int .i64 10] w fun e w'=>e=.returned (.tuple #[.agg #[.string (nm 10 0),.string (nm 10 1),.string (nm 10 2),.string (nm 10 3),.string (nm 10 4),.string (nm 10 5),.string (nm 10 6),.string (nm 10 7),.string (nm 10 8),.int .i64 (klo 10),.int .i64 (khi 10),.func (.func (kf 10)) #[] #[]],.bool true])∧Below w.heap.size w w':=by
 go_enter Tryz.func249,Tryz.ntmps249
 go_wp2
 refine bodyPost_ret (v:=.tuple #[.agg #[.string ⟨#[42]⟩,.string ⟨#[]⟩,.string ⟨#[]⟩,.string ⟨#[]⟩,.string ⟨#[]⟩,.string ⟨#[]⟩,.string ⟨#[]⟩,.string ⟨#[]⟩,.string ⟨#[]⟩,.int .i64 (-128),.int .i64 (127),.func (.func 309) #[] #[]],.bool true]) (by simp [results,Tryz.results249,go_sem]) rfl ⟨rfl,?_⟩
 exact (Below.refl _ _).alloc (Nat.le_refl _) _
theorem find_yes (k:Nat) (w:World) (h:1≤k) (h':k≤10) :
 Calls Tryz.prog 249 #[.int .i64 k] w fun e w'=>e=.returned (.tuple #[.agg #[.string (nm k 0),.string (nm k 1),.string (nm k 2),.string (nm k 3),.string (nm k 4),.string (nm k 5),.string (nm k 6),.string (nm k 7),.string (nm k 8),.int .i64 (klo k),.int .i64 (khi k),.func (.func (kf k)) #[] #[]],.bool true])∧Below w.heap.size w w':=by
 have hk:k=1∨k=2∨k=3∨k=4∨k=5∨k=6∨k=7∨k=8∨k=9∨k=10:=by omega
 rcases hk with rfl | rfl | rfl | rfl | rfl | rfl | rfl | rfl | rfl | rfl
 · exact find_1 w
 · exact find_2 w
 · exact find_3 w
 · exact find_4 w
 · exact find_5 w
 · exact find_6 w
 · exact find_7 w
 · exact find_8 w
 · exact find_9 w
 · exact find_10 w
theorem find_no (k:Int) (w:World) (h:k<1∨10<k) :
 Calls Tryz.prog 249 #[.int .i64 k] w fun e w'=>e=.returned (.tuple #[.agg #[.string ⟨#[]⟩,.string ⟨#[]⟩,.string ⟨#[]⟩,.string ⟨#[]⟩,.string ⟨#[]⟩,.string ⟨#[]⟩,.string ⟨#[]⟩,.string ⟨#[]⟩,.string ⟨#[]⟩,.int .i64 0,.int .i64 0,.nilFunc],.bool false])∧Below w.heap.size w w':=by
 have e1:(k == 1)=false:=by simp; omega
 have e2:(k == 2)=false:=by simp; omega
 have e3:(k == 3)=false:=by simp; omega
 have e4:(k == 4)=false:=by simp; omega
 have e5:(k == 5)=false:=by simp; omega
 have e6:(k == 6)=false:=by simp; omega
 have e7:(k == 7)=false:=by simp; omega
 have e8:(k == 8)=false:=by simp; omega
 have e9:(k == 9)=false:=by simp; omega
 have e10:(k == 10)=false:=by simp; omega
 clear h
 go_enter Tryz.func249,Tryz.ntmps249
 go_wp2
 refine bodyPost_ret (v:=.tuple #[.agg #[.string ⟨#[]⟩,.string ⟨#[]⟩,.string ⟨#[]⟩,.string ⟨#[]⟩,.string ⟨#[]⟩,.string ⟨#[]⟩,.string ⟨#[]⟩,.string ⟨#[]⟩,.string ⟨#[]⟩,.int .i64 0,.int .i64 0,.nilFunc],.bool false]) (by simp [results,Tryz.results249,go_sem]) rfl ⟨rfl,?_⟩
 exact (Below.refl _ _).alloc (Nat.le_refl _) _
end Go.Proofs.YtkldoojonnkfgaaGreatDoor
