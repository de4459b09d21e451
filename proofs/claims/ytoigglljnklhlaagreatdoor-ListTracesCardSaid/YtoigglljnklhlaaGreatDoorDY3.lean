/- Joined. -/
import Derived.Test.YtoigglljnklhlaaGreatDoorDX3
import Derived.Test.YtoigglljnklhlaaGreatDoorDX4
import Derived.Test.YtoigglljnklhlaaGreatDoorDX5
set_option maxHeartbeats 8000000
set_option maxRecDepth 100000
namespace Go.Proofs.YtoigglljnklhlaaGreatDoor
open Go.RowKit Go.Sort
open Go.Proofs.Tryz
theorem Uk (page op:Nat) (hp:page<7) (hop:op<256) (w:World):Calls prog 53 #[page,.int .u8 op] w (pY (atR page op) w):=by
 rcases (by omega:page=0∨page=1∨page=2∨page=3∨page=4∨page=5∨page=6) with rfl|rfl|rfl|rfl|rfl|rfl|rfl
 · exact aGG op hop w
 · exact aGF op hop w
 · exact aGE op hop w
 · exact aGD op hop w
 · exact aGC op hop w
 · exact aGB op hop w
 · exact aGA op hop w
end Go.Proofs.YtoigglljnklhlaaGreatDoor
