/- Joined. -/
import Derived.Test.YtoigglljnklhlaaGreatDoorD10
set_option maxHeartbeats 8000000
set_option maxRecDepth 100000
namespace Go.Proofs.YtoigglljnklhlaaGreatDoor
open Go.RowKit Go.Sort
def pY (x:Option Ent × Nat) (w:World) (e:Ending) (w':World):Prop:=∃ v,e=.returned (.tuple #[cP (x.1.getD ent0) v,.int .i64 x.2])∧Row w' v (x.1.getD ent0).args.length (opc (x.1.getD ent0).args)∧Below w.heap.size w w'
end Go.Proofs.YtoigglljnklhlaaGreatDoor
