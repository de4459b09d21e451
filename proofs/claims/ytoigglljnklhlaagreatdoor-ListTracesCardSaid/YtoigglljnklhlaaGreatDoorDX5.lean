/- Joined. -/
import Derived.Test.YtoigglljnklhlaaGreatDoorDY2
set_option maxHeartbeats 8000000
set_option maxRecDepth 100000
namespace Go.Proofs.YtoigglljnklhlaaGreatDoor
open Go.RowKit Go.Sort
open Go.Proofs.Tryz
set_option maxRecDepth 1000000 in
theorem aGP:((List.range 64).all fun i=>aCv (atR 4 (0+i)) (aKB prog (fbL prog fs9) 10 8 53 [.c (.int .i64 (4:Nat)),.c (.int .u8 (0+i:Nat))]))=true:=by decide +kernel
set_option maxRecDepth 1000000 in
theorem aGv:((List.range 64).all fun i=>aCv (atR 4 (64+i)) (aKB prog (fbL prog fs9) 10 8 53 [.c (.int .i64 (4:Nat)),.c (.int .u8 (64+i:Nat))]))=true:=by decide +kernel
set_option maxRecDepth 1000000 in
theorem aFP:((List.range 64).all fun i=>aCv (atR 4 (128+i)) (aKB prog (fbL prog fs9) 10 8 53 [.c (.int .i64 (4:Nat)),.c (.int .u8 (128+i:Nat))]))=true:=by decide +kernel
set_option maxRecDepth 1000000 in
theorem aFO:((List.range 64).all fun i=>aCv (atR 4 (192+i)) (aKB prog (fbL prog fs9) 10 8 53 [.c (.int .i64 (4:Nat)),.c (.int .u8 (192+i:Nat))]))=true:=by decide +kernel
theorem aGC (op:Nat) (hop:op<256) (w:World):Calls prog 53 #[.int .i64 (4:Nat),.int .u8 op] w (pY (atR 4 op) w):=by
 rcases (by omega:op<64∨(64≤op∧op<128)∨(128≤op∧op<192)∨192≤op) with h|h|h|h
 · exact aKA aGP (Qi _) om w
 · exact aKA aGv h.1 om w
 · exact aKA aFP h.1 om w
 · exact aKA aFO h om w
end Go.Proofs.YtoigglljnklhlaaGreatDoor
