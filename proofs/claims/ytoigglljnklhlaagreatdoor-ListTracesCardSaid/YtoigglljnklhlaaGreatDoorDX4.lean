/- Joined. -/
import Derived.Test.YtoigglljnklhlaaGreatDoorDY2
set_option maxHeartbeats 8000000
set_option maxRecDepth 100000
namespace Go.Proofs.YtoigglljnklhlaaGreatDoor
open Go.RowKit Go.Sort
open Go.Proofs.Tryz
set_option maxRecDepth 1000000 in
theorem aGQ:((List.range 64).all fun i=>aCv (atR 3 (0+i)) (aKB prog (fbL prog fs9) 10 8 53 [.c (.int .i64 (3:Nat)),.c (.int .u8 (0+i:Nat))]))=true:=by decide +kernel
set_option maxRecDepth 1000000 in
theorem aGw:((List.range 64).all fun i=>aCv (atR 3 (64+i)) (aKB prog (fbL prog fs9) 10 8 53 [.c (.int .i64 (3:Nat)),.c (.int .u8 (64+i:Nat))]))=true:=by decide +kernel
set_option maxRecDepth 1000000 in
theorem aFR:((List.range 64).all fun i=>aCv (atR 3 (128+i)) (aKB prog (fbL prog fs9) 10 8 53 [.c (.int .i64 (3:Nat)),.c (.int .u8 (128+i:Nat))]))=true:=by decide +kernel
set_option maxRecDepth 1000000 in
theorem aFQ:((List.range 64).all fun i=>aCv (atR 3 (192+i)) (aKB prog (fbL prog fs9) 10 8 53 [.c (.int .i64 (3:Nat)),.c (.int .u8 (192+i:Nat))]))=true:=by decide +kernel
theorem aGD (op:Nat) (hop:op<256) (w:World):Calls prog 53 #[.int .i64 (3:Nat),.int .u8 op] w (pY (atR 3 op) w):=by
 rcases (by omega:op<64∨(64≤op∧op<128)∨(128≤op∧op<192)∨192≤op) with h|h|h|h
 · exact aKA aGQ (Qi _) om w
 · exact aKA aGw h.1 om w
 · exact aKA aFR h.1 om w
 · exact aKA aFQ h om w
end Go.Proofs.YtoigglljnklhlaaGreatDoor
