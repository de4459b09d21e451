/- Joined. -/
import Derived.Test.YtoigglljnklhlaaGreatDoorDY2
set_option maxHeartbeats 8000000
set_option maxRecDepth 100000
namespace Go.Proofs.YtoigglljnklhlaaGreatDoor
open Go.RowKit Go.Sort
open Go.Proofs.Tryz
set_option maxRecDepth 1000000 in
theorem aGT:((List.range 64).all fun i=>aCv (atR 0 (0+i)) (aKB prog (fbL prog fs9) 10 8 53 [.c (.int .i64 (0:Nat)),.c (.int .u8 (0+i:Nat))]))=true:=by decide +kernel
set_option maxRecDepth 1000000 in
theorem aGz:((List.range 64).all fun i=>aCv (atR 0 (64+i)) (aKB prog (fbL prog fs9) 10 8 53 [.c (.int .i64 (0:Nat)),.c (.int .u8 (64+i:Nat))]))=true:=by decide +kernel
set_option maxRecDepth 1000000 in
theorem aFX:((List.range 64).all fun i=>aCv (atR 0 (128+i)) (aKB prog (fbL prog fs9) 10 8 53 [.c (.int .i64 (0:Nat)),.c (.int .u8 (128+i:Nat))]))=true:=by decide +kernel
set_option maxRecDepth 1000000 in
theorem aFW:((List.range 64).all fun i=>aCv (atR 0 (192+i)) (aKB prog (fbL prog fs9) 10 8 53 [.c (.int .i64 (0:Nat)),.c (.int .u8 (192+i:Nat))]))=true:=by decide +kernel
theorem aGG (op:Nat) (hop:op<256) (w:World):Calls prog 53 #[.int .i64 (0:Nat),.int .u8 op] w (pY (atR 0 op) w):=by
 rcases (by omega:op<64∨(64≤op∧op<128)∨(128≤op∧op<192)∨192≤op) with h|h|h|h
 · exact aKA aGT (Qi _) om w
 · exact aKA aGz h.1 om w
 · exact aKA aFX h.1 om w
 · exact aKA aFW h om w
set_option maxRecDepth 1000000 in
theorem aGS:((List.range 64).all fun i=>aCv (atR 1 (0+i)) (aKB prog (fbL prog fs9) 10 8 53 [.c (.int .i64 (1:Nat)),.c (.int .u8 (0+i:Nat))]))=true:=by decide +kernel
set_option maxRecDepth 1000000 in
theorem aGy:((List.range 64).all fun i=>aCv (atR 1 (64+i)) (aKB prog (fbL prog fs9) 10 8 53 [.c (.int .i64 (1:Nat)),.c (.int .u8 (64+i:Nat))]))=true:=by decide +kernel
set_option maxRecDepth 1000000 in
theorem aFV:((List.range 64).all fun i=>aCv (atR 1 (128+i)) (aKB prog (fbL prog fs9) 10 8 53 [.c (.int .i64 (1:Nat)),.c (.int .u8 (128+i:Nat))]))=true:=by decide +kernel
set_option maxRecDepth 1000000 in
theorem aFU:((List.range 64).all fun i=>aCv (atR 1 (192+i)) (aKB prog (fbL prog fs9) 10 8 53 [.c (.int .i64 (1:Nat)),.c (.int .u8 (192+i:Nat))]))=true:=by decide +kernel
theorem aGF (op:Nat) (hop:op<256) (w:World):Calls prog 53 #[.int .i64 (1:Nat),.int .u8 op] w (pY (atR 1 op) w):=by
 rcases (by omega:op<64∨(64≤op∧op<128)∨(128≤op∧op<192)∨192≤op) with h|h|h|h
 · exact aKA aGS (Qi _) om w
 · exact aKA aGy h.1 om w
 · exact aKA aFV h.1 om w
 · exact aKA aFU h om w
set_option maxRecDepth 1000000 in
theorem aGR:((List.range 64).all fun i=>aCv (atR 2 (0+i)) (aKB prog (fbL prog fs9) 10 8 53 [.c (.int .i64 (2:Nat)),.c (.int .u8 (0+i:Nat))]))=true:=by decide +kernel
set_option maxRecDepth 1000000 in
theorem aGx:((List.range 64).all fun i=>aCv (atR 2 (64+i)) (aKB prog (fbL prog fs9) 10 8 53 [.c (.int .i64 (2:Nat)),.c (.int .u8 (64+i:Nat))]))=true:=by decide +kernel
set_option maxRecDepth 1000000 in
theorem aFT:((List.range 64).all fun i=>aCv (atR 2 (128+i)) (aKB prog (fbL prog fs9) 10 8 53 [.c (.int .i64 (2:Nat)),.c (.int .u8 (128+i:Nat))]))=true:=by decide +kernel
set_option maxRecDepth 1000000 in
theorem aFS:((List.range 64).all fun i=>aCv (atR 2 (192+i)) (aKB prog (fbL prog fs9) 10 8 53 [.c (.int .i64 (2:Nat)),.c (.int .u8 (192+i:Nat))]))=true:=by decide +kernel
theorem aGE (op:Nat) (hop:op<256) (w:World):Calls prog 53 #[.int .i64 (2:Nat),.int .u8 op] w (pY (atR 2 op) w):=by
 rcases (by omega:op<64∨(64≤op∧op<128)∨(128≤op∧op<192)∨192≤op) with h|h|h|h
 · exact aKA aGR (Qi _) om w
 · exact aKA aGx h.1 om w
 · exact aKA aFT h.1 om w
 · exact aKA aFS h om w
set_option maxRecDepth 1000000 in
theorem aGO:((List.range 64).all fun i=>aCv (atR 5 (0+i)) (aKB prog (fbL prog fs9) 10 8 53 [.c (.int .i64 (5:Nat)),.c (.int .u8 (0+i:Nat))]))=true:=by decide +kernel
set_option maxRecDepth 1000000 in
theorem aGu:((List.range 64).all fun i=>aCv (atR 5 (64+i)) (aKB prog (fbL prog fs9) 10 8 53 [.c (.int .i64 (5:Nat)),.c (.int .u8 (64+i:Nat))]))=true:=by decide +kernel
set_option maxRecDepth 1000000 in
theorem aFN:((List.range 64).all fun i=>aCv (atR 5 (128+i)) (aKB prog (fbL prog fs9) 10 8 53 [.c (.int .i64 (5:Nat)),.c (.int .u8 (128+i:Nat))]))=true:=by decide +kernel
set_option maxRecDepth 1000000 in
theorem aFM:((List.range 64).all fun i=>aCv (atR 5 (192+i)) (aKB prog (fbL prog fs9) 10 8 53 [.c (.int .i64 (5:Nat)),.c (.int .u8 (192+i:Nat))]))=true:=by decide +kernel
theorem aGB (op:Nat) (hop:op<256) (w:World):Calls prog 53 #[.int .i64 (5:Nat),.int .u8 op] w (pY (atR 5 op) w):=by
 rcases (by omega:op<64∨(64≤op∧op<128)∨(128≤op∧op<192)∨192≤op) with h|h|h|h
 · exact aKA aGO (Qi _) om w
 · exact aKA aGu h.1 om w
 · exact aKA aFN h.1 om w
 · exact aKA aFM h om w
set_option maxRecDepth 1000000 in
theorem aGN:((List.range 64).all fun i=>aCv (atR 6 (0+i)) (aKB prog (fbL prog fs9) 10 8 53 [.c (.int .i64 (6:Nat)),.c (.int .u8 (0+i:Nat))]))=true:=by decide +kernel
set_option maxRecDepth 1000000 in
theorem aGt:((List.range 64).all fun i=>aCv (atR 6 (64+i)) (aKB prog (fbL prog fs9) 10 8 53 [.c (.int .i64 (6:Nat)),.c (.int .u8 (64+i:Nat))]))=true:=by decide +kernel
set_option maxRecDepth 1000000 in
theorem aFL:((List.range 64).all fun i=>aCv (atR 6 (128+i)) (aKB prog (fbL prog fs9) 10 8 53 [.c (.int .i64 (6:Nat)),.c (.int .u8 (128+i:Nat))]))=true:=by decide +kernel
set_option maxRecDepth 1000000 in
theorem aFK:((List.range 64).all fun i=>aCv (atR 6 (192+i)) (aKB prog (fbL prog fs9) 10 8 53 [.c (.int .i64 (6:Nat)),.c (.int .u8 (192+i:Nat))]))=true:=by decide +kernel
theorem aGA (op:Nat) (hop:op<256) (w:World):Calls prog 53 #[.int .i64 (6:Nat),.int .u8 op] w (pY (atR 6 op) w):=by
 rcases (by omega:op<64∨(64≤op∧op<128)∨(128≤op∧op<192)∨192≤op) with h|h|h|h
 · exact aKA aGN (Qi _) om w
 · exact aKA aGt h.1 om w
 · exact aKA aFL h.1 om w
 · exact aKA aFK h om w
end Go.Proofs.YtoigglljnklhlaaGreatDoor
