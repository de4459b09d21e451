/- Joined. -/
import Derived.Test.YtoigglljnklhlaaGreatDoorD41
set_option maxHeartbeats 8000000
set_option maxRecDepth 100000
namespace Go.Proofs.YtoigglljnklhlaaGreatDoor
open Go.RowKit Go.Sort
open Go.Proofs.Tryz
theorem aGT:((List.range 64).all fun i=>aCv (atR 0 (0+i)) (Ft prog (fbL prog fs9) 10 8 53 [.c (.int .i64 (0:Nat)),.c (.int .u8 (0+i:Nat))]))=true:=by decide +kernel
theorem aGz:((List.range 64).all fun i=>aCv (atR 0 (64+i)) (Ft prog (fbL prog fs9) 10 8 53 [.c (.int .i64 (0:Nat)),.c (.int .u8 (64+i:Nat))]))=true:=by decide +kernel
theorem aFX:((List.range 64).all fun i=>aCv (atR 0 (128+i)) (Ft prog (fbL prog fs9) 10 8 53 [.c (.int .i64 (0:Nat)),.c (.int .u8 (128+i:Nat))]))=true:=by decide +kernel
theorem aFW:((List.range 64).all fun i=>aCv (atR 0 (192+i)) (Ft prog (fbL prog fs9) 10 8 53 [.c (.int .i64 (0:Nat)),.c (.int .u8 (192+i:Nat))]))=true:=by decide +kernel
theorem aGG (op:Nat) (hop:op<256) (w:World):Calls prog 53 #[.int .i64 (0:Nat),.int .u8 op] w (pY (atR 0 op) w):=by
 rcases (by omega:op<64∨(64≤op∧op<128)∨(128≤op∧op<192)∨192≤op) with h|h|h|h
 · exact hH aGT (Nat.zero_le _) om w
 · exact hH aGz h.1 om w
 · exact hH aFX h.1 om w
 · exact hH aFW h om w
theorem aGS:((List.range 64).all fun i=>aCv (atR 1 (0+i)) (Ft prog (fbL prog fs9) 10 8 53 [.c (.int .i64 (1:Nat)),.c (.int .u8 (0+i:Nat))]))=true:=by decide +kernel
theorem aGy:((List.range 64).all fun i=>aCv (atR 1 (64+i)) (Ft prog (fbL prog fs9) 10 8 53 [.c (.int .i64 (1:Nat)),.c (.int .u8 (64+i:Nat))]))=true:=by decide +kernel
theorem aFV:((List.range 64).all fun i=>aCv (atR 1 (128+i)) (Ft prog (fbL prog fs9) 10 8 53 [.c (.int .i64 (1:Nat)),.c (.int .u8 (128+i:Nat))]))=true:=by decide +kernel
theorem aFU:((List.range 64).all fun i=>aCv (atR 1 (192+i)) (Ft prog (fbL prog fs9) 10 8 53 [.c (.int .i64 (1:Nat)),.c (.int .u8 (192+i:Nat))]))=true:=by decide +kernel
theorem aGF (op:Nat) (hop:op<256) (w:World):Calls prog 53 #[.int .i64 (1:Nat),.int .u8 op] w (pY (atR 1 op) w):=by
 rcases (by omega:op<64∨(64≤op∧op<128)∨(128≤op∧op<192)∨192≤op) with h|h|h|h
 · exact hH aGS (Nat.zero_le _) om w
 · exact hH aGy h.1 om w
 · exact hH aFV h.1 om w
 · exact hH aFU h om w
theorem aGR:((List.range 64).all fun i=>aCv (atR 2 (0+i)) (Ft prog (fbL prog fs9) 10 8 53 [.c (.int .i64 (2:Nat)),.c (.int .u8 (0+i:Nat))]))=true:=by decide +kernel
theorem aGx:((List.range 64).all fun i=>aCv (atR 2 (64+i)) (Ft prog (fbL prog fs9) 10 8 53 [.c (.int .i64 (2:Nat)),.c (.int .u8 (64+i:Nat))]))=true:=by decide +kernel
theorem aFT:((List.range 64).all fun i=>aCv (atR 2 (128+i)) (Ft prog (fbL prog fs9) 10 8 53 [.c (.int .i64 (2:Nat)),.c (.int .u8 (128+i:Nat))]))=true:=by decide +kernel
theorem aFS:((List.range 64).all fun i=>aCv (atR 2 (192+i)) (Ft prog (fbL prog fs9) 10 8 53 [.c (.int .i64 (2:Nat)),.c (.int .u8 (192+i:Nat))]))=true:=by decide +kernel
theorem aGE (op:Nat) (hop:op<256) (w:World):Calls prog 53 #[.int .i64 (2:Nat),.int .u8 op] w (pY (atR 2 op) w):=by
 rcases (by omega:op<64∨(64≤op∧op<128)∨(128≤op∧op<192)∨192≤op) with h|h|h|h
 · exact hH aGR (Nat.zero_le _) om w
 · exact hH aGx h.1 om w
 · exact hH aFT h.1 om w
 · exact hH aFS h om w
theorem aGO:((List.range 64).all fun i=>aCv (atR 5 (0+i)) (Ft prog (fbL prog fs9) 10 8 53 [.c (.int .i64 (5:Nat)),.c (.int .u8 (0+i:Nat))]))=true:=by decide +kernel
theorem aGu:((List.range 64).all fun i=>aCv (atR 5 (64+i)) (Ft prog (fbL prog fs9) 10 8 53 [.c (.int .i64 (5:Nat)),.c (.int .u8 (64+i:Nat))]))=true:=by decide +kernel
theorem aFN:((List.range 64).all fun i=>aCv (atR 5 (128+i)) (Ft prog (fbL prog fs9) 10 8 53 [.c (.int .i64 (5:Nat)),.c (.int .u8 (128+i:Nat))]))=true:=by decide +kernel
theorem aFM:((List.range 64).all fun i=>aCv (atR 5 (192+i)) (Ft prog (fbL prog fs9) 10 8 53 [.c (.int .i64 (5:Nat)),.c (.int .u8 (192+i:Nat))]))=true:=by decide +kernel
theorem aGB (op:Nat) (hop:op<256) (w:World):Calls prog 53 #[.int .i64 (5:Nat),.int .u8 op] w (pY (atR 5 op) w):=by
 rcases (by omega:op<64∨(64≤op∧op<128)∨(128≤op∧op<192)∨192≤op) with h|h|h|h
 · exact hH aGO (Nat.zero_le _) om w
 · exact hH aGu h.1 om w
 · exact hH aFN h.1 om w
 · exact hH aFM h om w
theorem aGN:((List.range 64).all fun i=>aCv (atR 6 (0+i)) (Ft prog (fbL prog fs9) 10 8 53 [.c (.int .i64 (6:Nat)),.c (.int .u8 (0+i:Nat))]))=true:=by decide +kernel
theorem aGt:((List.range 64).all fun i=>aCv (atR 6 (64+i)) (Ft prog (fbL prog fs9) 10 8 53 [.c (.int .i64 (6:Nat)),.c (.int .u8 (64+i:Nat))]))=true:=by decide +kernel
theorem aFL:((List.range 64).all fun i=>aCv (atR 6 (128+i)) (Ft prog (fbL prog fs9) 10 8 53 [.c (.int .i64 (6:Nat)),.c (.int .u8 (128+i:Nat))]))=true:=by decide +kernel
theorem aFK:((List.range 64).all fun i=>aCv (atR 6 (192+i)) (Ft prog (fbL prog fs9) 10 8 53 [.c (.int .i64 (6:Nat)),.c (.int .u8 (192+i:Nat))]))=true:=by decide +kernel
theorem aGA (op:Nat) (hop:op<256) (w:World):Calls prog 53 #[.int .i64 (6:Nat),.int .u8 op] w (pY (atR 6 op) w):=by
 rcases (by omega:op<64∨(64≤op∧op<128)∨(128≤op∧op<192)∨192≤op) with h|h|h|h
 · exact hH aGN (Nat.zero_le _) om w
 · exact hH aGt h.1 om w
 · exact hH aFL h.1 om w
 · exact hH aFK h om w
end Go.Proofs.YtoigglljnklhlaaGreatDoor
