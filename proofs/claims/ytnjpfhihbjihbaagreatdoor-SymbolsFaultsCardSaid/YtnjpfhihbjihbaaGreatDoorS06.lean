/- Joined texts: Stream, Catch, Find. -/
import Derived.Test.YtnjpfhihbjihbaaGreatDoorS01
import Derived.Test.YtnjpfhihbjihbaaGreatDoorS05
import Derived.Defers
import Derived.Recover
/- The parser's stream of tokens: sign and take. -/
namespace Go.Proofs.YtnjpfhihbjihbaaGreatDoor
open Go.RowKit Go.Sort

/-- A token as a value. -/
abbrev tokW (t : Tok) : Value := .agg #[.int .i64 t.kind, .string t.text, .int .i64 t.n, .int .i64 t.off]
/-- The parser as it lies in memory: the tokens that are left. -/
def StrAt (w : World) (b : Nat) (l : List Tok) : Prop :=
  ∃ a cap, w.heap[b]? = some (.cells #[.slice a l.length cap] 150 (0, 0)) ∧ l.length ≤ cap ∧ (l ≠ [] → ∃ g o, a = some ⟨g, o, none⟩ ∧ g < w.heap.size ∧ g ≠ b ∧ ∀ i x, l[i]? = some x →
    w.cell? ⟨g, o + i * 4, none⟩ = some (.int .i64 x.kind) ∧ w.cell? ⟨g, o + i * 4 + 1, none⟩ = some (.string x.text) ∧ w.cell? ⟨g, o + i * 4 + 2, none⟩ = some (.int .i64 x.n) ∧ w.cell? ⟨g, o + i * 4 + 3, none⟩ = some (.int .i64 x.off))
theorem StrAt.lt {w : World} {b : Nat} {l : List Tok} (h : StrAt w b l) : b < w.heap.size := by
  obtain ⟨a, cap, h, _⟩ := h; exact lt_of_block h
theorem StrAt.below {w w' : World} {b : Nat} {l : List Tok} (h : StrAt w b l) (hb : Below w.heap.size w w') : StrAt w' b l := by
  obtain ⟨a, cap, h1, h2, h3⟩ := h
  refine ⟨a, cap, by rw [hb.block b (lt_of_block h1)]; exact h1, h2, fun hl => ?_⟩
  obtain ⟨g, o, ha, hg, hne, hc⟩ := h3 hl
  refine ⟨g, o, ha, Nat.lt_of_lt_of_le hg hb.size, hne, fun i x hx => ?_⟩
  obtain ⟨e0, e1, e2, e3⟩ := hc i x hx
  have e : ∀ j, w'.cell? ⟨g, j, none⟩ = w.cell? ⟨g, j, none⟩ := fun j => hb.cell (p := ⟨g, j, none⟩) hg
  exact ⟨by rw [e]; exact e0, by rw [e]; exact e1, by rw [e]; exact e2, by rw [e]; exact e3⟩
theorem StrAt.gw {w : World} {b : Nat} {l : List Tok} (h : StrAt w b l) (p : Regrown) : StrAt (gw w p) b l := h.below (below_gw w p)
theorem StrAt.alloc {w : World} {b : Nat} {l : List Tok} (h : StrAt w b l) (o : Obj) : StrAt (w.alloc o) b l := h.below ((Below.refl _ _).alloc (Nat.le_refl _) o)
/-- What a token at the front gives. -/
theorem StrAt.head {w : World} {b : Nat} {t : Tok} {l : List Tok} (h : StrAt w b (t :: l)) : ∃ g o cap, w.cell? ⟨b, 0, none⟩ = some (.slice (some ⟨g, o, none⟩) (l.length + 1) cap) ∧ w.frozen? ⟨b, 0, none⟩ = false ∧ l.length + 1 ≤ cap ∧ g < w.heap.size ∧ g ≠ b ∧
    w.cell? ⟨g, o, none⟩ = some (.int .i64 t.kind) ∧ w.cell? ⟨g, o + 1, none⟩ = some (.string t.text) ∧ w.cell? ⟨g, o + 2, none⟩ = some (.int .i64 t.n) ∧ w.cell? ⟨g, o + 3, none⟩ = some (.int .i64 t.off) := by
  obtain ⟨a, cap, h1, h2, h3⟩ := h
  obtain ⟨g, o, rfl, hg, hne, hc⟩ := h3 (by simp)
  obtain ⟨e0, e1, e2, e3⟩ := hc 0 t rfl
  rw [Nat.zero_mul, Nat.add_zero] at e0 e1 e2 e3
  refine ⟨g, o, cap, ?_, ?_, h2, hg, hne, e0, e1, e2, e3⟩
  · simp [World.cell?, h1]
  · simp [World.frozen?, h1]
theorem StrAt.nil {w : World} {b : Nat} (h : StrAt w b []) : ∃ a cap, w.cell? ⟨b, 0, none⟩ = some (.slice a 0 cap) := by
  obtain ⟨a, cap, h1, _⟩ := h
  exact ⟨a, cap, by simp [World.cell?, h1]⟩
/-- The stream moved on by a token: whatever address an empty rest has. -/
theorem StrAt.tail {w : World} {b g o cap : Nat} {t : Tok} {l : List Tok} (h : StrAt w b (t :: l)) (hv : w.cell? ⟨b, 0, none⟩ = some (.slice (some ⟨g, o, none⟩) (l.length + 1) cap)) (a' : Option Addr) (ha : l ≠ [] → a' = some ⟨g, o + 4, none⟩) :
    StrAt (w.setCell ⟨b, 0, none⟩ (.slice a' l.length (cap - 1))) b l := by
  obtain ⟨a, cap', h1, h2, h3⟩ := h
  have hv' := hv
  simp [World.cell?, h1] at hv'
  obtain ⟨h4, h5⟩ := hv'
  subst h4
  have h5' : cap = cap' := h5.symm
  subst h5'
  refine ⟨a', cap - 1, ?_, ?_, fun hl => ?_⟩
  · simp [World.setCell, Array.getElem?_modify, h1]
  · simp at h2; omega
  · obtain ⟨g', o', he, hg, hne, hc⟩ := h3 (by simp)
    cases he
    refine ⟨g, o + 4, ha hl, by show g < (w.heap.modify _ _).size; rw [Array.size_modify]; exact hg, hne, fun i x hx => ?_⟩
    have e : ∀ j, (w.setCell ⟨b, 0, none⟩ (.slice a' l.length (cap - 1))).cell? ⟨g, j, none⟩ = w.cell? ⟨g, j, none⟩ := fun j => World.cell?_of_block (w := w) (Below.heap_setCell w ⟨b, 0, none⟩ _ g hne)
    obtain ⟨e0, e1, e2, e3⟩ := hc (i + 1) x (by simpa using hx)
    rw [show o + (i + 1) * 4 = o + 4 + i * 4 by omega] at e0 e1 e2 e3
    exact ⟨by rw [e]; exact e0, by rw [e]; exact e1, by rw [e]; exact e2, by rw [e]; exact e3⟩
/-- The operator, sign or bracket at the front, or the empty string. -/
def hdn : List Tok → ByteArray
  | [] => ⟨#[]⟩
  | t :: _ => tnm t

set_option maxHeartbeats 1000000 in
set_option maxRecDepth 100000 in
theorem psign_any (l : List Tok) (b : Nat) (w : World) (h : StrAt w b l) (hs : ∀ t ∈ l, t.text.size ≤ 1000000) :
    Calls Tryz.prog 122 #[.pointer (some ⟨b, 0, none⟩)] w fun e w' => e = .returned (.string (hdn l)) ∧ Below w.heap.size w w' := by
  rcases l with _ | ⟨t, l⟩
  · obtain ⟨a, cap, hc⟩ := h.nil
    have hb := h.lt
    clear h
    go_enter Tryz.func122, Tryz.ntmps122
    go_wp2_with fail
    go_ret
    exact ⟨rfl, by (repeat (first | exact Below.refl _ _ | refine Below.drew ?_ | (refine below_gw' ?_ (by first | omega | (simp [go_sem]; done) | (simp [go_sem]; omega)) _) | (refine Below.alloc ?_ (by first | omega | (simp [go_sem]; done) | (simp [go_sem]; omega)) _) | (refine Below.setCell ?_ (by first | omega | (simp [go_sem]; done) | (simp [go_sem]; omega)) _)))⟩
  · obtain ⟨g, o, cap, hc, hf, hcap, hg, hne, e0, e1, e2, e3⟩ := h.head
    have hts := hs t (by simp)
    have hb : b < w.heap.size := h.lt
    have hl0 : ¬ ((l.length : Int) + 1 = 0) := by omega
    have hl1 : (0 : Int) < (l.length : Int) + 1 := by omega
    clear h hs
    obtain ⟨k, s, n, ta⟩ := t
    simp only at hts e0 e1 e2 e3
    show Calls _ _ _ _ (fun e w' => e = .returned (.string (tnm ⟨k, s, n, ta⟩)) ∧ Below w.heap.size w w')
    obtain ⟨R, hR⟩ : ∃ R, tnm ⟨k, s, n, ta⟩ = R := ⟨_, rfl⟩
    rw [hR]
    unfold tnm at hR
    simp only at hR
    by_cases h4 : k = 4
    · rw [if_pos h4] at hR
      subst hR h4
      go_enter Tryz.func122, Tryz.ntmps122
      go_wp2_with fail
      go_ret
      exact ⟨rfl, by (repeat (first | exact Below.refl _ _ | refine Below.drew ?_ | (refine below_gw' ?_ (by first | omega | (simp [go_sem]; done) | (simp [go_sem]; omega)) _) | (refine Below.alloc ?_ (by first | omega | (simp [go_sem]; done) | (simp [go_sem]; omega)) _) | (refine Below.setCell ?_ (by first | omega | (simp [go_sem]; done) | (simp [go_sem]; omega)) _)))⟩
    · rw [if_neg h4] at hR
      have b4 : (k == 4) = false := by simpa using h4
      by_cases h1 : k = 1
      · subst h1
        have HU := Lib.hid (fun w => upper_any s w (by unfold maxLen; omega))
        rcases hm : ((upper s).toList == [77, 79, 68]) with _ | _
        · rw [if_neg (fun h => by rw [h.2] at hm; cases hm)] at hR
          subst hR
          go_enter Tryz.func122, Tryz.ntmps122
          go_wp2_with fail
          refine (HU.out _).mono ?_
          rintro e w1 ⟨rfl, hb⟩
          obtain ⟨p1, rfl⟩ := gw_of_below hb
          clear hb
          go_wp2_with fail
          go_ret
          exact ⟨rfl, by (repeat (first | exact Below.refl _ _ | refine Below.drew ?_ | (refine below_gw' ?_ (by first | omega | (simp [go_sem]; done) | (simp [go_sem]; omega)) _) | (refine Below.alloc ?_ (by first | omega | (simp [go_sem]; done) | (simp [go_sem]; omega)) _) | (refine Below.setCell ?_ (by first | omega | (simp [go_sem]; done) | (simp [go_sem]; omega)) _)))⟩
        · rw [if_pos ⟨rfl, by simpa using hm⟩] at hR
          subst hR
          go_enter Tryz.func122, Tryz.ntmps122
          go_wp2_with fail
          refine (HU.out _).mono ?_
          rintro e w1 ⟨rfl, hb⟩
          obtain ⟨p1, rfl⟩ := gw_of_below hb
          clear hb
          go_wp2_with fail
          go_ret
          exact ⟨rfl, by (repeat (first | exact Below.refl _ _ | refine Below.drew ?_ | (refine below_gw' ?_ (by first | omega | (simp [go_sem]; done) | (simp [go_sem]; omega)) _) | (refine Below.alloc ?_ (by first | omega | (simp [go_sem]; done) | (simp [go_sem]; omega)) _) | (refine Below.setCell ?_ (by first | omega | (simp [go_sem]; done) | (simp [go_sem]; omega)) _)))⟩
      · rw [if_neg (fun h => h1 h.1)] at hR
        subst hR
        have b1 : (k == 1) = false := by simpa using h1
        go_enter Tryz.func122, Tryz.ntmps122
        go_wp2_with fail
        go_ret
        exact ⟨rfl, by (repeat (first | exact Below.refl _ _ | refine Below.drew ?_ | (refine below_gw' ?_ (by first | omega | (simp [go_sem]; done) | (simp [go_sem]; omega)) _) | (refine Below.alloc ?_ (by first | omega | (simp [go_sem]; done) | (simp [go_sem]; omega)) _) | (refine Below.setCell ?_ (by first | omega | (simp [go_sem]; done) | (simp [go_sem]; omega)) _)))⟩

/-- The parser's panic. -/
abbrev wrongP : List PanicEntry := [{ v := .iface 145 (.agg #[]), recovered := false }]

set_option maxHeartbeats 1000000 in
set_option maxRecDepth 100000 in
theorem take_none (b : Nat) (w : World) (h : StrAt w b []) :
    Calls Tryz.prog 124 #[.pointer (some ⟨b, 0, none⟩)] w fun e w' => e = .panicked wrongP ∧ Below w.heap.size w w' := by
  obtain ⟨a, cap, hc⟩ := h.nil
  have hb := h.lt
  clear h
  go_enter Tryz.func124, Tryz.ntmps124
  go_wp2_with fail
  refine ⟨rfl, ?_⟩
  exact ⟨rfl, by (repeat (first | exact Below.refl _ _ | refine Below.drew ?_ | (refine below_gw' ?_ (by first | omega | (simp [go_sem]; done) | (simp [go_sem]; omega)) _) | (refine Below.alloc ?_ (by first | omega | (simp [go_sem]; done) | (simp [go_sem]; omega)) _) | (refine Below.setCell ?_ (by first | omega | (simp [go_sem]; done) | (simp [go_sem]; omega)) _)))⟩

set_option maxHeartbeats 1000000 in
set_option maxRecDepth 100000 in
theorem take_some (t : Tok) (l : List Tok) (b : Nat) (w : World) (h : StrAt w b (t :: l)) :
    Calls Tryz.prog 124 #[.pointer (some ⟨b, 0, none⟩)] w fun e w' => e = .returned (tokW t) ∧ StrAt w' b l ∧ Kb b w w' := by
  obtain ⟨g, o, cap, hc, hf, hcap, hg, hne, e0, e1, e2, e3⟩ := h.head
  have hb := h.lt
  have hl0 : ¬ ((l.length : Int) + 1 = 0) := by omega
  have hl1 : (0 : Int) < (l.length : Int) + 1 := by omega
  have HS := Lib.hid h; clear h
  by_cases hcc : cap = 1
  · subst hcc
    have hnil : l = [] := List.eq_nil_of_length_eq_zero (by omega)
    go_enter Tryz.func124, Tryz.ntmps124
    go_wp2_with fail
    refine bodyPost_ret (v := tokW t) (by simp [results, Tryz.results124, go_sem, *]) rfl ⟨rfl, ?_, by (with_reducible repeat (first | refine Kb.gw ?_ _ | refine Kb.setCell ?_ _ _ | refine Kb.alloc ?_ _ | refine Kb.drew ?_ | exact Kb.refl _ _ | exact HK.out))⟩
    have h := HS.out.tail hc (some ⟨g, o, none⟩) (fun hl => absurd hnil hl)
    subst hnil
    exact (h.alloc _).alloc _
  · have hcc' : (1 : Int) < (cap : Int) := by omega
    go_enter Tryz.func124, Tryz.ntmps124
    go_wp2_with fail
    refine bodyPost_ret (v := tokW t) (by simp [results, Tryz.results124, go_sem, *]) rfl ⟨rfl, ?_, by (with_reducible repeat (first | refine Kb.gw ?_ _ | refine Kb.setCell ?_ _ _ | refine Kb.alloc ?_ _ | refine Kb.drew ?_ | exact Kb.refl _ _ | exact HK.out))⟩
    have h := HS.out.tail hc (some ⟨g, o + 4, none⟩) (fun hl => rfl)
    exact (h.alloc _).alloc _
end Go.Proofs.YtnjpfhihbjihbaaGreatDoor

/- expr.Parse's deferred closure: its two contracts. -/
namespace Go.Proofs.YtnjpfhihbjihbaaGreatDoor
open Go.RowKit Go.Sort

set_option maxHeartbeats 1000000 in
set_option maxRecDepth 100000 in
theorem catch_idle (p q : Addr) (w : World) :
    CallsD Tryz.prog 69 #[.pointer (some p), .pointer (some q)] .returning w fun e u' w' => e = .returned (.tuple #[]) ∧ u' = .returning ∧ w' = w := by
  refine callsD_of_wpS Tryz.func69 rfl fun c₀ cs hu => ?_
  apply wpS_seq
  apply wpS_region
  simp [wpOpsS, go_sem, recoverD, hu, Tryz.ntmps69, Exit.thenS]
  rw [show (#[Value.pointer (some p), Value.pointer (some q)] ++ (Array.replicate 9 undef).setIfInBounds 3 (.nilIface)) = #[Value.pointer (some p), Value.pointer (some q), undef, undef, undef, .nilIface, undef, undef, undef, undef, undef] from rfl]
  refine wpS_of_wp ?_
  go_wp2_with fail
  cases c₀
  simp_all [bodyPostS, results, Tryz.results69]
set_option maxHeartbeats 1000000 in
set_option maxRecDepth 100000 in
theorem catch_wrong (p q : Nat) (x y : Value) (older : List PanicEntry) (w : World) (hp : w.cell? ⟨p, 0, none⟩ = some x) (hq : w.cell? ⟨q, 0, none⟩ = some y) (zp : w.frozen? ⟨p, 0, none⟩ = false) (zq : w.frozen? ⟨q, 0, none⟩ = false) (hpb : p < w.heap.size) (hpq : (p == q) = false) (_ : (q == p) = false) (hqb : q < w.heap.size) :
    CallsD Tryz.prog 69 #[.pointer (some ⟨p, 0, none⟩), .pointer (some ⟨q, 0, none⟩)] (.panicking ({ v := .iface 145 (.agg #[]), recovered := false } :: older)) w fun e u' w' =>
      e = .returned (.tuple #[]) ∧ u' = .panicking ({ v := .iface 145 (.agg #[]), recovered := true } :: older) ∧ w' = ((w.setCell ⟨p, 0, none⟩ (.pointer none)).setCell ⟨q, 0, none⟩ (.int .i64 3)).alloc (.cells #[] 145) := by
  refine callsD_of_wpS Tryz.func69 rfl fun c₀ cs hu => ?_
  apply wpS_seq
  apply wpS_region
  simp [wpOpsS, go_sem, recoverD, hu, Tryz.ntmps69, Exit.thenS]
  rw [show (#[Value.pointer (some ⟨p, 0, none⟩), Value.pointer (some ⟨q, 0, none⟩)] ++ (Array.replicate 9 undef).setIfInBounds 3 (.iface 145 (.agg #[]))) = #[Value.pointer (some ⟨p, 0, none⟩), Value.pointer (some ⟨q, 0, none⟩), undef, undef, undef, .iface 145 (.agg #[]), undef, undef, undef, undef, undef] from rfl]
  refine wpS_of_wp ?_
  have hta : ∀ wx : World, Sem.run Tryz.prog (Instr.typeAssert (.iface 145 (.agg #[])) 20 145 true) wx = .ok (.tuple #[.agg #[], .bool true]) wx := by
    intro wx
    first | rfl | kernel_rfl
  have hne : (⟨p, 0, none⟩ : Addr) ≠ ⟨q, 0, none⟩ := fun e => by
    injection e with e _ _
    rw [e] at hpq
    simp at hpq
  have hq2 : (w.setCell ⟨p, 0, none⟩ (.pointer none)).cell? ⟨q, 0, none⟩ = some y := by rw [World.cell?_setCell_other (h := hne)]; exact hq
  clear hne
  go_wp2_with fail
  cases c₀
  simp_all [bodyPostS, results, Tryz.results69]
end Go.Proofs.YtnjpfhihbjihbaaGreatDoor

/- operand.find: the ten kinds, one contract. (Written by wip/gen_find.py.) -/
namespace Go.Proofs.YtnjpfhihbjihbaaGreatDoor
open Go.RowKit

/-- The names of kind k (1 to 10) by register number 0 to 8. -/
def nm : Nat → Nat → ByteArray
  | 1, 0 => ⟨#[66]⟩
  | 1, 1 => ⟨#[67]⟩
  | 1, 2 => ⟨#[68]⟩
  | 1, 3 => ⟨#[69]⟩
  | 1, 4 => ⟨#[72]⟩
  | 1, 5 => ⟨#[76]⟩
  | 1, 6 => ⟨#[]⟩
  | 1, 7 => ⟨#[65]⟩
  | 1, 8 => ⟨#[]⟩
  | 2, 0 => ⟨#[73, 88, 72]⟩
  | 2, 1 => ⟨#[73, 88, 76]⟩
  | 2, 2 => ⟨#[73, 89, 72]⟩
  | 2, 3 => ⟨#[73, 89, 76]⟩
  | 2, 4 => ⟨#[]⟩
  | 2, 5 => ⟨#[]⟩
  | 2, 6 => ⟨#[]⟩
  | 2, 7 => ⟨#[]⟩
  | 2, 8 => ⟨#[]⟩
  | 3, 0 => ⟨#[66, 67]⟩
  | 3, 1 => ⟨#[68, 69]⟩
  | 3, 2 => ⟨#[72, 76]⟩
  | 3, 3 => ⟨#[83, 80]⟩
  | 3, 4 => ⟨#[65, 70]⟩
  | 3, 5 => ⟨#[73, 88]⟩
  | 3, 6 => ⟨#[73, 89]⟩
  | 3, 7 => ⟨#[65, 70, 39]⟩
  | 3, 8 => ⟨#[]⟩
  | 4, 0 => ⟨#[66, 67]⟩
  | 4, 1 => ⟨#[68, 69]⟩
  | 4, 2 => ⟨#[72, 76]⟩
  | 4, 3 => ⟨#[83, 80]⟩
  | 4, 4 => ⟨#[]⟩
  | 4, 5 => ⟨#[73, 88]⟩
  | 4, 6 => ⟨#[73, 89]⟩
  | 4, 7 => ⟨#[]⟩
  | 4, 8 => ⟨#[67]⟩
  | 5, 0 => ⟨#[]⟩
  | 5, 1 => ⟨#[]⟩
  | 5, 2 => ⟨#[]⟩
  | 5, 3 => ⟨#[]⟩
  | 5, 4 => ⟨#[]⟩
  | 5, 5 => ⟨#[73, 88]⟩
  | 5, 6 => ⟨#[73, 89]⟩
  | 5, 7 => ⟨#[]⟩
  | 5, 8 => ⟨#[]⟩
  | 6, 0 => ⟨#[42]⟩
  | 6, 1 => ⟨#[]⟩
  | 6, 2 => ⟨#[]⟩
  | 6, 3 => ⟨#[]⟩
  | 6, 4 => ⟨#[]⟩
  | 6, 5 => ⟨#[]⟩
  | 6, 6 => ⟨#[]⟩
  | 6, 7 => ⟨#[]⟩
  | 6, 8 => ⟨#[]⟩
  | 7, 0 => ⟨#[42]⟩
  | 7, 1 => ⟨#[]⟩
  | 7, 2 => ⟨#[]⟩
  | 7, 3 => ⟨#[]⟩
  | 7, 4 => ⟨#[]⟩
  | 7, 5 => ⟨#[]⟩
  | 7, 6 => ⟨#[]⟩
  | 7, 7 => ⟨#[]⟩
  | 7, 8 => ⟨#[]⟩
  | 8, 0 => ⟨#[78, 90]⟩
  | 8, 1 => ⟨#[90]⟩
  | 8, 2 => ⟨#[78, 67]⟩
  | 8, 3 => ⟨#[67]⟩
  | 8, 4 => ⟨#[80, 79]⟩
  | 8, 5 => ⟨#[80, 69]⟩
  | 8, 6 => ⟨#[80]⟩
  | 8, 7 => ⟨#[77]⟩
  | 8, 8 => ⟨#[]⟩
  | 9, 0 => ⟨#[73]⟩
  | 9, 1 => ⟨#[82]⟩
  | 9, 2 => ⟨#[]⟩
  | 9, 3 => ⟨#[]⟩
  | 9, 4 => ⟨#[]⟩
  | 9, 5 => ⟨#[]⟩
  | 9, 6 => ⟨#[]⟩
  | 9, 7 => ⟨#[]⟩
  | 9, 8 => ⟨#[]⟩
  | 10, 0 => ⟨#[42]⟩
  | 10, 1 => ⟨#[]⟩
  | 10, 2 => ⟨#[]⟩
  | 10, 3 => ⟨#[]⟩
  | 10, 4 => ⟨#[]⟩
  | 10, 5 => ⟨#[]⟩
  | 10, 6 => ⟨#[]⟩
  | 10, 7 => ⟨#[]⟩
  | 10, 8 => ⟨#[]⟩
  | _, _ => ⟨#[]⟩
def klo : Nat → Int | 5 => -128 | 6 => -32768 | 10 => -128 | _ => 0
def khi : Nat → Int | 5 => 127 | 6 => 65535 | 7 => 65535 | 10 => 127 | _ => 0
def kf : Nat → Nat
  | 4 => 173 | 5 => 174 | 6 => 176 | 7 => 178 | 10 => 179 | _ => 172

theorem find_1 (w : World) :
    Calls Tryz.prog 164 #[.int .i64 1] w fun e w' => e = .returned (.tuple #[.agg #[.string (nm 1 0), .string (nm 1 1), .string (nm 1 2), .string (nm 1 3), .string (nm 1 4), .string (nm 1 5), .string (nm 1 6), .string (nm 1 7), .string (nm 1 8), .int .i64 (klo 1), .int .i64 (khi 1), .func (.func (kf 1)) #[] #[]], .bool true]) ∧ Below w.heap.size w w' := by
  go_enter Tryz.func164, Tryz.ntmps164
  go_wp2
  refine bodyPost_ret (v := .tuple #[.agg #[.string ⟨#[66]⟩, .string ⟨#[67]⟩, .string ⟨#[68]⟩, .string ⟨#[69]⟩, .string ⟨#[72]⟩, .string ⟨#[76]⟩, .string ⟨#[]⟩, .string ⟨#[65]⟩, .string ⟨#[]⟩, .int .i64 (0), .int .i64 (0), .func (.func 172) #[] #[]], .bool true]) (by simp [results, Tryz.results164, go_sem]) rfl ⟨rfl, ?_⟩
  exact (Below.refl _ _).alloc (Nat.le_refl _) _

theorem find_2 (w : World) :
    Calls Tryz.prog 164 #[.int .i64 2] w fun e w' => e = .returned (.tuple #[.agg #[.string (nm 2 0), .string (nm 2 1), .string (nm 2 2), .string (nm 2 3), .string (nm 2 4), .string (nm 2 5), .string (nm 2 6), .string (nm 2 7), .string (nm 2 8), .int .i64 (klo 2), .int .i64 (khi 2), .func (.func (kf 2)) #[] #[]], .bool true]) ∧ Below w.heap.size w w' := by
  go_enter Tryz.func164, Tryz.ntmps164
  go_wp2
  refine bodyPost_ret (v := .tuple #[.agg #[.string ⟨#[73, 88, 72]⟩, .string ⟨#[73, 88, 76]⟩, .string ⟨#[73, 89, 72]⟩, .string ⟨#[73, 89, 76]⟩, .string ⟨#[]⟩, .string ⟨#[]⟩, .string ⟨#[]⟩, .string ⟨#[]⟩, .string ⟨#[]⟩, .int .i64 (0), .int .i64 (0), .func (.func 172) #[] #[]], .bool true]) (by simp [results, Tryz.results164, go_sem]) rfl ⟨rfl, ?_⟩
  exact (Below.refl _ _).alloc (Nat.le_refl _) _

theorem find_3 (w : World) :
    Calls Tryz.prog 164 #[.int .i64 3] w fun e w' => e = .returned (.tuple #[.agg #[.string (nm 3 0), .string (nm 3 1), .string (nm 3 2), .string (nm 3 3), .string (nm 3 4), .string (nm 3 5), .string (nm 3 6), .string (nm 3 7), .string (nm 3 8), .int .i64 (klo 3), .int .i64 (khi 3), .func (.func (kf 3)) #[] #[]], .bool true]) ∧ Below w.heap.size w w' := by
  go_enter Tryz.func164, Tryz.ntmps164
  go_wp2
  refine bodyPost_ret (v := .tuple #[.agg #[.string ⟨#[66, 67]⟩, .string ⟨#[68, 69]⟩, .string ⟨#[72, 76]⟩, .string ⟨#[83, 80]⟩, .string ⟨#[65, 70]⟩, .string ⟨#[73, 88]⟩, .string ⟨#[73, 89]⟩, .string ⟨#[65, 70, 39]⟩, .string ⟨#[]⟩, .int .i64 (0), .int .i64 (0), .func (.func 172) #[] #[]], .bool true]) (by simp [results, Tryz.results164, go_sem]) rfl ⟨rfl, ?_⟩
  exact (Below.refl _ _).alloc (Nat.le_refl _) _

theorem find_4 (w : World) :
    Calls Tryz.prog 164 #[.int .i64 4] w fun e w' => e = .returned (.tuple #[.agg #[.string (nm 4 0), .string (nm 4 1), .string (nm 4 2), .string (nm 4 3), .string (nm 4 4), .string (nm 4 5), .string (nm 4 6), .string (nm 4 7), .string (nm 4 8), .int .i64 (klo 4), .int .i64 (khi 4), .func (.func (kf 4)) #[] #[]], .bool true]) ∧ Below w.heap.size w w' := by
  go_enter Tryz.func164, Tryz.ntmps164
  go_wp2
  refine bodyPost_ret (v := .tuple #[.agg #[.string ⟨#[66, 67]⟩, .string ⟨#[68, 69]⟩, .string ⟨#[72, 76]⟩, .string ⟨#[83, 80]⟩, .string ⟨#[]⟩, .string ⟨#[73, 88]⟩, .string ⟨#[73, 89]⟩, .string ⟨#[]⟩, .string ⟨#[67]⟩, .int .i64 (0), .int .i64 (0), .func (.func 173) #[] #[]], .bool true]) (by simp [results, Tryz.results164, go_sem]) rfl ⟨rfl, ?_⟩
  exact (Below.refl _ _).alloc (Nat.le_refl _) _

theorem find_5 (w : World) :
    Calls Tryz.prog 164 #[.int .i64 5] w fun e w' => e = .returned (.tuple #[.agg #[.string (nm 5 0), .string (nm 5 1), .string (nm 5 2), .string (nm 5 3), .string (nm 5 4), .string (nm 5 5), .string (nm 5 6), .string (nm 5 7), .string (nm 5 8), .int .i64 (klo 5), .int .i64 (khi 5), .func (.func (kf 5)) #[] #[]], .bool true]) ∧ Below w.heap.size w w' := by
  go_enter Tryz.func164, Tryz.ntmps164
  go_wp2
  refine bodyPost_ret (v := .tuple #[.agg #[.string ⟨#[]⟩, .string ⟨#[]⟩, .string ⟨#[]⟩, .string ⟨#[]⟩, .string ⟨#[]⟩, .string ⟨#[73, 88]⟩, .string ⟨#[73, 89]⟩, .string ⟨#[]⟩, .string ⟨#[]⟩, .int .i64 (-128), .int .i64 (127), .func (.func 174) #[] #[]], .bool true]) (by simp [results, Tryz.results164, go_sem]) rfl ⟨rfl, ?_⟩
  exact (Below.refl _ _).alloc (Nat.le_refl _) _

theorem find_6 (w : World) :
    Calls Tryz.prog 164 #[.int .i64 6] w fun e w' => e = .returned (.tuple #[.agg #[.string (nm 6 0), .string (nm 6 1), .string (nm 6 2), .string (nm 6 3), .string (nm 6 4), .string (nm 6 5), .string (nm 6 6), .string (nm 6 7), .string (nm 6 8), .int .i64 (klo 6), .int .i64 (khi 6), .func (.func (kf 6)) #[] #[]], .bool true]) ∧ Below w.heap.size w w' := by
  go_enter Tryz.func164, Tryz.ntmps164
  go_wp2
  refine bodyPost_ret (v := .tuple #[.agg #[.string ⟨#[42]⟩, .string ⟨#[]⟩, .string ⟨#[]⟩, .string ⟨#[]⟩, .string ⟨#[]⟩, .string ⟨#[]⟩, .string ⟨#[]⟩, .string ⟨#[]⟩, .string ⟨#[]⟩, .int .i64 (-32768), .int .i64 (65535), .func (.func 176) #[] #[]], .bool true]) (by simp [results, Tryz.results164, go_sem]) rfl ⟨rfl, ?_⟩
  exact (Below.refl _ _).alloc (Nat.le_refl _) _

theorem find_7 (w : World) :
    Calls Tryz.prog 164 #[.int .i64 7] w fun e w' => e = .returned (.tuple #[.agg #[.string (nm 7 0), .string (nm 7 1), .string (nm 7 2), .string (nm 7 3), .string (nm 7 4), .string (nm 7 5), .string (nm 7 6), .string (nm 7 7), .string (nm 7 8), .int .i64 (klo 7), .int .i64 (khi 7), .func (.func (kf 7)) #[] #[]], .bool true]) ∧ Below w.heap.size w w' := by
  go_enter Tryz.func164, Tryz.ntmps164
  go_wp2
  refine bodyPost_ret (v := .tuple #[.agg #[.string ⟨#[42]⟩, .string ⟨#[]⟩, .string ⟨#[]⟩, .string ⟨#[]⟩, .string ⟨#[]⟩, .string ⟨#[]⟩, .string ⟨#[]⟩, .string ⟨#[]⟩, .string ⟨#[]⟩, .int .i64 (0), .int .i64 (65535), .func (.func 178) #[] #[]], .bool true]) (by simp [results, Tryz.results164, go_sem]) rfl ⟨rfl, ?_⟩
  exact (Below.refl _ _).alloc (Nat.le_refl _) _

theorem find_8 (w : World) :
    Calls Tryz.prog 164 #[.int .i64 8] w fun e w' => e = .returned (.tuple #[.agg #[.string (nm 8 0), .string (nm 8 1), .string (nm 8 2), .string (nm 8 3), .string (nm 8 4), .string (nm 8 5), .string (nm 8 6), .string (nm 8 7), .string (nm 8 8), .int .i64 (klo 8), .int .i64 (khi 8), .func (.func (kf 8)) #[] #[]], .bool true]) ∧ Below w.heap.size w w' := by
  go_enter Tryz.func164, Tryz.ntmps164
  go_wp2
  refine bodyPost_ret (v := .tuple #[.agg #[.string ⟨#[78, 90]⟩, .string ⟨#[90]⟩, .string ⟨#[78, 67]⟩, .string ⟨#[67]⟩, .string ⟨#[80, 79]⟩, .string ⟨#[80, 69]⟩, .string ⟨#[80]⟩, .string ⟨#[77]⟩, .string ⟨#[]⟩, .int .i64 (0), .int .i64 (0), .func (.func 172) #[] #[]], .bool true]) (by simp [results, Tryz.results164, go_sem]) rfl ⟨rfl, ?_⟩
  exact (Below.refl _ _).alloc (Nat.le_refl _) _

theorem find_9 (w : World) :
    Calls Tryz.prog 164 #[.int .i64 9] w fun e w' => e = .returned (.tuple #[.agg #[.string (nm 9 0), .string (nm 9 1), .string (nm 9 2), .string (nm 9 3), .string (nm 9 4), .string (nm 9 5), .string (nm 9 6), .string (nm 9 7), .string (nm 9 8), .int .i64 (klo 9), .int .i64 (khi 9), .func (.func (kf 9)) #[] #[]], .bool true]) ∧ Below w.heap.size w w' := by
  go_enter Tryz.func164, Tryz.ntmps164
  go_wp2
  refine bodyPost_ret (v := .tuple #[.agg #[.string ⟨#[73]⟩, .string ⟨#[82]⟩, .string ⟨#[]⟩, .string ⟨#[]⟩, .string ⟨#[]⟩, .string ⟨#[]⟩, .string ⟨#[]⟩, .string ⟨#[]⟩, .string ⟨#[]⟩, .int .i64 (0), .int .i64 (0), .func (.func 172) #[] #[]], .bool true]) (by simp [results, Tryz.results164, go_sem]) rfl ⟨rfl, ?_⟩
  exact (Below.refl _ _).alloc (Nat.le_refl _) _

theorem find_10 (w : World) :
    Calls Tryz.prog 164 #[.int .i64 10] w fun e w' => e = .returned (.tuple #[.agg #[.string (nm 10 0), .string (nm 10 1), .string (nm 10 2), .string (nm 10 3), .string (nm 10 4), .string (nm 10 5), .string (nm 10 6), .string (nm 10 7), .string (nm 10 8), .int .i64 (klo 10), .int .i64 (khi 10), .func (.func (kf 10)) #[] #[]], .bool true]) ∧ Below w.heap.size w w' := by
  go_enter Tryz.func164, Tryz.ntmps164
  go_wp2
  refine bodyPost_ret (v := .tuple #[.agg #[.string ⟨#[42]⟩, .string ⟨#[]⟩, .string ⟨#[]⟩, .string ⟨#[]⟩, .string ⟨#[]⟩, .string ⟨#[]⟩, .string ⟨#[]⟩, .string ⟨#[]⟩, .string ⟨#[]⟩, .int .i64 (-128), .int .i64 (127), .func (.func 179) #[] #[]], .bool true]) (by simp [results, Tryz.results164, go_sem]) rfl ⟨rfl, ?_⟩
  exact (Below.refl _ _).alloc (Nat.le_refl _) _

theorem find_yes (k : Nat) (w : World) (h : 1 ≤ k) (h' : k ≤ 10) :
    Calls Tryz.prog 164 #[.int .i64 k] w fun e w' => e = .returned (.tuple #[.agg #[.string (nm k 0), .string (nm k 1), .string (nm k 2), .string (nm k 3), .string (nm k 4), .string (nm k 5), .string (nm k 6), .string (nm k 7), .string (nm k 8), .int .i64 (klo k), .int .i64 (khi k), .func (.func (kf k)) #[] #[]], .bool true]) ∧ Below w.heap.size w w' := by
  have hk : k = 1 ∨ k = 2 ∨ k = 3 ∨ k = 4 ∨ k = 5 ∨ k = 6 ∨ k = 7 ∨ k = 8 ∨ k = 9 ∨ k = 10 := by omega
  rcases hk with rfl | rfl | rfl | rfl | rfl | rfl | rfl | rfl | rfl | rfl
  · exact find_1 w
  · exact find_2 w
  · exact find_3 w
  · exact find_4 w
  · exact find_5 w
  · exact find_6 w
  · exact find_7 w
  · exact find_8 w
  · exact find_9 w
  · exact find_10 w

theorem find_no (k : Int) (w : World) (h : k < 1 ∨ 10 < k) :
    Calls Tryz.prog 164 #[.int .i64 k] w fun e w' => e = .returned (.tuple #[.agg #[.string ⟨#[]⟩, .string ⟨#[]⟩, .string ⟨#[]⟩, .string ⟨#[]⟩, .string ⟨#[]⟩, .string ⟨#[]⟩, .string ⟨#[]⟩, .string ⟨#[]⟩, .string ⟨#[]⟩, .int .i64 0, .int .i64 0, .nilFunc], .bool false]) ∧ Below w.heap.size w w' := by
  have e1 : (k == 1) = false := by simp; omega
  have e2 : (k == 2) = false := by simp; omega
  have e3 : (k == 3) = false := by simp; omega
  have e4 : (k == 4) = false := by simp; omega
  have e5 : (k == 5) = false := by simp; omega
  have e6 : (k == 6) = false := by simp; omega
  have e7 : (k == 7) = false := by simp; omega
  have e8 : (k == 8) = false := by simp; omega
  have e9 : (k == 9) = false := by simp; omega
  have e10 : (k == 10) = false := by simp; omega
  clear h
  go_enter Tryz.func164, Tryz.ntmps164
  go_wp2
  refine bodyPost_ret (v := .tuple #[.agg #[.string ⟨#[]⟩, .string ⟨#[]⟩, .string ⟨#[]⟩, .string ⟨#[]⟩, .string ⟨#[]⟩, .string ⟨#[]⟩, .string ⟨#[]⟩, .string ⟨#[]⟩, .string ⟨#[]⟩, .int .i64 0, .int .i64 0, .nilFunc], .bool false]) (by simp [results, Tryz.results164, go_sem]) rfl ⟨rfl, ?_⟩
  exact (Below.refl _ _).alloc (Nat.le_refl _) _
end Go.Proofs.YtnjpfhihbjihbaaGreatDoor
