/- Joined texts: RNames17, OpRow, NamedO, RNamed. -/
import Derived.Test.YtnjpfhihbjihbaaGreatDoorS01
import Derived.Test.YtnjpfhihbjihbaaGreatDoorS07
import Derived.Test.YtnjpfhihbjihbaaGreatDoorS10
import Derived.Test.YtnjpfhihbjihbaaGreatDoorS12
import Derived.Test.YtnjpfhihbjihbaaGreatDoorS14
import Derived.Shelf.Abstract
/- breadboardref17.Names. -/
namespace Go.Proofs.YtnjpfhihbjihbaaGreatDoor
open Go.RowKit Go.Sort

attribute [local go_sem ↓] Go.wp_at_zero Go.wp_at_succ
theorem owns_base {w : World} {base base' n sz : Nat} {T : TypeId} {v : Value} {xs : List Value} (h : w.ownsRow base T sz v n xs) (hb : base' ≤ base) : w.ownsRow base' T sz v n xs := by
  refine ⟨h.1, ?_⟩
  rcases h.2 with h | ⟨g, cap, cur, h1, h2, h3⟩
  · exact .inl h
  · exact .inr ⟨g, cap, cur, h1, Nat.le_trans hb h2, h3⟩
def RNRes (x : Option Ex) (w : World) (e : Ending) (w' : World) : Prop :=
  ∃ v, e = .returned v ∧ w'.ownsRow w.heap.size 9 1 v (oSyms x).length ((oSyms x).map Proofs.encStr) ∧ (oSyms x = [] → v = .slice none 0 0) ∧ Below w.heap.size w w'
theorem oSyms_kids (x : Ex) (h : x.kd ≠ 2) : oSyms (some x) = oSyms x.ka ++ oSyms x.kb := by
  cases x <;> simp [oSyms, Ex.syms, Ex.ka, Ex.kb, Ex.kd] at *
theorem oSyms_len (x : Option Ex) : (oSyms x).length ≤ oNodes x := by
  cases x with
  | none => simp [oSyms]
  | some x => simpa [oSyms, oNodes] using syms_len x
theorem nil_owns (w : World) (base : Nat) (T : TypeId) : w.ownsRow base T 1 (.slice none 0 0) 0 [] := ⟨rfl, .inl ⟨rfl, rfl⟩⟩
set_option maxHeartbeats 4000000 in
set_option maxRecDepth 100000 in
theorem rnames17_any : ∀ (n : Nat) (x : Option Ex), oNodes x ≤ n → n ≤ 1000000 → ∀ (v : Value) (w : World), OptAt 89 w x v → Calls Tryz.prog 52 #[v] w (RNRes x w)
  | n, none, _, _, v, w, h => by
    obtain rfl : v = .pointer none := h
    go_enter Tryz.func52, Tryz.ntmps52
    go_wp2_with fail
    go_ret
    exact ⟨_, rfl, nil_owns _ _ _, fun _ => rfl, by (repeat (first | exact Below.refl _ _ | refine Below.drew ?_ | (refine below_gw' ?_ (by first | omega | (simp [go_sem]; done) | (simp [go_sem]; omega)) _) | (refine Below.alloc ?_ (by first | omega | (simp [go_sem]; done) | (simp [go_sem]; omega)) _) | (refine Below.setCell ?_ (by first | omega | (simp [go_sem]; done) | (simp [go_sem]; omega)) _)))⟩
  | n, some x, hn, hn6, v, w, h => by
    obtain ⟨g, a3, a4, rfl, hg, c0, c1, c2, c3, c4, ka, kb⟩ := NodeAt.five h
    by_cases hk : x.kd = 2
    · obtain ⟨s, rfl⟩ : ∃ s, x = .sym s := by cases x <;> first | exact ⟨_, rfl⟩ | (exact absurd hk (by simp [Ex.kd]))
      clear h ka kb hn
      have c0' : w.cell? ⟨g, 0, none⟩ = some (.int .i64 2) := c0
      have c2' : w.cell? ⟨g, 2, none⟩ = some (.string s) := c2
      clear c0 c2 c1 c3 c4 hk
      go_enter Tryz.func52, Tryz.ntmps52
      go_wp2_with fail
      go_ret
      refine ⟨_, rfl, ⟨rfl, .inr ⟨w.heap.size, 1, _, rfl, Nat.le_refl _, alloc_at' _ _, Nat.le_refl 1, by decide, rfl, ?_⟩⟩, (fun h => absurd h (by simp [oSyms, Ex.syms])), by (repeat (first | exact Below.refl _ _ | refine Below.drew ?_ | (refine below_gw' ?_ (by first | omega | (simp [go_sem]; done) | (simp [go_sem]; omega)) _) | (refine Below.alloc ?_ (by first | omega | (simp [go_sem]; done) | (simp [go_sem]; omega)) _) | (refine Below.setCell ?_ (by first | omega | (simp [go_sem]; done) | (simp [go_sem]; omega)) _)))⟩
      simp [oSyms, Ex.syms, Proofs.encStr]
    · have hkn := ka_nodes x
      have hn' : x.nodes ≤ n := hn
      have n1 : 0 < n := by omega
      have ihA : ∀ w', Below w.heap.size w w' → Calls Tryz.prog 52 #[a3] w' (RNRes x.ka w') := fun w' hb' =>
        rnames17_any (n - 1) x.ka (by omega) (by omega) a3 w' (ka.below hb')
      have ihB : ∀ w', Below w.heap.size w w' → Calls Tryz.prog 52 #[a4] w' (RNRes x.kb w') := fun w' hb' =>
        rnames17_any (n - 1) x.kb (by omega) (by omega) a4 w' (kb.below hb')
      obtain ⟨q3, rfl⟩ := ka.ptr0
      obtain ⟨q4, rfl⟩ := kb.ptr0
      have hsy := oSyms_kids x hk
      have hla := oSyms_len x.ka
      have hlb := oSyms_len x.kb
      have hl0 := oSyms_len (some x)
      have hl2 : (oSyms x.ka).length + (oSyms x.kb).length ≤ 1000000 := by rw [hsy, List.length_append] at hl0; have : oNodes (some x) ≤ n := hn; omega
      show Calls _ _ _ _ (RNRes (some x) w)
      have hres : ∀ e w', (∃ v, e = .returned v ∧ w'.ownsRow w.heap.size 9 1 v ((oSyms x.ka).length + (oSyms x.kb).length) ((oSyms x.ka).map Proofs.encStr ++ (oSyms x.kb).map Proofs.encStr) ∧ (oSyms x.ka ++ oSyms x.kb = [] → v = .slice none 0 0) ∧ Below w.heap.size w w') → RNRes (some x) w e w' := fun e w' ⟨v, h1, h2, h3, h4⟩ => ⟨v, h1, by rw [hsy, List.length_append, List.map_append]; exact h2, by rw [hsy]; exact h3, h4⟩
      have HRES := Lib.hid hres
      have HA := Lib.hid ihA
      have HB := Lib.hid ihB
      have hkb : (x.kd == 2) = false := by simpa using hk
      clear hres ihA ihB hsy hla hlb hl0 hn hn' n1 hkn ka kb h hk hn6
      generalize x.kd = k at *
      generalize x.nn = m at *
      generalize x.nm = s at *
      unfold RNRes at HA HB
      generalize oSyms x.ka = LA at *
      generalize oSyms x.kb = LB at *
      obtain ⟨Q, hQ⟩ : ∃ Q, RNRes (some x) w = Q := ⟨_, rfl⟩
      rw [hQ] at HRES ⊢
      clear hQ
      obtain ⟨i0, hi, hz0, hz1, hz2⟩ := info_parts Tryz.infoString
      go_enter Tryz.func52, Tryz.ntmps52
      go_wp2_with fail
      go_region_held3 (fun w' => w'.cell? ⟨g, 3, none⟩ = some (.pointer q3) ∧ w'.cell? ⟨g, 4, none⟩ = some (.pointer q4)) (first | exact ⟨c3, c4⟩ | exact ⟨k43, k44⟩ | exact ⟨k53, k54⟩ | exact ⟨k63, k64⟩) (first | ((with_reducible refine (HA.out _ (by (repeat (first | exact Below.refl _ _ | refine Below.drew ?_ | (refine below_gw' ?_ (by first | omega | (simp [go_sem]; done) | (simp [go_sem]; omega)) _) | (refine Below.alloc ?_ (by first | omega | (simp [go_sem]; done) | (simp [go_sem]; omega)) _) | (refine Below.setCell ?_ (by first | omega | (simp [go_sem]; done) | (simp [go_sem]; omega)) _))))).mono ?_); rintro e w4 ⟨v4, rfl, hown4, hnil4, hb4⟩; have hbw4 : Below w.heap.size w w4 := Below.trans (b := w.drew) (by (repeat (first | exact Below.refl _ _ | refine Below.drew ?_ | (refine below_gw' ?_ (by first | omega | (simp [go_sem]; done) | (simp [go_sem]; omega)) _) | (refine Below.alloc ?_ (by first | omega | (simp [go_sem]; done) | (simp [go_sem]; omega)) _) | (refine Below.setCell ?_ (by first | omega | (simp [go_sem]; done) | (simp [go_sem]; omega)) _)))) hb4; have k43 := (hbw4.cell (p := ⟨g, 3, none⟩) hg).trans c3; have k44 := (hbw4.cell (p := ⟨g, 4, none⟩) hg).trans c4) | ((with_reducible refine (HB.out _ hbw4).mono ?_); rintro e w5 ⟨v5, rfl, hown5, hnil5, hb5⟩; have hbw5 : Below w.heap.size w w5 := hbw4.trans (hb5.mono hbw4.size); have k53 := (hbw5.cell (p := ⟨g, 3, none⟩) hg).trans c3; have k54 := (hbw5.cell (p := ⟨g, 4, none⟩) hg).trans c4) | (refine step_append_src (by rfl) _ _ 45 (by rfl) w.heap.size 9 i0 (.string ⟨#[]⟩) 1 16 Tryz.underlying45 hi hz0 hz1 hz2 rfl (by decide) _ _ _ (by rfl) (owns_below' (owns_base hown4 (Nat.le_refl _)) hb5) v5 _ _ (by rfl) (src_of_row (Row.of_owns hown5) hnil5) (by rw [List.length_map, Nat.mul_one]) (enc_one _) (by unfold maxLen; omega) (by omega) hbw5.size ?_; intro v6 w6 hown6 hgrow6 hiff6; have hb6 : Below w.heap.size w w6 := hbw5.grown hgrow6 hbw5.size (own_ge hown4); have k63 := (hb6.cell (p := ⟨g, 3, none⟩) hg).trans c3; have k64 := (hb6.cell (p := ⟨g, 4, none⟩) hg).trans c4))
      have hfin : ∃ v, Ending.returned v6 = Ending.returned v ∧ w6.ownsRow w.heap.size 9 1 v (LA.length + LB.length) (LA.map Proofs.encStr ++ LB.map Proofs.encStr) ∧ (LA ++ LB = [] → v = .slice none 0 0) ∧ Below w.heap.size w w6 := ⟨v6, rfl, hown6, fun h => by
        obtain ⟨h1, h2⟩ := List.append_eq_nil_iff.1 h
        exact hiff6.2 ⟨hnil4 h1, by rw [h2]; rfl⟩, hb6⟩
      have HFIN := Lib.hid (HRES.out _ _ hfin)
      clear hfin hb4 hb5 hb6 hown4 hown5 hown6 hnil4 hnil5 hiff6 hgrow6 hbw4 hbw5 k43 k44 k53 k54 k63 k64
      go_wp2_with fail
      exact HFIN.out
end Go.Proofs.YtnjpfhihbjihbaaGreatDoor

/- Operands in rows of cells. -/
namespace Go.Proofs.YtnjpfhihbjihbaaGreatDoor
open Go.RowKit Go.Sort

/-- An operand: kind, register, number. -/
abbrev Op3 := Int × Int × Int
/-- The cells of operands. -/
def opc (l : List Op3) : List Value := l.flatMap fun x => [.int .i64 x.1, .int .i64 x.2.1, .int .i64 x.2.2]
theorem opc_len (l : List Op3) : (opc l).length = l.length * 3 := by
  unfold opc
  induction l with
  | nil => rfl
  | cons a l ih => simp at ih ⊢; omega
theorem opc_get : ∀ (l : List Op3) (i : Nat) (x : Op3), l[i]? = some x → (opc l)[i * 3]? = some (.int .i64 x.1) ∧ (opc l)[i * 3 + 1]? = some (.int .i64 x.2.1) ∧ (opc l)[i * 3 + 2]? = some (.int .i64 x.2.2)
  | [], i, x, h => by simp at h
  | a :: l, 0, x, h => by
    simp at h; subst h
    exact ⟨rfl, rfl, rfl⟩
  | a :: l, i + 1, x, h => by
    have := opc_get l i x (by simpa using h)
    have e : ∀ k, (opc (a :: l))[(i + 1) * 3 + k]? = (opc l)[i * 3 + k]? := fun k => by
      show ([Value.int .i64 a.1, .int .i64 a.2.1, .int .i64 a.2.2] ++ opc l)[(i + 1) * 3 + k]? = _
      rw [List.getElem?_append_right (by simp; omega)]
      congr 1
      simp; omega
    refine ⟨?_, ?_, ?_⟩
    · have := e 0; simp only [Nat.add_zero] at this; rw [this]; exact (opc_get l i x (by simpa using h)).1
    · rw [e 1]; exact this.2.1
    · rw [e 2]; exact this.2.2

/-- An operand in a row. -/
theorem Row.op {w : World} {v : Value} {l : List Op3} (h : Row w v l.length (opc l)) : ∃ a cap, v = .slice a l.length cap ∧ l.length ≤ cap ∧ (l ≠ [] → ∃ g o, a = some ⟨g, o, none⟩ ∧ g < w.heap.size ∧ ∀ i x, l[i]? = some x →
    w.cell? ⟨g, o + i * 3, none⟩ = some (.int .i64 x.1) ∧ w.cell? ⟨g, o + i * 3 + 1, none⟩ = some (.int .i64 x.2.1) ∧ w.cell? ⟨g, o + i * 3 + 2, none⟩ = some (.int .i64 x.2.2)) := by
  obtain ⟨a, cap, hv, hn, h⟩ := h
  refine ⟨a, cap, hv, hn, fun hl => ?_⟩
  obtain ⟨g, o, ha, hg, hc⟩ := h (by intro e; apply hl; have := opc_len l; rw [e] at this; exact List.eq_nil_of_length_eq_zero (by simp at this; omega))
  refine ⟨g, o, ha, hg, fun i x hx => ?_⟩
  have hi : i < l.length := (List.getElem?_eq_some_iff.1 hx).1
  have hlen := opc_len l
  obtain ⟨e0, e1, e2⟩ := opc_get l i x hx
  exact ⟨(hc (i * 3) (by omega)).trans e0, by rw [Nat.add_assoc]; exact (hc (i * 3 + 1) (by omega)).trans e1, by rw [Nat.add_assoc]; exact (hc (i * 3 + 2) (by omega)).trans e2⟩

end Go.Proofs.YtnjpfhihbjihbaaGreatDoor

/- operand.Named: the operands that a name denotes, as operands. -/
namespace Go.Proofs.YtnjpfhihbjihbaaGreatDoor
open Go.RowKit Go.Sort

theorem opCells_opc (l : List (Nat × Nat)) : opCells l = opc (l.map fun x => ((x.1 : Int), (x.2 : Int), (0 : Int))) := by
  induction l with
  | nil => rfl
  | cons a l ih =>
    show [Value.int .i64 a.1, .int .i64 a.2, .int .i64 0] ++ opCells l = [Value.int .i64 a.1, .int .i64 a.2, .int .i64 0] ++ opc _
    rw [ih]
/-- The operands that a name denotes, as operands. -/
def namedO (s : ByteArray) : List Op3 := (namedL s).map fun x => ((x.1 : Int), (x.2 : Int), (0 : Int))
theorem namedO_any (s : ByteArray) (w : World) (hs : s.size ≤ maxLen) :
    Calls Tryz.prog 125 #[.string s] w fun e w' => ∃ v, e = .returned v ∧ Row w' v (namedO s).length (opc (namedO s)) ∧ Below w.heap.size w w' :=
  (named_any s w hs).mono fun e w' ⟨v, he, hr, hb⟩ => ⟨v, he, by unfold namedO; rw [List.length_map, ← opCells_opc]; exact hr, hb⟩
theorem namedO_len (s : ByteArray) : (namedO s).length ≤ 45 := by
  unfold namedO; rw [List.length_map]; exact wlist_len _ 5

end Go.Proofs.YtnjpfhihbjihbaaGreatDoor

/- breadboardref06.regs and Named. (Written by wip/gen_regs.py.) -/
namespace Go.Proofs.YtnjpfhihbjihbaaGreatDoor
open Go.RowKit Go.Sort

/-- How many names a kind has in the reference. -/
def rcountN : Nat → Nat | 1 => 8 | 2 => 4 | 3 => 8 | 8 => 8 | 9 => 2 | _ => 0
theorem rcountN_le (k : Nat) : rcountN k ≤ 9 := by unfold rcountN; split <;> omega
/-- The cells of the names of a kind. -/
def kcells (k : Nat) : Array Value := ((List.range (rcountN k)).map fun j => Value.string (nm k j)).toArray
theorem kcells_at (k j : Nat) (h : j < rcountN k) : (kcells k)[j]? = some (.string (nm k j)) := by
  simp [kcells, h]
theorem kcells_size (k : Nat) : (kcells k).size = rcountN k := by simp [kcells]

theorem kcells_1 : kcells 1 = #[.string ⟨#[66]⟩, .string ⟨#[67]⟩, .string ⟨#[68]⟩, .string ⟨#[69]⟩, .string ⟨#[72]⟩, .string ⟨#[76]⟩, .string ⟨#[]⟩, .string ⟨#[65]⟩] := by rfl
theorem kcells_2 : kcells 2 = #[.string ⟨#[73, 88, 72]⟩, .string ⟨#[73, 88, 76]⟩, .string ⟨#[73, 89, 72]⟩, .string ⟨#[73, 89, 76]⟩] := by rfl
theorem kcells_3 : kcells 3 = #[.string ⟨#[66, 67]⟩, .string ⟨#[68, 69]⟩, .string ⟨#[72, 76]⟩, .string ⟨#[83, 80]⟩, .string ⟨#[65, 70]⟩, .string ⟨#[73, 88]⟩, .string ⟨#[73, 89]⟩, .string ⟨#[65, 70, 39]⟩] := by rfl
theorem kcells_8 : kcells 8 = #[.string ⟨#[78, 90]⟩, .string ⟨#[90]⟩, .string ⟨#[78, 67]⟩, .string ⟨#[67]⟩, .string ⟨#[80, 79]⟩, .string ⟨#[80, 69]⟩, .string ⟨#[80]⟩, .string ⟨#[77]⟩] := by rfl
theorem kcells_9 : kcells 9 = #[.string ⟨#[73]⟩, .string ⟨#[82]⟩] := by rfl

set_option maxHeartbeats 400000 in
set_option maxRecDepth 100000 in
theorem regs_1 (w : World) :
    Calls Tryz.prog 100 #[.int .i64 1] w fun e w' => e = .returned (.slice (some ⟨w.heap.size, 0, none⟩) (rcountN 1) (rcountN 1)) ∧ w' = w.alloc (.cells (kcells 1) 9) := by
  go_enter Tryz.func100, Tryz.ntmps100
  go_wp2_with fail
  go_ret
  exact ⟨rfl, by rw [kcells_1]⟩

set_option maxHeartbeats 400000 in
set_option maxRecDepth 100000 in
theorem regs_2 (w : World) :
    Calls Tryz.prog 100 #[.int .i64 2] w fun e w' => e = .returned (.slice (some ⟨w.heap.size, 0, none⟩) (rcountN 2) (rcountN 2)) ∧ w' = w.alloc (.cells (kcells 2) 9) := by
  go_enter Tryz.func100, Tryz.ntmps100
  go_wp2_with fail
  go_ret
  exact ⟨rfl, by rw [kcells_2]⟩

set_option maxHeartbeats 400000 in
set_option maxRecDepth 100000 in
theorem regs_3 (w : World) :
    Calls Tryz.prog 100 #[.int .i64 3] w fun e w' => e = .returned (.slice (some ⟨w.heap.size, 0, none⟩) (rcountN 3) (rcountN 3)) ∧ w' = w.alloc (.cells (kcells 3) 9) := by
  go_enter Tryz.func100, Tryz.ntmps100
  go_wp2_with fail
  go_ret
  exact ⟨rfl, by rw [kcells_3]⟩

set_option maxHeartbeats 400000 in
set_option maxRecDepth 100000 in
theorem regs_8 (w : World) :
    Calls Tryz.prog 100 #[.int .i64 8] w fun e w' => e = .returned (.slice (some ⟨w.heap.size, 0, none⟩) (rcountN 8) (rcountN 8)) ∧ w' = w.alloc (.cells (kcells 8) 9) := by
  go_enter Tryz.func100, Tryz.ntmps100
  go_wp2_with fail
  go_ret
  exact ⟨rfl, by rw [kcells_8]⟩

set_option maxHeartbeats 400000 in
set_option maxRecDepth 100000 in
theorem regs_9 (w : World) :
    Calls Tryz.prog 100 #[.int .i64 9] w fun e w' => e = .returned (.slice (some ⟨w.heap.size, 0, none⟩) (rcountN 9) (rcountN 9)) ∧ w' = w.alloc (.cells (kcells 9) 9) := by
  go_enter Tryz.func100, Tryz.ntmps100
  go_wp2_with fail
  go_ret
  exact ⟨rfl, by rw [kcells_9]⟩

theorem regs_any (i : Nat) (hi : i < 5) (w : World) :
    Calls Tryz.prog 100 #[.int .i64 (kindAt i)] w fun e w' => e = .returned (.slice (some ⟨w.heap.size, 0, none⟩) (rcountN (kindAt i)) (rcountN (kindAt i))) ∧ w' = w.alloc (.cells (kcells (kindAt i)) 9) := by
  have : i = 0 ∨ i = 1 ∨ i = 2 ∨ i = 3 ∨ i = 4 := by omega
  rcases this with rfl | rfl | rfl | rfl | rfl
  · exact regs_1 w
  · exact regs_2 w
  · exact regs_3 w
  · exact regs_8 w
  · exact regs_9 w

theorem nm_out : ∀ (i : Fin 5) (j : Fin 9), rcountN (kindAt i.val) ≤ j.val → (nm (kindAt i.val) j.val).toList.isEmpty = true := by decide +kernel
theorem wl_more (p : ByteArray → Bool) (i : Nat) (hi : i < 5) : ∀ n, rcountN (kindAt i) ≤ n → n ≤ 9 → wl p (kindAt i) n = wl p (kindAt i) (rcountN (kindAt i))
  | 0, h, _ => by rw [Nat.le_zero.1 h]
  | n + 1, h, h9 => by
    by_cases he : rcountN (kindAt i) = n + 1
    · rw [he]
    · rw [wl_miss p _ _ (.inl (nm_out ⟨i, hi⟩ ⟨n, by omega⟩ (by simp only; omega))), wl_more p i hi n (by omega) (by omega)]
theorem wlist_kind (p : ByteArray → Bool) (i : Nat) (hi : i < 5) : wlist p (i + 1) = wlist p i ++ wl p (kindAt i) (rcountN (kindAt i)) := by
  rw [wlist_succ, wl_more p i hi 9 (rcountN_le (kindAt i)) (Nat.le_refl _)]
theorem alloc_sz (w : World) (o : Obj) : (w.alloc o).heap.size = w.heap.size + 1 := by show (w.heap.push o).size = _; simp
theorem alloc_at (w : World) (o : Obj) : (w.alloc o).heap[w.heap.size]? = some o := by show (w.heap.push o)[w.heap.size]? = _; simp
theorem cell_of_block {w : World} {g : Nat} {C : Array Value} {e : TypeId} {fr : Nat × Nat} (h : w.heap[g]? = some (.cells C e fr)) (j : Nat) : w.cell? ⟨g, j, none⟩ = C[j]? := by
  simp [World.cell?, h]

set_option maxHeartbeats 1000000 in
set_option maxRecDepth 100000 in
theorem rnamed_any (s : ByteArray) (w : World) (hs : s.size ≤ 1000000) :
    Calls Tryz.prog 64 #[.string s] w fun e w' => ∃ v, e = .returned v ∧ Row w' v (namedO s).length (opc (namedO s)) ∧ Below w.heap.size w w' := by
  obtain ⟨i0, hi, hz0, hz1, hz2⟩ := info_parts Tryz.infoOperand
  obtain ⟨B, hB⟩ : ∃ B, w.heap.size = B := ⟨_, rfl⟩
  obtain ⟨p, hp⟩ : ∃ p : ByteArray → Bool, p = fun x => x.toList == (upper s).toList := ⟨_, rfl⟩
  have HP := Lib.hid hp; clear hp
  have HB := Lib.hid hB; clear hB
  go_enter Tryz.func64, Tryz.ntmps64
  go_wp2_with fail
  go_loopw [3, 5, 6, 7] (fun v i _ _ wr => ∃ j : Nat, j ≤ 5 ∧ i = .int .i64 j ∧ wr.ownsRow (B + 1) 182 3 v (wlist p j).length (opCells (wlist p j)) ∧ Below (B + 1) (w.alloc (.cells #[.int .i64 1, .int .i64 2, .int .i64 3, .int .i64 8, .int .i64 9] 3)) wr) (fun _ i _ _ _ => 5 - (intOf i).toNat)
  case atStart => exact ⟨0, Nat.zero_le _, rfl, World.ownsRow_nil _ _ _ _, Below.refl _ _⟩
  case round =>
    obtain ⟨j, hj, rfl, hown, hbel⟩ := hrel
    have HOWN := Lib.hid hown; clear hown
    have HBEL := Lib.hid hbel; clear hbel
    by_cases hlt : j < 5
    · have hi0 : (0 : Int) ≤ (j : Int) := by omega
      have hi1 : (j : Int) < 5 := by omega
      have hck : wr.cell? ⟨w.heap.size, j, none⟩ = some (.int .i64 (kindAt j)) := by
        have hB := HB.out
        rw [HBEL.out.cell (p := ⟨w.heap.size, j, none⟩) (by show w.heap.size < B + 1; omega)]
        have : j = 0 ∨ j = 1 ∨ j = 2 ∨ j = 3 ∨ j = 4 := by omega
        rcases this with rfl | rfl | rfl | rfl | rfl <;> simp [go_sem, kindAt]
      go_wp2_with fail
      refine (regs_any j hlt _).mono ?_
      rintro e w1 ⟨rfl, rfl⟩
      obtain ⟨k, hk⟩ : ∃ k, kindAt j = k := ⟨_, rfl⟩
      obtain ⟨n, hn⟩ : ∃ n, rcountN k = n := ⟨_, rfl⟩
      have hwk := wlist_kind p j hlt
      rw [hk, hn] at hwk
      rw [hk] at hck ⊢
      rw [hn]
      have hn9 : n ≤ 9 := by rw [← hn]; exact rcountN_le k
      have Hwk := Lib.hid hwk; clear hwk
      have Hn := Lib.hid hn; clear hn
      have Hk := Lib.hid hk; clear hk
      have Hck := Lib.hid hck; clear hck
      obtain ⟨wo, rfl⟩ : ∃ wo : World, wo = wr := ⟨_, rfl⟩
      have hB := HB.out
      have hsz1 : B + 1 ≤ wo.heap.size := by have := HBEL.out.size; rw [alloc_sz] at this; omega
      have hbel1 : Below (B + 1) (w.alloc (.cells #[.int .i64 1, .int .i64 2, .int .i64 3, .int .i64 8, .int .i64 9] 3)) (wo.alloc (.cells (kcells k) 9)) := HBEL.out.alloc hsz1 _
      have hown1 := HOWN.out.alloc (.cells (kcells k) 9)
      have hblk1 : (wo.alloc (.cells (kcells k) 9)).heap[wo.heap.size]? = some (.cells (kcells k) 9 (0, 0)) := alloc_at _ _
      clear hB
      have HBEL1 := Lib.hid hbel1; clear hbel1
      have HOWN1 := Lib.hid hown1; clear hown1
      have HBLK1 := Lib.hid hblk1; clear hblk1
      go_wp2_with fail
      go_loopw [3, 7] (fun v i wr => ∃ q : Nat, q ≤ n ∧ i = .int .i64 q ∧ wr.ownsRow (B + 1) 182 3 v (wlist p j ++ wl p k q).length (opCells (wlist p j ++ wl p k q)) ∧ wr.heap[wo.heap.size]? = some (.cells (kcells k) 9 (0, 0)) ∧ Below (B + 1) (w.alloc (.cells #[.int .i64 1, .int .i64 2, .int .i64 3, .int .i64 8, .int .i64 9] 3)) wr) (fun _ i _ => n - (intOf i).toNat)
      case atStart => exact ⟨0, Nat.zero_le _, rfl, by simpa [wl] using HOWN1.out, HBLK1.out, HBEL1.out⟩
      case round =>
        obtain ⟨q, hq, rfl, hown2, hblk2, hbel2⟩ := hrel
        have HOWN2 := Lib.hid hown2; clear hown2
        have HBEL2 := Lib.hid hbel2; clear hbel2
        have hsz2 : B + 1 ≤ wr.heap.size := by have h1 := HBEL2.out.size; have h2 := HB.out; rw [alloc_sz] at h1; omega
        by_cases hqlt : q < n
        · have hq0 : (0 : Int) ≤ (q : Int) := by omega
          have hq1 : (q : Int) < (n : Int) := by omega
          have hcell : wr.cell? ⟨wo.heap.size, q, none⟩ = some (.string (nm k q)) := by rw [cell_of_block hblk2, kcells_at k q (by rw [Hn.out]; exact hqlt)]
          have hck2 : wr.cell? ⟨w.heap.size, j, none⟩ = some (.int .i64 k) := by
            have h2 := HB.out
            rw [HBEL2.out.cell (p := ⟨w.heap.size, j, none⟩) (by show w.heap.size < B + 1; omega), ← HBEL.out.cell (p := ⟨w.heap.size, j, none⟩) (by show w.heap.size < B + 1; omega)]
            exact Hck.out
          have hlt0 : wo.heap.size < wr.heap.size := lt_of_block hblk2
          have hlt1 : w.heap.size < wr.heap.size := by have h2 := HB.out; omega
          have HBLK2 := Lib.hid hblk2; clear hblk2
          by_cases hne : (nm k q).toList.isEmpty = true
          · go_wp2_with fail
            refine wp_region_gw (by kernel_rfl) (by kernel_rfl) ?_
            repeat (go_big_quiet_step (exact gw_quiet (rupper_any s _ hs)))
            refine wpQuiet_nil ?_
            rintro _ ⟨p2, rfl⟩
            go_wp2_with fail
            go_roundw
            case rel => exact ⟨q + 1, by omega, by go_num, by rw [wl_miss p k q (.inl hne)]; exact owns_below' HOWN2.out (below_gw wr p2), by rw [(below_gw wr p2).block _ (lt_of_block HBLK2.out)]; exact HBLK2.out, below_gw' HBEL2.out hsz2 p2⟩
            case measure => simp [intOf]; omega
          · have hne' : (nm k q).toList.isEmpty = false := by simpa using hne
            clear hne
            rcases hpe : ((nm k q).toList == (upper s).toList) with _ | _
            · have Hpe : Hid (p (nm k q) = false) := Lib.hid (by rw [HP.out]; exact hpe)
              go_wp2_with fail
              refine wp_region_gw (by kernel_rfl) (by kernel_rfl) ?_
              repeat (go_big_quiet_step (exact gw_quiet (rupper_any s _ hs)))
              refine wpQuiet_nil ?_
              rintro _ ⟨p2, rfl⟩
              go_wp2_with fail
              go_roundw
              case rel => exact ⟨q + 1, by omega, by go_num, by rw [wl_miss p k q (.inr Hpe.out)]; exact owns_below' HOWN2.out (below_gw wr p2), by rw [(below_gw wr p2).block _ (lt_of_block HBLK2.out)]; exact HBLK2.out, below_gw' HBEL2.out hsz2 p2⟩
              case measure => simp [intOf]; omega
            · have Hpe : Hid (p (nm k q) = true) := Lib.hid (by rw [HP.out]; exact hpe)
              have hlen := wlist_len p j
              have hlen2 := wl_len p k q
              go_wp2_with fail
              refine wp_region_gw (by kernel_rfl) (by kernel_rfl) ?_
              repeat (go_big_quiet_step (exact gw_quiet (rupper_any s _ hs)))
              refine wpQuiet_nil ?_
              rintro _ ⟨p2, rfl⟩
              go_wp2_with (at_builtin; refine wpList_append_own _ rfl _ _ 127 rfl (B + 1) 182 i0 (.agg #[.int .i64 0, .int .i64 0, .int .i64 0]) 3 24 Tryz.underlying127 hi hz0 hz1 hz2 rfl (by decide) _ _ _ rfl (owns_below' HOWN2.out (by (repeat (first | exact Below.refl _ _ | refine Below.drew ?_ | (refine below_gw' ?_ (by first | omega | (simp [go_sem]; done) | (simp [go_sem]; omega)) _) | (refine Below.alloc ?_ (by first | omega | (simp [go_sem]; done) | (simp [go_sem]; omega)) _) | (refine Below.setCell ?_ (by first | omega | (simp [go_sem]; done) | (simp [go_sem]; omega)) _))))) _ 1 1 [.int .i64 k, .int .i64 q, .int .i64 0] rfl rfl ?c1 ?c2 ?c3 ?c4 ?c5 ?_)
              try case c1 =>
                intro q u hq
                rw [addr_add]
                match q, hq with
                | 0, hq => simp at hq; subst hq; simp [go_sem]
                | 1, hq => simp at hq; subst hq; simp [go_sem]
                | 2, hq => simp at hq; subst hq; simp [go_sem]
              case c2 => first | (intro u hu; simp at hu; rcases hu with rfl | rfl | rfl <;> rfl) | rfl
              case c3 => rw [List.length_append]; unfold maxLen; omega
              case c4 => rw [List.length_append]; omega
              case c5 => simp [go_sem]; omega
              intro v' w1 hown' hgrow _
              have hb' : Below (B + 1) _ w1 := (HBEL2.out.trans (Below.mono (show Below wr.heap.size wr _ by (repeat (first | exact Below.refl _ _ | refine Below.drew ?_ | (refine below_gw' ?_ (by first | omega | (simp [go_sem]; done) | (simp [go_sem]; omega)) _) | (refine Below.alloc ?_ (by first | omega | (simp [go_sem]; done) | (simp [go_sem]; omega)) _) | (refine Below.setCell ?_ (by first | omega | (simp [go_sem]; done) | (simp [go_sem]; omega)) _)))) hsz2)).grown hgrow (by simp [go_sem]; omega) (by
                intro q hq
                have := HOWN2.out.2
                rcases this with ⟨h, _⟩ | ⟨g, cap, cur, h, hg, _⟩
                · rw [h] at hq; cases hq
                · rw [h] at hq; cases hq; exact hg)
              have hbk : w1.heap[wo.heap.size]? = some (.cells (kcells k) 9 (0, 0)) := by
                obtain ⟨_, _, _, _, hkk⟩ := hgrow
                rw [hkk wo.heap.size (by simp [go_sem]; omega) (by
                  intro he
                  rcases HOWN2.out.2 with ⟨h, _⟩ | ⟨g, cap, cur, h, hg, hh, _⟩
                  · rw [h] at he; cases he
                  · have hgg : wo.heap.size = g := by rw [h] at he; simpa [Value.ownBlock] using he
                    rw [← hgg] at hh
                    cases hh.symm.trans HBLK2.out), (show Below wr.heap.size wr _ by (repeat (first | exact Below.refl _ _ | refine Below.drew ?_ | (refine below_gw' ?_ (by first | omega | (simp [go_sem]; done) | (simp [go_sem]; omega)) _) | (refine Below.alloc ?_ (by first | omega | (simp [go_sem]; done) | (simp [go_sem]; omega)) _) | (refine Below.setCell ?_ (by first | omega | (simp [go_sem]; done) | (simp [go_sem]; omega)) _)))).block _ hlt0]
                exact HBLK2.out
              have HOWN3 := Lib.hid hown'; clear hown'
              have HB' := Lib.hid hb'; clear hb' hgrow
              have HBK := Lib.hid hbk; clear hbk
              go_wp2_with fail
              go_roundw
              case rel => exact ⟨q + 1, by omega, by go_num, by rw [wl_hit p k q hne' Hpe.out, ← List.append_assoc, opCells_append, List.length_append, List.length_append]; exact HOWN3.out, HBK.out, HB'.out⟩
              case measure => simp [intOf]; omega
        · obtain rfl : q = n := by omega
          go_wp2_with fail
          go_roundw
          case rel => exact ⟨j + 1, by omega, by go_num, by rw [Hwk.out]; exact HOWN2.out, HBEL2.out⟩
          case measure => simp [intOf]; omega
    · obtain rfl : j = 5 := by omega
      go_wp2_with fail
      go_ret
      refine ⟨_, rfl, ?_, ?_⟩
      · have := Row.of_owns HOWN.out
        unfold namedO
        rw [List.length_map, ← opCells_opc]
        unfold namedL
        rw [← HP.out]
        exact this
      · have hB := HB.out
        exact Below.trans (b := w.alloc (.cells #[.int .i64 1, .int .i64 2, .int .i64 3, .int .i64 8, .int .i64 9] 3)) (by (repeat (first | exact Below.refl _ _ | refine Below.drew ?_ | (refine below_gw' ?_ (by first | omega | (simp [go_sem]; done) | (simp [go_sem]; omega)) _) | (refine Below.alloc ?_ (by first | omega | (simp [go_sem]; done) | (simp [go_sem]; omega)) _) | (refine Below.setCell ?_ (by first | omega | (simp [go_sem]; done) | (simp [go_sem]; omega)) _)))) (HBEL.out.mono (by omega))
end Go.Proofs.YtnjpfhihbjihbaaGreatDoor
