/- Joined texts: Define, DefL, Ref20. -/
import Derived.Test.YtnjpfhihbjihbaaGreatDoorS01
import Derived.Test.YtnjpfhihbjihbaaGreatDoorS16
import Derived.Test.YtnjpfhihbjihbaaGreatDoorS19
import Derived.Test.YtnjpfhihbjihbaaGreatDoorS27
import Derived.Test.YtnjpfhihbjihbaaGreatDoorS29
import Derived.StillTailTactics
/- symbols.New, define, Label, Equ. -/
namespace Go.Proofs.YtnjpfhihbjihbaaGreatDoor
open Go.RowKit Go.Sort

open Go.ChangeMaps
theorem sput_new {l : List (ByteArray × Value)} {s : ByteArray} {v : Value} (h : sget l s = none) : sput l s v = l ++ [(s, v)] := by
  induction l with
  | nil => rfl
  | cons a l ih =>
    simp only [sget] at h
    split at h
    · cases h
    · rename_i hn
      simp only [sput, hn, Bool.false_eq_true, if_false, List.cons_append]
      rw [ih h]
theorem TabIn.kb {w w' : World} {g b : Nat} {M : List (Sy × Value)} (h : TabIn w g b M) (hk : Kb b w w') : Ck w w' := .of_kb hk h.map
theorem TabIn.put {w w' : World} {g b : Nat} {M : List (Sy × Value)} {s : Sy} {v : Value} (h : TabIn w g b M) (hk : Kb b w w') (hm : SMap w' b (M.map symP ++ [(s.name, symV s v)])) (ho : OptAt 130 w s.ex v) : TabIn w' g b (M ++ [(s, v)]) := by
  have hc := h.kb hk
  refine ⟨hc.block _ _ _ _ h.head, by rw [List.map_append]; exact hm, fun x hx => ?_⟩
  rcases List.mem_append.1 hx with hx | hx
  · exact (h.node x hx).ck hc
  · rw [List.mem_singleton] at hx; subst hx; exact ho.ck hc
set_option maxHeartbeats 1000000 in
theorem new_any (w : World) : Calls Tryz.prog 32 #[] w fun e w' => ∃ g b, e = .returned (.pointer (some ⟨g, 0, none⟩)) ∧ TabIn w' g b [] ∧ w.heap.size ≤ b ∧ Below w.heap.size w w' := by
  have hmk : ∀ w : World, (Instr.makeMap 103 none).run Tryz.prog w = .ok (.map (some w.heap.size)) (w.alloc (.map #[] 0)) := fun w => by simp [Instr.makeMap]
  go_enter Tryz.func32, Tryz.ntmps32
  go_wp2_with fail
  go_ret
  refine ⟨_, w.heap.size, rfl, ⟨?_, ?_, fun x hx => by cases hx⟩, Nat.le_refl _, by (repeat (first | exact Below.refl _ _ | refine Below.drew ?_ | (refine below_gw' ?_ (by first | omega | (simp [go_sem]; done) | (simp [go_sem]; omega)) _) | (refine Below.alloc ?_ (by first | omega | (simp [go_sem]; done) | (simp [go_sem]; omega)) _) | (refine Below.setCell ?_ (by first | omega | (simp [go_sem]; done) | (simp [go_sem]; omega)) _)))⟩
  · show (Array.push (Array.push w.heap _) _)[_]? = _
    rw [Array.getElem?_push]
    simp
  · refine SMap.new ?_
    show (Array.push (Array.push w.heap _) _)[_]? = _
    simp [Array.getElem?_push]
/-- What a definition leaves. -/
def DefRes (g b : Nat) (M : List (Sy × Value)) (s : Sy) (v : Value) (w : World) (e : Ending) (w' : World) : Prop :=
  Kb b w w' ∧ ((sfindS (M.map Prod.fst) s.name).isSome = true ∧ e = .returned (.int .i64 14) ∧ TabIn w' g b M ∨ (sfindS (M.map Prod.fst) s.name).isSome = false ∧ e = .returned (.int .i64 0) ∧ TabIn w' g b (M ++ [(s, v)]))
set_option maxHeartbeats 2000000 in
set_option maxRecDepth 100000 in
theorem define_any (g b : Nat) (M : List (Sy × Value)) (s : Sy) (v : Value) (w : World) (hT : TabIn w g b M) (ho : OptAt 130 w s.ex v) :
    Calls Tryz.prog 56 #[.pointer (some ⟨g, 0, none⟩), .string s.name, symV s v] w (DefRes g b M s v w) := by
  have c1 := hT.cell
  have hg : g < w.heap.size := lt_of_block hT.head
  have hlk := fun w' (hb : Below w.heap.size w w') => run_sget (P := Tryz.prog) Tryz.underlying103 Tryz.underlying9 zeroSym (hT.map.below hb) s.name true
  obtain ⟨name, n, ex, here, line⟩ := s
  dsimp only [symV] at *
  obtain ⟨pv, rfl⟩ : ∃ p, v = .pointer p := by
    cases ex with
    | none => exact ⟨none, ho⟩
    | some x => obtain ⟨g, e, _⟩ := NodeAt.ptr ho; exact ⟨_, e⟩
  rcases sget_symP M name with ⟨h1, h2⟩ | ⟨x, hx, h1, h2⟩
  · simp only [h1, Option.getD_none, Option.isSome_none, if_true] at hlk
    have hlk1 := hlk (w.alloc (.cells #[.int .i64 n, .pointer pv, .int .i64 here, .int .i64 line] 101)) (by (repeat (first | exact Below.refl _ _ | refine Below.drew ?_ | (refine below_gw' ?_ (by first | omega | (simp [go_sem]; done) | (simp [go_sem]; omega)) _) | (refine Below.alloc ?_ (by first | omega | (simp [go_sem]; done) | (simp [go_sem]; omega)) _) | (refine Below.setCell ?_ (by first | omega | (simp [go_sem]; done) | (simp [go_sem]; omega)) _))))
    obtain ⟨ob, hput, hsm⟩ := run_sput (P := Tryz.prog) Tryz.underlying103 Tryz.underlying9 (hT.map.below (w' := ((w.alloc (.cells #[.int .i64 n, .pointer pv, .int .i64 here, .int .i64 line] 101)).alloc (.cells #[.int .i64 0, .pointer none, .int .i64 0, .int .i64 0] 101)).drew) (by (repeat (first | exact Below.refl _ _ | refine Below.drew ?_ | (refine below_gw' ?_ (by first | omega | (simp [go_sem]; done) | (simp [go_sem]; omega)) _) | (refine Below.alloc ?_ (by first | omega | (simp [go_sem]; done) | (simp [go_sem]; omega)) _) | (refine Below.setCell ?_ (by first | omega | (simp [go_sem]; done) | (simp [go_sem]; omega)) _))))) name (.agg #[.int .i64 n, .pointer pv, .int .i64 here, .int .i64 line])
    have HSM := Lib.hid hsm; clear hsm
    have HT := Lib.hid hT; clear hT hlk
    have HO := Lib.hid ho; clear ho
    have H1 := Lib.hid h1; clear h1
    have H2 := Lib.hid h2; clear h2
    go_enter Tryz.func56, Tryz.ntmps56
    go_wp2_with fail
    go_region
    go_wp2_with fail
    go_ret
    refine ⟨?_, .inr ⟨by rw [H2.out]; rfl, rfl, ?_⟩⟩
    · exact (Kb.of_below (by (repeat (first | exact Below.refl _ _ | refine Below.drew ?_ | (refine below_gw' ?_ (by first | omega | (simp [go_sem]; done) | (simp [go_sem]; omega)) _) | (refine Below.alloc ?_ (by first | omega | (simp [go_sem]; done) | (simp [go_sem]; omega)) _) | (refine Below.setCell ?_ (by first | omega | (simp [go_sem]; done) | (simp [go_sem]; omega)) _))))).setBlock ob
    · have hs2 := HSM.out
      rw [sput_new H1.out] at hs2
      exact HT.out.put ((Kb.of_below (by (repeat (first | exact Below.refl _ _ | refine Below.drew ?_ | (refine below_gw' ?_ (by first | omega | (simp [go_sem]; done) | (simp [go_sem]; omega)) _) | (refine Below.alloc ?_ (by first | omega | (simp [go_sem]; done) | (simp [go_sem]; omega)) _) | (refine Below.setCell ?_ (by first | omega | (simp [go_sem]; done) | (simp [go_sem]; omega)) _))))).setBlock ob) hs2 HO.out
  · simp only [h1, Option.getD_some, Option.isSome_some, if_true] at hlk
    obtain ⟨⟨xname, xn, xex, xhere, xline⟩, xv⟩ := x
    obtain ⟨pxv, rfl⟩ := (hT.node _ hx).ptr
    dsimp only [symV] at hlk
    have hlk1 := hlk (w.alloc (.cells #[.int .i64 n, .pointer pv, .int .i64 here, .int .i64 line] 101)) (by (repeat (first | exact Below.refl _ _ | refine Below.drew ?_ | (refine below_gw' ?_ (by first | omega | (simp [go_sem]; done) | (simp [go_sem]; omega)) _) | (refine Below.alloc ?_ (by first | omega | (simp [go_sem]; done) | (simp [go_sem]; omega)) _) | (refine Below.setCell ?_ (by first | omega | (simp [go_sem]; done) | (simp [go_sem]; omega)) _))))
    have HT := Lib.hid hT; clear hT hlk
    have H2 := Lib.hid h2; clear h1 h2 hx ho
    go_enter Tryz.func56, Tryz.ntmps56
    go_wp2_with fail
    go_ret
    exact ⟨.of_below (by (repeat (first | exact Below.refl _ _ | refine Below.drew ?_ | (refine below_gw' ?_ (by first | omega | (simp [go_sem]; done) | (simp [go_sem]; omega)) _) | (refine Below.alloc ?_ (by first | omega | (simp [go_sem]; done) | (simp [go_sem]; omega)) _) | (refine Below.setCell ?_ (by first | omega | (simp [go_sem]; done) | (simp [go_sem]; omega)) _)))), .inl ⟨by rw [H2.out]; rfl, rfl, HT.out.below (by (repeat (first | exact Below.refl _ _ | refine Below.drew ?_ | (refine below_gw' ?_ (by first | omega | (simp [go_sem]; done) | (simp [go_sem]; omega)) _) | (refine Below.alloc ?_ (by first | omega | (simp [go_sem]; done) | (simp [go_sem]; omega)) _) | (refine Below.setCell ?_ (by first | omega | (simp [go_sem]; done) | (simp [go_sem]; omega)) _))))⟩⟩
theorem DefRes.mono {g b : Nat} {M : List (Sy × Value)} {s : Sy} {v : Value} {w0 w : World} (h0 : Below w0.heap.size w0 w) {e : Ending} {w' : World} (h : DefRes g b M s v w e w') : DefRes g b M s v w0 e w' := ⟨(Kb.of_below h0).trans h.1, h.2⟩
set_option maxHeartbeats 1000000 in
theorem label_any (g b : Nat) (M : List (Sy × Value)) (name : ByteArray) (n line : Int) (w : World) (hT : TabIn w g b M) :
    Calls Tryz.prog 26 #[.pointer (some ⟨g, 0, none⟩), .string name, .int .i64 n, .int .i64 line] w (DefRes g b M ⟨name, n, none, 0, line⟩ (.pointer none) w) := by
  have hd := define_any g b M ⟨name, n, none, 0, line⟩ (.pointer none) w hT rfl
  dsimp only [symV] at hd
  have HD := Lib.hid hd; clear hd
  go_enter Tryz.func26, Tryz.ntmps26
  go_wp2_with fail
  (with_reducible refine HD.out.mono ?_)
  rintro e w1 ⟨hk, h⟩
  rcases h with ⟨h1, rfl, h2⟩ | ⟨h1, rfl, h2⟩
  all_goals
    have H1 := Lib.hid h1; clear h1
    have H2 := Lib.hid h2; clear h2
    have HK := Lib.hid hk; clear hk
    go_wp2_with fail
    go_ret
  · exact ⟨HK.out, .inl ⟨H1.out, rfl, H2.out⟩⟩
  · exact ⟨HK.out, .inr ⟨H1.out, rfl, H2.out⟩⟩
set_option maxHeartbeats 1000000 in
theorem equ_any (g b : Nat) (M : List (Sy × Value)) (name : ByteArray) (x : Ex) (here line : Int) (v : Value) (w : World) (hT : TabIn w g b M) (hn : NodeAt 130 0 w x v) :
    Calls Tryz.prog 27 #[.pointer (some ⟨g, 0, none⟩), .string name, v, .int .i64 here, .int .i64 line] w (DefRes g b M ⟨name, 0, some x, here, line⟩ v w) := by
  have hd := define_any g b M ⟨name, 0, some x, here, line⟩ v w hT hn
  dsimp only [symV] at hd
  obtain ⟨q, rfl, _⟩ := NodeAt.ptr hn
  have HD := Lib.hid hd; clear hd hn hT
  go_enter Tryz.func27, Tryz.ntmps27
  go_wp2_with fail
  (with_reducible refine HD.out.mono ?_)
  rintro e w1 ⟨hk, h⟩
  rcases h with ⟨h1, rfl, h2⟩ | ⟨h1, rfl, h2⟩
  all_goals
    have H1 := Lib.hid h1; clear h1
    have H2 := Lib.hid h2; clear h2
    have HK := Lib.hid hk; clear hk
    go_wp2_with fail
    go_ret
  · exact ⟨HK.out, .inl ⟨H1.out, rfl, H2.out⟩⟩
  · exact ⟨HK.out, .inr ⟨H1.out, rfl, H2.out⟩⟩
end Go.Proofs.YtnjpfhihbjihbaaGreatDoor

/- The law's own function: define. -/
namespace Go.Proofs.YtnjpfhihbjihbaaGreatDoor
open Go.RowKit Go.Sort

theorem symD_node {d : Dfn} {s : Sy} (h : symD d = some s) (ht : d.text.data.toList ≠ []) : ∃ x, (parseL d.text).2 = some x ∧ s = ⟨d.name, d.n, some x, d.here, d.line⟩ := by
  unfold symD at h
  split at h
  · unfold parseL
    split at h
    · cases h
    · rename_i l hl
      rw [hl]
      dsimp only
      split at h
      · rename_i h0
        rcases hx : (parseR l.dropLast).2 with _ | x
        · have := parseR_code hx
          omega
        · rw [hx] at h
          cases h
          exact ⟨x, rfl, rfl⟩
      · cases h
  · cases h
theorem symD_label {d : Dfn} {s : Sy} (h : symD d = some s) (ht : d.text.data.toList = []) : s = ⟨d.name, d.n, none, d.here, d.line⟩ := by
  unfold symD at h
  split at h
  · cases h; rfl
  · cases h
theorem cell_at_ {w : World} {b : Nat} {c : Array Value} {T : TypeId} {r : Nat × Nat} (h : w.heap[b]? = some (Obj.cells c T r)) (j : Nat) : w.cell? ⟨b, j, none⟩ = c[j]? := by simp only [World.cell?, h]; rfl
theorem box5_below {w w1 : World} {a b c d e : Value} {T : TypeId} {r : Nat × Nat} (hb : Below ((w.alloc (Obj.cells #[a, b, c, d, e] T r)).drew).heap.size ((w.alloc (Obj.cells #[a, b, c, d, e] T r)).drew) w1) :
    Below w.heap.size w w1 ∧ w.heap.size < w1.heap.size ∧ w1.cell? ⟨w.heap.size, 0, none⟩ = some a ∧ w1.cell? ⟨w.heap.size, 2, none⟩ = some c ∧ w1.cell? ⟨w.heap.size, 3, none⟩ = some d ∧ w1.cell? ⟨w.heap.size, 4, none⟩ = some e := by
  have hs : ((w.alloc (Obj.cells #[a, b, c, d, e] T r)).drew).heap.size = w.heap.size + 1 := by show (w.heap.push _).size = _; simp
  have hlt : w.heap.size < ((w.alloc (Obj.cells #[a, b, c, d, e] T r)).drew).heap.size := by omega
  have h1 := hb.size
  have h0 : ((w.alloc (Obj.cells #[a, b, c, d, e] T r)).drew).heap[w.heap.size]? = some (Obj.cells #[a, b, c, d, e] T r) := alloc_at' w _
  refine ⟨Below.trans (b := (w.alloc (Obj.cells #[a, b, c, d, e] T r)).drew) (by (repeat (first | exact Below.refl _ _ | refine Below.drew ?_ | (refine below_gw' ?_ (by first | omega | (simp [go_sem]; done) | (simp [go_sem]; omega)) _) | (refine Below.alloc ?_ (by first | omega | (simp [go_sem]; done) | (simp [go_sem]; omega)) _) | (refine Below.setCell ?_ (by first | omega | (simp [go_sem]; done) | (simp [go_sem]; omega)) _)))) (hb.mono (by omega)), by omega, (hb.cell (p := ⟨w.heap.size, 0, none⟩) hlt).trans (cell_at_ h0 0), (hb.cell (p := ⟨w.heap.size, 2, none⟩) hlt).trans (cell_at_ h0 2), (hb.cell (p := ⟨w.heap.size, 3, none⟩) hlt).trans (cell_at_ h0 3), (hb.cell (p := ⟨w.heap.size, 4, none⟩) hlt).trans (cell_at_ h0 4)⟩
theorem box5_kb {w1 w2 : World} {k b : Nat} {a c d e : Value} (hk : Kb b w1 w2) (hne : k ≠ b) (hlt : k < w1.heap.size) (h : w1.cell? ⟨k, 0, none⟩ = some a ∧ w1.cell? ⟨k, 2, none⟩ = some c ∧ w1.cell? ⟨k, 3, none⟩ = some d ∧ w1.cell? ⟨k, 4, none⟩ = some e) :
    w2.cell? ⟨k, 0, none⟩ = some a ∧ w2.cell? ⟨k, 2, none⟩ = some c ∧ w2.cell? ⟨k, 3, none⟩ = some d ∧ w2.cell? ⟨k, 4, none⟩ = some e :=
  ⟨(hk.cell (p := ⟨k, 0, none⟩) hlt hne).trans h.1, (hk.cell (p := ⟨k, 2, none⟩) hlt hne).trans h.2.1, (hk.cell (p := ⟨k, 3, none⟩) hlt hne).trans h.2.2.1, (hk.cell (p := ⟨k, 4, none⟩) hlt hne).trans h.2.2.2⟩
set_option maxHeartbeats 2000000 in
set_option maxRecDepth 100000 in
theorem defineL_any (g b : Nat) (M : List (Sy × Value)) (d : Dfn) (s : Sy) (w : World) (hT : TabIn w g b M) (hs : symD d = some s) :
    Calls Tryz.prog 34 #[.pointer (some ⟨g, 0, none⟩), dfnV d] w fun e w' => ∃ v, DefRes g b M s.norm v w e w' := by
  by_cases ht0 : d.text.data.toList = []
  · obtain rfl := symD_label hs ht0
    obtain ⟨name, n, text, here, line⟩ := d
    dsimp only [dfnV, Sy.norm] at *
    have t1 : text.toList = [] := by rw [ByteArray.toList_eq]; exact ht0
    have t2 : (!text.toList.isEmpty) = false := by rw [t1]; rfl
    have hl := fun w' (hb : Below w.heap.size w w') => label_any g b M name n line w' (hT.below hb)
    have HLB := Lib.hid hl; clear hl hT hs ht0
    go_enter Tryz.func34, Tryz.ntmps34
    go_wp2_with fail
    (with_reducible refine (HLB.out _ (by (repeat (first | exact Below.refl _ _ | refine Below.drew ?_ | (refine below_gw' ?_ (by first | omega | (simp [go_sem]; done) | (simp [go_sem]; omega)) _) | (refine Below.alloc ?_ (by first | omega | (simp [go_sem]; done) | (simp [go_sem]; omega)) _) | (refine Below.setCell ?_ (by first | omega | (simp [go_sem]; done) | (simp [go_sem]; omega)) _))))).mono ?_)
    rintro e w1 h
    have h := h.mono (w0 := w) (by (repeat (first | exact Below.refl _ _ | refine Below.drew ?_ | (refine below_gw' ?_ (by first | omega | (simp [go_sem]; done) | (simp [go_sem]; omega)) _) | (refine Below.alloc ?_ (by first | omega | (simp [go_sem]; done) | (simp [go_sem]; omega)) _) | (refine Below.setCell ?_ (by first | omega | (simp [go_sem]; done) | (simp [go_sem]; omega)) _))))
    obtain ⟨hk, h⟩ := h
    rcases h with ⟨h1, rfl, h2⟩ | ⟨h1, rfl, h2⟩
    all_goals
      have H1 := Lib.hid h1; clear h1
      have H2 := Lib.hid h2; clear h2
      have HK := Lib.hid hk; clear hk
      go_wp2_with fail
      go_ret
    · exact ⟨.pointer none, HK.out, .inl ⟨H1.out, rfl, H2.out⟩⟩
    · exact ⟨.pointer none, HK.out, .inr ⟨H1.out, rfl, H2.out⟩⟩
  · obtain ⟨x, hx, rfl⟩ := symD_node hs ht0
    obtain ⟨name, n, text, here, line⟩ := d
    dsimp only [dfnV, Sy.norm] at *
    have t2 : (!text.toList.isEmpty) = true := by
      rw [ByteArray.toList_eq]
      rcases hh : text.data.toList with _ | ⟨a, l⟩
      · exact absurd hh ht0
      · rfl
    have t3 : text.toList.isEmpty = false := by simpa using t2
    have hnd : ∀ w, Calls Tryz.prog 13 #[.string text] w fun e w' => ∃ v, e = .returned v ∧ NodeAt 130 0 w' x v ∧ Below w.heap.size w w' := fun w => by
      have h := node20_any text w
      unfold NdRes at h
      rw [hx] at h
      exact h
    rcases hf : (sfindS (M.map Prod.fst) name).isSome with _ | _
    · have hl := fun v w' (hb : Below w.heap.size w w') hn => (equ_any g b M name x here line v w' (hT.below hb) hn).mono fun e w2 h => (show e = .returned (.int .i64 0) ∧ Kb b w' w2 ∧ TabIn w2 g b (M ++ [(⟨name, 0, some x, here, line⟩, v)]) by
        obtain ⟨hk, h | h⟩ := h
        · rw [hf] at h; cases h.1
        · exact ⟨h.2.1, hk, h.2.2⟩)
      have hbl := hT.map.lt
      have HEQ := Lib.hid hl
      have HND := Lib.hid hnd
      have HF := Lib.hid hf
      clear hl hnd hT hs ht0 hx hf
      go_enter Tryz.func34, Tryz.ntmps34
      go_wp2_with fail
      go_region_held3 (fun w' => w'.cell? ⟨w.heap.size, 0, none⟩ = some (.string name) ∧ w'.cell? ⟨w.heap.size, 2, none⟩ = some (.string text) ∧ w'.cell? ⟨w.heap.size, 3, none⟩ = some (.int .i64 here) ∧ w'.cell? ⟨w.heap.size, 4, none⟩ = some (.int .i64 line)) (first | exact ⟨by simp [go_sem], by simp [go_sem], by simp [go_sem], by simp [go_sem]⟩ | exact K1 | exact K2) (first | ((with_reducible refine (HND.out _).mono ?_); rintro e w1 ⟨v1, rfl, ho1, hb1⟩; obtain ⟨hbw, hsz1, K1⟩ := box5_below hb1) | ((with_reducible refine (HEQ.out _ _ hbw ho1).mono ?_); rintro e w2 ⟨rfl, hk2, ht2⟩; have K2 := box5_kb hk2 (Nat.ne_of_gt hbl) hsz1 K1))
      have HK : Hid (Kb b w w2) := Lib.hid ((Kb.of_below hbw).trans hk2)
      have HT2 := Lib.hid ht2
      clear K1 K2 hk2 ht2 hbw ho1 hb1
      go_wp2_with fail
      go_ret
      exact ⟨v1, HK.out, .inr ⟨HF.out, rfl, HT2.out⟩⟩
    · have hl := fun v w' (hb : Below w.heap.size w w') hn => (equ_any g b M name x here line v w' (hT.below hb) hn).mono fun e w2 h => (show e = .returned (.int .i64 14) ∧ Kb b w' w2 ∧ TabIn w2 g b M by
        obtain ⟨hk, h | h⟩ := h
        · exact ⟨h.2.1, hk, h.2.2⟩
        · rw [hf] at h; cases h.1)
      have hbl := hT.map.lt
      have HEQ := Lib.hid hl
      have HND := Lib.hid hnd
      have HF := Lib.hid hf
      clear hl hnd hT hs ht0 hx hf
      go_enter Tryz.func34, Tryz.ntmps34
      go_wp2_with fail
      go_region_held3 (fun w' => w'.cell? ⟨w.heap.size, 0, none⟩ = some (.string name) ∧ w'.cell? ⟨w.heap.size, 2, none⟩ = some (.string text) ∧ w'.cell? ⟨w.heap.size, 3, none⟩ = some (.int .i64 here) ∧ w'.cell? ⟨w.heap.size, 4, none⟩ = some (.int .i64 line)) (first | exact ⟨by simp [go_sem], by simp [go_sem], by simp [go_sem], by simp [go_sem]⟩ | exact K1 | exact K2) (first | ((with_reducible refine (HND.out _).mono ?_); rintro e w1 ⟨v1, rfl, ho1, hb1⟩; obtain ⟨hbw, hsz1, K1⟩ := box5_below hb1) | ((with_reducible refine (HEQ.out _ _ hbw ho1).mono ?_); rintro e w2 ⟨rfl, hk2, ht2⟩; have K2 := box5_kb hk2 (Nat.ne_of_gt hbl) hsz1 K1))
      have HK : Hid (Kb b w w2) := Lib.hid ((Kb.of_below hbw).trans hk2)
      have HT2 := Lib.hid ht2
      clear K1 K2 hk2 ht2 hbw ho1 hb1
      go_wp2_with fail
      go_ret
      exact ⟨v1, HK.out, .inl ⟨HF.out, rfl, HT2.out⟩⟩
end Go.Proofs.YtnjpfhihbjihbaaGreatDoor

/- breadboardref20: has, in, Find, complete. -/
namespace Go.Proofs.YtnjpfhihbjihbaaGreatDoor
open Go.RowKit Go.Sort

set_option maxHeartbeats 1000000 in
theorem has20_any (l : List (ByteArray × Int)) (s : ByteArray) (v : Value) (w : World) (hr : Row w v l.length (valc l)) (hl : l.length ≤ 1000000) :
    Calls Tryz.prog 43 #[v, .string s] w fun e w' => e = .returned (.bool (envL l s).isSome) ∧ Below w.heap.size w w' := by
  obtain ⟨a, cap, rfl, hcap, hc⟩ := hr.vals
  have hl1 : (l.length : Int) ≤ 1000000 := by omega
  have hc1 : (l.length : Int) ≤ (cap : Int) := by omega
  have hl0 : (0 : Int) ≤ (l.length : Int) := by omega
  obtain ⟨R, hR⟩ : ∃ R, (envL l s).isSome = R := ⟨_, rfl⟩
  rw [hR]
  have HC := Lib.hid hc; clear hc hr
  have HR := Lib.hid hR; clear hR
  go_enter Tryz.func43, Tryz.ntmps43
  go_wp2_with fail
  go_loopw [5] (fun i wr => ∃ k : Nat, k ≤ l.length ∧ i = .int .i64 k ∧ Below w.heap.size w wr ∧ Hid (envL (l.take k) s = none)) (fun i _ => l.length - (intOf i).toNat)
  case atStart => exact ⟨0, Nat.zero_le _, rfl, Below.refl _ _, Lib.hid rfl⟩
  case round =>
    obtain ⟨k, hk, rfl, hbel, Hno⟩ := hrel
    have HBEL := Lib.hid hbel; clear hbel
    by_cases hlt : k < l.length
    · obtain ⟨x, hx⟩ : ∃ x, l[k]? = some x := ⟨_, List.getElem?_eq_getElem (by omega)⟩
      obtain ⟨g, o, rfl, hg, hcs⟩ := HC.out (by rintro rfl; simp at hx)
      obtain ⟨e0, e1⟩ := hcs k x hx
      clear hcs e1
      have f0 := (HBEL.out.cell (p := ⟨g, o + k * 2, none⟩) hg).trans e0
      have hstep := envL_take l k x hx s
      rw [Hno.out] at hstep
      have HST := Lib.hid hstep; clear hstep e0
      have HX := Lib.hid hx; clear hx
      have hi0 : (0 : Int) ≤ (k : Int) := by omega
      have hi1 : (k : Int) < (l.length : Int) := by omega
      obtain ⟨xn, xv⟩ := x
      simp only at f0 HST
      have he := eqL xn s
      rcases hb : (xn == s) with _ | _
      · rw [hb] at he
        have HN : Hid (envL (l.take (k + 1)) s = none) := Lib.hid (by have := HST.out; rw [hb] at this; exact this)
        clear hb HST
        go_wp2_with fail
        go_roundw
        case rel => exact ⟨k + 1, by omega, by go_num, HBEL.out, HN⟩
        case measure => simp [intOf]; omega
      · rw [hb] at he
        have HN : Hid (R = true) := Lib.hid (by
          rw [← HR.out, envL_has]
          refine ⟨_, List.mem_of_getElem? HX.out, ?_⟩
          rw [bbeq, decide_eq_true_eq] at hb; exact hb)
        clear hb HST
        go_wp2_with fail
        go_ret
        exact ⟨by rw [HN.out]; rfl, HBEL.out⟩
    · obtain rfl : k = l.length := by omega
      have HN : Hid (R = false) := Lib.hid (by
        have := Hno.out
        rw [List.take_length] at this
        rw [← HR.out, this]; rfl)
      clear Hno
      go_wp2_with fail
      go_ret
      exact ⟨by rw [HN.out]; rfl, HBEL.out⟩
set_option maxHeartbeats 1000000 in
theorem in20_any (l : List (List UInt8)) (s : ByteArray) (v : Value) (w : World) (hr : Row w v l.length (l.map Proofs.encStr)) (hl : l.length ≤ 1000000) :
    Calls Tryz.prog 53 #[v, .string s] w fun e w' => e = .returned (.bool (decide (s.data.toList ∈ l))) ∧ Below w.heap.size w w' := by
  obtain ⟨a, cap, rfl, hcap, hc⟩ := hr.strs
  have hl1 : (l.length : Int) ≤ 1000000 := by omega
  have hc1 : (l.length : Int) ≤ (cap : Int) := by omega
  have hl0 : (0 : Int) ≤ (l.length : Int) := by omega
  obtain ⟨R, hR⟩ : ∃ R, decide (s.data.toList ∈ l) = R := ⟨_, rfl⟩
  rw [hR]
  have HC := Lib.hid hc; clear hc hr
  have HR := Lib.hid hR; clear hR
  go_enter Tryz.func53, Tryz.ntmps53
  go_wp2_with fail
  go_loopw [5] (fun i wr => ∃ k : Nat, k ≤ l.length ∧ i = .int .i64 k ∧ Below w.heap.size w wr ∧ Hid (s.data.toList ∉ l.take k)) (fun i _ => l.length - (intOf i).toNat)
  case atStart => exact ⟨0, Nat.zero_le _, rfl, Below.refl _ _, Lib.hid (by simp)⟩
  case round =>
    obtain ⟨k, hk, rfl, hbel, Hno⟩ := hrel
    have HBEL := Lib.hid hbel; clear hbel
    by_cases hlt : k < l.length
    · obtain ⟨x, hx⟩ : ∃ x, l[k]? = some x := ⟨_, List.getElem?_eq_getElem (by omega)⟩
      obtain ⟨g, o, rfl, hg, hcs⟩ := HC.out (by rintro rfl; simp at hx)
      have e0 := hcs k x hx
      clear hcs
      have f0 := (HBEL.out.cell (p := ⟨g, o + k, none⟩) hg).trans e0
      obtain ⟨xb, hxb⟩ : ∃ xb : ByteArray, (⟨x.toArray⟩ : ByteArray) = xb := ⟨_, rfl⟩
      rw [hxb] at f0
      have HXB := Lib.hid hxb; clear hxb
      have HX := Lib.hid hx; clear hx e0
      have hi0 : (0 : Int) ≤ (k : Int) := by omega
      have hi1 : (k : Int) < (l.length : Int) := by omega
      have he := eqL xb s
      rcases hb : (xb == s) with _ | _
      · rw [hb] at he
        have HN : Hid (s.data.toList ∉ l.take (k + 1)) := Lib.hid (by
          rw [List.take_add_one, HX.out]
          rw [bbeq, decide_eq_false_iff_not] at hb
          simp only [Option.toList_some, List.mem_append, List.mem_singleton, not_or]
          refine ⟨Hno.out, fun e => hb ?_⟩
          rw [← HXB.out, ← e])
        clear hb
        go_wp2_with fail
        go_roundw
        case rel => exact ⟨k + 1, by omega, by go_num, HBEL.out, HN⟩
        case measure => simp [intOf]; omega
      · rw [hb] at he
        have HN : Hid (R = true) := Lib.hid (by
          rw [← HR.out, decide_eq_true_eq]
          rw [bbeq, decide_eq_true_eq] at hb
          rw [← hb, ← HXB.out]
          exact List.mem_of_getElem? HX.out)
        clear hb
        go_wp2_with fail
        go_ret
        exact ⟨by rw [HN.out]; rfl, HBEL.out⟩
    · obtain rfl : k = l.length := by omega
      have HN : Hid (R = false) := Lib.hid (by
        have := Hno.out
        rw [List.take_length] at this
        rw [← HR.out, decide_eq_false_iff_not]; exact this)
      clear Hno
      go_wp2_with fail
      go_ret
      exact ⟨by rw [HN.out]; rfl, HBEL.out⟩
/-- The cells of the reference's symbol. -/
def rsymc (x : Sy × Value) : List Value := [.string x.1.name, .int .i64 x.1.n, x.2, .int .i64 x.1.here, .int .i64 x.1.line]
/-- The reference's table. -/
def RTab (w : World) (v : Value) (R : List (Sy × Value)) : Prop := (∃ base, w.ownsRow base 31 5 v R.length (R.flatMap rsymc)) ∧ ∀ x ∈ R, OptAt 89 w x.1.ex x.2
theorem owns_ck {w w' : World} {base : Nat} {e : TypeId} {size : Nat} {v : Value} {n : Nat} {xs : List Value} (h : w.ownsRow base e size v n xs) (hk : Ck w w') : w'.ownsRow base e size v n xs := by
  obtain ⟨h1, h2⟩ := h
  refine ⟨h1, ?_⟩
  rcases h2 with h2 | ⟨g, cap, cur, a1, a2, a3, a4⟩
  · exact .inl h2
  · exact .inr ⟨g, cap, cur, a1, a2, hk.block _ _ _ _ a3, a4⟩
theorem RTab.row {w : World} {v : Value} {R : List (Sy × Value)} (h : RTab w v R) : Row w v R.length (R.flatMap rsymc) := by
  obtain ⟨b, ho⟩ := h.1; exact Row.of_owns ho
theorem RTab.ck {w w' : World} {v : Value} {R : List (Sy × Value)} (h : RTab w v R) (hk : Ck w w') : RTab w' v R := ⟨by obtain ⟨b, ho⟩ := h.1; exact ⟨b, owns_ck ho hk⟩, fun x hx => (h.2 x hx).ck hk⟩
theorem RTab.below {w w' : World} {v : Value} {R : List (Sy × Value)} (h : RTab w v R) (hb : Below w.heap.size w w') : RTab w' v R := h.ck (.of_below hb)
theorem RTab.parts {w : World} {v : Value} {R : List (Sy × Value)} (h : RTab w v R) : ∃ a cap, v = .slice a R.length cap ∧ R.length ≤ cap ∧ (R ≠ [] → ∃ g o, a = some ⟨g, o, none⟩ ∧ g < w.heap.size ∧ ∀ i x, R[i]? = some x →
    w.cell? ⟨g, o + i * 5, none⟩ = some (.string x.1.name) ∧ w.cell? ⟨g, o + i * 5 + 1, none⟩ = some (.int .i64 x.1.n) ∧ w.cell? ⟨g, o + i * 5 + 2, none⟩ = some x.2 ∧ w.cell? ⟨g, o + i * 5 + 3, none⟩ = some (.int .i64 x.1.here) ∧ w.cell? ⟨g, o + i * 5 + 4, none⟩ = some (.int .i64 x.1.line)) := by
  obtain ⟨a, cap, hv, hn, hc⟩ := h.row.structs rsymc 5 (fun x => rfl) (by decide)
  refine ⟨a, cap, hv, hn, fun hR => ?_⟩
  obtain ⟨g, o, ha, hg, hc⟩ := hc hR
  exact ⟨g, o, ha, hg, fun i x hx => ⟨hc i x hx 0 (by decide), hc i x hx 1 (by decide), hc i x hx 2 (by decide), hc i x hx 3 (by decide), hc i x hx 4 (by decide)⟩⟩
/-- The index of a name. -/
def sidx : List Sy → ByteArray → Int
  | [], _ => -1
  | s :: l, t => if t = s.name then 0 else if sidx l t < 0 then -1 else sidx l t + 1
theorem sidx_neg : ∀ (l : List Sy) (t : ByteArray), (sidx l t < 0 ↔ sfindS l t = none) ∧ -1 ≤ sidx l t
  | [], t => by simp [sidx, sfindS]
  | s :: l, t => by
    have ih := sidx_neg l t
    unfold sidx sfindS
    by_cases h : t = s.name
    · simp [h]
    · rw [if_neg h, if_neg h]
      split
      · rename_i h2; simp [ih.1.1 h2]
      · rename_i h2
        have := ih.2
        refine ⟨?_, by omega⟩
        rw [← ih.1]
        constructor <;> intro h3 <;> omega
theorem sidx_at : ∀ (l : List Sy) (t : ByteArray), 0 ≤ sidx l t → ∃ s, l[(sidx l t).toNat]? = some s ∧ sfindS l t = some s
  | [], t, h => by simp [sidx] at h
  | s :: l, t, h => by
    unfold sidx sfindS at *
    by_cases h1 : t = s.name
    · simp [h1]
    · rw [if_neg h1] at h ⊢
      rw [if_neg h1]
      split at h
      · omega
      · rename_i h2
        rw [if_neg h2]
        obtain ⟨s', e1, e2⟩ := sidx_at l t (by omega)
        refine ⟨s', ?_, e2⟩
        rw [show (sidx l t + 1).toNat = (sidx l t).toNat + 1 by omega]
        simpa using e1
theorem sidx_take : ∀ (l : List Sy) (t : ByteArray) (k : Nat) (s : Sy), (∀ x ∈ l.take k, x.name ≠ t) → l[k]? = some s → s.name = t → sidx l t = k
  | [], t, k, s, _, h, _ => by simp at h
  | a :: l, t, 0, s, _, h, h2 => by
    simp at h; subst h
    unfold sidx; rw [if_pos h2.symm]; rfl
  | a :: l, t, k + 1, s, h0, h, h2 => by
    have ih := sidx_take l t k s (fun x hx => h0 x (by simp [hx])) (by simpa using h) h2
    have ha := h0 a (by simp)
    unfold sidx
    rw [if_neg (fun e => ha e.symm), ih, if_neg (by omega)]
    omega
theorem sidx_none {l : List Sy} {t : ByteArray} (h : ∀ x ∈ l, x.name ≠ t) : sidx l t = -1 := by
  have h1 := sidx_neg l t
  have := h1.1.2 (sfindS_none.2 h)
  omega
theorem sidx_lt (l : List Sy) (t : ByteArray) : sidx l t < l.length := by
  rcases Int.lt_or_le (sidx l t) 0 with h | h
  · omega
  · obtain ⟨s, hs, _⟩ := sidx_at l t h
    have := (List.getElem?_eq_some_iff.1 hs).1
    omega
set_option maxHeartbeats 1000000 in
theorem find20_any (R : List (Sy × Value)) (s : ByteArray) (v : Value) (w : World) (hr : RTab w v R) (hl : R.length ≤ 1000000) :
    Calls Tryz.prog 25 #[v, .string s] w fun e w' => e = .returned (.int .i64 (sidx (R.map Prod.fst) s)) ∧ Below w.heap.size w w' := by
  obtain ⟨a, cap, rfl, hcap, hc⟩ := hr.parts
  have hl1 : (R.length : Int) ≤ 1000000 := by omega
  have hc1 : (R.length : Int) ≤ (cap : Int) := by omega
  have hl0 : (0 : Int) ≤ (R.length : Int) := by omega
  obtain ⟨r, hR⟩ : ∃ r, sidx (R.map Prod.fst) s = r := ⟨_, rfl⟩
  rw [hR]
  have HC := Lib.hid hc; clear hc hr
  have HR := Lib.hid hR; clear hR
  go_enter Tryz.func25, Tryz.ntmps25
  go_wp2_with fail
  go_loopw [5] (fun i wr => ∃ k : Nat, k ≤ R.length ∧ i = .int .i64 k ∧ Below w.heap.size w wr ∧ Hid (∀ x ∈ (R.map Prod.fst).take k, x.name ≠ s)) (fun i _ => R.length - (intOf i).toNat)
  case atStart => exact ⟨0, Nat.zero_le _, rfl, Below.refl _ _, Lib.hid (by simp)⟩
  case round =>
    obtain ⟨k, hk, rfl, hbel, Hno⟩ := hrel
    have HBEL := Lib.hid hbel; clear hbel
    by_cases hlt : k < R.length
    · obtain ⟨x, hx⟩ : ∃ x, R[k]? = some x := ⟨_, List.getElem?_eq_getElem (by omega)⟩
      obtain ⟨g, o, rfl, hg, hcs⟩ := HC.out (by rintro rfl; simp at hx)
      have e0 := (hcs k x hx).1
      clear hcs
      have f0 := (HBEL.out.cell (p := ⟨g, o + k * 5, none⟩) hg).trans e0
      have HX : Hid ((R.map Prod.fst)[k]? = some x.1) := Lib.hid (by rw [List.getElem?_map, hx]; rfl)
      clear hx e0
      have hi0 : (0 : Int) ≤ (k : Int) := by omega
      have hi1 : (k : Int) < (R.length : Int) := by omega
      obtain ⟨⟨xn, xv, xe, xh, xl⟩, xp⟩ := x
      simp only at f0 HX
      have he := eqL xn s
      rcases hb : (xn == s) with _ | _
      · rw [hb] at he
        have HN : Hid (∀ x ∈ (R.map Prod.fst).take (k + 1), x.name ≠ s) := Lib.hid (by
          rw [List.take_add_one, HX.out]
          rw [bbeq, decide_eq_false_iff_not] at hb
          simp only [Option.toList_some, List.mem_append, List.mem_singleton]
          rintro y (hy | rfl)
          · exact Hno.out y hy
          · exact hb)
        clear hb
        go_wp2_with fail
        go_roundw
        case rel => exact ⟨k + 1, by omega, by go_num, HBEL.out, HN⟩
        case measure => simp [intOf]; omega
      · rw [hb] at he
        have HN : Hid (r = (k : Int)) := Lib.hid (by
          rw [← HR.out]
          rw [bbeq, decide_eq_true_eq] at hb
          exact sidx_take _ s k _ Hno.out HX.out hb)
        clear hb
        go_wp2_with fail
        go_ret
        exact ⟨by rw [HN.out]; rfl, HBEL.out⟩
    · obtain rfl : k = R.length := by omega
      have HN : Hid (r = -1) := Lib.hid (by
        have := Hno.out
        rw [List.take_of_length_le (by simp)] at this
        rw [← HR.out]; exact sidx_none this)
      clear Hno
      go_wp2_with fail
      go_ret
      exact ⟨by rw [HN.out]; rfl, HBEL.out⟩
end Go.Proofs.YtnjpfhihbjihbaaGreatDoor
