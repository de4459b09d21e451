/- Joined texts: ParseE, TokSub, RUpper, Name17, Ends17. -/
import Derived.Test.YtnjpfhihbjihbaaGreatDoorS01
import Derived.Test.YtnjpfhihbjihbaaGreatDoorS02
import Derived.Test.YtnjpfhihbjihbaaGreatDoorS03
import Derived.Test.YtnjpfhihbjihbaaGreatDoorS05
import Derived.Test.YtnjpfhihbjihbaaGreatDoorS06
import Derived.Test.YtnjpfhihbjihbaaGreatDoorS09
import Derived.Test.YtnjpfhihbjihbaaGreatDoorS10
import Derived.Test.YtnjpfhihbjihbaaGreatDoorS11
/- expr.Parse. -/
namespace Go.Proofs.YtnjpfhihbjihbaaGreatDoor
open Go.RowKit Go.Sort

def parsed : Option (Ex × List Tok) → Int × Option Ex
  | none => (3, none)
  | some (x, r) => if r = [] then (if (uniq (lSyms [some x])).any resv then (21, none) else (0, some x)) else (3, none)
set_option maxHeartbeats 4000000 in
set_option maxRecDepth 100000 in
theorem parseE_any (l : List Tok) (v : Value) (w : World) (hsm : Small l) (hl : l.length ≤ 1000000) (hst : ∃ a cap, v = .slice a l.length cap ∧ l.length ≤ cap ∧ (l ≠ [] → ∃ g o, a = some ⟨g, o, none⟩ ∧ g < w.heap.size ∧ ∀ i x, l[i]? = some x →
    w.cell? ⟨g, o + i * 4, none⟩ = some (.int .i64 x.kind) ∧ w.cell? ⟨g, o + i * 4 + 1, none⟩ = some (.string x.text) ∧ w.cell? ⟨g, o + i * 4 + 2, none⟩ = some (.int .i64 x.n) ∧ w.cell? ⟨g, o + i * 4 + 3, none⟩ = some (.int .i64 x.off))) :
    Calls Tryz.prog 39 #[v] w fun e w' => ∃ res, P exLang (.B 1 l) res ∧ ∃ vt, e = .returned (.tuple #[vt, .int .i64 (parsed res).1]) ∧ OptAt 130 w' (parsed res).2 vt ∧ Below w.heap.size w w' := by
  have hmf : ∀ (fn : Fn) (first cap : Array Value) (w : World), (Instr.makeFunc fn first cap).run Tryz.prog w = .ok (.func fn first cap) w := fun _ _ _ _ => rfl
  obtain ⟨a, cap, rfl, hcap, hc⟩ := hst
  have HC := Lib.hid hc; clear hc
  have HSM := Lib.hid hsm; clear hsm
  have hsz2 : ((w.alloc (Obj.cells #[Value.pointer none] 38)).alloc (Obj.cells #[Value.int IntKind.i64 0] 35)).heap.size = w.heap.size + 1 + 1 := by show ((w.heap.push _).push _).size = _; simp
  have hcall := binary_any l 1 (w.heap.size + 1 + 1) (((w.alloc (Obj.cells #[Value.pointer none] 38)).alloc (Obj.cells #[Value.int IntKind.i64 0] 35)).alloc (Obj.cells #[Value.slice a l.length cap] 150)) HSM.out ⟨a, cap, by rw [← hsz2]; exact Array.getElem?_push_size, hcap, fun h => by
    obtain ⟨g, o, ha, hg, hcs⟩ := HC.out h
    refine ⟨g, o, ha, ?_, by omega, fun i x hx => ?_⟩
    · show g < (((w.heap.push _).push _).push _).size; simp; omega
    · obtain ⟨e0, e1, e2, e3⟩ := hcs i x hx
      have hb : Below w.heap.size w (((w.alloc (Obj.cells #[Value.pointer none] 38)).alloc (Obj.cells #[Value.int IntKind.i64 0] 35)).alloc (Obj.cells #[Value.slice a l.length cap] 150)) := by (repeat (first | exact Below.refl _ _ | refine Below.drew ?_ | (refine below_gw' ?_ (by first | omega | (simp [go_sem]; done) | (simp [go_sem]; omega)) _) | (refine Below.alloc ?_ (by first | omega | (simp [go_sem]; done) | (simp [go_sem]; omega)) _) | (refine Below.setCell ?_ (by first | omega | (simp [go_sem]; done) | (simp [go_sem]; omega)) _)))
      exact ⟨(hb.cell (p := ⟨g, _, none⟩) hg).trans e0, (hb.cell (p := ⟨g, _, none⟩) hg).trans e1, (hb.cell (p := ⟨g, _, none⟩) hg).trans e2, (hb.cell (p := ⟨g, _, none⟩) hg).trans e3⟩⟩
  have HCALL := Lib.hid hcall; clear hcall
  go_enter_defers Tryz.func39, Tryz.ntmps39
  go_wp2_with fail
  refine HCALL.out.mono ?_
  rintro e w1 ⟨res, hP, hk, hres⟩
  rw [← hsz2] at hk
  have hb2 := hk.new
  rw [hsz2] at hb2
  have r0 : w1.cell? ⟨w.heap.size, 0, none⟩ = some (.pointer none) := (hb2.cell (p := ⟨w.heap.size, 0, none⟩) (show w.heap.size < _ by omega)).trans (by simp [go_sem])
  have r1 : w1.cell? ⟨w.heap.size + 1, 0, none⟩ = some (.int .i64 0) := (hb2.cell (p := ⟨w.heap.size + 1, 0, none⟩) (show w.heap.size + 1 < _ by omega)).trans (by simp [go_sem])
  have z0 : w1.frozen? ⟨w.heap.size, 0, none⟩ = false := (hb2.frozen (p := ⟨w.heap.size, 0, none⟩) (show w.heap.size < _ by omega)).trans (by simp [go_sem])
  have z1 : w1.frozen? ⟨w.heap.size + 1, 0, none⟩ = false := (hb2.frozen (p := ⟨w.heap.size + 1, 0, none⟩) (show w.heap.size + 1 < _ by omega)).trans (by simp [go_sem])
  have hs1 : w.heap.size + 1 + 1 ≤ w1.heap.size := by have := hb2.size; omega
  have hbw : Below w.heap.size w w1 := Below.trans (b := (w.alloc (Obj.cells #[Value.pointer none] 38)).alloc (Obj.cells #[Value.int IntKind.i64 0] 35)) (by (repeat (first | exact Below.refl _ _ | refine Below.drew ?_ | (refine below_gw' ?_ (by first | omega | (simp [go_sem]; done) | (simp [go_sem]; omega)) _) | (refine Below.alloc ?_ (by first | omega | (simp [go_sem]; done) | (simp [go_sem]; omega)) _) | (refine Below.setCell ?_ (by first | omega | (simp [go_sem]; done) | (simp [go_sem]; omega)) _)))) (hb2.mono (by omega))
  have HB2 := Lib.hid hb2; clear hb2 hk hsz2
  rcases res with _ | ⟨x, r⟩
  · obtain rfl := hres
    go_wp2_with fail
    refine leaves_cons (f := 69) (args := #[.pointer (some ⟨w.heap.size, 0, none⟩), .pointer (some ⟨w.heap.size + 1, 0, none⟩)]) (by simp) (by simp [go_sem]) ?_
    refine (catch_wrong w.heap.size (w.heap.size + 1) _ _ [] w1 r0 r1 z0 z1 (by omega) (by simp) (by simp) (by omega)).mono ?_
    rintro e u' w'' ⟨rfl, rfl, rfl⟩
    have hsz : w.heap.size < w1.heap.size := by omega
    have hsz' : w.heap.size + 1 < w1.heap.size := by omega
    simp [Leaves, settle, results, Tryz.results39, go_sem, r0, r1, hsz, hsz']
    exact ⟨none, hP, _, ⟨rfl, rfl⟩, rfl, by ((repeat (first | exact Below.refl _ _ | refine Below.drew ?_ | (refine below_gw' ?_ (by first | omega | (simp [go_sem]; done) | (simp [go_sem]; omega)) _) | (refine Below.alloc ?_ (by first | omega | (simp [go_sem]; done) | (simp [go_sem]; omega)) _) | (refine Below.setCell ?_ (by first | omega | (simp [go_sem]; done) | (simp [go_sem]; omega)) _)))) <;> exact hbw⟩
  · obtain ⟨vx, rfl, hnode, hstr⟩ := hres
    obtain ⟨gx, rfl, hgx⟩ := hnode.ptr
    have r2 : ∃ a2 c2, w1.cell? ⟨w.heap.size + 1 + 1, 0, none⟩ = some (.slice a2 r.length c2) := by
      obtain ⟨a2, c2, hh, _⟩ := hstr
      exact ⟨a2, c2, by simp [World.cell?, hh]⟩
    obtain ⟨a2, c2, r2⟩ := r2
    have hs3 : w.heap.size + 1 + 1 < w1.heap.size := hstr.lt
    have HNODE := Lib.hid hnode; clear hnode
    have HSTR := Lib.hid hstr; clear hstr
    go_wp2_with fail
    · refine leaves_cons (f := 69) (args := #[.pointer (some ⟨w.heap.size, 0, none⟩), .pointer (some ⟨w.heap.size + 1, 0, none⟩)]) (by simp) (by simp [go_sem]) ?_
      refine (catch_idle ⟨w.heap.size, 0, none⟩ ⟨w.heap.size + 1, 0, none⟩ _).mono ?_
      rintro e u' w'' ⟨rfl, rfl, rfl⟩
      have hr : r ≠ [] := by rintro rfl; simp at *
      have hpr : parsed (some (x, r)) = (3, none) := by simp [parsed, hr]
      simp [Leaves, settle, results, Tryz.results39, go_sem, r0, r1]
      exact ⟨some (x, r), hP, _, by rw [hpr]; exact ⟨rfl, rfl⟩, by rw [hpr]; rfl, by ((repeat (first | exact Below.refl _ _ | refine Below.drew ?_ | (refine below_gw' ?_ (by first | omega | (simp [go_sem]; done) | (simp [go_sem]; omega)) _) | (refine Below.alloc ?_ (by first | omega | (simp [go_sem]; done) | (simp [go_sem]; omega)) _) | (refine Below.setCell ?_ (by first | omega | (simp [go_sem]; done) | (simp [go_sem]; omega)) _)))) <;> exact hbw⟩
    · have hr : r = [] := by cases r with | nil => rfl | cons t r => simp at *
      subst hr
      have hsize := P.size hP x [] rfl
      have hsyms := P.syms hP HSM.out x [] rfl
      simp only [stM, List.length_nil] at hsize
      have hnode2b : NodeAt 130 (w.heap.size + 1 + 1 + 1) ((w1.setCell ⟨w.heap.size, 0, none⟩ (.pointer (some ⟨gx, 0, none⟩))).alloc (.cells #[.pointer (some ⟨gx, 0, none⟩)] 38)) x (.pointer (some ⟨gx, 0, none⟩)) := NodeAt.keep (fun k hk hlt => by
        have hb : Below (w1.setCell ⟨w.heap.size, 0, none⟩ (.pointer (some ⟨gx, 0, none⟩))).heap.size (w1.setCell ⟨w.heap.size, 0, none⟩ (.pointer (some ⟨gx, 0, none⟩))) ((w1.setCell ⟨w.heap.size, 0, none⟩ (.pointer (some ⟨gx, 0, none⟩))).alloc (.cells #[.pointer (some ⟨gx, 0, none⟩)] 38)) := by (repeat (first | exact Below.refl _ _ | refine Below.drew ?_ | (refine below_gw' ?_ (by first | omega | (simp [go_sem]; done) | (simp [go_sem]; omega)) _) | (refine Below.alloc ?_ (by first | omega | (simp [go_sem]; done) | (simp [go_sem]; omega)) _) | (refine Below.setCell ?_ (by first | omega | (simp [go_sem]; done) | (simp [go_sem]; omega)) _)))
        rw [hb.block k (by show k < (w1.heap.modify _ _).size; rw [Array.size_modify]; exact hlt)]
        exact Below.heap_setCell _ _ _ _ (show k ≠ w.heap.size by omega)) x _ HNODE.out
      have hnode2 := NodeAt.mono (Nat.zero_le _) x _ hnode2b
      have hargs : ArgsAt 130 ((w1.setCell ⟨w.heap.size, 0, none⟩ (.pointer (some ⟨gx, 0, none⟩))).alloc (.cells #[.pointer (some ⟨gx, 0, none⟩)] 38)) [some x] (.slice (some ⟨w1.heap.size, 0, none⟩) 1 1) := ⟨_, 0, 1, rfl, by simp [go_sem], fun j o hx => by
        match j, hx with
        | 0, hx => simp at hx; subst hx; exact ⟨.pointer (some ⟨gx, 0, none⟩), by simp [go_sem], hnode2⟩⟩
      have hnm := names_any x.nodes [some x] (by simp [lNodes, oNodes]) (by omega) (by simp) _ _ hargs
      have HNM := Lib.hid hnm; clear hnm
      refine HNM.out.mono ?_
      rintro e w2 ⟨v2, rfl, hrow, hnil, hb⟩
      have hc := containsFunc_any v2 (uniq (lSyms [some x])) w2 hrow (by have h1 := uniq_len (lSyms [some x]); have h2 := lSyms_len [some x]; simp only [lNodes, oNodes] at h2; omega) (fun y hy => by
        rw [mem_uniq] at hy
        simp only [lSyms, List.flatMap_cons, List.flatMap_nil, List.append_nil, oSyms, List.mem_map] at hy
        obtain ⟨z, hz, rfl⟩ := hy
        have := hsyms.1 z hz
        rw [Array.length_toList]
        show z.size ≤ maxLen
        unfold maxLen
        omega)
      have HCF := Lib.hid hc; clear hc
      go_wp2_with fail
      refine HCF.out.mono ?_
      obtain ⟨B, hB⟩ : ∃ B, (uniq (lSyms [some x])).any resv = B := ⟨_, rfl⟩
      rw [hB]
      rintro e w3 ⟨rfl, hb3⟩
      have hbb : Below (w1.setCell ⟨w.heap.size, 0, none⟩ (.pointer (some ⟨gx, 0, none⟩))).heap.size (w1.setCell ⟨w.heap.size, 0, none⟩ (.pointer (some ⟨gx, 0, none⟩))) w3 := Below.trans (b := (w1.setCell ⟨w.heap.size, 0, none⟩ (.pointer (some ⟨gx, 0, none⟩))).alloc (.cells #[.pointer (some ⟨gx, 0, none⟩)] 38)) (by (repeat (first | exact Below.refl _ _ | refine Below.drew ?_ | (refine below_gw' ?_ (by first | omega | (simp [go_sem]; done) | (simp [go_sem]; omega)) _) | (refine Below.alloc ?_ (by first | omega | (simp [go_sem]; done) | (simp [go_sem]; omega)) _) | (refine Below.setCell ?_ (by first | omega | (simp [go_sem]; done) | (simp [go_sem]; omega)) _)))) ((hb.mono (by (first | omega | (simp [go_sem]; done) | (simp [go_sem]; omega)))).trans (hb3.mono (Nat.le_trans (by (first | omega | (simp [go_sem]; done) | (simp [go_sem]; omega))) hb.size)))
      have hsz1 : (w1.setCell ⟨w.heap.size, 0, none⟩ (.pointer (some ⟨gx, 0, none⟩))).heap.size = w1.heap.size := by show (w1.heap.modify _ _).size = _; rw [Array.size_modify]
      have q0 : w3.cell? ⟨w.heap.size, 0, none⟩ = some (.pointer (some ⟨gx, 0, none⟩)) := (hbb.cell (p := ⟨w.heap.size, 0, none⟩) (by rw [hsz1]; show w.heap.size < _; omega)).trans (by simp [go_sem, r0])
      have q1 : w3.cell? ⟨w.heap.size + 1, 0, none⟩ = some (.int .i64 0) := (hbb.cell (p := ⟨w.heap.size + 1, 0, none⟩) (by rw [hsz1]; show w.heap.size + 1 < _; omega)).trans (by simp [go_sem, r1])
      have y0 : w3.frozen? ⟨w.heap.size, 0, none⟩ = false := (hbb.frozen (p := ⟨w.heap.size, 0, none⟩) (by rw [hsz1]; show w.heap.size < _; omega)).trans (by simp [go_sem, z0])
      have y1 : w3.frozen? ⟨w.heap.size + 1, 0, none⟩ = false := (hbb.frozen (p := ⟨w.heap.size + 1, 0, none⟩) (by rw [hsz1]; show w.heap.size + 1 < _; omega)).trans (by simp [go_sem, z1])
      have hsz3 : w.heap.size + 1 < w3.heap.size := by have := hbb.size; rw [hsz1] at this; omega
      have hnode3 : NodeAt 130 (w.heap.size + 1 + 1 + 1) w3 x (.pointer (some ⟨gx, 0, none⟩)) := NodeAt.below (NodeAt.below hnode2b hb) (hb3.mono (Nat.le_refl _))
      have hbw3 : Below w.heap.size w w3 := (Below.setCell hbw (by (first | omega | (simp [go_sem]; done) | (simp [go_sem]; omega))) _).trans (hbb.mono (by rw [hsz1]; omega))
      have HBW3 := Lib.hid hbw3; clear hbw3 hbb hb hb3 hrow hnil hargs hnode2
      have HN3 := Lib.hid hnode3; clear hnode3 hnode2b
      have HB := Lib.hid hB; clear hB
      clear hl HC HSM hs1 hbw HB2 r2 hsize hsyms r0 r1 z0 z1
      cases B
      · go_wp2_with fail
        refine leaves_cons (f := 69) (args := #[.pointer (some ⟨w.heap.size, 0, none⟩), .pointer (some ⟨w.heap.size + 1, 0, none⟩)]) (by simp) (by simp [go_sem]) ?_
        refine (catch_idle ⟨w.heap.size, 0, none⟩ ⟨w.heap.size + 1, 0, none⟩ _).mono ?_
        rintro e u' w'' ⟨rfl, rfl, rfl⟩
        have hpr : parsed (some (x, [])) = (0, some x) := by simp [parsed, HB.out]
        simp [Leaves, settle, results, Tryz.results39, go_sem, q0, q1]
        refine ⟨some (x, []), hP, .pointer (some ⟨gx, 0, none⟩), by rw [hpr]; exact ⟨rfl, rfl⟩, by
          rw [hpr]
          refine NodeAt.mono (Nat.zero_le _) x _ (NodeAt.keep (fun k hk hlt => ?_) x _ HN3.out)
          rw [Below.heap_setCell _ _ _ _ (show k ≠ w.heap.size + 1 by omega), Below.heap_setCell _ _ _ _ (show k ≠ w.heap.size by omega)], by ((repeat (first | exact Below.refl _ _ | refine Below.drew ?_ | (refine below_gw' ?_ (by first | omega | (simp [go_sem]; done) | (simp [go_sem]; omega)) _) | (refine Below.alloc ?_ (by first | omega | (simp [go_sem]; done) | (simp [go_sem]; omega)) _) | (refine Below.setCell ?_ (by first | omega | (simp [go_sem]; done) | (simp [go_sem]; omega)) _)))) <;> exact HBW3.out⟩
      · go_wp2_with fail
        refine leaves_cons (f := 69) (args := #[.pointer (some ⟨w.heap.size, 0, none⟩), .pointer (some ⟨w.heap.size + 1, 0, none⟩)]) (by simp) (by simp [go_sem]) ?_
        refine (catch_idle ⟨w.heap.size, 0, none⟩ ⟨w.heap.size + 1, 0, none⟩ _).mono ?_
        rintro e u' w'' ⟨rfl, rfl, rfl⟩
        have hpr : parsed (some (x, [])) = (21, none) := by simp [parsed, HB.out]
        simp [Leaves, settle, results, Tryz.results39, go_sem, q0, q1]
        refine ⟨some (x, []), hP, .pointer none, by rw [hpr]; exact ⟨rfl, rfl⟩, by rw [hpr]; rfl, by ((repeat (first | exact Below.refl _ _ | refine Below.drew ?_ | (refine below_gw' ?_ (by first | omega | (simp [go_sem]; done) | (simp [go_sem]; omega)) _) | (refine Below.alloc ?_ (by first | omega | (simp [go_sem]; done) | (simp [go_sem]; omega)) _) | (refine Below.setCell ?_ (by first | omega | (simp [go_sem]; done) | (simp [go_sem]; omega)) _)))) <;> exact HBW3.out⟩
end Go.Proofs.YtnjpfhihbjihbaaGreatDoor

/- Parts of a row of tokens. -/
namespace Go.Proofs.YtnjpfhihbjihbaaGreatDoor
open Go.RowKit Go.Sort

theorem tokc_cons (t : Tok) (l : List Tok) : tokc (t :: l) = [.int .i64 t.kind, .string t.text, .int .i64 t.n, .int .i64 t.off] ++ tokc l := rfl
theorem tokc_take : ∀ (l : List Tok) (n : Nat), tokc (l.take n) = (tokc l).take (n * 4)
  | l, 0 => by simp [tokc]
  | [], n + 1 => by simp [tokc]
  | t :: l, n + 1 => by
    rw [List.take_succ_cons, tokc_cons, tokc_cons, tokc_take l n, show (n + 1) * 4 = n * 4 + 1 + 1 + 1 + 1 by omega]
    simp only [List.cons_append, List.nil_append, List.take_succ_cons]
theorem tokc_drop : ∀ (l : List Tok) (n : Nat), tokc (l.drop n) = (tokc l).drop (n * 4)
  | l, 0 => by simp
  | [], n + 1 => by simp [tokc]
  | t :: l, n + 1 => by
    rw [List.drop_succ_cons, tokc_cons, tokc_drop l n, show (n + 1) * 4 = n * 4 + 1 + 1 + 1 + 1 by omega]
    simp only [List.cons_append, List.nil_append, List.drop_succ_cons]
/-- A row of tokens that is not empty: its tokens, and its parts. -/
theorem Row.tok2 {w : World} {v : Value} {l : List Tok} (h : Row w v l.length (tokc l)) (hl : l ≠ []) : ∃ g o cap, v = .slice (some ⟨g, o, none⟩) l.length cap ∧ l.length ≤ cap ∧ g < w.heap.size ∧
    (∀ i x, l[i]? = some x → w.cell? ⟨g, o + i * 4, none⟩ = some (.int .i64 x.kind) ∧ w.cell? ⟨g, o + i * 4 + 1, none⟩ = some (.string x.text) ∧ w.cell? ⟨g, o + i * 4 + 2, none⟩ = some (.int .i64 x.n) ∧ w.cell? ⟨g, o + i * 4 + 3, none⟩ = some (.int .i64 x.off)) ∧
    (∀ lo hi a' cap', lo ≤ hi → hi ≤ l.length → (lo < hi → a' = some ⟨g, o + lo * 4, none⟩) → hi - lo ≤ cap' → Row w (.slice a' (hi - lo) cap') ((l.take hi).drop lo).length (tokc ((l.take hi).drop lo))) := by
  have hne : tokc l ≠ [] := by intro e; apply hl; have := tokc_len l; rw [e] at this; exact List.eq_nil_of_length_eq_zero (by simp at this; omega)
  obtain ⟨a, cap, hv, hn, h⟩ := h
  obtain ⟨g, o, rfl, hg, hc⟩ := h hne
  refine ⟨g, o, cap, hv, hn, hg, fun i x hx => ?_, fun lo hi a' cap' h1 h2 ha h3 => ?_⟩
  · have hi : i < l.length := (List.getElem?_eq_some_iff.1 hx).1
    have hlen := tokc_len l
    obtain ⟨e0, e1, e2, e3⟩ := tokc_get l i x hx
    exact ⟨(hc (i * 4) (by omega)).trans e0, by rw [Nat.add_assoc]; exact (hc (i * 4 + 1) (by omega)).trans e1, by rw [Nat.add_assoc]; exact (hc (i * 4 + 2) (by omega)).trans e2, by rw [Nat.add_assoc]; exact (hc (i * 4 + 3) (by omega)).trans e3⟩
  · have hlen : ((l.take hi).drop lo).length = hi - lo := by rw [List.length_drop, List.length_take]; omega
    refine ⟨a', cap', by rw [hlen], by omega, fun hne2 => ?_⟩
    have hlt : lo < hi := by
      rcases Nat.lt_or_ge lo hi with h | h
      · exact h
      · exfalso; apply hne2
        have : (l.take hi).drop lo = [] := List.eq_nil_of_length_eq_zero (by omega)
        rw [this]; rfl
    refine ⟨g, o + lo * 4, ha hlt, hg, fun j hj => ?_⟩
    have hlj := tokc_len ((l.take hi).drop lo)
    have hlen0 := tokc_len l
    rw [tokc_drop, tokc_take, List.getElem?_drop, List.getElem?_take, if_pos (by omega), ← hc (lo * 4 + j) (by omega), Nat.add_assoc]
theorem scan_part (l : List Tok) : ∀ (pe : Bool) (d : Int) (i : Nat) (best : Option Nat) (lev : Nat), scan exLang pe d i best lev l = best ∨ ∃ j, i ≤ j ∧ j < i + l.length ∧ scan exLang pe d i best lev l = some j := by
  induction l with
  | nil => intro pe d i best lev; exact .inl rfl
  | cons t l ih =>
    intro pe d i best lev
    simp only [scan]
    split
    · rcases ih (exLang.ends t) (d + dl exLang t) (i + 1) (some i) (exLang.lvl t) with h | ⟨j, h1, h2, h⟩
      · exact .inr ⟨i, Nat.le_refl _, by simp, h⟩
      · exact .inr ⟨j, by omega, by simp; omega, h⟩
    · rcases ih (exLang.ends t) (d + dl exLang t) (i + 1) best lev with h | ⟨j, h1, h2, h⟩
      · exact .inl h
      · exact .inr ⟨j, by omega, by simp; omega, h⟩
theorem place_in {l : List Tok} {i : Nat} (h : place exLang l = some i) : 0 < i ∧ i < l.length := by
  unfold place at h
  cases l with
  | nil => cases h
  | cons t l =>
    simp only [scan] at h
    rw [if_neg (by simp)] at h
    rcases scan_part l (exLang.ends t) (0 + dl exLang t) (0 + 1) none 99 with e | ⟨j, h1, h2, e⟩
    · rw [e] at h; cases h
    · rw [e] at h; cases h
      simp
      omega
end Go.Proofs.YtnjpfhihbjihbaaGreatDoor

/- The reference's Upper. -/
namespace Go.Proofs.YtnjpfhihbjihbaaGreatDoor
open Go.RowKit Go.Sort

theorem Tryz.infoByte : (Tryz.prog.info? 5).map (fun i => (i.zero, i.size, i.bytes)) = some (some (.int .u8 0), 1, 1) := by kernel_rfl
/-- The cells of bytes. -/
def bytc (l : List UInt8) : List Value := l.map fun c => .int .u8 (c.toNat : Int)
theorem bytc_len (l : List UInt8) : (bytc l).length = l.length := by simp [bytc]
theorem bytc_append (l m : List UInt8) : bytc (l ++ m) = bytc l ++ bytc m := by simp [bytc]

set_option maxHeartbeats 1000000 in
set_option maxRecDepth 100000 in
theorem rupper_any (s : ByteArray) (w : World) (hs : s.size ≤ 1000000) :
    Calls Tryz.prog 101 #[.string s] w fun e w' => e = .returned (.string (upper s)) ∧ Below w.heap.size w w' := by
  obtain ⟨i0, hi, hz0, hz1, hz2⟩ := info_parts Tryz.infoByte
  obtain ⟨B, hB⟩ : ∃ B, w.heap.size = B := ⟨_, rfl⟩
  obtain ⟨U, hU⟩ : ∃ U, s.data.toList.map up = U := ⟨_, rfl⟩
  have HU := Lib.hid hU; clear hU
  have HB := Lib.hid hB; clear hB
  go_enter Tryz.func101, Tryz.ntmps101
  go_wp2_with fail
  go_loopw [3, 4, 5] (fun v i _ wr => ∃ k : Nat, k ≤ s.size ∧ i = .int .i64 k ∧ wr.ownsRow B 5 1 v k (bytc (U.take k)) ∧ Below B w wr) (fun _ i _ _ => s.size - (intOf i).toNat)
  case atStart => exact ⟨0, Nat.zero_le _, rfl, World.ownsRow_nil _ _ _ _, Below.refl _ _⟩
  case round =>
    obtain ⟨k, hk, rfl, hown, hbel⟩ := hrel
    have HOWN := Lib.hid hown; clear hown
    have HBEL := Lib.hid hbel; clear hbel
    by_cases hlt : k < s.size
    · have hi0 : (0 : Int) ≤ (k : Int) := by omega
      have hi1 : (k : Int) < (s.size : Int) := by omega
      have hup := up_toNat s[k]
      have hc1 : (s[k].toNat : Int) ≤ 255 := by have := s[k].toNat_lt; omega
      have hsucc : bytc (U.take (k + 1)) = bytc (U.take k) ++ [.int .u8 ((up s[k]).toNat : Int)] := by
        rw [List.take_add_one, ← HU.out, bytc_append]
        congr 1
        simp [bytc, hlt]
        rfl
      by_cases h1 : 97 ≤ (s[k].toNat : Int)
      · by_cases h2 : (s[k].toNat : Int) ≤ 122
        · rw [if_pos ⟨h1, h2⟩, show (s[k].toNat : Int) - 97 + 65 = (s[k].toNat : Int) - 32 by omega] at hup
          rw [hup] at hsucc
          clear hup
          have Hk := Lib.hid hsucc; clear hsucc
          go_wp2_with (at_builtin; refine wpList_append_own _ rfl _ _ 205 rfl B 5 i0 (.int .u8 0) 1 1 Tryz.underlying205 hi hz0 hz1 hz2 rfl (by decide) _ _ _ rfl (owns_below' HOWN.out (by (repeat (first | exact Below.refl _ _ | refine Below.drew ?_ | (refine below_gw' ?_ (by first | omega | (simp [go_sem]; done) | (simp [go_sem]; omega)) _) | (refine Below.alloc ?_ (by first | omega | (simp [go_sem]; done) | (simp [go_sem]; omega)) _) | (refine Below.setCell ?_ (by first | omega | (simp [go_sem]; done) | (simp [go_sem]; omega)) _))))) _ 1 1 [.int .u8 ((s[k].toNat : Int) - 32)] rfl rfl ?c1 ?c2 ?c3 ?c4 ?c5 ?_)
          try case c1 =>
            intro q u hq
            rw [addr_add]
            match q, hq with
            | 0, hq => simp at hq; subst hq; simp [go_sem]
          case c2 => first | (intro u hu; simp at hu; subst hu; rfl) | rfl
          case c3 => unfold maxLen; omega
          case c4 => omega
          case c5 => have := HBEL.out.size; have := HB.out; simp [go_sem]; omega
          intro v' w1 hown' hgrow _
          have hsz : B ≤ wr.heap.size := by have := HBEL.out.size; have := HB.out; omega
          have hb' : Below B w w1 := (HBEL.out.trans (Below.mono (show Below wr.heap.size wr _ by (repeat (first | exact Below.refl _ _ | refine Below.drew ?_ | (refine below_gw' ?_ (by first | omega | (simp [go_sem]; done) | (simp [go_sem]; omega)) _) | (refine Below.alloc ?_ (by first | omega | (simp [go_sem]; done) | (simp [go_sem]; omega)) _) | (refine Below.setCell ?_ (by first | omega | (simp [go_sem]; done) | (simp [go_sem]; omega)) _)))) hsz)).grown hgrow (by simp [go_sem]; omega) (by
            intro q hq
            have := HOWN.out.2
            rcases this with ⟨h, _⟩ | ⟨g, cap, cur, h, hg, _⟩
            · rw [h] at hq; cases hq
            · rw [h] at hq; cases hq; exact hg)
          have HOWN3 := Lib.hid hown'; clear hown'
          have HB' := Lib.hid hb'; clear hb' hgrow
          go_wp2_with fail
          go_roundw
          case rel => exact ⟨k + 1, by omega, by go_num, by rw [Hk.out]; exact HOWN3.out, HB'.out⟩
          case measure => simp [intOf]; omega
        · rw [if_neg (fun h => h2 h.2)] at hup
          rw [hup] at hsucc
          clear hup
          have Hk := Lib.hid hsucc; clear hsucc
          go_wp2_with (at_builtin; refine wpList_append_own _ rfl _ _ 205 rfl B 5 i0 (.int .u8 0) 1 1 Tryz.underlying205 hi hz0 hz1 hz2 rfl (by decide) _ _ _ rfl (owns_below' HOWN.out (by (repeat (first | exact Below.refl _ _ | refine Below.drew ?_ | (refine below_gw' ?_ (by first | omega | (simp [go_sem]; done) | (simp [go_sem]; omega)) _) | (refine Below.alloc ?_ (by first | omega | (simp [go_sem]; done) | (simp [go_sem]; omega)) _) | (refine Below.setCell ?_ (by first | omega | (simp [go_sem]; done) | (simp [go_sem]; omega)) _))))) _ 1 1 [.int .u8 ((s[k].toNat : Int))] rfl rfl ?c1 ?c2 ?c3 ?c4 ?c5 ?_)
          try case c1 =>
            intro q u hq
            rw [addr_add]
            match q, hq with
            | 0, hq => simp at hq; subst hq; simp [go_sem]
          case c2 => first | (intro u hu; simp at hu; subst hu; rfl) | rfl
          case c3 => unfold maxLen; omega
          case c4 => omega
          case c5 => have := HBEL.out.size; have := HB.out; simp [go_sem]; omega
          intro v' w1 hown' hgrow _
          have hsz : B ≤ wr.heap.size := by have := HBEL.out.size; have := HB.out; omega
          have hb' : Below B w w1 := (HBEL.out.trans (Below.mono (show Below wr.heap.size wr _ by (repeat (first | exact Below.refl _ _ | refine Below.drew ?_ | (refine below_gw' ?_ (by first | omega | (simp [go_sem]; done) | (simp [go_sem]; omega)) _) | (refine Below.alloc ?_ (by first | omega | (simp [go_sem]; done) | (simp [go_sem]; omega)) _) | (refine Below.setCell ?_ (by first | omega | (simp [go_sem]; done) | (simp [go_sem]; omega)) _)))) hsz)).grown hgrow (by simp [go_sem]; omega) (by
            intro q hq
            have := HOWN.out.2
            rcases this with ⟨h, _⟩ | ⟨g, cap, cur, h, hg, _⟩
            · rw [h] at hq; cases hq
            · rw [h] at hq; cases hq; exact hg)
          have HOWN3 := Lib.hid hown'; clear hown'
          have HB' := Lib.hid hb'; clear hb' hgrow
          go_wp2_with fail
          go_roundw
          case rel => exact ⟨k + 1, by omega, by go_num, by rw [Hk.out]; exact HOWN3.out, HB'.out⟩
          case measure => simp [intOf]; omega
      · rw [if_neg (fun h => h1 h.1)] at hup
        rw [hup] at hsucc
        clear hup
        have Hk := Lib.hid hsucc; clear hsucc
        go_wp2_with (at_builtin; refine wpList_append_own _ rfl _ _ 205 rfl B 5 i0 (.int .u8 0) 1 1 Tryz.underlying205 hi hz0 hz1 hz2 rfl (by decide) _ _ _ rfl (owns_below' HOWN.out (by (repeat (first | exact Below.refl _ _ | refine Below.drew ?_ | (refine below_gw' ?_ (by first | omega | (simp [go_sem]; done) | (simp [go_sem]; omega)) _) | (refine Below.alloc ?_ (by first | omega | (simp [go_sem]; done) | (simp [go_sem]; omega)) _) | (refine Below.setCell ?_ (by first | omega | (simp [go_sem]; done) | (simp [go_sem]; omega)) _))))) _ 1 1 [.int .u8 ((s[k].toNat : Int))] rfl rfl ?c1 ?c2 ?c3 ?c4 ?c5 ?_)
        try case c1 =>
          intro q u hq
          rw [addr_add]
          match q, hq with
          | 0, hq => simp at hq; subst hq; simp [go_sem]
        case c2 => first | (intro u hu; simp at hu; subst hu; rfl) | rfl
        case c3 => unfold maxLen; omega
        case c4 => omega
        case c5 => have := HBEL.out.size; have := HB.out; simp [go_sem]; omega
        intro v' w1 hown' hgrow _
        have hsz : B ≤ wr.heap.size := by have := HBEL.out.size; have := HB.out; omega
        have hb' : Below B w w1 := (HBEL.out.trans (Below.mono (show Below wr.heap.size wr _ by (repeat (first | exact Below.refl _ _ | refine Below.drew ?_ | (refine below_gw' ?_ (by first | omega | (simp [go_sem]; done) | (simp [go_sem]; omega)) _) | (refine Below.alloc ?_ (by first | omega | (simp [go_sem]; done) | (simp [go_sem]; omega)) _) | (refine Below.setCell ?_ (by first | omega | (simp [go_sem]; done) | (simp [go_sem]; omega)) _)))) hsz)).grown hgrow (by simp [go_sem]; omega) (by
          intro q hq
          have := HOWN.out.2
          rcases this with ⟨h, _⟩ | ⟨g, cap, cur, h, hg, _⟩
          · rw [h] at hq; cases hq
          · rw [h] at hq; cases hq; exact hg)
        have HOWN3 := Lib.hid hown'; clear hown'
        have HB' := Lib.hid hb'; clear hb' hgrow
        go_wp2_with fail
        go_roundw
        case rel => exact ⟨k + 1, by omega, by go_num, by rw [Hk.out]; exact HOWN3.out, HB'.out⟩
        case measure => simp [intOf]; omega
    · obtain rfl : k = s.size := by omega
      have hlen : U.length = s.size := by rw [← HU.out]; simp
      have hrow := Row.of_owns HOWN.out
      rw [List.take_of_length_le (by omega)] at hrow
      obtain ⟨a2, c2, rfl, hc2, hr⟩ := hrow
      have hconv : (convert 205 9 (.slice a2 s.size c2)).run Tryz.prog wr = .ok (.string (upper s)) wr := by
        have hU : upper s = ⟨U.toArray⟩ := by unfold upper; rw [HU.out]
        rw [hU]
        by_cases hnil : U = []
        · have h0 : s.size = 0 := by rw [← hlen, hnil]; rfl
          rw [h0, hnil, run_convert_bytes_string (P := Tryz.prog) wr 205 9 5 a2 0 c2 Tryz.underlying205 Tryz.underlying5 Tryz.underlying9]
          cases a2 with
          | none => rfl
          | some a => rfl
        · obtain ⟨g, o, rfl, hg, hcs⟩ := hr (by intro e; have h2 := bytc_len U; rw [e] at h2; exact hnil (List.eq_nil_of_length_eq_zero h2.symm))
          have := run_convert_bytes_back (P := Tryz.prog) wr 205 9 5 ⟨g, o, none⟩ c2 U Tryz.underlying205 Tryz.underlying5 Tryz.underlying9 (fun j hj => by
            rw [addr_add, hcs j (by rw [bytc_len]; exact hj)]
            simp [bytc, hj])
          rw [hlen] at this
          exact this
      clear hr
      go_wp2_with fail
      go_ret
      exact ⟨rfl, by rw [HB.out]; exact HBEL.out⟩
end Go.Proofs.YtnjpfhihbjihbaaGreatDoor

/- The operator that a token is, in the reference. -/
namespace Go.Proofs.YtnjpfhihbjihbaaGreatDoor
open Go.RowKit Go.Sort

set_option maxHeartbeats 400000 in
set_option maxRecDepth 100000 in
theorem rtname_any (t : Tok) (w : World) (hs : t.text.size ≤ 1000000) :
    Calls Tryz.prog 98 #[.agg #[.int .i64 t.kind, .string t.text, .int .i64 t.n, .int .i64 t.off]] w fun e w' => e = .returned (.string (tnm t)) ∧ Below w.heap.size w w' := by
  obtain ⟨k, s, n, o⟩ := t
  simp only at hs
  obtain ⟨R, hR⟩ : ∃ R, tnm ⟨k, s, n, o⟩ = R := ⟨_, rfl⟩
  rw [hR]
  unfold tnm at hR
  simp only at hR
  by_cases h4 : k = 4
  · rw [if_pos h4] at hR
    subst hR h4
    go_enter Tryz.func98, Tryz.ntmps98
    go_wp2_with fail
    go_ret
    exact ⟨rfl, by (repeat (first | exact Below.refl _ _ | refine Below.drew ?_ | (refine below_gw' ?_ (by first | omega | (simp [go_sem]; done) | (simp [go_sem]; omega)) _) | (refine Below.alloc ?_ (by first | omega | (simp [go_sem]; done) | (simp [go_sem]; omega)) _) | (refine Below.setCell ?_ (by first | omega | (simp [go_sem]; done) | (simp [go_sem]; omega)) _)))⟩
  · rw [if_neg h4] at hR
    by_cases h1 : k = 1
    · subst h1
      have HU := Lib.hid (fun w => rupper_any s w hs)
      rcases hm : ((upper s).toList == [77, 79, 68]) with _ | _
      · rw [if_neg (fun h => by rw [h.2] at hm; cases hm)] at hR
        subst hR
        go_enter Tryz.func98, Tryz.ntmps98
        go_wp2_with fail
        refine (HU.out _).mono ?_
        rintro e w1 ⟨rfl, hb⟩
        obtain ⟨p1, rfl⟩ := gw_of_below hb
        clear hb
        go_wp2_with fail
        go_ret
        exact ⟨rfl, by (repeat (first | exact Below.refl _ _ | refine Below.drew ?_ | (refine below_gw' ?_ (by first | omega | (simp [go_sem]; done) | (simp [go_sem]; omega)) _) | (refine Below.alloc ?_ (by first | omega | (simp [go_sem]; done) | (simp [go_sem]; omega)) _) | (refine Below.setCell ?_ (by first | omega | (simp [go_sem]; done) | (simp [go_sem]; omega)) _)))⟩
      · rw [if_pos ⟨rfl, by simpa using hm⟩] at hR
        subst hR
        go_enter Tryz.func98, Tryz.ntmps98
        go_wp2_with fail
        refine (HU.out _).mono ?_
        rintro e w1 ⟨rfl, hb⟩
        obtain ⟨p1, rfl⟩ := gw_of_below hb
        clear hb
        go_wp2_with fail
        go_ret
        exact ⟨rfl, by (repeat (first | exact Below.refl _ _ | refine Below.drew ?_ | (refine below_gw' ?_ (by first | omega | (simp [go_sem]; done) | (simp [go_sem]; omega)) _) | (refine Below.alloc ?_ (by first | omega | (simp [go_sem]; done) | (simp [go_sem]; omega)) _) | (refine Below.setCell ?_ (by first | omega | (simp [go_sem]; done) | (simp [go_sem]; omega)) _)))⟩
    · rw [if_neg (fun h => h1 h.1)] at hR
      subst hR
      go_enter Tryz.func98, Tryz.ntmps98
      go_wp2_with fail
      go_ret
      exact ⟨rfl, by (repeat (first | exact Below.refl _ _ | refine Below.drew ?_ | (refine below_gw' ?_ (by first | omega | (simp [go_sem]; done) | (simp [go_sem]; omega)) _) | (refine Below.alloc ?_ (by first | omega | (simp [go_sem]; done) | (simp [go_sem]; omega)) _) | (refine Below.setCell ?_ (by first | omega | (simp [go_sem]; done) | (simp [go_sem]; omega)) _)))⟩
end Go.Proofs.YtnjpfhihbjihbaaGreatDoor

/- Whether an operand can end with a token, in the reference. -/
namespace Go.Proofs.YtnjpfhihbjihbaaGreatDoor
open Go.RowKit Go.Sort

set_option maxHeartbeats 400000 in
set_option maxRecDepth 100000 in
theorem rtends_any (t : Tok) (w : World) (hs : t.text.size ≤ 1000000) :
    Calls Tryz.prog 139 #[.agg #[.int .i64 t.kind, .string t.text, .int .i64 t.n, .int .i64 t.off]] w fun e w' => e = .returned (.bool (tends t)) ∧ Below w.heap.size w w' := by
  have HN := Lib.hid (fun w => rtname_any t w hs)
  obtain ⟨R, hR⟩ : ∃ R, tends t = R := ⟨_, rfl⟩
  rw [hR]
  unfold tends at hR
  obtain ⟨N, hN⟩ : ∃ N, tnm t = N := ⟨_, rfl⟩
  rw [hN] at hR HN
  have HR := Lib.hid hR; clear hR hN
  go_enter Tryz.func139, Tryz.ntmps139
  go_wp2_with fail
  refine (HN.out _).mono ?_
  rintro e w1 ⟨rfl, hb⟩
  obtain ⟨p1, rfl⟩ := gw_of_below hb
  clear hb
  go_wp2_with fail
  all_goals
    go_ret
    refine ⟨?_, by (repeat (first | exact Below.refl _ _ | refine Below.drew ?_ | (refine below_gw' ?_ (by first | omega | (simp [go_sem]; done) | (simp [go_sem]; omega)) _) | (refine Below.alloc ?_ (by first | omega | (simp [go_sem]; done) | (simp [go_sem]; omega)) _) | (refine Below.setCell ?_ (by first | omega | (simp [go_sem]; done) | (simp [go_sem]; omega)) _)))⟩
    rw [← HR.out]
    simp_all
end Go.Proofs.YtnjpfhihbjihbaaGreatDoor
