/- The statement ExprEvals of chapter 17: proved for every input; no condition beyond the statement's own. -/
import Derived.Test.YtpkbonfbehhbdaaGreatDoorCards
import Derived.Test.YtpkbonfbehhbdaaGreatDoorE03
import Derived.Test.YtpkbonfbehhbdaaGreatDoorE08
import Derived.Test.YtpkbonfbehhbdaaGreatDoorE09
import Derived.Test.YtpkbonfbehhbdaaGreatDoorE10
import Derived.Test.YtpkbonfbehhbdaaGreatDoorE21
import Derived.Test.YtpkbonfbehhbdaaGreatDoorE32
import Derived.Test.YtpkbonfbehhbdaaGreatDoorTie
import Derived.ChangeSame
import Derived.Deep.DeepHandedRow
import Derived.Deep.Slices
import Derived.Deep.Strs
import Derived.Lib.LaidTab
import Derived.Lib.SmallJoins
import Derived.OpenShut
import Derived.ProofKit
import Derived.ShutString
import Derived.WideShapes
/- The law's own functions small and values. -/
namespace Go.Proofs.YtpkbonfbehhbdaaGreatDoor
open Go.RowKit Go.Sort

open Go.ChangeMaps
/-- Whether numbers are in the range, and values are few. -/
def smallB (here : Int) (l : List (ByteArray × Int)) : Bool := (l.all fun x => decide (-2147483648 ≤ x.2) && decide (x.2 < 2147483648)) && (decide (-2147483648 ≤ here) && decide (here < 2147483648) && decide (l.length ≤ 50))
set_option maxHeartbeats 1000000 in
set_option maxRecDepth 100000 in
theorem small_any (here : Int) (l : List (ByteArray × Int)) (v : Value) (w : World) (hr : Row w v l.length (valc l)) (hl : l.length ≤ maxLen) :
    Calls Tryz.prog 16 #[.int .i64 here, v] w fun e w' => e = .returned (.bool (smallB here l)) ∧ Below w.heap.size w w' := by
  unfold maxLen at hl
  obtain ⟨a, cap, rfl, hcap, hc⟩ := hr.vals
  have hl0 : (0 : Int) ≤ (l.length : Int) := by omega
  have hl1 : (l.length : Int) ≤ 9223372036854775807 := by omega
  have hc1 : (l.length : Int) ≤ (cap : Int) := by omega
  have HC := Lib.hid hc; clear hc hr
  go_enter Tryz.func16, Tryz.ntmps16
  go_wp2_with fail
  go_loopw [9] (fun i wr => ∃ k : Nat, k ≤ l.length ∧ i = .int .i64 k ∧ Below w.heap.size w wr ∧ Hid ((l.take k).all (fun x => decide (-2147483648 ≤ x.2) && decide (x.2 < 2147483648)) = true)) (fun i _ => l.length - (intOf i).toNat)
  case atStart => exact ⟨0, Nat.zero_le _, rfl, Below.refl _ _, Lib.hid rfl⟩
  case round =>
    obtain ⟨k, hk, rfl, hbel, Hno⟩ := hrel
    have HBEL := Lib.hid hbel; clear hbel
    have hsz : w.heap.size ≤ wr.heap.size := HBEL.out.size
    by_cases hlt : k < l.length
    · obtain ⟨x, hx⟩ : ∃ x, l[k]? = some x := ⟨_, List.getElem?_eq_getElem hlt⟩
      obtain ⟨g, o, rfl, hg, hcs⟩ := HC.out (by rintro rfl; simp at hx)
      obtain ⟨e0, e1⟩ := hcs k x hx
      clear hcs
      have f0 := (HBEL.out.cell (p := ⟨g, o + k * 2, none⟩) hg).trans e0
      have f1 := (HBEL.out.cell (p := ⟨g, o + k * 2 + 1, none⟩) hg).trans e1
      have hi0 : (0 : Int) ≤ (k : Int) := by omega
      have hi1 : (k : Int) < (l.length : Int) := by omega
      have hgr : g < wr.heap.size := by omega
      obtain ⟨xn, xv⟩ := x
      simp only at f0 f1
      have hmem : (xn, xv) ∈ l := List.mem_of_getElem? hx
      have hstep : (l.take (k + 1)).all (fun x => decide (-2147483648 ≤ x.2) && decide (x.2 < 2147483648)) = (decide (-2147483648 ≤ xv) && decide (xv < 2147483648)) := by rw [List.take_add_one, hx]; simp [Hno.out]
      have HST := Lib.hid hstep; clear hstep hx e0 e1
      have HM := Lib.hid hmem; clear hmem
      by_cases h1 : xv < -2147483648
      · have hf : smallB here l = false := by
          unfold smallB
          rw [show l.all (fun x => decide (-2147483648 ≤ x.2) && decide (x.2 < 2147483648)) = false from List.all_eq_false.2 ⟨_, HM.out, by simp; omega⟩]
          rfl
        have HF := Lib.hid hf; clear hf
        go_wp2_with fail
        go_ret
        exact ⟨by rw [HF.out]; rfl, by ((repeat (first | exact Below.refl _ _ | refine Below.drew ?_ | (refine below_gw' ?_ (by first | omega | (simp [go_sem]; done) | (simp [go_sem]; omega)) _) | (refine Below.alloc ?_ (by first | omega | (simp [go_sem]; done) | (simp [go_sem]; omega)) _) | (refine Below.setCell ?_ (by first | omega | (simp [go_sem]; done) | (simp [go_sem]; omega)) _)))) <;> exact HBEL.out⟩
      · by_cases h2 : (2147483648 : Int) ≤ xv
        · have hf : smallB here l = false := by
            unfold smallB
            rw [show l.all (fun x => decide (-2147483648 ≤ x.2) && decide (x.2 < 2147483648)) = false from List.all_eq_false.2 ⟨_, HM.out, by simp; omega⟩]
            rfl
          have HF := Lib.hid hf; clear hf
          go_wp2_with fail
          go_ret
          exact ⟨by rw [HF.out]; rfl, by ((repeat (first | exact Below.refl _ _ | refine Below.drew ?_ | (refine below_gw' ?_ (by first | omega | (simp [go_sem]; done) | (simp [go_sem]; omega)) _) | (refine Below.alloc ?_ (by first | omega | (simp [go_sem]; done) | (simp [go_sem]; omega)) _) | (refine Below.setCell ?_ (by first | omega | (simp [go_sem]; done) | (simp [go_sem]; omega)) _)))) <;> exact HBEL.out⟩
        · have HT : Hid ((l.take (k + 1)).all (fun x => decide (-2147483648 ≤ x.2) && decide (x.2 < 2147483648)) = true) := Lib.hid (by rw [HST.out]; simp; omega)
          go_wp2_with fail
          go_roundw
          case rel => exact ⟨k + 1, by omega, by go_num, by ((repeat (first | exact Below.refl _ _ | refine Below.drew ?_ | (refine below_gw' ?_ (by first | omega | (simp [go_sem]; done) | (simp [go_sem]; omega)) _) | (refine Below.alloc ?_ (by first | omega | (simp [go_sem]; done) | (simp [go_sem]; omega)) _) | (refine Below.setCell ?_ (by first | omega | (simp [go_sem]; done) | (simp [go_sem]; omega)) _)))) <;> exact HBEL.out, HT⟩
          case measure => simp [intOf]; omega
    · obtain rfl : k = l.length := by omega
      have hall : l.all (fun x => decide (-2147483648 ≤ x.2) && decide (x.2 < 2147483648)) = true := by have := Hno.out; rwa [List.take_length] at this
      have hsm : smallB here l = (decide (-2147483648 ≤ here) && decide (here < 2147483648) && decide (l.length ≤ 50)) := by unfold smallB; rw [hall, Bool.true_and]
      have HSM := Lib.hid hsm; clear hall hsm Hno
      rcases h1 : decide (-2147483648 ≤ here) with _ | _
      · go_wp2_with fail
        go_ret
        exact ⟨by rw [HSM.out, h1]; rfl, HBEL.out⟩
      · rcases h2 : decide (here < 2147483648) with _ | _
        · go_wp2_with fail
          go_ret
          exact ⟨by rw [HSM.out, h1, h2]; rfl, HBEL.out⟩
        · go_wp2_with fail
          go_ret
          exact ⟨by rw [HSM.out, h1, h2]; first | rfl | (simp; done) | (simp; omega), HBEL.out⟩
end Go.Proofs.YtpkbonfbehhbdaaGreatDoor

/- The law's own function values: a map made of pairs. -/
namespace Go.Proofs.YtpkbonfbehhbdaaGreatDoor
open Go.RowKit Go.Sort

open Go.ChangeMaps
theorem Kb.setBlock {b : Nat} {u w : World} (h : Kb b u w) (o : Obj) : Kb b u (setBlock w b o) :=
  ⟨h.os, h.tape, h.output, by rw [setBlock_size]; exact h.size, fun k hk hne => (setBlock_other w b o k hne).trans (h.block k hk hne)⟩
theorem envL_sget {l : List (ByteArray × Int)} {k : Nat} {x : ByteArray × Int} (hx : l[k]? = some x) {m : List (ByteArray × Value)} (h : ∀ s, sget m s = (envL (l.take k) s).map (Value.int .i64)) (s : ByteArray) : sget (sput m x.1 (.int .i64 x.2)) s = (envL (l.take (k + 1)) s).map (Value.int .i64) := by
  rw [sget_sput, envL_take l k x hx, h s]
  by_cases e : s = x.1
  · subst e; rw [bb_self]; rfl
  · rw [bb_ne e, bb_ne (fun h => e h.symm)]; rfl
set_option maxHeartbeats 1000000 in
set_option maxRecDepth 100000 in
theorem values_any (l : List (ByteArray × Int)) (v : Value) (w : World) (hr : Row w v l.length (valc l)) (hl : l.length ≤ 1000000) :
    Calls Tryz.prog 18 #[v] w fun e w' => ∃ m, e = .returned m ∧ MapAt w' m (envL l) ∧ Below w.heap.size w w' := by
  obtain ⟨a, cap, rfl, hcap, hc⟩ := hr.vals
  have hl1 : (l.length : Int) ≤ 1000000 := by omega
  have hc1 : (l.length : Int) ≤ (cap : Int) := by omega
  have HC := Lib.hid hc; clear hc hr
  have hmk : ∀ w : World, (Instr.makeMap 42 none).run Tryz.prog w = .ok (.map (some w.heap.size)) (w.alloc (.map #[] 0)) := fun w => by simp [Instr.makeMap]
  go_enter Tryz.func18, Tryz.ntmps18
  go_wp2_with fail
  go_loopw [9] (fun i wr => ∃ (k : Nat) (m : List (ByteArray × Value)), k ≤ l.length ∧ i = .int .i64 k ∧ SMap wr w.heap.size m ∧ Kb w.heap.size (w.alloc (.map #[] 0)) wr ∧ Hid (∀ s, sget m s = (envL (l.take k) s).map (Value.int .i64))) (fun i _ => l.length - (intOf i).toNat)
  case atStart => exact ⟨0, [], Nat.zero_le _, rfl, ⟨#[], 0, by show (w.heap.push _)[w.heap.size]? = _; simp, rfl⟩, Kb.refl _ _, Lib.hid fun s => rfl⟩
  case round =>
    obtain ⟨k, m, hk, rfl, hsm, hkb, HE⟩ := hrel
    have HSM := Lib.hid hsm; clear hsm
    have HKB := Lib.hid hkb; clear hkb
    have hszB : w.heap.size < wr.heap.size := HSM.out.lt
    by_cases hlt : k < l.length
    · obtain ⟨x, hx⟩ : ∃ x, l[k]? = some x := ⟨_, List.getElem?_eq_getElem hlt⟩
      obtain ⟨g, o, rfl, hg, hcs⟩ := HC.out (by rintro rfl; simp at hx)
      obtain ⟨e0, e1⟩ := hcs k x hx
      clear hcs
      have hbe := HKB.out.new
      have f0 := (hbe.cell (p := ⟨g, o + k * 2, none⟩) hg).trans e0
      have f1 := (hbe.cell (p := ⟨g, o + k * 2 + 1, none⟩) hg).trans e1
      have hi0 : (0 : Int) ≤ (k : Int) := by omega
      have hi1 : (k : Int) < (l.length : Int) := by omega
      have hgr : g < wr.heap.size := by omega
      have hnx := envL_sget hx HE.out
      obtain ⟨xn, xv⟩ := x
      simp only at f0 f1 hnx
      have HNX := Lib.hid hnx
      clear hnx hx e0 e1 hbe
      obtain ⟨ob, hrun, hsm'⟩ := run_sput (P := Tryz.prog) Tryz.underlying42 Tryz.underlying9 (HSM.out.alloc (.cells #[.string xn, .int .i64 xv] 82)) xn (.int .i64 xv)
      have HSM' := Lib.hid hsm'; clear hsm'
      go_wp2_with fail
      go_roundw
      case rel => exact ⟨k + 1, _, by omega, by go_num, HSM'.out, (HKB.out.alloc _).setBlock _, HNX⟩
      case measure => simp [intOf]; omega
    · obtain rfl : k = l.length := by omega
      have he := HE.out
      rw [List.take_length] at he
      have HE2 := Lib.hid he; clear he HE
      go_wp2_with fail
      go_ret
      exact ⟨_, rfl, .inr ⟨_, m, rfl, HSM.out, HE2.out⟩, HKB.out.new⟩
end Go.Proofs.YtpkbonfbehhbdaaGreatDoor

/- A slice of pairs of a name and a number, opened. -/
namespace Go.Proofs.YtpkbonfbehhbdaaGreatDoor
open Go.RowKit Go.Sort

abbrev Val2 := ByteArray × Int
theorem valc_range : ∀ (f : Nat → Val2) (n i q : Nat), i < n → q < 2 → (valc ((List.range n).map f))[i * 2 + q]? = [Value.string (f i).1, .int .i64 (f i).2][q]? := by
  intro f n i q hi hq
  obtain ⟨e0, e1⟩ := valc_get ((List.range n).map f) i (f i) (by simp [hi])
  match q, hq with
  | 0, _ => exact e0
  | 1, _ => exact e1
theorem range_len2 (f : Nat → Val2) (n : Nat) : ((List.range n).map f).length = n := by simp

set_option maxHeartbeats 400000 in
set_option maxRecDepth 100000 in
theorem open_vals {H : Type} {enc : TypeId × Value → H} {W w : World} {r : Reach} {base b0 : Nat} {spare : Nat → Bool} {held : Bool} {v : Value} {d : DataW H} {p : List MemPlace}
    (hv : Value.okWide Tryz.prog w r b0 38 v) (h : DataW.Trod enc Tryz.prog W base spare held 38 v d p) : ∃ L : List Val2, Row W v L.length (valc L) ∧ L.length ≤ maxLen := by
  obtain ⟨a, len, cap, rfl⟩ := Go.WideShapes.okWide_slice Tryz.underlying38 hv
  obtain ⟨fuel, hf⟩ := h
  rcases Deep.open_slice Tryz.underlying38 hf with ⟨he, _⟩ | ⟨a', len', cap', m, n, D, Pl, he, hb, hl, hm, hmm, hx, hel⟩
  · simp [Value.cells] at he
    obtain ⟨rfl, rfl, rfl⟩ := he
    exact ⟨[], Row.nil _, by unfold maxLen; simp⟩
  · simp [Value.cells] at he
    obtain ⟨rfl, rfl, rfl⟩ := he
    have hlm : len ≤ m := by rw [hmm]; split <;> omega
    have hsz : Tryz.prog.cellsOf 82 = 2 := by kernel_rfl
    have hsi : Tryz.prog.cellsOf 3 = 1 := by kernel_rfl
    have hss : Tryz.prog.cellsOf 9 = 1 := by kernel_rfl
    obtain ⟨f, hfi⟩ := Deep.choose_lt (α := Val2) (n := len) (p := fun i x => W.cell? (a'.add (i * 2)) = some (.string x.1) ∧ W.cell? ((a'.add (i * 2)).add 1) = some (.int .i64 x.2)) (fun i hi => by
      obtain ⟨cs', hc1, hc2⟩ := hel i (by omega)
      rw [hsz] at hc1
      obtain ⟨_, hlen, hcell⟩ := World.cells?_some hc1
      obtain ⟨y0, y1, n', _, _, g0, g1⟩ := ChangeShapes.trod_struct2 Tryz.underlying82 hc2
      match cs', hlen with
      | [u0, u1], _ =>
        obtain ⟨z0, k0, _, _⟩ := DataW.trod_string Tryz.underlying9 g0
        obtain ⟨z1, k1, _, _⟩ := DataW.trod_int Tryz.underlying3 g1
        simp only [hsi, hss] at k0 k1
        simp at k0 k1
        subst k0 k1
        have c0 := hcell 0 (by omega)
        have c1 := hcell 1 (by omega)
        refine ⟨(z0, z1), ?_, ?_⟩
        · simpa [Addr.add] using c0
        · simpa using c1)
    refine ⟨(List.range len).map f, ⟨some a', cap, by rw [range_len2], by rw [range_len2]; exact hl, fun hne => ?_⟩, by rw [range_len2]; omega⟩
    obtain ⟨b, o, spot⟩ := a'
    have hpos : 0 < len := by
      rcases Nat.eq_zero_or_pos len with h0 | h0
      · subst h0; exact absurd rfl hne
      · exact h0
    have hspot : spot = none := by simpa [Addr.add] using World.cell?_spot (hfi 0 hpos).1
    subst hspot
    have hlt : b < W.heap.size := by
      have := (hfi 0 hpos).1
      simp [World.cell?] at this
      rcases hh : W.heap[b]? with _ | x
      · simp [Addr.add, hh] at this
      · exact (Array.getElem?_eq_some_iff.1 hh).1
    refine ⟨b, o, rfl, hlt, fun j hj => ?_⟩
    rw [valc_len, range_len2] at hj
    have hd := Nat.div_add_mod j 2
    have hmod := Nat.mod_lt j (show 0 < 2 by decide)
    have hj3 : j / 2 < len := by omega
    obtain ⟨e0, e1⟩ := hfi (j / 2) hj3
    have := valc_range f len (j / 2) (j % 2) hj3 hmod
    rw [show j / 2 * 2 + j % 2 = j by omega] at this
    rw [this]
    have ha : ∀ k, (⟨b, o, none⟩ : Addr).add k = ⟨b, o + k, none⟩ := fun k => addr_add _ _ _
    rw [ha] at e0 e1
    rw [addr_add] at e1
    have hq : j % 2 = 0 ∨ j % 2 = 1 := by omega
    rcases hq with hq | hq
    · rw [hq, show o + j = o + j / 2 * 2 by omega]; exact e0
    · rw [hq, show o + j = o + j / 2 * 2 + 1 by omega]; exact e1
end Go.Proofs.YtpkbonfbehhbdaaGreatDoor

/- The walk of the law ExprEvals. -/
namespace Go.Proofs.YtpkbonfbehhbdaaGreatDoor
open Go.RowKit Go.Sort

def evalO (env : ByteArray → Option Int) (here : Int) : Option Ex → Int × Int
  | none => (0, 1)
  | some x => x.eval env here
set_option maxHeartbeats 1000000 in
theorem evalP_nil (here : Int) (m : Value) (w : World) : Calls Tryz.prog 17 #[.pointer none, .int .i64 here, m] w (EvRes (0, 1) w) := by
  go_enter Tryz.func17, Tryz.ntmps17
  go_wp2_with fail
  exact bodyPost_ret (v := .tuple #[.int .i64 0, .int .i64 1]) (by simp [results, Tryz.results17, go_sem]) rfl ⟨rfl, by (repeat (first | exact Below.refl _ _ | refine Below.drew ?_ | (refine below_gw' ?_ (by first | omega | (simp [go_sem]; done) | (simp [go_sem]; omega)) _) | (refine Below.alloc ?_ (by first | omega | (simp [go_sem]; done) | (simp [go_sem]; omega)) _) | (refine Below.setCell ?_ (by first | omega | (simp [go_sem]; done) | (simp [go_sem]; omega)) _)))⟩
theorem evalO_any (l : List (ByteArray × Int)) (here : Int) (he : ∀ s n, envL l s = some n → -2147483648 ≤ n ∧ n ≤ 2147483647) (hh : -2147483648 ≤ here ∧ here ≤ 2147483647) (X : Option Ex) (hX : ∀ x, X = some x → x.good) (v m : Value) (w : World) (hv : OptAt 80 w X v) (hm : MapAt w m (envL l)) :
    Calls Tryz.prog 17 #[v, .int .i64 here, m] w fun e w' => e = .returned (.tuple #[.int .i64 (evalO (envL l) here X).1, .int .i64 (evalO (envL l) here X).2]) ∧ Below w.heap.size w w' := by
  cases X with
  | none =>
    obtain rfl : v = .pointer none := hv
    exact evalP_nil here m w
  | some x => exact eval_any (envL l) here he hh m x (hX x rfl) v w hv hm
theorem revalO_any (l : List (ByteArray × Int)) (here : Int) (hl : l.length ≤ 1000000) (he : ∀ s n, envL l s = some n → -2147483648 ≤ n ∧ n ≤ 2147483647) (hh : -2147483648 ≤ here ∧ here ≤ 2147483647) (X : Option Ex) (hX : ∀ x, X = some x → x.good) (v m : Value) (w : World) (hv : OptAt 78 w X v) (hm : Row w m l.length (valc l)) :
    Calls Tryz.prog 19 #[v, .int .i64 here, m] w fun e w' => e = .returned (.tuple #[.int .i64 (evalO (envL l) here X).1, .int .i64 (evalO (envL l) here X).2]) ∧ Below w.heap.size w w' := by
  cases X with
  | none =>
    obtain rfl : v = .pointer none := hv
    exact reval_nil here m w
  | some x => exact reval_any l here hl he hh m x (hX x rfl) v w hv hm
theorem smallB_ok {here : Int} {l : List (ByteArray × Int)} (h : smallB here l = true) : (∀ s n, envL l s = some n → -2147483648 ≤ n ∧ n ≤ 2147483647) ∧ (-2147483648 ≤ here ∧ here ≤ 2147483647) ∧ l.length ≤ 50 := by
  unfold smallB at h
  simp only [Bool.and_eq_true, List.all_eq_true, decide_eq_true_eq] at h
  obtain ⟨h1, ⟨h2, h3⟩, h4⟩ := h
  refine ⟨fun s n hn => ?_, ⟨h2, by omega⟩, h4⟩
  obtain ⟨x, hx, rfl⟩ := envL_mem l s n hn
  have := h1 x hx
  omega
set_option maxHeartbeats 4000000 in
set_option maxRecDepth 100000 in
theorem lawEvals_walk (s : ByteArray) (here : Int) (v : Value) (L : List (ByteArray × Int)) (w : World) (hs : s.size ≤ maxLen) (hv : Row w v L.length (valc L) ∧ L.length ≤ maxLen) (hT : Tabs w) :
    Calls Tryz.prog 4 #[.string s, .int .i64 here, v] w fun e w' => e = .returned (.bool true) ∧ Below w.heap.size w w' := by
  have HT := Lib.hid hT; clear hT
  have hkn := known_any s w hs
  unfold KnRes at hkn
  have HV := Lib.hid hv.1
  rcases hk : knownP s with _ | l
  · rw [hk] at hkn
    simp only [Option.isSome_none] at hkn
    have HKN := Lib.hid hkn; clear hkn hk hs hv
    go_enter Tryz.func4, Tryz.ntmps4
    go_wp2_with fail
    (with_reducible refine HKN.out.mono ?_)
    rintro e w1 ⟨v, rfl, _, hb1⟩
    obtain ⟨p1, rfl⟩ := gw_of_below hb1
    clear hb1
    go_wp2_with fail
    (with_reducible refine (alive17 _ (HT.out.below (by (repeat (first | exact Below.refl _ _ | refine Below.drew ?_ | (refine below_gw' ?_ (by first | omega | (simp [go_sem]; done) | (simp [go_sem]; omega)) _) | (refine Below.alloc ?_ (by first | omega | (simp [go_sem]; done) | (simp [go_sem]; omega)) _) | (refine Below.setCell ?_ (by first | omega | (simp [go_sem]; done) | (simp [go_sem]; omega)) _)))))).mono ?_)
    rintro e w1 ⟨rfl, hb1⟩
    obtain ⟨p2, rfl⟩ := gw_of_below hb1
    clear hb1
    go_wp2_with fail
    go_ret
    exact ⟨rfl, by (repeat (first | exact Below.refl _ _ | refine Below.drew ?_ | (refine below_gw' ?_ (by first | omega | (simp [go_sem]; done) | (simp [go_sem]; omega)) _) | (refine Below.alloc ?_ (by first | omega | (simp [go_sem]; done) | (simp [go_sem]; omega)) _) | (refine Below.setCell ?_ (by first | omega | (simp [go_sem]; done) | (simp [go_sem]; omega)) _)))⟩
  · rw [hk] at hkn
    simp only [Option.isSome_some, Option.getD_some] at hkn
    have hsml := fun w hr => small_any here L v w hr hv.2
    rcases hsb : smallB here L with _ | _
    · rw [hsb] at hsml
      have HKN := Lib.hid hkn; clear hkn hk hs hv hsb
      have HSML := Lib.hid hsml; clear hsml
      go_enter Tryz.func4, Tryz.ntmps4
      go_wp2_with fail
      (with_reducible refine HKN.out.mono ?_)
      rintro e w1 ⟨v, rfl, _, hb1⟩
      obtain ⟨p1, rfl⟩ := gw_of_below hb1
      clear hb1
      go_wp2_with fail
      (with_reducible refine (HSML.out _ (HV.out.below (by (repeat (first | exact Below.refl _ _ | refine Below.drew ?_ | (refine below_gw' ?_ (by first | omega | (simp [go_sem]; done) | (simp [go_sem]; omega)) _) | (refine Below.alloc ?_ (by first | omega | (simp [go_sem]; done) | (simp [go_sem]; omega)) _) | (refine Below.setCell ?_ (by first | omega | (simp [go_sem]; done) | (simp [go_sem]; omega)) _)))))).mono ?_)
      rintro e w1 ⟨rfl, hb1⟩
      obtain ⟨p2, rfl⟩ := gw_of_below hb1
      clear hb1
      go_wp2_with fail
      (with_reducible refine (alive17 _ (HT.out.below (by (repeat (first | exact Below.refl _ _ | refine Below.drew ?_ | (refine below_gw' ?_ (by first | omega | (simp [go_sem]; done) | (simp [go_sem]; omega)) _) | (refine Below.alloc ?_ (by first | omega | (simp [go_sem]; done) | (simp [go_sem]; omega)) _) | (refine Below.setCell ?_ (by first | omega | (simp [go_sem]; done) | (simp [go_sem]; omega)) _)))))).mono ?_)
      rintro e w1 ⟨rfl, hb1⟩
      obtain ⟨p3, rfl⟩ := gw_of_below hb1
      clear hb1
      go_wp2_with fail
      go_ret
      exact ⟨rfl, by (repeat (first | exact Below.refl _ _ | refine Below.drew ?_ | (refine below_gw' ?_ (by first | omega | (simp [go_sem]; done) | (simp [go_sem]; omega)) _) | (refine Below.alloc ?_ (by first | omega | (simp [go_sem]; done) | (simp [go_sem]; omega)) _) | (refine Below.setCell ?_ (by first | omega | (simp [go_sem]; done) | (simp [go_sem]; omega)) _)))⟩
    · rw [hsb] at hsml
      obtain ⟨he, hh, h50⟩ := smallB_ok hsb
      obtain ⟨hok, hlen, _⟩ := knownP_ok hk
      have hgood : ∀ x, (parseR l).2 = some x → x.good := fun x hx => (parseR_good hok hx).1
      have hgv := fun v w hr => given_any l v w hr (by omega)
      have hpa := fun v w hr => parse_any l v w hr hok (by omega)
      have hrpa := fun v w hr => rparse_any l v w hr hok (by omega)
      have hva := fun w hr => values_any L v w hr (by omega)
      have hev := fun va m w h1 h2 => evalO_any L here he hh (parseR l).2 hgood va m w h1 h2
      have hrev := fun va w h1 h2 => revalO_any L here (by omega) he hh (parseR l).2 hgood va v w h1 h2
      unfold ParseRes at hpa hrpa
      generalize evalO (envL L) here (parseR l).2 = R at *
      generalize (parseR l).2 = X at *
      generalize (parseR l).1 = C at *
      have HKN := Lib.hid hkn; clear hkn hk hs hok hlen hv hsb he hh h50 hgood
      have HSML := Lib.hid hsml; clear hsml
      have HGV := Lib.hid hgv; clear hgv
      have HPA := Lib.hid hpa; clear hpa
      have HRPA := Lib.hid hrpa; clear hrpa
      have HVA := Lib.hid hva; clear hva
      have HEV := Lib.hid hev; clear hev
      have HREV := Lib.hid hrev; clear hrev
      have hcc : (C != C) = false := by simp
      have hr1 : (R.1 == R.1) = true := by simp
      have hr2 : (R.2 == R.2) = true := by simp
      go_enter Tryz.func4, Tryz.ntmps4
      go_wp2_with fail
      (with_reducible refine HKN.out.mono ?_)
      rintro e w1 ⟨vk, rfl, hrow, hb1⟩
      obtain ⟨p1, rfl⟩ := gw_of_below hb1
      clear hb1
      have HROW := Lib.hid hrow; clear hrow
      go_wp2_with fail
      (with_reducible refine (HSML.out _ (HV.out.below (by (repeat (first | exact Below.refl _ _ | refine Below.drew ?_ | (refine below_gw' ?_ (by first | omega | (simp [go_sem]; done) | (simp [go_sem]; omega)) _) | (refine Below.alloc ?_ (by first | omega | (simp [go_sem]; done) | (simp [go_sem]; omega)) _) | (refine Below.setCell ?_ (by first | omega | (simp [go_sem]; done) | (simp [go_sem]; omega)) _)))))).mono ?_)
      rintro e w1 ⟨rfl, hb1⟩
      obtain ⟨p2, rfl⟩ := gw_of_below hb1
      clear hb1
      go_wp2_with fail
      (with_reducible refine (HGV.out _ _ (HROW.out.below (below_gw _ _))).mono ?_)
      rintro e w2 ⟨v2, rfl, hrow2, hb2⟩
      obtain ⟨p3, rfl⟩ := gw_of_below hb2
      clear hb2
      have HROW2 := Lib.hid hrow2; clear hrow2
      go_wp2_with fail
      (with_reducible refine (HPA.out _ _ HROW2.out).mono ?_)
      rintro e w3 ⟨vt, rfl, ho3, hb3⟩
      obtain ⟨p4, rfl⟩ := gw_of_below hb3
      clear hb3
      obtain ⟨q3, rfl⟩ : ∃ p, vt = .pointer p := by cases X with | none => exact ⟨none, ho3⟩ | some x => obtain ⟨g, h, _⟩ := NodeAt.ptr ho3; exact ⟨_, h⟩
      have HO3 := Lib.hid ho3; clear ho3
      go_wp2_with fail
      (with_reducible refine (HRPA.out _ _ (((HROW.out.below (below_gw _ _)).below (below_gw _ _)).below (below_gw _ _))).mono ?_)
      rintro e w4 ⟨vu, rfl, ho4, hb4⟩
      obtain ⟨p5, rfl⟩ := gw_of_below hb4
      clear hb4
      obtain ⟨q4, rfl⟩ : ∃ p, vu = .pointer p := by cases X with | none => exact ⟨none, ho4⟩ | some x => obtain ⟨g, h, _⟩ := NodeAt.ptr ho4; exact ⟨_, h⟩
      have HO4 := Lib.hid ho4; clear ho4
      go_wp2_with fail
      (with_reducible refine (HVA.out _ (HV.out.below (by (repeat (first | exact Below.refl _ _ | refine Below.drew ?_ | (refine below_gw' ?_ (by first | omega | (simp [go_sem]; done) | (simp [go_sem]; omega)) _) | (refine Below.alloc ?_ (by first | omega | (simp [go_sem]; done) | (simp [go_sem]; omega)) _) | (refine Below.setCell ?_ (by first | omega | (simp [go_sem]; done) | (simp [go_sem]; omega)) _)))))).mono ?_)
      rintro e w5 ⟨mv, rfl, hm5, hb5⟩
      obtain ⟨p6, rfl⟩ := gw_of_below hb5
      clear hb5
      have HM := Lib.hid hm5; clear hm5
      go_wp2_with fail
      (with_reducible refine (HEV.out _ _ _ ((HO3.out.below (below_gw _ _)).below (below_gw _ _)) HM.out).mono ?_)
      rintro e w6 ⟨rfl, hb6⟩
      obtain ⟨p7, rfl⟩ := gw_of_below hb6
      clear hb6
      go_wp2_with fail
      (with_reducible refine (HREV.out _ _ ((HO4.out.below (below_gw _ _)).below (below_gw _ _)) (HV.out.below (by (repeat (first | exact Below.refl _ _ | refine Below.drew ?_ | (refine below_gw' ?_ (by first | omega | (simp [go_sem]; done) | (simp [go_sem]; omega)) _) | (refine Below.alloc ?_ (by first | omega | (simp [go_sem]; done) | (simp [go_sem]; omega)) _) | (refine Below.setCell ?_ (by first | omega | (simp [go_sem]; done) | (simp [go_sem]; omega)) _)))))).mono ?_)
      rintro e w7 ⟨rfl, hb7⟩
      obtain ⟨p8, rfl⟩ := gw_of_below hb7
      clear hb7
      go_wp2_with fail
      (with_reducible refine (alive17 _ (HT.out.below (by (repeat (first | exact Below.refl _ _ | refine Below.drew ?_ | (refine below_gw' ?_ (by first | omega | (simp [go_sem]; done) | (simp [go_sem]; omega)) _) | (refine Below.alloc ?_ (by first | omega | (simp [go_sem]; done) | (simp [go_sem]; omega)) _) | (refine Below.setCell ?_ (by first | omega | (simp [go_sem]; done) | (simp [go_sem]; omega)) _)))))).mono ?_)
      rintro e w8 ⟨rfl, hb8⟩
      obtain ⟨p9, rfl⟩ := gw_of_below hb8
      clear hb8
      go_wp2_with fail
      go_ret
      exact ⟨rfl, by (repeat (first | exact Below.refl _ _ | refine Below.drew ?_ | (refine below_gw' ?_ (by first | omega | (simp [go_sem]; done) | (simp [go_sem]; omega)) _) | (refine Below.alloc ?_ (by first | omega | (simp [go_sem]; done) | (simp [go_sem]; omega)) _) | (refine Below.setCell ?_ (by first | omega | (simp [go_sem]; done) | (simp [go_sem]; omega)) _)))⟩
end Go.Proofs.YtpkbonfbehhbdaaGreatDoor

/- The statement ExprEvals of chapter 17: proved for every input; no condition beyond the statement's own. -/
namespace Go.Proofs.YtpkbonfbehhbdaaGreatDoor.lawExprEvals
open Go.ChangeShapes Go.WideShapes Go.ChangeAt Go.RowKit Go.Joins
open Go.ChangeMaps (open_string shut_string)

theorem own : ownKnob Tryz.prog.godebug = none := by kernel_rfl
theorem laidOut : laidOutB Tryz.prog = true := by kernel_rfl

/-- A table of the row's list reads as it is listed, wherever it stands on the list. -/
theorem tab_of_list {P : Program} {W : World} {name : String} {k : IntKind} {zs : List Int} {g : Nat} {t e : TypeId} {n : Nat}
    (hg : P.globalNamed name = some g) (hty : (P.globals[g]?).map (·.type) = some t) (ht : P.underlying t = some (.array n e)) (he : P.underlying e = some (.int k)) (hce : P.cellsOf e = 1) (hct : P.cellsOf t = n) :
    ∀ (l : List (String × DataW Unit)) (ps : List MemPlace), DataW.LaidVars P W l ps → (name, Lib.tabData k zs) ∈ l → Lib.TabIs P W name k zs
  | [], _, _, hm => by cases hm
  | x :: l, ps, h, hm => by
    obtain ⟨nm, d⟩ := x
    obtain ⟨g', t', cs, fuel, p, q, hg', ht', hvar, hd, hrest, _⟩ := h
    rcases List.mem_cons.1 hm with hm | hm
    · cases hm
      obtain rfl := Option.some.inj (hg.symm.trans hg')
      obtain rfl := Option.some.inj (hty.symm.trans ht')
      unfold Lib.TabIs
      rw [hvar, ← Lib.cells_of_tab ht he hce hct hd]
    · exact tab_of_list hg hty ht he hce hct l q hrest hm

theorem table {W : World} (h : laidMetH Tryz.prog Rows.exprEvalsRow.laid W) : Tabs W := by
  obtain ⟨ps, hv, _⟩ := h
  have ht : Lib.TabIs Tryz.prog W "math/bits.deBruijn64tab" .u8 [0, 1, 56, 2, 57, 49, 28, 3, 61, 58, 42, 50, 38, 29, 17, 4, 62, 47, 59, 36, 45, 43, 51, 22, 53, 39, 33, 30, 24, 18, 12, 5, 63, 55, 48, 27, 60, 41, 37, 16, 46, 35, 44, 21, 52, 32, 23, 11, 54, 26, 40, 15, 34, 20, 31, 10, 25, 14, 19, 9, 13, 8, 7, 6] :=
    tab_of_list (g := 3) (t := 199) (e := 5) (n := 64) (by kernel_rfl) (by kernel_rfl) Tryz.underlying199 Tryz.underlying5 (by kernel_rfl) (by kernel_rfl) _ ps hv (.tail _ (.head _))
  exact ht.cell (by kernel_rfl) 15 (by decide)

set_option maxRecDepth 100000 in
/-- What the walk gives, for every argument and every world that holds the tables. -/
theorem contract (H : Type) (enc : TypeId × Value → H) (W : World) (base : Nat) (args : Array Value) (ds gs : List (DataW H)) (before : List MemPlace)
    (hval : ∀ (j : Nat) t v, Tryz.f4.params[j]? = some t → args[j]? = some v → Value.okWide Tryz.prog W .any base t v)
    (hW : DataW.Whole enc Tryz.prog Tryz.f4.params.toList Rows.exprEvalsSpec.vars false W args.toList ds gs before) (hL : laidMetH Tryz.prog Rows.exprEvalsRow.laid W) :
    Calls Tryz.prog 4 args W fun e W' => ∃ v, e = .returned v ∧ Rows.exprEvalsSpec.post enc Tryz.prog Tryz.f4 false true false false W args v W' := by
  have hW' := hW
  obtain ⟨p, q, hA0, hV, rfl, hfz, hnd⟩ := hW
  have hA : DataW.TrodAll enc Tryz.prog W 0 (fun _ => true) true Tryz.f4.params.toList args.toList ds p := hA0
  rw [Tryz.params4] at hA hval
  obtain ⟨v0, vs0, d0, ds0, p0, q0, hargs, rfl, rfl, h0, r0⟩ := trodAll_cons hA
  obtain ⟨v1, vs1, d1, ds1, p1, q1, rfl, rfl, rfl, h1, r1⟩ := trodAll_cons r0
  obtain ⟨v2, vs2, d2, ds2, p2, q2, rfl, rfl, rfl, h2, r2⟩ := trodAll_cons r1
  obtain ⟨rfl, rfl, rfl⟩ := trodAll_nil r2
  obtain rfl : args = #[v0, v1, v2] := by cases args; simp_all
  obtain ⟨rfl, rfl⟩ := trodVars_none hV
  have k0 := h0
  have lt0 : ∀ x ∈ p0, x.block < W.heap.size := by obtain ⟨m, hm⟩ := k0; exact DataW.trod_lt m _ _ _ hm
  have k1 := h1
  have lt1 : ∀ x ∈ p1, x.block < W.heap.size := by obtain ⟨m, hm⟩ := k1; exact DataW.trod_lt m _ _ _ hm
  have k2 := h2
  have lt2 : ∀ x ∈ p2, x.block < W.heap.size := by obtain ⟨m, hm⟩ := k2; exact DataW.trod_lt m _ _ _ hm
  obtain ⟨s0, rfl, hd0, rfl, w0⟩ := open_string Tryz.underlying9 (hval 0 9 v0 rfl rfl) h0
  obtain ⟨a1, rfl, hd1, rfl, w1⟩ := open_int Tryz.underlying3 (hval 1 3 v1 rfl rfl) h1
  obtain ⟨L2, hr2⟩ := open_vals (hval 2 38 v2 rfl rfl) h2
  refine (lawEvals_walk s0 a1 v2 L2 W w0 hr2 (table hL)).mono fun e W' ⟨he, bel⟩ => ?_
  subst he
  exact ⟨_, rfl, _, _, _, [], _, [], hW', trodAll_mk1 (shut_bool Tryz.underlying4 _), (trodAll_cons_mk (Below.trod laidOut (by kernel_rfl) (of_decide_eq_true (by kernel_rfl)) k0 bel lt0) (trodAll_cons_mk (Below.trod laidOut (by kernel_rfl) (of_decide_eq_true (by kernel_rfl)) k1 bel lt1) (trodAll_cons_mk (Below.trod laidOut (by kernel_rfl) (of_decide_eq_true (by kernel_rfl)) k2 bel lt2) trodAll_mk0))), rfl, bel.frame _, fun h => by cases h⟩

/-- A world for the witness: the settled one, the tables holding what their initialisers lay. -/
noncomputable def laidWorld (os : Os) : World :=
  { World.holding Tryz.prog os ⟨#[], #[], []⟩ with heap := ((((World.holding Tryz.prog os ⟨#[], #[], []⟩).heap.modify 2 fun
      | .cells _ t frozen => .cells #[.int .u8 0, .int .u8 1, .int .u8 28, .int .u8 2, .int .u8 29, .int .u8 14, .int .u8 24, .int .u8 3, .int .u8 30, .int .u8 22, .int .u8 20, .int .u8 15, .int .u8 25, .int .u8 17, .int .u8 4, .int .u8 8, .int .u8 31, .int .u8 27, .int .u8 13, .int .u8 23, .int .u8 21, .int .u8 19, .int .u8 16, .int .u8 7, .int .u8 26, .int .u8 12, .int .u8 18, .int .u8 6, .int .u8 11, .int .u8 5, .int .u8 10, .int .u8 9] t frozen
      | o => o).modify 3 fun
      | .cells _ t frozen => .cells #[.int .u8 0, .int .u8 1, .int .u8 56, .int .u8 2, .int .u8 57, .int .u8 49, .int .u8 28, .int .u8 3, .int .u8 61, .int .u8 58, .int .u8 42, .int .u8 50, .int .u8 38, .int .u8 29, .int .u8 17, .int .u8 4, .int .u8 62, .int .u8 47, .int .u8 59, .int .u8 36, .int .u8 45, .int .u8 43, .int .u8 51, .int .u8 22, .int .u8 53, .int .u8 39, .int .u8 33, .int .u8 30, .int .u8 24, .int .u8 18, .int .u8 12, .int .u8 5, .int .u8 63, .int .u8 55, .int .u8 48, .int .u8 27, .int .u8 60, .int .u8 41, .int .u8 37, .int .u8 16, .int .u8 46, .int .u8 35, .int .u8 44, .int .u8 21, .int .u8 52, .int .u8 32, .int .u8 23, .int .u8 11, .int .u8 54, .int .u8 26, .int .u8 40, .int .u8 15, .int .u8 34, .int .u8 20, .int .u8 31, .int .u8 10, .int .u8 25, .int .u8 14, .int .u8 19, .int .u8 9, .int .u8 13, .int .u8 8, .int .u8 7, .int .u8 6] t frozen
      | o => o).modify 0 fun
      | .cells _ t frozen => .cells #[.int .u64 1, .int .u64 10, .int .u64 100, .int .u64 1000, .int .u64 10000, .int .u64 100000, .int .u64 1000000, .int .u64 10000000, .int .u64 100000000, .int .u64 1000000000, .int .u64 10000000000, .int .u64 100000000000, .int .u64 1000000000000, .int .u64 10000000000000, .int .u64 100000000000000, .int .u64 1000000000000000, .int .u64 10000000000000000, .int .u64 100000000000000000, .int .u64 1000000000000000000, .int .u64 10000000000000000000] t frozen
      | o => o) }
theorem laid_met (os : Os) : laidMet Tryz.prog Rows.exprEvalsRow.laid ((laidWorld os).forCall (fun _ _ => 0) ⟨#[], #[Value.string ⟨#[]⟩, .int .i64 0, .slice none 0 0], []⟩).memory :=
  laidMet_of_run' 8 (by kernel_rfl) (by kernel_rfl)
theorem reads (os : Os) {H : Type} (enc : TypeId × Value → H) : ∃ places, DataW.whole enc Tryz.prog ((laidWorld os).forCall (fun _ _ => 0) ⟨#[], #[Value.string ⟨#[]⟩, .int .i64 0, .slice none 0 0], []⟩).memory Tryz.f4.params.toList Rows.exprEvalsSpec.vars false (#[Value.string ⟨#[]⟩, .int .i64 0, .slice none 0 0] : Array Value).toList 8 = some ([.lit (.string []), .lit (.int .i64 0), .nil], [], places) :=
  ⟨[], by kernel_rfl⟩

set_option maxRecDepth 100000 in
theorem lifted (os : Os) (started : os.Started) (H : Type) (enc : TypeId × Value → H) (F : Stop.Interp) :
    ReturnsInHanded {} Tryz.checked os 4 .any ((OpenSpec.ofChange Rows.exprEvalsSpec).preRow enc Tryz.prog Tryz.f4 Rows.exprEvalsRow.domain false Rows.exprEvalsRow.laid) (((OpenSpec.ofChange Rows.exprEvalsSpec).at F).post enc Tryz.prog Tryz.f4 false true false false) := by
  obtain ⟨places, hx⟩ := reads os enc
  refine returnsInHanded_of_row (C := Tryz.checked) (s := OpenSpec.ofChange Rows.exprEvalsSpec) own started (by kernel_rfl) Tryz.func4
    (witness_row_at (enc := enc) (C := Tryz.checked) false (laidWorld os) #[Value.string ⟨#[]⟩, .int .i64 0, .slice none 0 0] rfl (by kernel_rfl) (by kernel_rfl) (by kernel_rfl)
      (OpenSpec.preRow_of_cond 8 hx (by kernel_rfl) (fun k hk => by cases hk) (by kernel_rfl) (laid_met os))) ?_
  intro W base args ds gs before hval hW _ _ _ hL _ _
  exact contract H enc W base args ds gs before hval hW hL

theorem said : Rows.ExprEvalsSaid :=
  OpenClaim.holds_of_cond 4 Tryz.f4 rfl rfl rfl rfl rfl rfl rfl ⟨rfl, rfl, rfl, rfl, rfl⟩ rfl rfl rfl rfl rfl (by kernel_rfl) Tryz.func4 (by kernel_rfl)
    (of_decide_eq_true (by kernel_rfl)) (by unfold Func.isWrapper; first | (rw [if_pos (by decide +kernel)]; kernel_rfl) | (rw [if_neg (by decide +kernel)]; exact ⟨rfl, rfl⟩))
    (fun os started H enc _ F => by rw [OpenClaim.pre_eq_preRow]; exact lifted os started H enc F)

/-- No parameter wants a stand-in; the program's own looks are off. -/
theorem plain (f : FuncId) (fn : Func) (hf : Tryz.pinned.checked.prog.funcNamed "breadboard/breadboardlaw17.ExprEvals" = some f) (hfn : Tryz.pinned.checked.prog.funcs[f]? = some fn) :
    true = Tryz.pinned.checked.prog.looks [] ∧ ∀ (j : Nat) t, fn.params[j]? = some t → Tryz.pinned.checked.prog.wantsStandIn t = false := by
  obtain rfl : f = 4 := Option.some.inj ((show Tryz.prog.funcNamed "breadboard/breadboardlaw17.ExprEvals" = some 4 by kernel_rfl).symm.trans hf) |>.symm
  obtain rfl : fn = Tryz.f4 := (Option.some.inj (Tryz.func4.symm.trans hfn)).symm
  refine ⟨by kernel_rfl, fun j t ht => ?_⟩
  rw [Tryz.params4] at ht
  have hm : t ∈ [9, 3, 38] := by simpa using Array.mem_of_getElem? ht
  have hall : ([9, 3, 38].all fun u => !Tryz.prog.wantsStandIn u) = true := by kernel_rfl
  exact (show Tryz.prog.wantsStandIn t = false by simpa using List.all_eq_true.1 hall t hm)

/-- The card. -/
theorem proved : Rows.ExprEvalsCardSaid :=
  Claim7.holds_tied_plain_at .later [] _ _ _ _ said (fun _ h => by cases h) (by kernel_rfl) (fun _ h => by cases h) exprEvals_row_tie rfl ⟨rfl, rfl⟩ (by kernel_rfl) rfl plain (by kernel_rfl)
end Go.Proofs.YtpkbonfbehhbdaaGreatDoor.lawExprEvals
