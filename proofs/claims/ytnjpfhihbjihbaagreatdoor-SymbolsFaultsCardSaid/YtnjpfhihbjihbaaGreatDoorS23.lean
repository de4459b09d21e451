/- Joined texts: NumParse. -/
import Derived.Test.YtnjpfhihbjihbaaGreatDoorS22
/- num.Parse. (The rounds written by wip/gen_numparse.py.) -/
namespace Go.Proofs.YtnjpfhihbjihbaaGreatDoor
open Go.RowKit Go.Sort

def fOk : Nat → ByteArray → Bool
  | 0, _ => true
  | 1, s => hasP s ⟨#[48, 88]⟩
  | 2, s => hasP s ⟨#[36]⟩
  | 3, s => hasH s
  | 4, s => hasS s ⟨#[66]⟩
  | _, s => hasP s ⟨#[37]⟩
def fD : Nat → ByteArray → ByteArray
  | 0, s => s
  | 1, s => cutP s ⟨#[48, 88]⟩
  | 2, s => cutP s ⟨#[36]⟩
  | 3, s => cutH s
  | 4, s => cutS s ⟨#[66]⟩
  | _, s => cutP s ⟨#[37]⟩
def fB : Nat → Nat
  | 0 => 10
  | 1 => 16
  | 2 => 16
  | 3 => 16
  | 4 => 2
  | _ => 2
def fA (k : Nat) (s : ByteArray) : Option Nat := if fOk k s = true then valU (fB k) (fD k s).data.toList else none
/-- The ways from the k-th on. -/
def fRest (s : ByteArray) : Nat → Option Nat
  | 0 => none
  | k + 1 => (fA (5 - k) s).or (fRest s k)
theorem fD_size (k : Nat) (s : ByteArray) : (fD k s).size ≤ s.size := by
  have hp : ∀ p, (cutP s p).size ≤ s.size := fun p => by
    unfold cutP
    rw [mk_size]
    have := trimPrefix_len (upper s).data.toList p.data.toList
    rw [show (upper s).data.toList.length = s.size by rw [← upper_size s]; simp] at this
    exact this
  have hq : ∀ p, (cutS s p).size ≤ s.size := fun p => by
    unfold cutS
    rw [mk_size]
    have := trimSuffix_len (upper s).data.toList p.data.toList
    rw [show (upper s).data.toList.length = s.size by rw [← upper_size s]; simp] at this
    exact this
  unfold fD
  split
  · exact Nat.le_refl _
  · exact hp _
  · exact hp _
  · exact hq _
  · exact hq _
  · exact hp _
theorem suffix_last (u : List UInt8) (c : UInt8) : ([c].isSuffixOf u = true ↔ u.getLast? = some c) ∧ u.take (u.length - 1) = u.dropLast := by
  refine ⟨?_, (List.dropLast_eq_take).symm⟩
  rw [List.isSuffixOf_iff_suffix]
  constructor
  · rintro ⟨t, rfl⟩; simp
  · intro h
    rw [List.getLast?_eq_some_iff] at h
    obtain ⟨ys, rfl⟩ := h
    exact ⟨ys, rfl⟩
theorem fRest_eq (s : ByteArray) : fRest s 6 = numP s := by
  have h0 : fA 0 s = valU 10 (upper s).data.toList := by
    show (if true = true then valU 10 s.data.toList else none) = _
    rw [if_pos rfl, upper_list, valU_up]
  have h1 : fA 1 s = if [48, 88].isPrefixOf (upper s).data.toList then valU 16 ((upper s).data.toList.drop 2) else none := by
    show (if hasP s ⟨#[48, 88]⟩ = true then valU 16 (cutP s ⟨#[48, 88]⟩).data.toList else none) = _
    unfold hasP cutP Lib.trimPrefix Lib.hasPrefix
    rw [mk_list]
    split
    · rfl
    · rfl
  have h2 : fA 2 s = if [36].isPrefixOf (upper s).data.toList then valU 16 ((upper s).data.toList.drop 1) else none := by
    show (if hasP s ⟨#[36]⟩ = true then valU 16 (cutP s ⟨#[36]⟩).data.toList else none) = _
    unfold hasP cutP Lib.trimPrefix Lib.hasPrefix
    rw [mk_list]
    split
    · rfl
    · rfl
  have h5 : fA 5 s = if [37].isPrefixOf (upper s).data.toList then valU 2 ((upper s).data.toList.drop 1) else none := by
    show (if hasP s ⟨#[37]⟩ = true then valU 2 (cutP s ⟨#[37]⟩).data.toList else none) = _
    unfold hasP cutP Lib.trimPrefix Lib.hasPrefix
    rw [mk_list]
    split
    · rfl
    · rfl
  have hS : ∀ c : UInt8, hasS s ⟨#[c]⟩ = true ↔ (upper s).data.toList.getLast? = some c := fun c => (suffix_last (upper s).data.toList c).1
  have hC : ∀ c : UInt8, hasS s ⟨#[c]⟩ = true → (cutS s ⟨#[c]⟩).data.toList = (upper s).data.toList.dropLast := fun c h => by
    unfold cutS Lib.trimSuffix
    rw [mk_list, if_pos (by exact h)]
    exact (suffix_last (upper s).data.toList c).2
  have h4 : fA 4 s = if (upper s).data.toList.getLast? = some 66 then valU 2 (upper s).data.toList.dropLast else none := by
    show (if hasS s ⟨#[66]⟩ = true then valU 2 (cutS s ⟨#[66]⟩).data.toList else none) = _
    by_cases h : hasS s ⟨#[66]⟩ = true
    · rw [if_pos h, if_pos ((hS 66).1 h), hC 66 h]
    · rw [if_neg h, if_neg (fun h' => h ((hS 66).2 h'))]
  have h3 : fA 3 s = if (upper s).data.toList.getLast? = some 72 ∧ ((upper s).data.toList.dropLast.headD 99).toNat ≤ 57 then valU 16 (upper s).data.toList.dropLast else none := by
    show (if hasH s = true then valU 16 (cutH s).data.toList else none) = _
    unfold hasH cutH
    by_cases h : hasS s ⟨#[72]⟩ = true
    · have hc := hC 72 h
      have hz : (cutS s ⟨#[72]⟩).size = (upper s).data.toList.dropLast.length := by rw [← hc]; simp
      rw [h, hc, bat_list, hc, hz, (hS 72).1 h]
      cases hd : (upper s).data.toList.dropLast with
      | nil => simp
      | cons a l => simp
    · rw [if_neg (fun h' => h (by rw [Bool.and_eq_true] at h'; exact h'.1)), if_neg (fun h' => h ((hS 72).2 h'.1))]
  show (fA 0 s).or ((fA 1 s).or ((fA 2 s).or ((fA 3 s).or ((fA 4 s).or ((fA 5 s).or none))))) = _
  rw [Option.or_none, h0, h1, h2, h3, h4, h5]
  rfl
/-! ### The walks -/
/-- The ways as they lie in memory. -/
structure FormsAt (W : World) (B g1 g2 g3 g4 : Nat) : Prop where
  f0 : W.cell? ⟨B, 0, none⟩ = some (.int .i64 10)
  f1 : W.cell? ⟨B, 1, none⟩ = some (.func (.func 166) #[] #[])
  f2 : W.cell? ⟨B, 2, none⟩ = some (.int .i64 16)
  f3 : W.cell? ⟨B, 3, none⟩ = some (.func (.func 180) #[] #[.pointer (some ⟨g1, 0, none⟩)])
  f4 : W.cell? ⟨B, 4, none⟩ = some (.int .i64 16)
  f5 : W.cell? ⟨B, 5, none⟩ = some (.func (.func 180) #[] #[.pointer (some ⟨g2, 0, none⟩)])
  f6 : W.cell? ⟨B, 6, none⟩ = some (.int .i64 16)
  f7 : W.cell? ⟨B, 7, none⟩ = some (.func (.func 168) #[] #[])
  f8 : W.cell? ⟨B, 8, none⟩ = some (.int .i64 2)
  f9 : W.cell? ⟨B, 9, none⟩ = some (.func (.func 182) #[] #[.pointer (some ⟨g3, 0, none⟩)])
  f10 : W.cell? ⟨B, 10, none⟩ = some (.int .i64 2)
  f11 : W.cell? ⟨B, 11, none⟩ = some (.func (.func 180) #[] #[.pointer (some ⟨g4, 0, none⟩)])
  f12 : W.cell? ⟨g1, 0, none⟩ = some (.string ⟨#[48, 88]⟩)
  f13 : W.cell? ⟨g2, 0, none⟩ = some (.string ⟨#[36]⟩)
  f14 : W.cell? ⟨g3, 0, none⟩ = some (.string ⟨#[66]⟩)
  f15 : W.cell? ⟨g4, 0, none⟩ = some (.string ⟨#[37]⟩)
  f16 : B < W.heap.size
  f17 : g1 < W.heap.size
  f18 : g2 < W.heap.size
  f19 : g3 < W.heap.size
  f20 : g4 < W.heap.size

set_option maxHeartbeats 1000000 in
set_option maxRecDepth 100000 in
theorem forms_any (w : World) :
    Calls Tryz.prog 159 #[] w fun e w' => ∃ B g1 g2 g3 g4, e = .returned (.slice (some ⟨B, 0, none⟩) 6 6) ∧ FormsAt w' B g1 g2 g3 g4 ∧ Below w.heap.size w w' := by
  have hmf : ∀ (fn : Fn) (first cap : Array Value) (w : World), (Instr.makeFunc fn first cap).run Tryz.prog w = .ok (.func fn first cap) w := fun _ _ _ _ => rfl
  go_enter Tryz.func159, Tryz.ntmps159
  go_wp2
  go_ret
  refine ⟨_, w.heap.size, w.heap.size + 1, w.heap.size + 1 + 1, w.heap.size + 1 + 1 + 1, rfl, ?_, by (repeat (first | exact Below.refl _ _ | refine Below.drew ?_ | (refine below_gw' ?_ (by first | omega | (simp [go_sem]; done) | (simp [go_sem]; omega)) _) | (refine Below.alloc ?_ (by first | omega | (simp [go_sem]; done) | (simp [go_sem]; omega)) _) | (refine Below.setCell ?_ (by first | omega | (simp [go_sem]; done) | (simp [go_sem]; omega)) _)))⟩
  constructor <;> simp [go_sem]

theorem calls_dR (o : Option Nat) : (∃ n, o = some n ∧ dR o = ((n : Int), true)) ∨ (o = none ∧ dR o = (0, false)) := by
  cases o with
  | none => exact .inr ⟨rfl, rfl⟩
  | some n => exact .inl ⟨n, rfl, rfl⟩

theorem digits_2 (s : ByteArray) (w : World) (hs : s.size ≤ 1000000) :
    Calls Tryz.prog 160 #[.string s, .int .i64 2] w fun e w' => e = .returned (.tuple #[.int .i64 (dR (valU 2 s.data.toList)).1, .bool (dR (valU 2 s.data.toList)).2]) ∧ w = w' := digits_any s 2 w hs (by omega) (by omega)
theorem digits_10 (s : ByteArray) (w : World) (hs : s.size ≤ 1000000) :
    Calls Tryz.prog 160 #[.string s, .int .i64 10] w fun e w' => e = .returned (.tuple #[.int .i64 (dR (valU 10 s.data.toList)).1, .bool (dR (valU 10 s.data.toList)).2]) ∧ w = w' := digits_any s 10 w hs (by omega) (by omega)
theorem digits_16 (s : ByteArray) (w : World) (hs : s.size ≤ 1000000) :
    Calls Tryz.prog 160 #[.string s, .int .i64 16] w fun e w' => e = .returned (.tuple #[.int .i64 (dR (valU 16 s.data.toList)).1, .bool (dR (valU 16 s.data.toList)).2]) ∧ w = w' := digits_any s 16 w hs (by omega) (by omega)

set_option maxHeartbeats 4000000 in
set_option maxRecDepth 100000 in
theorem numParse_any (s : ByteArray) (w : World) (hs : s.size ≤ 1000000) :
    Calls Tryz.prog 147 #[.string s] w fun e w' => e = .returned (.tuple #[.int .i64 (numR s).1, .bool (numR s).2]) ∧ Below w.heap.size w w' := by
  obtain ⟨R, hR⟩ : ∃ R, dR (fRest s 6) = R := ⟨_, rfl⟩
  rw [numR_eq, ← fRest_eq, hR]
  have HR := Lib.hid hR; clear hR
  go_enter Tryz.func147, Tryz.ntmps147
  go_wp2_with fail
  refine (forms_any _).mono ?_
  rintro e W ⟨B, g1, g2, g3, g4, rfl, hF, hb0⟩
  have HF := Lib.hid hF; clear hF
  have HB0 := Lib.hid hb0; clear hb0
  go_wp2_with fail
  go_loopw [6, 7, 8, 9, 12] (fun _ _ _ _ i wr => ∃ k : Nat, k ≤ 6 ∧ i = .int .i64 k ∧ Hid (dR (fRest s (6 - k)) = R) ∧ Below W.heap.size W wr) (fun _ _ _ _ i _ => 6 - (intOf i).toNat)
  case atStart => exact ⟨0, by omega, rfl, HR, Below.refl _ _⟩
  case round =>
    obtain ⟨k, hk, rfl, HK, hbel⟩ := hrel
    obtain ⟨p, rfl⟩ := gw_of_below hbel
    clear hbel HR
    have hcase : k = 0 ∨ k = 1 ∨ k = 2 ∨ k = 3 ∨ k = 4 ∨ k = 5 ∨ k = 6 := by omega
    rcases hcase with rfl | rfl | rfl | rfl | rfl | rfl | rfl
    · have c0 := HF.out.f0
      have c1 := HF.out.f1
      have hB := HF.out.f16
      have hcut : ∀ W' : World, Calls Tryz.prog 166 #[.string s] W' fun e w' => e = .returned (.tuple #[.string (fD 0 s), .bool (fOk 0 s)]) ∧ Below W'.heap.size W' w' := fun W' => (cut_same s W').mono fun e w' h => ⟨h.1, by rw [← h.2]; exact Below.refl _ _⟩
      have hA : fA 0 s = if fOk 0 s = true then valU 10 (fD 0 s).data.toList else none := rfl
      have hDs : (fD 0 s).size ≤ 1000000 := Nat.le_trans (fD_size 0 s) hs
      obtain ⟨D, hD⟩ : ∃ D, fD 0 s = D := ⟨_, rfl⟩
      obtain ⟨ok, hok⟩ : ∃ ok, fOk 0 s = ok := ⟨_, rfl⟩
      simp only [hD, hok] at hcut hA hDs
      have hdig := fun w => digits_10 D w hDs
      obtain ⟨V, hV⟩ : ∃ V, valU 10 D.data.toList = V := ⟨_, rfl⟩
      simp only [hV] at hdig
      rw [hV] at hA
      have hst : fRest s (6 - 0) = (fA 0 s).or (fRest s (6 - 1)) := rfl
      rw [hA] at hst
      clear hA hV hok hDs hD
      have HST := Lib.hid hst; clear hst
      have HCUT := Lib.hid hcut; clear hcut
      have HDIG := Lib.hid hdig; clear hdig
      rcases ok with _ | _
      · go_wp2_with fail
        refine (HCUT.out _).mono ?_
        rintro e w1 ⟨rfl, hb⟩
        obtain ⟨p1, rfl⟩ := gw_of_below hb
        clear hb
        go_wp2_with fail
        go_roundw
        case rel => exact ⟨1, by omega, by go_num, Lib.hid (by rw [← HK.out, HST.out]; rfl), by (repeat (first | exact Below.refl _ _ | refine Below.drew ?_ | (refine below_gw' ?_ (by first | omega | (simp [go_sem]; done) | (simp [go_sem]; omega)) _) | (refine Below.alloc ?_ (by first | omega | (simp [go_sem]; done) | (simp [go_sem]; omega)) _) | (refine Below.setCell ?_ (by first | omega | (simp [go_sem]; done) | (simp [go_sem]; omega)) _)))⟩
        case measure => simp [intOf]
      · rcases calls_dR V with ⟨n, rfl, hn⟩ | ⟨rfl, hn⟩
        · simp only [hn] at HDIG
          clear hn
          go_wp2_with fail
          refine (HCUT.out _).mono ?_
          rintro e w1 ⟨rfl, hb⟩
          obtain ⟨p1, rfl⟩ := gw_of_below hb
          clear hb
          go_wp2_with fail
          refine (HDIG.out _).mono ?_
          rintro e w1 ⟨rfl, rfl⟩
          go_wp2_with fail
          go_ret2
          exact ⟨by rw [← HK.out, HST.out]; rfl, HB0.out.trans (Below.mono (show Below W.heap.size W _ by (repeat (first | exact Below.refl _ _ | refine Below.drew ?_ | (refine below_gw' ?_ (by first | omega | (simp [go_sem]; done) | (simp [go_sem]; omega)) _) | (refine Below.alloc ?_ (by first | omega | (simp [go_sem]; done) | (simp [go_sem]; omega)) _) | (refine Below.setCell ?_ (by first | omega | (simp [go_sem]; done) | (simp [go_sem]; omega)) _)))) HB0.out.size)⟩
        · simp only [hn] at HDIG
          clear hn
          go_wp2_with fail
          refine (HCUT.out _).mono ?_
          rintro e w1 ⟨rfl, hb⟩
          obtain ⟨p1, rfl⟩ := gw_of_below hb
          clear hb
          go_wp2_with fail
          refine (HDIG.out _).mono ?_
          rintro e w1 ⟨rfl, rfl⟩
          go_wp2_with fail
          go_roundw
          case rel => exact ⟨1, by omega, by go_num, Lib.hid (by rw [← HK.out, HST.out]; rfl), by (repeat (first | exact Below.refl _ _ | refine Below.drew ?_ | (refine below_gw' ?_ (by first | omega | (simp [go_sem]; done) | (simp [go_sem]; omega)) _) | (refine Below.alloc ?_ (by first | omega | (simp [go_sem]; done) | (simp [go_sem]; omega)) _) | (refine Below.setCell ?_ (by first | omega | (simp [go_sem]; done) | (simp [go_sem]; omega)) _)))⟩
          case measure => simp [intOf]
    · have c0 := HF.out.f2
      have c1 := HF.out.f3
      have hB := HF.out.f16
      have cg := HF.out.f12
      have hg := HF.out.f17
      have hcut : ∀ W' : World, g1 < W'.heap.size → W'.cell? ⟨g1, 0, none⟩ = some (.string ⟨#[48, 88]⟩) → Calls Tryz.prog 180 #[.string s, .pointer (some ⟨g1, 0, none⟩)] W' fun e w' => e = .returned (.tuple #[.string (fD 1 s), .bool (fOk 1 s)]) ∧ Below W'.heap.size W' w' := fun W' h1 h2 => cut_prefix s ⟨#[48, 88]⟩ g1 W' hs h1 h2
      have hA : fA 1 s = if fOk 1 s = true then valU 16 (fD 1 s).data.toList else none := rfl
      have hDs : (fD 1 s).size ≤ 1000000 := Nat.le_trans (fD_size 1 s) hs
      obtain ⟨D, hD⟩ : ∃ D, fD 1 s = D := ⟨_, rfl⟩
      obtain ⟨ok, hok⟩ : ∃ ok, fOk 1 s = ok := ⟨_, rfl⟩
      simp only [hD, hok] at hcut hA hDs
      have hdig := fun w => digits_16 D w hDs
      obtain ⟨V, hV⟩ : ∃ V, valU 16 D.data.toList = V := ⟨_, rfl⟩
      simp only [hV] at hdig
      rw [hV] at hA
      have hst : fRest s (6 - 1) = (fA 1 s).or (fRest s (6 - 2)) := rfl
      rw [hA] at hst
      clear hA hV hok hDs hD
      have HST := Lib.hid hst; clear hst
      have HCUT := Lib.hid hcut; clear hcut
      have HDIG := Lib.hid hdig; clear hdig
      rcases ok with _ | _
      · go_wp2_with fail
        refine (HCUT.out _ ?hA1 ?hB1).mono ?_
        case hA1 => (first | omega | (simp [go_sem]; done) | (simp [go_sem]; omega))
        case hB1 => exact ((show Below W.heap.size W _ by (repeat (first | exact Below.refl _ _ | refine Below.drew ?_ | (refine below_gw' ?_ (by first | omega | (simp [go_sem]; done) | (simp [go_sem]; omega)) _) | (refine Below.alloc ?_ (by first | omega | (simp [go_sem]; done) | (simp [go_sem]; omega)) _) | (refine Below.setCell ?_ (by first | omega | (simp [go_sem]; done) | (simp [go_sem]; omega)) _)))).cell hg).trans cg
        rintro e w1 ⟨rfl, hb⟩
        obtain ⟨p1, rfl⟩ := gw_of_below hb
        clear hb
        go_wp2_with fail
        go_roundw
        case rel => exact ⟨2, by omega, by go_num, Lib.hid (by rw [← HK.out, HST.out]; rfl), by (repeat (first | exact Below.refl _ _ | refine Below.drew ?_ | (refine below_gw' ?_ (by first | omega | (simp [go_sem]; done) | (simp [go_sem]; omega)) _) | (refine Below.alloc ?_ (by first | omega | (simp [go_sem]; done) | (simp [go_sem]; omega)) _) | (refine Below.setCell ?_ (by first | omega | (simp [go_sem]; done) | (simp [go_sem]; omega)) _)))⟩
        case measure => simp [intOf]
      · rcases calls_dR V with ⟨n, rfl, hn⟩ | ⟨rfl, hn⟩
        · simp only [hn] at HDIG
          clear hn
          go_wp2_with fail
          refine (HCUT.out _ ?hA2 ?hB2).mono ?_
          case hA2 => (first | omega | (simp [go_sem]; done) | (simp [go_sem]; omega))
          case hB2 => exact ((show Below W.heap.size W _ by (repeat (first | exact Below.refl _ _ | refine Below.drew ?_ | (refine below_gw' ?_ (by first | omega | (simp [go_sem]; done) | (simp [go_sem]; omega)) _) | (refine Below.alloc ?_ (by first | omega | (simp [go_sem]; done) | (simp [go_sem]; omega)) _) | (refine Below.setCell ?_ (by first | omega | (simp [go_sem]; done) | (simp [go_sem]; omega)) _)))).cell hg).trans cg
          rintro e w1 ⟨rfl, hb⟩
          obtain ⟨p1, rfl⟩ := gw_of_below hb
          clear hb
          go_wp2_with fail
          refine (HDIG.out _).mono ?_
          rintro e w1 ⟨rfl, rfl⟩
          go_wp2_with fail
          go_ret2
          exact ⟨by rw [← HK.out, HST.out]; rfl, HB0.out.trans (Below.mono (show Below W.heap.size W _ by (repeat (first | exact Below.refl _ _ | refine Below.drew ?_ | (refine below_gw' ?_ (by first | omega | (simp [go_sem]; done) | (simp [go_sem]; omega)) _) | (refine Below.alloc ?_ (by first | omega | (simp [go_sem]; done) | (simp [go_sem]; omega)) _) | (refine Below.setCell ?_ (by first | omega | (simp [go_sem]; done) | (simp [go_sem]; omega)) _)))) HB0.out.size)⟩
        · simp only [hn] at HDIG
          clear hn
          go_wp2_with fail
          refine (HCUT.out _ ?hA3 ?hB3).mono ?_
          case hA3 => (first | omega | (simp [go_sem]; done) | (simp [go_sem]; omega))
          case hB3 => exact ((show Below W.heap.size W _ by (repeat (first | exact Below.refl _ _ | refine Below.drew ?_ | (refine below_gw' ?_ (by first | omega | (simp [go_sem]; done) | (simp [go_sem]; omega)) _) | (refine Below.alloc ?_ (by first | omega | (simp [go_sem]; done) | (simp [go_sem]; omega)) _) | (refine Below.setCell ?_ (by first | omega | (simp [go_sem]; done) | (simp [go_sem]; omega)) _)))).cell hg).trans cg
          rintro e w1 ⟨rfl, hb⟩
          obtain ⟨p1, rfl⟩ := gw_of_below hb
          clear hb
          go_wp2_with fail
          refine (HDIG.out _).mono ?_
          rintro e w1 ⟨rfl, rfl⟩
          go_wp2_with fail
          go_roundw
          case rel => exact ⟨2, by omega, by go_num, Lib.hid (by rw [← HK.out, HST.out]; rfl), by (repeat (first | exact Below.refl _ _ | refine Below.drew ?_ | (refine below_gw' ?_ (by first | omega | (simp [go_sem]; done) | (simp [go_sem]; omega)) _) | (refine Below.alloc ?_ (by first | omega | (simp [go_sem]; done) | (simp [go_sem]; omega)) _) | (refine Below.setCell ?_ (by first | omega | (simp [go_sem]; done) | (simp [go_sem]; omega)) _)))⟩
          case measure => simp [intOf]
    · have c0 := HF.out.f4
      have c1 := HF.out.f5
      have hB := HF.out.f16
      have cg := HF.out.f13
      have hg := HF.out.f18
      have hcut : ∀ W' : World, g2 < W'.heap.size → W'.cell? ⟨g2, 0, none⟩ = some (.string ⟨#[36]⟩) → Calls Tryz.prog 180 #[.string s, .pointer (some ⟨g2, 0, none⟩)] W' fun e w' => e = .returned (.tuple #[.string (fD 2 s), .bool (fOk 2 s)]) ∧ Below W'.heap.size W' w' := fun W' h1 h2 => cut_prefix s ⟨#[36]⟩ g2 W' hs h1 h2
      have hA : fA 2 s = if fOk 2 s = true then valU 16 (fD 2 s).data.toList else none := rfl
      have hDs : (fD 2 s).size ≤ 1000000 := Nat.le_trans (fD_size 2 s) hs
      obtain ⟨D, hD⟩ : ∃ D, fD 2 s = D := ⟨_, rfl⟩
      obtain ⟨ok, hok⟩ : ∃ ok, fOk 2 s = ok := ⟨_, rfl⟩
      simp only [hD, hok] at hcut hA hDs
      have hdig := fun w => digits_16 D w hDs
      obtain ⟨V, hV⟩ : ∃ V, valU 16 D.data.toList = V := ⟨_, rfl⟩
      simp only [hV] at hdig
      rw [hV] at hA
      have hst : fRest s (6 - 2) = (fA 2 s).or (fRest s (6 - 3)) := rfl
      rw [hA] at hst
      clear hA hV hok hDs hD
      have HST := Lib.hid hst; clear hst
      have HCUT := Lib.hid hcut; clear hcut
      have HDIG := Lib.hid hdig; clear hdig
      rcases ok with _ | _
      · go_wp2_with fail
        refine (HCUT.out _ ?hA4 ?hB4).mono ?_
        case hA4 => (first | omega | (simp [go_sem]; done) | (simp [go_sem]; omega))
        case hB4 => exact ((show Below W.heap.size W _ by (repeat (first | exact Below.refl _ _ | refine Below.drew ?_ | (refine below_gw' ?_ (by first | omega | (simp [go_sem]; done) | (simp [go_sem]; omega)) _) | (refine Below.alloc ?_ (by first | omega | (simp [go_sem]; done) | (simp [go_sem]; omega)) _) | (refine Below.setCell ?_ (by first | omega | (simp [go_sem]; done) | (simp [go_sem]; omega)) _)))).cell hg).trans cg
        rintro e w1 ⟨rfl, hb⟩
        obtain ⟨p1, rfl⟩ := gw_of_below hb
        clear hb
        go_wp2_with fail
        go_roundw
        case rel => exact ⟨3, by omega, by go_num, Lib.hid (by rw [← HK.out, HST.out]; rfl), by (repeat (first | exact Below.refl _ _ | refine Below.drew ?_ | (refine below_gw' ?_ (by first | omega | (simp [go_sem]; done) | (simp [go_sem]; omega)) _) | (refine Below.alloc ?_ (by first | omega | (simp [go_sem]; done) | (simp [go_sem]; omega)) _) | (refine Below.setCell ?_ (by first | omega | (simp [go_sem]; done) | (simp [go_sem]; omega)) _)))⟩
        case measure => simp [intOf]
      · rcases calls_dR V with ⟨n, rfl, hn⟩ | ⟨rfl, hn⟩
        · simp only [hn] at HDIG
          clear hn
          go_wp2_with fail
          refine (HCUT.out _ ?hA5 ?hB5).mono ?_
          case hA5 => (first | omega | (simp [go_sem]; done) | (simp [go_sem]; omega))
          case hB5 => exact ((show Below W.heap.size W _ by (repeat (first | exact Below.refl _ _ | refine Below.drew ?_ | (refine below_gw' ?_ (by first | omega | (simp [go_sem]; done) | (simp [go_sem]; omega)) _) | (refine Below.alloc ?_ (by first | omega | (simp [go_sem]; done) | (simp [go_sem]; omega)) _) | (refine Below.setCell ?_ (by first | omega | (simp [go_sem]; done) | (simp [go_sem]; omega)) _)))).cell hg).trans cg
          rintro e w1 ⟨rfl, hb⟩
          obtain ⟨p1, rfl⟩ := gw_of_below hb
          clear hb
          go_wp2_with fail
          refine (HDIG.out _).mono ?_
          rintro e w1 ⟨rfl, rfl⟩
          go_wp2_with fail
          go_ret2
          exact ⟨by rw [← HK.out, HST.out]; rfl, HB0.out.trans (Below.mono (show Below W.heap.size W _ by (repeat (first | exact Below.refl _ _ | refine Below.drew ?_ | (refine below_gw' ?_ (by first | omega | (simp [go_sem]; done) | (simp [go_sem]; omega)) _) | (refine Below.alloc ?_ (by first | omega | (simp [go_sem]; done) | (simp [go_sem]; omega)) _) | (refine Below.setCell ?_ (by first | omega | (simp [go_sem]; done) | (simp [go_sem]; omega)) _)))) HB0.out.size)⟩
        · simp only [hn] at HDIG
          clear hn
          go_wp2_with fail
          refine (HCUT.out _ ?hA6 ?hB6).mono ?_
          case hA6 => (first | omega | (simp [go_sem]; done) | (simp [go_sem]; omega))
          case hB6 => exact ((show Below W.heap.size W _ by (repeat (first | exact Below.refl _ _ | refine Below.drew ?_ | (refine below_gw' ?_ (by first | omega | (simp [go_sem]; done) | (simp [go_sem]; omega)) _) | (refine Below.alloc ?_ (by first | omega | (simp [go_sem]; done) | (simp [go_sem]; omega)) _) | (refine Below.setCell ?_ (by first | omega | (simp [go_sem]; done) | (simp [go_sem]; omega)) _)))).cell hg).trans cg
          rintro e w1 ⟨rfl, hb⟩
          obtain ⟨p1, rfl⟩ := gw_of_below hb
          clear hb
          go_wp2_with fail
          refine (HDIG.out _).mono ?_
          rintro e w1 ⟨rfl, rfl⟩
          go_wp2_with fail
          go_roundw
          case rel => exact ⟨3, by omega, by go_num, Lib.hid (by rw [← HK.out, HST.out]; rfl), by (repeat (first | exact Below.refl _ _ | refine Below.drew ?_ | (refine below_gw' ?_ (by first | omega | (simp [go_sem]; done) | (simp [go_sem]; omega)) _) | (refine Below.alloc ?_ (by first | omega | (simp [go_sem]; done) | (simp [go_sem]; omega)) _) | (refine Below.setCell ?_ (by first | omega | (simp [go_sem]; done) | (simp [go_sem]; omega)) _)))⟩
          case measure => simp [intOf]
    · have c0 := HF.out.f6
      have c1 := HF.out.f7
      have hB := HF.out.f16
      have hcut : ∀ W' : World, Calls Tryz.prog 168 #[.string s] W' fun e w' => e = .returned (.tuple #[.string (fD 3 s), .bool (fOk 3 s)]) ∧ Below W'.heap.size W' w' := fun W' => cut_hex s W' hs
      have hA : fA 3 s = if fOk 3 s = true then valU 16 (fD 3 s).data.toList else none := rfl
      have hDs : (fD 3 s).size ≤ 1000000 := Nat.le_trans (fD_size 3 s) hs
      obtain ⟨D, hD⟩ : ∃ D, fD 3 s = D := ⟨_, rfl⟩
      obtain ⟨ok, hok⟩ : ∃ ok, fOk 3 s = ok := ⟨_, rfl⟩
      simp only [hD, hok] at hcut hA hDs
      have hdig := fun w => digits_16 D w hDs
      obtain ⟨V, hV⟩ : ∃ V, valU 16 D.data.toList = V := ⟨_, rfl⟩
      simp only [hV] at hdig
      rw [hV] at hA
      have hst : fRest s (6 - 3) = (fA 3 s).or (fRest s (6 - 4)) := rfl
      rw [hA] at hst
      clear hA hV hok hDs hD
      have HST := Lib.hid hst; clear hst
      have HCUT := Lib.hid hcut; clear hcut
      have HDIG := Lib.hid hdig; clear hdig
      rcases ok with _ | _
      · go_wp2_with fail
        refine (HCUT.out _).mono ?_
        rintro e w1 ⟨rfl, hb⟩
        obtain ⟨p1, rfl⟩ := gw_of_below hb
        clear hb
        go_wp2_with fail
        go_roundw
        case rel => exact ⟨4, by omega, by go_num, Lib.hid (by rw [← HK.out, HST.out]; rfl), by (repeat (first | exact Below.refl _ _ | refine Below.drew ?_ | (refine below_gw' ?_ (by first | omega | (simp [go_sem]; done) | (simp [go_sem]; omega)) _) | (refine Below.alloc ?_ (by first | omega | (simp [go_sem]; done) | (simp [go_sem]; omega)) _) | (refine Below.setCell ?_ (by first | omega | (simp [go_sem]; done) | (simp [go_sem]; omega)) _)))⟩
        case measure => simp [intOf]
      · rcases calls_dR V with ⟨n, rfl, hn⟩ | ⟨rfl, hn⟩
        · simp only [hn] at HDIG
          clear hn
          go_wp2_with fail
          refine (HCUT.out _).mono ?_
          rintro e w1 ⟨rfl, hb⟩
          obtain ⟨p1, rfl⟩ := gw_of_below hb
          clear hb
          go_wp2_with fail
          refine (HDIG.out _).mono ?_
          rintro e w1 ⟨rfl, rfl⟩
          go_wp2_with fail
          go_ret2
          exact ⟨by rw [← HK.out, HST.out]; rfl, HB0.out.trans (Below.mono (show Below W.heap.size W _ by (repeat (first | exact Below.refl _ _ | refine Below.drew ?_ | (refine below_gw' ?_ (by first | omega | (simp [go_sem]; done) | (simp [go_sem]; omega)) _) | (refine Below.alloc ?_ (by first | omega | (simp [go_sem]; done) | (simp [go_sem]; omega)) _) | (refine Below.setCell ?_ (by first | omega | (simp [go_sem]; done) | (simp [go_sem]; omega)) _)))) HB0.out.size)⟩
        · simp only [hn] at HDIG
          clear hn
          go_wp2_with fail
          refine (HCUT.out _).mono ?_
          rintro e w1 ⟨rfl, hb⟩
          obtain ⟨p1, rfl⟩ := gw_of_below hb
          clear hb
          go_wp2_with fail
          refine (HDIG.out _).mono ?_
          rintro e w1 ⟨rfl, rfl⟩
          go_wp2_with fail
          go_roundw
          case rel => exact ⟨4, by omega, by go_num, Lib.hid (by rw [← HK.out, HST.out]; rfl), by (repeat (first | exact Below.refl _ _ | refine Below.drew ?_ | (refine below_gw' ?_ (by first | omega | (simp [go_sem]; done) | (simp [go_sem]; omega)) _) | (refine Below.alloc ?_ (by first | omega | (simp [go_sem]; done) | (simp [go_sem]; omega)) _) | (refine Below.setCell ?_ (by first | omega | (simp [go_sem]; done) | (simp [go_sem]; omega)) _)))⟩
          case measure => simp [intOf]
    · have c0 := HF.out.f8
      have c1 := HF.out.f9
      have hB := HF.out.f16
      have cg := HF.out.f14
      have hg := HF.out.f19
      have hcut : ∀ W' : World, g3 < W'.heap.size → W'.cell? ⟨g3, 0, none⟩ = some (.string ⟨#[66]⟩) → Calls Tryz.prog 182 #[.string s, .pointer (some ⟨g3, 0, none⟩)] W' fun e w' => e = .returned (.tuple #[.string (fD 4 s), .bool (fOk 4 s)]) ∧ Below W'.heap.size W' w' := fun W' h1 h2 => cut_suffix s ⟨#[66]⟩ g3 W' hs h1 h2
      have hA : fA 4 s = if fOk 4 s = true then valU 2 (fD 4 s).data.toList else none := rfl
      have hDs : (fD 4 s).size ≤ 1000000 := Nat.le_trans (fD_size 4 s) hs
      obtain ⟨D, hD⟩ : ∃ D, fD 4 s = D := ⟨_, rfl⟩
      obtain ⟨ok, hok⟩ : ∃ ok, fOk 4 s = ok := ⟨_, rfl⟩
      simp only [hD, hok] at hcut hA hDs
      have hdig := fun w => digits_2 D w hDs
      obtain ⟨V, hV⟩ : ∃ V, valU 2 D.data.toList = V := ⟨_, rfl⟩
      simp only [hV] at hdig
      rw [hV] at hA
      have hst : fRest s (6 - 4) = (fA 4 s).or (fRest s (6 - 5)) := rfl
      rw [hA] at hst
      clear hA hV hok hDs hD
      have HST := Lib.hid hst; clear hst
      have HCUT := Lib.hid hcut; clear hcut
      have HDIG := Lib.hid hdig; clear hdig
      rcases ok with _ | _
      · go_wp2_with fail
        refine (HCUT.out _ ?hA7 ?hB7).mono ?_
        case hA7 => (first | omega | (simp [go_sem]; done) | (simp [go_sem]; omega))
        case hB7 => exact ((show Below W.heap.size W _ by (repeat (first | exact Below.refl _ _ | refine Below.drew ?_ | (refine below_gw' ?_ (by first | omega | (simp [go_sem]; done) | (simp [go_sem]; omega)) _) | (refine Below.alloc ?_ (by first | omega | (simp [go_sem]; done) | (simp [go_sem]; omega)) _) | (refine Below.setCell ?_ (by first | omega | (simp [go_sem]; done) | (simp [go_sem]; omega)) _)))).cell hg).trans cg
        rintro e w1 ⟨rfl, hb⟩
        obtain ⟨p1, rfl⟩ := gw_of_below hb
        clear hb
        go_wp2_with fail
        go_roundw
        case rel => exact ⟨5, by omega, by go_num, Lib.hid (by rw [← HK.out, HST.out]; rfl), by (repeat (first | exact Below.refl _ _ | refine Below.drew ?_ | (refine below_gw' ?_ (by first | omega | (simp [go_sem]; done) | (simp [go_sem]; omega)) _) | (refine Below.alloc ?_ (by first | omega | (simp [go_sem]; done) | (simp [go_sem]; omega)) _) | (refine Below.setCell ?_ (by first | omega | (simp [go_sem]; done) | (simp [go_sem]; omega)) _)))⟩
        case measure => simp [intOf]
      · rcases calls_dR V with ⟨n, rfl, hn⟩ | ⟨rfl, hn⟩
        · simp only [hn] at HDIG
          clear hn
          go_wp2_with fail
          refine (HCUT.out _ ?hA8 ?hB8).mono ?_
          case hA8 => (first | omega | (simp [go_sem]; done) | (simp [go_sem]; omega))
          case hB8 => exact ((show Below W.heap.size W _ by (repeat (first | exact Below.refl _ _ | refine Below.drew ?_ | (refine below_gw' ?_ (by first | omega | (simp [go_sem]; done) | (simp [go_sem]; omega)) _) | (refine Below.alloc ?_ (by first | omega | (simp [go_sem]; done) | (simp [go_sem]; omega)) _) | (refine Below.setCell ?_ (by first | omega | (simp [go_sem]; done) | (simp [go_sem]; omega)) _)))).cell hg).trans cg
          rintro e w1 ⟨rfl, hb⟩
          obtain ⟨p1, rfl⟩ := gw_of_below hb
          clear hb
          go_wp2_with fail
          refine (HDIG.out _).mono ?_
          rintro e w1 ⟨rfl, rfl⟩
          go_wp2_with fail
          go_ret2
          exact ⟨by rw [← HK.out, HST.out]; rfl, HB0.out.trans (Below.mono (show Below W.heap.size W _ by (repeat (first | exact Below.refl _ _ | refine Below.drew ?_ | (refine below_gw' ?_ (by first | omega | (simp [go_sem]; done) | (simp [go_sem]; omega)) _) | (refine Below.alloc ?_ (by first | omega | (simp [go_sem]; done) | (simp [go_sem]; omega)) _) | (refine Below.setCell ?_ (by first | omega | (simp [go_sem]; done) | (simp [go_sem]; omega)) _)))) HB0.out.size)⟩
        · simp only [hn] at HDIG
          clear hn
          go_wp2_with fail
          refine (HCUT.out _ ?hA9 ?hB9).mono ?_
          case hA9 => (first | omega | (simp [go_sem]; done) | (simp [go_sem]; omega))
          case hB9 => exact ((show Below W.heap.size W _ by (repeat (first | exact Below.refl _ _ | refine Below.drew ?_ | (refine below_gw' ?_ (by first | omega | (simp [go_sem]; done) | (simp [go_sem]; omega)) _) | (refine Below.alloc ?_ (by first | omega | (simp [go_sem]; done) | (simp [go_sem]; omega)) _) | (refine Below.setCell ?_ (by first | omega | (simp [go_sem]; done) | (simp [go_sem]; omega)) _)))).cell hg).trans cg
          rintro e w1 ⟨rfl, hb⟩
          obtain ⟨p1, rfl⟩ := gw_of_below hb
          clear hb
          go_wp2_with fail
          refine (HDIG.out _).mono ?_
          rintro e w1 ⟨rfl, rfl⟩
          go_wp2_with fail
          go_roundw
          case rel => exact ⟨5, by omega, by go_num, Lib.hid (by rw [← HK.out, HST.out]; rfl), by (repeat (first | exact Below.refl _ _ | refine Below.drew ?_ | (refine below_gw' ?_ (by first | omega | (simp [go_sem]; done) | (simp [go_sem]; omega)) _) | (refine Below.alloc ?_ (by first | omega | (simp [go_sem]; done) | (simp [go_sem]; omega)) _) | (refine Below.setCell ?_ (by first | omega | (simp [go_sem]; done) | (simp [go_sem]; omega)) _)))⟩
          case measure => simp [intOf]
    · have c0 := HF.out.f10
      have c1 := HF.out.f11
      have hB := HF.out.f16
      have cg := HF.out.f15
      have hg := HF.out.f20
      have hcut : ∀ W' : World, g4 < W'.heap.size → W'.cell? ⟨g4, 0, none⟩ = some (.string ⟨#[37]⟩) → Calls Tryz.prog 180 #[.string s, .pointer (some ⟨g4, 0, none⟩)] W' fun e w' => e = .returned (.tuple #[.string (fD 5 s), .bool (fOk 5 s)]) ∧ Below W'.heap.size W' w' := fun W' h1 h2 => cut_prefix s ⟨#[37]⟩ g4 W' hs h1 h2
      have hA : fA 5 s = if fOk 5 s = true then valU 2 (fD 5 s).data.toList else none := rfl
      have hDs : (fD 5 s).size ≤ 1000000 := Nat.le_trans (fD_size 5 s) hs
      obtain ⟨D, hD⟩ : ∃ D, fD 5 s = D := ⟨_, rfl⟩
      obtain ⟨ok, hok⟩ : ∃ ok, fOk 5 s = ok := ⟨_, rfl⟩
      simp only [hD, hok] at hcut hA hDs
      have hdig := fun w => digits_2 D w hDs
      obtain ⟨V, hV⟩ : ∃ V, valU 2 D.data.toList = V := ⟨_, rfl⟩
      simp only [hV] at hdig
      rw [hV] at hA
      have hst : fRest s (6 - 5) = (fA 5 s).or (fRest s (6 - 6)) := rfl
      rw [hA] at hst
      clear hA hV hok hDs hD
      have HST := Lib.hid hst; clear hst
      have HCUT := Lib.hid hcut; clear hcut
      have HDIG := Lib.hid hdig; clear hdig
      rcases ok with _ | _
      · go_wp2_with fail
        refine (HCUT.out _ ?hA10 ?hB10).mono ?_
        case hA10 => (first | omega | (simp [go_sem]; done) | (simp [go_sem]; omega))
        case hB10 => exact ((show Below W.heap.size W _ by (repeat (first | exact Below.refl _ _ | refine Below.drew ?_ | (refine below_gw' ?_ (by first | omega | (simp [go_sem]; done) | (simp [go_sem]; omega)) _) | (refine Below.alloc ?_ (by first | omega | (simp [go_sem]; done) | (simp [go_sem]; omega)) _) | (refine Below.setCell ?_ (by first | omega | (simp [go_sem]; done) | (simp [go_sem]; omega)) _)))).cell hg).trans cg
        rintro e w1 ⟨rfl, hb⟩
        obtain ⟨p1, rfl⟩ := gw_of_below hb
        clear hb
        go_wp2_with fail
        go_roundw
        case rel => exact ⟨6, by omega, by go_num, Lib.hid (by rw [← HK.out, HST.out]; rfl), by (repeat (first | exact Below.refl _ _ | refine Below.drew ?_ | (refine below_gw' ?_ (by first | omega | (simp [go_sem]; done) | (simp [go_sem]; omega)) _) | (refine Below.alloc ?_ (by first | omega | (simp [go_sem]; done) | (simp [go_sem]; omega)) _) | (refine Below.setCell ?_ (by first | omega | (simp [go_sem]; done) | (simp [go_sem]; omega)) _)))⟩
        case measure => simp [intOf]
      · rcases calls_dR V with ⟨n, rfl, hn⟩ | ⟨rfl, hn⟩
        · simp only [hn] at HDIG
          clear hn
          go_wp2_with fail
          refine (HCUT.out _ ?hA11 ?hB11).mono ?_
          case hA11 => (first | omega | (simp [go_sem]; done) | (simp [go_sem]; omega))
          case hB11 => exact ((show Below W.heap.size W _ by (repeat (first | exact Below.refl _ _ | refine Below.drew ?_ | (refine below_gw' ?_ (by first | omega | (simp [go_sem]; done) | (simp [go_sem]; omega)) _) | (refine Below.alloc ?_ (by first | omega | (simp [go_sem]; done) | (simp [go_sem]; omega)) _) | (refine Below.setCell ?_ (by first | omega | (simp [go_sem]; done) | (simp [go_sem]; omega)) _)))).cell hg).trans cg
          rintro e w1 ⟨rfl, hb⟩
          obtain ⟨p1, rfl⟩ := gw_of_below hb
          clear hb
          go_wp2_with fail
          refine (HDIG.out _).mono ?_
          rintro e w1 ⟨rfl, rfl⟩
          go_wp2_with fail
          go_ret2
          exact ⟨by rw [← HK.out, HST.out]; rfl, HB0.out.trans (Below.mono (show Below W.heap.size W _ by (repeat (first | exact Below.refl _ _ | refine Below.drew ?_ | (refine below_gw' ?_ (by first | omega | (simp [go_sem]; done) | (simp [go_sem]; omega)) _) | (refine Below.alloc ?_ (by first | omega | (simp [go_sem]; done) | (simp [go_sem]; omega)) _) | (refine Below.setCell ?_ (by first | omega | (simp [go_sem]; done) | (simp [go_sem]; omega)) _)))) HB0.out.size)⟩
        · simp only [hn] at HDIG
          clear hn
          go_wp2_with fail
          refine (HCUT.out _ ?hA12 ?hB12).mono ?_
          case hA12 => (first | omega | (simp [go_sem]; done) | (simp [go_sem]; omega))
          case hB12 => exact ((show Below W.heap.size W _ by (repeat (first | exact Below.refl _ _ | refine Below.drew ?_ | (refine below_gw' ?_ (by first | omega | (simp [go_sem]; done) | (simp [go_sem]; omega)) _) | (refine Below.alloc ?_ (by first | omega | (simp [go_sem]; done) | (simp [go_sem]; omega)) _) | (refine Below.setCell ?_ (by first | omega | (simp [go_sem]; done) | (simp [go_sem]; omega)) _)))).cell hg).trans cg
          rintro e w1 ⟨rfl, hb⟩
          obtain ⟨p1, rfl⟩ := gw_of_below hb
          clear hb
          go_wp2_with fail
          refine (HDIG.out _).mono ?_
          rintro e w1 ⟨rfl, rfl⟩
          go_wp2_with fail
          go_roundw
          case rel => exact ⟨6, by omega, by go_num, Lib.hid (by rw [← HK.out, HST.out]; rfl), by (repeat (first | exact Below.refl _ _ | refine Below.drew ?_ | (refine below_gw' ?_ (by first | omega | (simp [go_sem]; done) | (simp [go_sem]; omega)) _) | (refine Below.alloc ?_ (by first | omega | (simp [go_sem]; done) | (simp [go_sem]; omega)) _) | (refine Below.setCell ?_ (by first | omega | (simp [go_sem]; done) | (simp [go_sem]; omega)) _)))⟩
          case measure => simp [intOf]
    · go_wp2_with fail
      go_ret2
      exact ⟨by rw [← HK.out]; rfl, HB0.out.trans (Below.mono (show Below W.heap.size W _ by (repeat (first | exact Below.refl _ _ | refine Below.drew ?_ | (refine below_gw' ?_ (by first | omega | (simp [go_sem]; done) | (simp [go_sem]; omega)) _) | (refine Below.alloc ?_ (by first | omega | (simp [go_sem]; done) | (simp [go_sem]; omega)) _) | (refine Below.setCell ?_ (by first | omega | (simp [go_sem]; done) | (simp [go_sem]; omega)) _)))) HB0.out.size)⟩
end Go.Proofs.YtnjpfhihbjihbaaGreatDoor
