/- operand.List. -/
import Derived.Test.YtocgjpijjghiiaaDoorTexts
import Derived.Test.YtocgjpijjghiiaaDoorRef06e
import Derived.Test.YtocgjpijjghiiaaDoorShelf
namespace Go.Proofs.YtocgjpijjghiiaaDoor
open Go.RowKit Go.Sort

theorem Tryd.infoString : (Tryd.prog.info? 9).map (fun i => (i.zero, i.size, i.bytes)) = some (some (.string ⟨#[]⟩), 1, 16) := by kernel_rfl

theorem owns_below' {w w' : World} {base : Nat} {e : TypeId} {size : Nat} {v : Value} {n : Nat} {xs : List Value} (h : w.ownsRow base e size v n xs) (hb : Below w.heap.size w w') : w'.ownsRow base e size v n xs := by
  obtain ⟨h1, h2⟩ := h
  refine ⟨h1, ?_⟩
  rcases h2 with h2 | ⟨g, cap, cur, hv, hg, hh, r⟩
  · exact Or.inl h2
  · exact Or.inr ⟨g, cap, cur, hv, hg, by rw [hb.block g (lt_of_block hh)]; exact hh, r⟩

/-- The cells of strings. -/
def strc (l : List ByteArray) : List Value := l.map Value.string
theorem strc_len (l : List ByteArray) : (strc l).length = l.length := by simp [strc]

theorem strc_append (l m : List ByteArray) : strc (l ++ m) = strc l ++ strc m := by simp [strc]
theorem texts_succ (l : List Op3) (j : Nat) (x : Op3) (h : l[j]? = some x) : texts (l.take (j + 1)) = texts (l.take j) ++ [opText x.1 x.2.1 x.2.2] := by
  rw [List.take_add_one, h]
  simp [texts]

set_option maxHeartbeats 1000000 in
set_option maxRecDepth 100000 in
theorem list_any (v1 : Value) (l : List Op3) (w : World) (h1 : Row w v1 l.length (opc l)) (hl : l.length ≤ 1000) (hT : Tabs w) :
    Calls Tryd.prog 17 #[v1] w fun e w' => e = .returned (.string (listS l)) ∧ Below w.heap.size w w' := by
  obtain ⟨i0, hi, hz0, hz1, hz2⟩ := info_parts Tryd.infoString
  obtain ⟨a1, c1, rfl, hc1, h1⟩ := h1.op
  obtain ⟨B, hB⟩ : ∃ B, w.heap.size = B := ⟨_, rfl⟩
  have HT := Lib.hid hT; clear hT
  have H1 := Lib.hid h1; clear h1
  have HB := Lib.hid hB; clear hB
  go_enter Tryd.func17, Tryd.ntmps17
  go_wp2_with fail
  go_loopw [3, 8] (fun v i wr => ∃ j : Nat, j ≤ l.length ∧ i = .int .i64 j ∧ wr.ownsRow B 9 1 v j (strc (texts (l.take j))) ∧ Below B w wr) (fun _ i _ => l.length - (intOf i).toNat)
  case atStart => exact ⟨0, Nat.zero_le _, rfl, World.ownsRow_nil _ _ _ _, Below.refl _ _⟩
  case round =>
    obtain ⟨j, hj, rfl, hown, hbel⟩ := hrel
    have HOWN := Lib.hid hown; clear hown
    have HBEL := Lib.hid hbel; clear hbel
    by_cases hlt : j < l.length
    · obtain ⟨⟨x0, x1, x2⟩, hx⟩ : ∃ x, l[j]? = some x := ⟨_, List.getElem?_eq_getElem hlt⟩
      obtain ⟨g, o, rfl, hg, hc⟩ := H1.out (by intro e; rw [e] at hlt; exact absurd hlt (Nat.not_lt_zero _))
      obtain ⟨cx0, cx1, cx2⟩ := hc j _ hx
      clear hc
      rw [← HBEL.out.cell (p := ⟨_, _, none⟩) (by rw [← HB.out]; exact hg)] at cx0 cx1 cx2
      have Hx := Lib.hid hx; clear hx
      have hi0 : (0 : Int) ≤ (j : Int) := by omega
      have hi1 : (j : Int) < (l.length : Int) := by omega
      go_wp2_with fail
      refine (text_any x0 x1 x2 _ ((HT.out.below (by rw [HB.out]; exact HBEL.out)).below (by (repeat (first | exact Below.refl _ _ | refine Below.drew ?_ | (refine below_gw' ?_ (by first | omega | (simp [go_sem]; done) | (simp [go_sem]; omega)) _) | (refine Below.alloc ?_ (by first | omega | (simp [go_sem]; done) | (simp [go_sem]; omega)) _) | (refine Below.setCell ?_ (by first | omega | (simp [go_sem]; done) | (simp [go_sem]; omega)) _)))))).mono ?_
      rintro e w1 ⟨rfl, hb⟩
      obtain ⟨p1, rfl⟩ := gw_of_below hb
      clear hb
      go_wp2_with (at_builtin; refine wpList_append_own _ rfl _ _ 38 rfl B 9 i0 (.string ⟨#[]⟩) 1 16 Tryd.underlying38 hi hz0 hz1 hz2 rfl (by decide) _ _ _ rfl (owns_below' HOWN.out (by (repeat (first | exact Below.refl _ _ | refine Below.drew ?_ | (refine below_gw' ?_ (by first | omega | (simp [go_sem]; done) | (simp [go_sem]; omega)) _) | (refine Below.alloc ?_ (by first | omega | (simp [go_sem]; done) | (simp [go_sem]; omega)) _) | (refine Below.setCell ?_ (by first | omega | (simp [go_sem]; done) | (simp [go_sem]; omega)) _))))) _ 1 1 [.string (opText x0 x1 x2)] rfl rfl ?c1 ?c2 ?c3 ?c4 ?c5 ?_)
      case c1 =>
        intro q u hq
        rw [addr_add]
        match q, hq with
        | 0, hq => simp at hq; subst hq; simp [go_sem]
      case c2 => intro u hu; simp at hu; subst hu; rfl
      case c3 => unfold maxLen; omega
      case c4 => omega
      case c5 => have := HBEL.out.size; have := HB.out; simp [go_sem]; omega
      intro v' w1 hown' hgrow _
      have hsz : B ≤ wr.heap.size := by have := HBEL.out.size; have := HB.out; omega
      have hb' : Below B w w1 := (HBEL.out.trans (Below.mono (show Below wr.heap.size wr _ by (repeat (first | exact Below.refl _ _ | refine Below.drew ?_ | (refine below_gw' ?_ (by first | omega | (simp [go_sem]; done) | (simp [go_sem]; omega)) _) | (refine Below.alloc ?_ (by first | omega | (simp [go_sem]; done) | (simp [go_sem]; omega)) _) | (refine Below.setCell ?_ (by first | omega | (simp [go_sem]; done) | (simp [go_sem]; omega)) _)))) hsz)).grown hgrow (by simp [go_sem]; omega) (by
        intro q hq
        have := HOWN.out.2
        rcases this with ⟨h, _⟩ | ⟨g, cap, cur, h, hg, _⟩
        · rw [h] at hq; cases hq
        · rw [h] at hq; cases hq; exact hg)
      have HOWN3 := Lib.hid hown'; clear hown'
      have HB' := Lib.hid hb'; clear hb' hgrow
      go_wp2_with fail
      go_roundw
      case rel => exact ⟨j + 1, by omega, by go_num, by rw [texts_succ l j _ Hx.out, strc_append]; exact HOWN3.out, HB'.out⟩
      case measure => simp [intOf]; omega
    · obtain rfl : j = l.length := by omega
      have hrow := Row.of_owns HOWN.out
      rw [List.take_length] at hrow
      obtain ⟨a2, c2, rfl, hc2, hr⟩ := hrow
      have HR := Lib.hid hr; clear hr
      have hjoin : Calls Tryd.prog 34 #[.slice a2 l.length c2, .string ⟨#[44]⟩] wr fun e w' => e = .returned (.string (listS l)) ∧ Below wr.heap.size wr w' := by
        by_cases hnil : l = []
        · subst hnil
          exact (Tryd.strings_Join_none a2 c2 ⟨#[44]⟩ wr).mono fun e w' ⟨he, hw⟩ => ⟨he, hw ▸ Below.refl _ _⟩
        · have hlen : (texts l).length = l.length := by simp [texts]
          obtain ⟨g, o, rfl, hg, hcs⟩ := HR.out (by intro e; have h2 := strc_len (texts l); rw [e, hlen] at h2; exact hnil (List.eq_nil_of_length_eq_zero h2.symm))
          have hj := Tryd.strings_Join g o c2 (texts l) ⟨#[44]⟩ wr (fun j x hx => by
            have hjl : j < (texts l).length := (List.getElem?_eq_some_iff.1 hx).1
            rw [hcs j (by rw [strc_len]; exact hjl)]
            simp [strc, hx]) hg (by omega) (by omega) (by have := join_len l; show (Lib.join ((texts l).map (·.data.toList)) [44]).length ≤ _; omega)
          rw [hlen] at hj
          exact hj
      go_wp2_with fail
      refine hjoin.mono ?_
      rintro e w1 ⟨rfl, hb⟩
      obtain ⟨p1, rfl⟩ := gw_of_below hb
      clear hb
      go_wp2_with fail
      go_ret
      refine ⟨rfl, ?_⟩
      rw [HB.out]
      exact HBEL.out.trans (Below.mono (show Below wr.heap.size wr _ by (repeat (first | exact Below.refl _ _ | refine Below.drew ?_ | (refine below_gw' ?_ (by first | omega | (simp [go_sem]; done) | (simp [go_sem]; omega)) _) | (refine Below.alloc ?_ (by first | omega | (simp [go_sem]; done) | (simp [go_sem]; omega)) _) | (refine Below.setCell ?_ (by first | omega | (simp [go_sem]; done) | (simp [go_sem]; omega)) _)))) (by have := HBEL.out.size; have := HB.out; omega))

theorem empty_append (s : ByteArray) : (⟨#[]⟩ : ByteArray) ++ s = s := by
  apply ba_ext; simp

set_option maxHeartbeats 1000000 in
set_option maxRecDepth 100000 in
theorem rlist_any (v1 : Value) (l : List Op3) (w : World) (h1 : Row w v1 l.length (opc l)) (hl : l.length ≤ 1000) :
    Calls Tryd.prog 18 #[v1] w fun e w' => e = .returned (.string (listS l)) ∧ Below w.heap.size w w' := by
  obtain ⟨a1, c1, rfl, hc1, h1⟩ := h1.op
  have H1 := Lib.hid h1; clear h1
  go_enter Tryd.func18, Tryd.ntmps18
  go_wp2_with fail
  go_loopw [3, 4] (fun s i wr => ∃ j : Nat, j ≤ l.length ∧ i = .int .i64 j ∧ s = .string (listS (l.take j)) ∧ Below w.heap.size w wr) (fun _ i _ => l.length - (intOf i).toNat)
  case atStart => exact ⟨0, Nat.zero_le _, rfl, rfl, Below.refl _ _⟩
  case round =>
    obtain ⟨j, hj, rfl, rfl, hbel⟩ := hrel
    by_cases hlt : j < l.length
    · obtain ⟨⟨x0, x1, x2⟩, hx⟩ : ∃ x, l[j]? = some x := ⟨_, List.getElem?_eq_getElem hlt⟩
      obtain ⟨g, o, rfl, hg, hc⟩ := H1.out (by intro e; rw [e] at hlt; exact absurd hlt (Nat.not_lt_zero _))
      obtain ⟨cx0, cx1, cx2⟩ := hc j _ hx
      clear hc
      rw [← hbel.cell (p := ⟨_, _, none⟩) hg] at cx0 cx1 cx2
      have HBEL := Lib.hid hbel; clear hbel
      have hi0 : (0 : Int) ≤ (j : Int) := by omega
      have hi1 : (j : Int) < (l.length : Int) := by omega
      have hs1 := listS_len (l.take j)
      rw [List.length_take, Nat.min_eq_left hj] at hs1
      have hs2 := opText_len x0 x1 x2
      rcases Nat.eq_zero_or_pos j with h0 | h0
      · subst h0
        have hsucc := listS_one l _ hx
        have Hs := Lib.hid hsucc; clear hsucc hx hs1
        rw [show listS (l.take 0) = ⟨#[]⟩ from rfl]
        simp only [Nat.zero_mul, Nat.add_zero] at cx0 cx1 cx2
        go_wp2_with fail
        refine (rtext_any x0 x1 x2 _).mono ?_
        rintro e w1 ⟨rfl, hb⟩
        obtain ⟨p1, rfl⟩ := gw_of_below hb
        clear hb
        go_wp2_with fail
        go_roundw
        case rel => exact ⟨1, by omega, by go_num, by rw [Hs.out, empty_append], HBEL.out.trans (Below.mono (show Below wr.heap.size wr _ by (repeat (first | exact Below.refl _ _ | refine Below.drew ?_ | (refine below_gw' ?_ (by first | omega | (simp [go_sem]; done) | (simp [go_sem]; omega)) _) | (refine Below.alloc ?_ (by first | omega | (simp [go_sem]; done) | (simp [go_sem]; omega)) _) | (refine Below.setCell ?_ (by first | omega | (simp [go_sem]; done) | (simp [go_sem]; omega)) _)))) HBEL.out.size)⟩
        case measure => simp [intOf]; omega
      · have hsucc := listS_succ l j _ hx h0
        have Hs := Lib.hid hsucc; clear hsucc hx
        have hi2 : (0 : Int) < (j : Int) := by omega
        generalize listS (l.take j) = S at hs1 Hs ⊢
        go_wp2_with fail
        refine (rtext_any x0 x1 x2 _).mono ?_
        rintro e w1 ⟨rfl, hb⟩
        obtain ⟨p1, rfl⟩ := gw_of_below hb
        clear hb
        go_wp2_with fail
        go_roundw
        case rel => exact ⟨j + 1, by omega, by go_num, by rw [Hs.out], HBEL.out.trans (Below.mono (show Below wr.heap.size wr _ by (repeat (first | exact Below.refl _ _ | refine Below.drew ?_ | (refine below_gw' ?_ (by first | omega | (simp [go_sem]; done) | (simp [go_sem]; omega)) _) | (refine Below.alloc ?_ (by first | omega | (simp [go_sem]; done) | (simp [go_sem]; omega)) _) | (refine Below.setCell ?_ (by first | omega | (simp [go_sem]; done) | (simp [go_sem]; omega)) _)))) HBEL.out.size)⟩
        case measure => simp [intOf]; omega
    · obtain rfl : j = l.length := by omega
      rw [List.take_length]
      go_wp2_with fail
      go_ret
      exact ⟨rfl, hbel⟩
end Go.Proofs.YtocgjpijjghiiaaDoor

