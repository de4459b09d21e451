/- The statement ExprNames of chapter 17: proved for every input; no condition beyond the statement's own. -/
import Derived.Test.YtpkbonfbehhbdaaGreatDoorCards
import Derived.Test.YtpkbonfbehhbdaaGreatDoorE06
import Derived.Test.YtpkbonfbehhbdaaGreatDoorE07
import Derived.Test.YtpkbonfbehhbdaaGreatDoorE21
import Derived.Test.YtpkbonfbehhbdaaGreatDoorE32
import Derived.Test.YtpkbonfbehhbdaaGreatDoorTie
import Derived.Deep.DeepHandedRow
import Derived.Lib.LaidTab
import Derived.Lib.SmallJoins
import Derived.OpenShut
import Derived.ProofKit
import Derived.ShutString
/- slices.Equal at equal rows of strings; append onto a row of one's own, the source a row that may be nil. -/
namespace Go.Proofs.YtpkbonfbehhbdaaGreatDoor
open Go.RowKit Go.Sort

theorem equalRow_any (v1 v2 : Value) (L : List (List UInt8)) (w : World) (h1 : Row w v1 L.length (L.map Proofs.encStr)) (h2 : Row w v2 L.length (L.map Proofs.encStr)) (hl : L.length ≤ 1000000) :
    Calls Tryz.prog 30 #[v1, v2] w fun e w' => e = .returned (.bool true) ∧ Below w.heap.size w w' := by
  obtain ⟨a1, c1, rfl, hc1, h1⟩ := h1
  obtain ⟨a2, c2, rfl, hc2, h2⟩ := h2
  rcases hL : L with _ | ⟨x, l⟩
  · refine (Tryz.slices_Equal_string_empty a1 a2 c1 0 c2 w (by decide)).mono ?_
    rintro e w' ⟨he, rfl⟩
    exact ⟨by rw [he]; rfl, Below.refl _ _⟩
  · rw [← hL]
    have hne : L.map Proofs.encStr ≠ [] := by rw [hL]; simp
    obtain ⟨g1, o1, rfl, hg1, h1⟩ := h1 hne
    obtain ⟨g2, o2, rfl, hg2, h2⟩ := h2 hne
    have hM : (L.map fun y => (⟨y.toArray⟩ : ByteArray)).length = L.length := by simp
    have hcell : ∀ j, j < (L.map fun y => (⟨y.toArray⟩ : ByteArray)).length → (L.map Proofs.encStr)[j]? = some (.string ((L.map fun y => (⟨y.toArray⟩ : ByteArray)).getD j ByteArray.empty)) := fun j hj => by
      rw [hM] at hj
      simp [List.getD, List.getElem?_eq_getElem hj, Proofs.encStr]
    refine (Tryz.slices_Equal_string g1 o1 L.length c1 g2 o2 L.length c2 _ _ w (by rw [hM]; exact Nat.le_refl _) (by rw [hM]; exact Nat.le_refl _) (by omega) (by omega) (fun j hj => (h1 j (by rw [List.length_map]; rw [hM] at hj; exact hj)).trans (hcell j hj)) (fun j hj => (h2 j (by rw [List.length_map]; rw [hM] at hj; exact hj)).trans (hcell j hj))).mono ?_
    rintro e w' ⟨he, q, hw⟩
    refine ⟨by rw [he, decide_eq_true rfl], ?_⟩
    rw [hw]
    exact below_drewN (Below.refl _ _) _
theorem wpList_append_src {P : Program} {w : World} {ops : Array Oper} {rest : List Oper} {o : Oper} {a : Act} {Q : Exit → Act → World → Prop} (hgd : o.guard = none) (s x : Operand) (t : TypeId)
    (ho : o.op = .call { callee := .builtin .append, args := #[s, x], argTypes := #[t, t] })
    (base : Nat) (e : TypeId) (i : TypeInfo) (z : Value) (size bytes : Nat) (ht : P.underlying t = some (.slice e)) (hi : P.info? e = some i) (hz : i.zero = some z)
    (hsize : i.size = size) (hby : i.bytes = bytes) (hzs : z.cells.size = size) (hsz : 0 < size)
    (v : Value) (n : Nat) (xs : List Value) (hs : a.eval s = v) (hown : w.ownsRow base e size v n xs)
    (v2 : Value) (m : Nat) (news : List Value) (hx : a.eval x = v2) (hsrc : SrcAt w v2 m news) (hl : news.length = m * size) (h1 : ∀ u ∈ news, u.oneCell' = true)
    (h63 : n + m ≤ maxLen) (hbytes : (n + m) * bytes ≤ 140737488355328) (hbase : base ≤ w.heap.size)
    (h : ∀ v' w', w'.ownsRow base e size v' (n + m) (xs ++ news) → w.grownBy w' v.ownBlock → (v' = .slice none 0 0 ↔ v = .slice none 0 0 ∧ m = 0) → wpList P ops Q rest (a.put o.dst v') w') : wpList P ops Q (o :: rest) a w := by
  refine wpList_plain hgd fun _ hK => ?_
  rcases hsrc with ⟨rfl, rfl⟩ | ⟨ad, c, rfl, hc⟩
  · have hn : news = [] := List.eq_nil_of_length_eq_zero (by simpa using hl)
    subst hn
    have hrun := run_append_owned_none (P := P) (w := w) base t o.type e i size ht hi v n xs hown
    unfold Oper.wp
    simp [execOp, ho, resolve, invoke, builtin, hs, hx, hrun, Result.andThen]
    exact hK _ _ (h v w (by simpa using hown) (World.grownBy.refl w _) (by simp))
  · exact wp_append_own w s x t ho base e i z size bytes ht hi hz hsize hby hzs hsz v n xs hs hown ad m c news hx hl hc h1 h63 hbytes hbase fun v' w' h2 h3 h4 => hK _ _ (h v' w' h2 h3 h4)
end Go.Proofs.YtpkbonfbehhbdaaGreatDoor

/- The walk of the law ExprNames. -/
namespace Go.Proofs.YtpkbonfbehhbdaaGreatDoor
open Go.RowKit Go.Sort

theorem ptr_opt {T : TypeId} {w : World} {X : Option Ex} {v : Value} (h : OptAt T w X v) : ∃ p, v = .pointer p := by
  cases X with
  | none => exact ⟨none, h⟩
  | some x => obtain ⟨g, h, _⟩ := NodeAt.ptr h; exact ⟨_, h⟩
theorem nodes_le {l : List Tok} (ht : TokOk l) : oNodes (parseR l).2 ≤ l.length := by
  rcases h : (parseR l).2 with _ | x
  · exact Nat.zero_le _
  · exact (parseR_good ht h).2.1
set_option maxHeartbeats 2000000 in
set_option maxRecDepth 100000 in
theorem namesNo (a b : ByteArray) (w : World) (ha : a.size ≤ maxLen) (hb : b.size ≤ maxLen) (hT : Tabs w) (h : knownP a = none ∨ knownP b = none) :
    Calls Tryz.prog 8 #[.string a, .string b] w fun e w' => e = .returned (.bool true) ∧ Below w.heap.size w w' := by
  have HT := Lib.hid hT; clear hT
  have hka := fun w => known_any a w ha
  have hkb := fun w => known_any b w hb
  unfold KnRes at hka hkb
  obtain ⟨A, hA⟩ : ∃ A, (knownP a).isSome = A := ⟨_, rfl⟩
  obtain ⟨B, hB⟩ : ∃ B, (knownP b).isSome = B := ⟨_, rfl⟩
  rw [hA] at hka
  rw [hB] at hkb
  have hAB : A = false ∨ A = true ∧ B = false := by
    rcases h with h | h
    · rw [h] at hA; exact .inl hA.symm
    · rw [h] at hB
      cases A
      · exact .inl rfl
      · exact .inr ⟨rfl, hB.symm⟩
  have HKA := Lib.hid hka; clear hka hA h ha hb
  have HKB := Lib.hid hkb; clear hkb hB
  rcases hAB with rfl | ⟨rfl, rfl⟩
  all_goals
    go_enter Tryz.func8, Tryz.ntmps8
    go_wp2_with fail
    (with_reducible refine (HKA.out _).mono ?_)
    rintro e w1 ⟨v1, rfl, _, hb1⟩
    obtain ⟨p1, rfl⟩ := gw_of_below hb1
    clear hb1
    go_wp2_with fail
    (with_reducible refine (HKB.out _).mono ?_)
    rintro e w1 ⟨v2, rfl, _, hb1⟩
    obtain ⟨p2, rfl⟩ := gw_of_below hb1
    clear hb1
    go_wp2_with fail
    (with_reducible refine (alive17 _ (HT.out.below (by (repeat (first | exact Below.refl _ _ | refine Below.drew ?_ | (refine below_gw' ?_ (by first | omega | (simp [go_sem]; done) | (simp [go_sem]; omega)) _) | (refine Below.alloc ?_ (by first | omega | (simp [go_sem]; done) | (simp [go_sem]; omega)) _) | (refine Below.setCell ?_ (by first | omega | (simp [go_sem]; done) | (simp [go_sem]; omega)) _)))))).mono ?_)
    rintro e w1 ⟨rfl, hb1⟩
    obtain ⟨p3, rfl⟩ := gw_of_below hb1
    clear hb1
    go_wp2_with fail
    go_ret
    exact ⟨rfl, by (repeat (first | exact Below.refl _ _ | refine Below.drew ?_ | (refine below_gw' ?_ (by first | omega | (simp [go_sem]; done) | (simp [go_sem]; omega)) _) | (refine Below.alloc ?_ (by first | omega | (simp [go_sem]; done) | (simp [go_sem]; omega)) _) | (refine Below.setCell ?_ (by first | omega | (simp [go_sem]; done) | (simp [go_sem]; omega)) _)))⟩
set_option maxHeartbeats 4000000 in
set_option maxRecDepth 100000 in
theorem namesYes (a b : ByteArray) (l m : List Tok) (w : World) (ha : a.size ≤ maxLen) (hb : b.size ≤ maxLen) (hT : Tabs w) (hka : knownP a = some l) (hkb : knownP b = some m) :
    Calls Tryz.prog 8 #[.string a, .string b] w fun e w' => e = .returned (.bool true) ∧ Below w.heap.size w w' := by
  have HT := Lib.hid hT; clear hT
  have hwa := fun w => known_any a w ha
  have hwb := fun w => known_any b w hb
  unfold KnRes at hwa hwb
  rw [hka] at hwa
  rw [hkb] at hwb
  simp only [Option.isSome_some, Option.getD_some] at hwa hwb
  obtain ⟨hok, hlen, _⟩ := knownP_ok hka
  obtain ⟨mok, mlen, _⟩ := knownP_ok hkb
  have hgl := fun v w hr => given_any l v w hr (by omega)
  have hgm := fun v w hr => given_any m v w hr (by omega)
  have hpl := fun v w hr => parse_any l v w hr hok (by omega)
  have hpm := fun v w hr => parse_any m v w hr mok (by omega)
  have hrl := fun v w hr => rparse_any l v w hr hok (by omega)
  have hrm := fun v w hr => rparse_any m v w hr mok (by omega)
  have hnl := nodes_le hok
  have hnm := nodes_le mok
  unfold ParseRes at hpl hpm hrl hrm
  generalize (parseR l).2 = X at *
  generalize (parseR m).2 = Y at *
  generalize (parseR l).1 = C at *
  generalize (parseR m).1 = D at *
  have hnX := fun v w h => rnames17_any (oNodes X) X (Nat.le_refl _) (by omega) v w h
  have hnY := fun v w h => rnames17_any (oNodes Y) Y (Nat.le_refl _) (by omega) v w h
  unfold RNRes at hnX hnY
  have hlX := oSyms_len X
  have hlY := oSyms_len Y
  have hls : lSyms [X, Y] = oSyms X ++ oSyms Y := by simp [lSyms]
  have hnn := fun v w h => names_any 1000000 [X, Y] (by simp [lNodes]; omega) (Nat.le_refl _) (by simp) v w h
  unfold NamesRes at hnn
  rw [hls] at hnn
  have hsp := fun va vb w h1 h2 => same_any (oNodes X) X Y (Nat.le_refl _) va vb w h1 h2
  have hsr := fun va vb w h1 h2 => rsame_any (oNodes X) X Y (Nat.le_refl _) va vb w h1 h2
  have hbb : (sameO X Y == sameO X Y) = true := by simp
  generalize sameO X Y = S at *
  have hlen2 : (oSyms X ++ oSyms Y).length ≤ 1000000 := by rw [List.length_append]; omega
  have hlen3 : (oSyms X).length + (oSyms Y).length ≤ 1000000 := by omega
  generalize oSyms X = LX at *
  generalize oSyms Y = LY at *
  have hul := uniq_len (LX ++ LY)
  have hleq := fun v1 v2 w h1 h2 => equalRow_any v1 v2 (uniq (LX ++ LY)) w h1 h2 (by omega)
  have HWA := Lib.hid hwa
  have HWB := Lib.hid hwb
  have HGL := Lib.hid hgl
  have HGM := Lib.hid hgm
  have HPL := Lib.hid hpl
  have HPM := Lib.hid hpm
  have HRL := Lib.hid hrl
  have HRM := Lib.hid hrm
  have HNX := Lib.hid hnX
  have HNY := Lib.hid hnY
  have HNN := Lib.hid hnn
  have HSP := Lib.hid hsp
  have HSR := Lib.hid hsr
  have HEQ := Lib.hid hleq
  clear hwa hwb hgl hgm hpl hpm hrl hrm hnX hnY hnn hsp hsr hleq hka hkb hok mok hlen mlen hnl hnm hlX hlY hls ha hb hul
  obtain ⟨i0, hi, hz0, hz1, hz2⟩ := info_parts Tryz.infoString
  go_enter Tryz.func8, Tryz.ntmps8
  go_wp2_with fail
  (with_reducible refine (HWA.out _).mono ?_)
  rintro e w1 ⟨v1, rfl, hr1, hb1⟩
  obtain ⟨p1, rfl⟩ := gw_of_below hb1
  have HR1 := Lib.hid hr1; clear hr1 hb1
  go_wp2_with fail
  (with_reducible refine (HWB.out _).mono ?_)
  rintro e w1 ⟨v2, rfl, hr2, hb1⟩
  obtain ⟨p2, rfl⟩ := gw_of_below hb1
  have HR2 := Lib.hid hr2; clear hr2 hb1
  go_wp2_with fail
  (with_reducible refine (HGL.out _ _ (HR1.out.below (by (repeat (first | exact Below.refl _ _ | refine Below.drew ?_ | (refine below_gw' ?_ (by first | omega | (simp [go_sem]; done) | (simp [go_sem]; omega)) _) | (refine Below.alloc ?_ (by first | omega | (simp [go_sem]; done) | (simp [go_sem]; omega)) _) | (refine Below.setCell ?_ (by first | omega | (simp [go_sem]; done) | (simp [go_sem]; omega)) _)))))).mono ?_)
  rintro e w1 ⟨v3, rfl, hr3, hb1⟩
  obtain ⟨p3, rfl⟩ := gw_of_below hb1
  have HR3 := Lib.hid hr3; clear hr3 hb1
  go_wp2_with fail
  (with_reducible refine (HPL.out _ _ HR3.out).mono ?_)
  rintro e w1 ⟨v4, rfl, ho4, hb1⟩
  obtain ⟨p4, rfl⟩ := gw_of_below hb1
  obtain ⟨q4, rfl⟩ := ptr_opt ho4
  have HO4 := Lib.hid ho4; clear ho4 hb1
  go_wp2_with fail
  (with_reducible refine (HGM.out _ _ (HR2.out.below (by (repeat (first | exact Below.refl _ _ | refine Below.drew ?_ | (refine below_gw' ?_ (by first | omega | (simp [go_sem]; done) | (simp [go_sem]; omega)) _) | (refine Below.alloc ?_ (by first | omega | (simp [go_sem]; done) | (simp [go_sem]; omega)) _) | (refine Below.setCell ?_ (by first | omega | (simp [go_sem]; done) | (simp [go_sem]; omega)) _)))))).mono ?_)
  rintro e w1 ⟨v5, rfl, hr5, hb1⟩
  obtain ⟨p5, rfl⟩ := gw_of_below hb1
  have HR5 := Lib.hid hr5; clear hr5 hb1
  go_wp2_with fail
  (with_reducible refine (HPM.out _ _ HR5.out).mono ?_)
  rintro e w1 ⟨v6, rfl, ho6, hb1⟩
  obtain ⟨p6, rfl⟩ := gw_of_below hb1
  obtain ⟨q6, rfl⟩ := ptr_opt ho6
  have HO6 := Lib.hid ho6; clear ho6 hb1
  go_wp2_with fail
  (with_reducible refine (HRL.out _ _ (HR1.out.below (by (repeat (first | exact Below.refl _ _ | refine Below.drew ?_ | (refine below_gw' ?_ (by first | omega | (simp [go_sem]; done) | (simp [go_sem]; omega)) _) | (refine Below.alloc ?_ (by first | omega | (simp [go_sem]; done) | (simp [go_sem]; omega)) _) | (refine Below.setCell ?_ (by first | omega | (simp [go_sem]; done) | (simp [go_sem]; omega)) _)))))).mono ?_)
  rintro e w1 ⟨v7, rfl, ho7, hb1⟩
  obtain ⟨p7, rfl⟩ := gw_of_below hb1
  obtain ⟨q7, rfl⟩ := ptr_opt ho7
  have HO7 := Lib.hid ho7; clear ho7 hb1
  go_wp2_with fail
  (with_reducible refine (HRM.out _ _ (HR2.out.below (by (repeat (first | exact Below.refl _ _ | refine Below.drew ?_ | (refine below_gw' ?_ (by first | omega | (simp [go_sem]; done) | (simp [go_sem]; omega)) _) | (refine Below.alloc ?_ (by first | omega | (simp [go_sem]; done) | (simp [go_sem]; omega)) _) | (refine Below.setCell ?_ (by first | omega | (simp [go_sem]; done) | (simp [go_sem]; omega)) _)))))).mono ?_)
  rintro e w1 ⟨v8, rfl, ho8, hb1⟩
  obtain ⟨p8, rfl⟩ := gw_of_below hb1
  obtain ⟨q8, rfl⟩ := ptr_opt ho8
  have HO8 := Lib.hid ho8; clear ho8 hb1
  go_wp2_with fail
  obtain ⟨W0, hW0⟩ : ∃ W0, W0 = gw (gw (gw (gw (gw (gw (gw (gw w p1) p2) p3) p4) p5) p6) p7) p8 := ⟨_, rfl⟩
  have b0 : Below w.heap.size w W0 := by rw [hW0]; (repeat (first | exact Below.refl _ _ | refine Below.drew ?_ | (refine below_gw' ?_ (by first | omega | (simp [go_sem]; done) | (simp [go_sem]; omega)) _) | (refine Below.alloc ?_ (by first | omega | (simp [go_sem]; done) | (simp [go_sem]; omega)) _) | (refine Below.setCell ?_ (by first | omega | (simp [go_sem]; done) | (simp [go_sem]; omega)) _)))
  have o4 : OptAt 80 W0 X (.pointer q4) := by rw [hW0]; exact HO4.out.below (by (repeat (first | exact Below.refl _ _ | refine Below.drew ?_ | (refine below_gw' ?_ (by first | omega | (simp [go_sem]; done) | (simp [go_sem]; omega)) _) | (refine Below.alloc ?_ (by first | omega | (simp [go_sem]; done) | (simp [go_sem]; omega)) _) | (refine Below.setCell ?_ (by first | omega | (simp [go_sem]; done) | (simp [go_sem]; omega)) _))))
  have o6 : OptAt 80 W0 Y (.pointer q6) := by rw [hW0]; exact HO6.out.below (by (repeat (first | exact Below.refl _ _ | refine Below.drew ?_ | (refine below_gw' ?_ (by first | omega | (simp [go_sem]; done) | (simp [go_sem]; omega)) _) | (refine Below.alloc ?_ (by first | omega | (simp [go_sem]; done) | (simp [go_sem]; omega)) _) | (refine Below.setCell ?_ (by first | omega | (simp [go_sem]; done) | (simp [go_sem]; omega)) _))))
  have o7 : OptAt 78 W0 X (.pointer q7) := by rw [hW0]; exact HO7.out.below (by (repeat (first | exact Below.refl _ _ | refine Below.drew ?_ | (refine below_gw' ?_ (by first | omega | (simp [go_sem]; done) | (simp [go_sem]; omega)) _) | (refine Below.alloc ?_ (by first | omega | (simp [go_sem]; done) | (simp [go_sem]; omega)) _) | (refine Below.setCell ?_ (by first | omega | (simp [go_sem]; done) | (simp [go_sem]; omega)) _))))
  have o8 : OptAt 78 W0 Y (.pointer q8) := by rw [hW0]; exact HO8.out.below (by (repeat (first | exact Below.refl _ _ | refine Below.drew ?_ | (refine below_gw' ?_ (by first | omega | (simp [go_sem]; done) | (simp [go_sem]; omega)) _) | (refine Below.alloc ?_ (by first | omega | (simp [go_sem]; done) | (simp [go_sem]; omega)) _) | (refine Below.setCell ?_ (by first | omega | (simp [go_sem]; done) | (simp [go_sem]; omega)) _))))
  have HB0 := Lib.hid b0; clear b0
  have O4 := Lib.hid o4; clear o4 HO4
  have O6 := Lib.hid o6; clear o6 HO6
  have O7 := Lib.hid o7; clear o7 HO7
  have O8 := Lib.hid o8; clear o8 HO8 HR1 HR2 HR3 HR5 HWA HWB HGL HGM HPL HPM HRL HRM
  rw [← hW0]
  clear hW0
  (with_reducible refine (HNX.out _ _ O7.out).mono ?_)
  rintro e w9 ⟨v9, rfl, hown9, hnil9, hb9⟩
  have H9 := Lib.hid hb9; clear hb9
  have HOWN9 := Lib.hid hown9; clear hown9
  have HNIL9 := Lib.hid hnil9; clear hnil9
  go_wp2_with fail
  (with_reducible refine (HNY.out _ _ (O8.out.below H9.out)).mono ?_)
  rintro e w10 ⟨v10, rfl, hown10, hnil10, hb10⟩
  have H10 : Hid (Below W0.heap.size W0 w10) := Lib.hid (H9.out.trans (hb10.mono H9.out.size))
  have HOWN9b := Lib.hid (owns_below' HOWN9.out hb10)
  have HSRC := Lib.hid (src_of_row (Row.of_owns hown10) hnil10)
  clear hown10 hnil10 hb10
  go_wp2_with (at_builtin; refine wpList_append_src rfl _ _ 53 rfl W0.heap.size 9 i0 (.string ⟨#[]⟩) 1 16 Tryz.underlying53 hi hz0 hz1 hz2 rfl (by decide) _ _ _ rfl HOWN9b.out v10 _ _ rfl HSRC.out (by rw [List.length_map, Nat.mul_one]) (enc_one _) (by unfold maxLen; omega) (by omega) H10.out.size ?_)
  intro v11 w11 hown11 hgrow11 hiff11
  have H11 : Hid (Below W0.heap.size W0 w11) := Lib.hid (H10.out.grown hgrow11 H10.out.size (own_ge HOWN9.out))
  have hown12 : w11.ownsRow W0.heap.size 9 1 v11 (LX ++ LY).length ((LX ++ LY).map Proofs.encStr) := by rw [List.length_append, List.map_append]; exact hown11
  have hnil12 : LX ++ LY = [] → v11 = .slice none 0 0 := fun h => by
    obtain ⟨h1, h2⟩ := List.append_eq_nil_iff.1 h
    exact hiff11.2 ⟨HNIL9.out h1, by first | rfl | (rw [h2]; done) | (rw [h2]; rfl)⟩
  have hsort := sort_any W0.heap.size v11 (LX ++ LY) w11 hown12 hnil12 hlen2 H11.out.size
  have HSORT := Lib.hid hsort
  have HNIL12 := Lib.hid hnil12
  clear hsort hnil12 hown12 hown11 hgrow11 hiff11
  go_wp2_with fail
  (with_reducible refine HSORT.out.mono ?_)
  rintro e w12 ⟨rfl, hown12, hb12⟩
  have H12 : Hid (Below W0.heap.size W0 w12) := Lib.hid (H11.out.trans hb12)
  have hcmp := compact_sorted W0.heap.size hown12 HNIL12.out hlen2 H12.out.size
  have HCMP := Lib.hid hcmp
  clear hcmp hown12 hb12
  go_wp2_with fail
  (with_reducible refine HCMP.out.mono ?_)
  rintro e w13 ⟨v13, rfl, hrow13, _, hb13⟩
  have H13 : Hid (Below W0.heap.size W0 w13) := Lib.hid (H12.out.trans hb13)
  obtain ⟨p13, rfl⟩ := gw_of_below H13.out
  have HROW13 := Lib.hid hrow13
  clear hrow13 hb13 H13 HCMP H12 HNIL12 HSORT H11 HSRC HOWN9b H10 HNIL9 HOWN9 H9 HNX HNY
  go_wp2_with fail
  (with_reducible refine (alive17 _ (HT.out.below (HB0.out.trans (Below.mono (show Below W0.heap.size W0 _ by (repeat (first | exact Below.refl _ _ | refine Below.drew ?_ | (refine below_gw' ?_ (by first | omega | (simp [go_sem]; done) | (simp [go_sem]; omega)) _) | (refine Below.alloc ?_ (by first | omega | (simp [go_sem]; done) | (simp [go_sem]; omega)) _) | (refine Below.setCell ?_ (by first | omega | (simp [go_sem]; done) | (simp [go_sem]; omega)) _)))) HB0.out.size)))).mono ?_)
  rintro e w14 ⟨rfl, hb14⟩
  obtain ⟨p14, rfl⟩ := gw_of_below hb14
  clear hb14
  go_wp2_with fail
  have hargs : ArgsAt 80 ((gw (gw W0 p13) p14).alloc (.cells #[.pointer q4, .pointer q6] 26)) [X, Y] (.slice (some ⟨W0.heap.size + p13.os.size + p14.os.size, 0, none⟩) 2 2) := ⟨_, 0, 2, rfl, by simp [go_sem], fun j o hx => by
    match j, hx with
    | 0, hx => simp at hx; subst hx; exact ⟨.pointer q4, by simp [go_sem], O4.out.below (by (repeat (first | exact Below.refl _ _ | refine Below.drew ?_ | (refine below_gw' ?_ (by first | omega | (simp [go_sem]; done) | (simp [go_sem]; omega)) _) | (refine Below.alloc ?_ (by first | omega | (simp [go_sem]; done) | (simp [go_sem]; omega)) _) | (refine Below.setCell ?_ (by first | omega | (simp [go_sem]; done) | (simp [go_sem]; omega)) _))))⟩
    | 1, hx => simp at hx; subst hx; exact ⟨.pointer q6, by simp [go_sem], O6.out.below (by (repeat (first | exact Below.refl _ _ | refine Below.drew ?_ | (refine below_gw' ?_ (by first | omega | (simp [go_sem]; done) | (simp [go_sem]; omega)) _) | (refine Below.alloc ?_ (by first | omega | (simp [go_sem]; done) | (simp [go_sem]; omega)) _) | (refine Below.setCell ?_ (by first | omega | (simp [go_sem]; done) | (simp [go_sem]; omega)) _))))⟩⟩
  (with_reducible refine (HNN.out _ _ hargs).mono ?_)
  rintro e w15 ⟨v15, rfl, hrow15, _, hb15⟩
  obtain ⟨p15, rfl⟩ := gw_of_below hb15
  have HROW15 := Lib.hid hrow15
  clear hb15 hrow15 hargs
  go_wp2_with fail
  (with_reducible refine (HEQ.out _ _ _ HROW15.out (HROW13.out.below (by (repeat (first | exact Below.refl _ _ | refine Below.drew ?_ | (refine below_gw' ?_ (by first | omega | (simp [go_sem]; done) | (simp [go_sem]; omega)) _) | (refine Below.alloc ?_ (by first | omega | (simp [go_sem]; done) | (simp [go_sem]; omega)) _) | (refine Below.setCell ?_ (by first | omega | (simp [go_sem]; done) | (simp [go_sem]; omega)) _)))))).mono ?_)
  rintro e w16 ⟨rfl, hb16⟩
  obtain ⟨p16, rfl⟩ := gw_of_below hb16
  clear hb16
  go_wp2_with fail
  (with_reducible refine (HSP.out _ _ _ (O4.out.below (by (repeat (first | exact Below.refl _ _ | refine Below.drew ?_ | (refine below_gw' ?_ (by first | omega | (simp [go_sem]; done) | (simp [go_sem]; omega)) _) | (refine Below.alloc ?_ (by first | omega | (simp [go_sem]; done) | (simp [go_sem]; omega)) _) | (refine Below.setCell ?_ (by first | omega | (simp [go_sem]; done) | (simp [go_sem]; omega)) _))))) (O6.out.below (by (repeat (first | exact Below.refl _ _ | refine Below.drew ?_ | (refine below_gw' ?_ (by first | omega | (simp [go_sem]; done) | (simp [go_sem]; omega)) _) | (refine Below.alloc ?_ (by first | omega | (simp [go_sem]; done) | (simp [go_sem]; omega)) _) | (refine Below.setCell ?_ (by first | omega | (simp [go_sem]; done) | (simp [go_sem]; omega)) _)))))).mono ?_)
  rintro e w17 ⟨rfl, hb17⟩
  obtain ⟨p17, rfl⟩ := gw_of_below hb17
  clear hb17
  go_wp2_with fail
  (with_reducible refine (HSR.out _ _ _ (O7.out.below (by (repeat (first | exact Below.refl _ _ | refine Below.drew ?_ | (refine below_gw' ?_ (by first | omega | (simp [go_sem]; done) | (simp [go_sem]; omega)) _) | (refine Below.alloc ?_ (by first | omega | (simp [go_sem]; done) | (simp [go_sem]; omega)) _) | (refine Below.setCell ?_ (by first | omega | (simp [go_sem]; done) | (simp [go_sem]; omega)) _))))) (O8.out.below (by (repeat (first | exact Below.refl _ _ | refine Below.drew ?_ | (refine below_gw' ?_ (by first | omega | (simp [go_sem]; done) | (simp [go_sem]; omega)) _) | (refine Below.alloc ?_ (by first | omega | (simp [go_sem]; done) | (simp [go_sem]; omega)) _) | (refine Below.setCell ?_ (by first | omega | (simp [go_sem]; done) | (simp [go_sem]; omega)) _)))))).mono ?_)
  rintro e w18 ⟨rfl, hb18⟩
  obtain ⟨p18, rfl⟩ := gw_of_below hb18
  clear hb18
  go_wp2_with fail
  go_ret
  exact ⟨rfl, HB0.out.trans (Below.mono (show Below W0.heap.size W0 _ by (repeat (first | exact Below.refl _ _ | refine Below.drew ?_ | (refine below_gw' ?_ (by first | omega | (simp [go_sem]; done) | (simp [go_sem]; omega)) _) | (refine Below.alloc ?_ (by first | omega | (simp [go_sem]; done) | (simp [go_sem]; omega)) _) | (refine Below.setCell ?_ (by first | omega | (simp [go_sem]; done) | (simp [go_sem]; omega)) _)))) HB0.out.size)⟩
theorem lawENames_walk (a b : ByteArray) (w : World) (ha : a.size ≤ maxLen) (hb : b.size ≤ maxLen) (hT : Tabs w) :
    Calls Tryz.prog 8 #[.string a, .string b] w fun e w' => e = .returned (.bool true) ∧ Below w.heap.size w w' := by
  rcases h1 : knownP a with _ | l
  · exact namesNo a b w ha hb hT (.inl h1)
  · rcases h2 : knownP b with _ | m
    · exact namesNo a b w ha hb hT (.inr h2)
    · exact namesYes a b l m w ha hb hT h1 h2
end Go.Proofs.YtpkbonfbehhbdaaGreatDoor

/- The statement ExprNames of chapter 17: proved for every input; no condition beyond the statement's own. -/
namespace Go.Proofs.YtpkbonfbehhbdaaGreatDoor.lawExprNames
open Go.ChangeShapes Go.WideShapes Go.ChangeAt Go.RowKit Go.Joins
open Go.ChangeMaps (open_string shut_string)

theorem own : ownKnob Tryz.prog.godebug = none := by kernel_rfl
theorem laidOut : laidOutB Tryz.prog = true := by kernel_rfl

/-- A table of the row's list reads as it is listed, wherever it stands on the list. -/
theorem tab_of_list {P : Program} {W : World} {name : String} {k : IntKind} {zs : List Int} {g : Nat} {t e : TypeId} {n : Nat}
    (hg : P.globalNamed name = some g) (hty : (P.globals[g]?).map (·.type) = some t) (ht : P.underlying t = some (.array n e)) (he : P.underlying e = some (.int k)) (hce : P.cellsOf e = 1) (hct : P.cellsOf t = n) :
    ∀ (l : List (String × DataW Unit)) (ps : List MemPlace), DataW.LaidVars P W l ps → (name, Lib.tabData k zs) ∈ l → Lib.TabIs P W name k zs
  | [], _, _, hm => by cases hm
  | x :: l, ps, h, hm => by
    obtain ⟨nm, d⟩ := x
    obtain ⟨g', t', cs, fuel, p, q, hg', ht', hvar, hd, hrest, _⟩ := h
    rcases List.mem_cons.1 hm with hm | hm
    · cases hm
      obtain rfl := Option.some.inj (hg.symm.trans hg')
      obtain rfl := Option.some.inj (hty.symm.trans ht')
      unfold Lib.TabIs
      rw [hvar, ← Lib.cells_of_tab ht he hce hct hd]
    · exact tab_of_list hg hty ht he hce hct l q hrest hm

theorem table {W : World} (h : laidMetH Tryz.prog Rows.exprNamesRow.laid W) : Tabs W := by
  obtain ⟨ps, hv, _⟩ := h
  have ht : Lib.TabIs Tryz.prog W "math/bits.deBruijn64tab" .u8 [0, 1, 56, 2, 57, 49, 28, 3, 61, 58, 42, 50, 38, 29, 17, 4, 62, 47, 59, 36, 45, 43, 51, 22, 53, 39, 33, 30, 24, 18, 12, 5, 63, 55, 48, 27, 60, 41, 37, 16, 46, 35, 44, 21, 52, 32, 23, 11, 54, 26, 40, 15, 34, 20, 31, 10, 25, 14, 19, 9, 13, 8, 7, 6] :=
    tab_of_list (g := 3) (t := 199) (e := 5) (n := 64) (by kernel_rfl) (by kernel_rfl) Tryz.underlying199 Tryz.underlying5 (by kernel_rfl) (by kernel_rfl) _ ps hv (.tail _ (.head _))
  exact ht.cell (by kernel_rfl) 15 (by decide)

set_option maxRecDepth 100000 in
/-- What the walk gives, for every argument and every world that holds the tables. -/
theorem contract (H : Type) (enc : TypeId × Value → H) (W : World) (base : Nat) (args : Array Value) (ds gs : List (DataW H)) (before : List MemPlace)
    (hval : ∀ (j : Nat) t v, Tryz.f8.params[j]? = some t → args[j]? = some v → Value.okWide Tryz.prog W .any base t v)
    (hW : DataW.Whole enc Tryz.prog Tryz.f8.params.toList Rows.exprNamesSpec.vars false W args.toList ds gs before) (hL : laidMetH Tryz.prog Rows.exprNamesRow.laid W) :
    Calls Tryz.prog 8 args W fun e W' => ∃ v, e = .returned v ∧ Rows.exprNamesSpec.post enc Tryz.prog Tryz.f8 false true false false W args v W' := by
  have hW' := hW
  obtain ⟨p, q, hA0, hV, rfl, hfz, hnd⟩ := hW
  have hA : DataW.TrodAll enc Tryz.prog W 0 (fun _ => true) true Tryz.f8.params.toList args.toList ds p := hA0
  rw [Tryz.params8] at hA hval
  obtain ⟨v0, vs0, d0, ds0, p0, q0, hargs, rfl, rfl, h0, r0⟩ := trodAll_cons hA
  obtain ⟨v1, vs1, d1, ds1, p1, q1, rfl, rfl, rfl, h1, r1⟩ := trodAll_cons r0
  obtain ⟨rfl, rfl, rfl⟩ := trodAll_nil r1
  obtain rfl : args = #[v0, v1] := by cases args; simp_all
  obtain ⟨rfl, rfl⟩ := trodVars_none hV
  have k0 := h0
  have lt0 : ∀ x ∈ p0, x.block < W.heap.size := by obtain ⟨m, hm⟩ := k0; exact DataW.trod_lt m _ _ _ hm
  have k1 := h1
  have lt1 : ∀ x ∈ p1, x.block < W.heap.size := by obtain ⟨m, hm⟩ := k1; exact DataW.trod_lt m _ _ _ hm
  obtain ⟨s0, rfl, hd0, rfl, w0⟩ := open_string Tryz.underlying9 (hval 0 9 v0 rfl rfl) h0
  obtain ⟨s1, rfl, hd1, rfl, w1⟩ := open_string Tryz.underlying9 (hval 1 9 v1 rfl rfl) h1
  refine (lawENames_walk s0 s1 W w0 w1 (table hL)).mono fun e W' ⟨he, bel⟩ => ?_
  subst he
  exact ⟨_, rfl, _, _, _, [], _, [], hW', trodAll_mk1 (shut_bool Tryz.underlying4 _), (trodAll_cons_mk (Below.trod laidOut (by kernel_rfl) (of_decide_eq_true (by kernel_rfl)) k0 bel lt0) (trodAll_cons_mk (Below.trod laidOut (by kernel_rfl) (of_decide_eq_true (by kernel_rfl)) k1 bel lt1) trodAll_mk0)), rfl, bel.frame _, fun h => by cases h⟩

/-- A world for the witness: the settled one, the tables holding what their initialisers lay. -/
noncomputable def laidWorld (os : Os) : World :=
  { World.holding Tryz.prog os ⟨#[], #[], []⟩ with heap := ((((World.holding Tryz.prog os ⟨#[], #[], []⟩).heap.modify 2 fun
      | .cells _ t frozen => .cells #[.int .u8 0, .int .u8 1, .int .u8 28, .int .u8 2, .int .u8 29, .int .u8 14, .int .u8 24, .int .u8 3, .int .u8 30, .int .u8 22, .int .u8 20, .int .u8 15, .int .u8 25, .int .u8 17, .int .u8 4, .int .u8 8, .int .u8 31, .int .u8 27, .int .u8 13, .int .u8 23, .int .u8 21, .int .u8 19, .int .u8 16, .int .u8 7, .int .u8 26, .int .u8 12, .int .u8 18, .int .u8 6, .int .u8 11, .int .u8 5, .int .u8 10, .int .u8 9] t frozen
      | o => o).modify 3 fun
      | .cells _ t frozen => .cells #[.int .u8 0, .int .u8 1, .int .u8 56, .int .u8 2, .int .u8 57, .int .u8 49, .int .u8 28, .int .u8 3, .int .u8 61, .int .u8 58, .int .u8 42, .int .u8 50, .int .u8 38, .int .u8 29, .int .u8 17, .int .u8 4, .int .u8 62, .int .u8 47, .int .u8 59, .int .u8 36, .int .u8 45, .int .u8 43, .int .u8 51, .int .u8 22, .int .u8 53, .int .u8 39, .int .u8 33, .int .u8 30, .int .u8 24, .int .u8 18, .int .u8 12, .int .u8 5, .int .u8 63, .int .u8 55, .int .u8 48, .int .u8 27, .int .u8 60, .int .u8 41, .int .u8 37, .int .u8 16, .int .u8 46, .int .u8 35, .int .u8 44, .int .u8 21, .int .u8 52, .int .u8 32, .int .u8 23, .int .u8 11, .int .u8 54, .int .u8 26, .int .u8 40, .int .u8 15, .int .u8 34, .int .u8 20, .int .u8 31, .int .u8 10, .int .u8 25, .int .u8 14, .int .u8 19, .int .u8 9, .int .u8 13, .int .u8 8, .int .u8 7, .int .u8 6] t frozen
      | o => o).modify 0 fun
      | .cells _ t frozen => .cells #[.int .u64 1, .int .u64 10, .int .u64 100, .int .u64 1000, .int .u64 10000, .int .u64 100000, .int .u64 1000000, .int .u64 10000000, .int .u64 100000000, .int .u64 1000000000, .int .u64 10000000000, .int .u64 100000000000, .int .u64 1000000000000, .int .u64 10000000000000, .int .u64 100000000000000, .int .u64 1000000000000000, .int .u64 10000000000000000, .int .u64 100000000000000000, .int .u64 1000000000000000000, .int .u64 10000000000000000000] t frozen
      | o => o) }
theorem laid_met (os : Os) : laidMet Tryz.prog Rows.exprNamesRow.laid ((laidWorld os).forCall (fun _ _ => 0) ⟨#[], #[Value.string ⟨#[]⟩, .string ⟨#[]⟩], []⟩).memory :=
  laidMet_of_run' 8 (by kernel_rfl) (by kernel_rfl)
theorem reads (os : Os) {H : Type} (enc : TypeId × Value → H) : ∃ places, DataW.whole enc Tryz.prog ((laidWorld os).forCall (fun _ _ => 0) ⟨#[], #[Value.string ⟨#[]⟩, .string ⟨#[]⟩], []⟩).memory Tryz.f8.params.toList Rows.exprNamesSpec.vars false (#[Value.string ⟨#[]⟩, .string ⟨#[]⟩] : Array Value).toList 8 = some ([.lit (.string []), .lit (.string [])], [], places) :=
  ⟨[], by kernel_rfl⟩

set_option maxRecDepth 100000 in
theorem lifted (os : Os) (started : os.Started) (H : Type) (enc : TypeId × Value → H) (F : Stop.Interp) :
    ReturnsInHanded {} Tryz.checked os 8 .any ((OpenSpec.ofChange Rows.exprNamesSpec).preRow enc Tryz.prog Tryz.f8 Rows.exprNamesRow.domain false Rows.exprNamesRow.laid) (((OpenSpec.ofChange Rows.exprNamesSpec).at F).post enc Tryz.prog Tryz.f8 false true false false) := by
  obtain ⟨places, hx⟩ := reads os enc
  refine returnsInHanded_of_row (C := Tryz.checked) (s := OpenSpec.ofChange Rows.exprNamesSpec) own started (by kernel_rfl) Tryz.func8
    (witness_row_at (enc := enc) (C := Tryz.checked) false (laidWorld os) #[Value.string ⟨#[]⟩, .string ⟨#[]⟩] rfl (by kernel_rfl) (by kernel_rfl) (by kernel_rfl)
      (OpenSpec.preRow_of_cond 8 hx (by kernel_rfl) (fun k hk => by cases hk) (by kernel_rfl) (laid_met os))) ?_
  intro W base args ds gs before hval hW _ _ _ hL _ _
  exact contract H enc W base args ds gs before hval hW hL

theorem said : Rows.ExprNamesSaid :=
  OpenClaim.holds_of_cond 8 Tryz.f8 rfl rfl rfl rfl rfl rfl rfl ⟨rfl, rfl, rfl, rfl, rfl⟩ rfl rfl rfl rfl rfl (by kernel_rfl) Tryz.func8 (by kernel_rfl)
    (of_decide_eq_true (by kernel_rfl)) (by unfold Func.isWrapper; first | (rw [if_pos (by decide +kernel)]; kernel_rfl) | (rw [if_neg (by decide +kernel)]; exact ⟨rfl, rfl⟩))
    (fun os started H enc _ F => by rw [OpenClaim.pre_eq_preRow]; exact lifted os started H enc F)

/-- No parameter wants a stand-in; the program's own looks are off. -/
theorem plain (f : FuncId) (fn : Func) (hf : Tryz.pinned.checked.prog.funcNamed "breadboard/breadboardlaw17.ExprNames" = some f) (hfn : Tryz.pinned.checked.prog.funcs[f]? = some fn) :
    true = Tryz.pinned.checked.prog.looks [] ∧ ∀ (j : Nat) t, fn.params[j]? = some t → Tryz.pinned.checked.prog.wantsStandIn t = false := by
  obtain rfl : f = 8 := Option.some.inj ((show Tryz.prog.funcNamed "breadboard/breadboardlaw17.ExprNames" = some 8 by kernel_rfl).symm.trans hf) |>.symm
  obtain rfl : fn = Tryz.f8 := (Option.some.inj (Tryz.func8.symm.trans hfn)).symm
  refine ⟨by kernel_rfl, fun j t ht => ?_⟩
  rw [Tryz.params8] at ht
  have hm : t ∈ [9, 9] := by simpa using Array.mem_of_getElem? ht
  have hall : ([9, 9].all fun u => !Tryz.prog.wantsStandIn u) = true := by kernel_rfl
  exact (show Tryz.prog.wantsStandIn t = false by simpa using List.all_eq_true.1 hall t hm)

/-- The card. -/
theorem proved : Rows.ExprNamesCardSaid :=
  Claim7.holds_tied_plain_at .later [] _ _ _ _ said (fun _ h => by cases h) (by kernel_rfl) (fun _ h => by cases h) exprNames_row_tie rfl ⟨rfl, rfl⟩ (by kernel_rfl) rfl plain (by kernel_rfl)
end Go.Proofs.YtpkbonfbehhbdaaGreatDoor.lawExprNames
