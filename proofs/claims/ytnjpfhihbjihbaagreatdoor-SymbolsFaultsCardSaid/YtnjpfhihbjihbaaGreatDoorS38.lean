/- Joined texts: NumText, TextE, AliveP, Alive20. -/
import Derived.Test.YtnjpfhihbjihbaaGreatDoorS03
import Derived.Test.YtnjpfhihbjihbaaGreatDoorS08
import Derived.Test.YtnjpfhihbjihbaaGreatDoorS14
import Derived.Test.YtnjpfhihbjihbaaGreatDoorS17
import Derived.Test.YtnjpfhihbjihbaaGreatDoorS18
import Derived.Test.YtnjpfhihbjihbaaGreatDoorS31
import Derived.Test.YtnjpfhihbjihbaaGreatDoorS37
/- num.Text. -/
namespace Go.Proofs.YtnjpfhihbjihbaaGreatDoor
open Go.RowKit Go.Sort

/-- The form in which num.Text prints a number. -/
def numText (n : Int) : ByteArray :=
  if n < 0 ∨ 65535 < n then ⟨#[]⟩
  else if n ≤ 9 then ⟨#[UInt8.ofNat (48 + n.toNat)]⟩
  else if 57 < ((upper ⟨(hexDigs 4 n.toNat).toArray⟩ ++ (⟨#[72]⟩ : ByteArray)).data[0]?.getD 0).toNat then (⟨#[48]⟩ : ByteArray) ++ (upper ⟨(hexDigs 4 n.toNat).toArray⟩ ++ (⟨#[72]⟩ : ByteArray))
  else upper ⟨(hexDigs 4 n.toNat).toArray⟩ ++ (⟨#[72]⟩ : ByteArray)

theorem hexDigs_len : ∀ (f u : Nat), (hexDigs f u).length ≤ f
  | 0, _ => by simp [hexDigs]
  | f + 1, u => by
    unfold hexDigs
    split
    · simp
    · have := hexDigs_len f (u / 16); simp; omega

theorem getD_first (X : ByteArray) (h : 0 < X.size) : X.data[0]?.getD 0 = X[0] := by
  rw [Array.getElem?_eq_getElem (by exact h)]; rfl

set_option maxHeartbeats 1000000 in
theorem numText_any (n : Int) (w : World) (hT : Tabs w) :
    Calls Tryz.prog 177 #[.int .i64 n] w fun e w' => e = .returned (.string (numText n)) ∧ Below w.heap.size w w' := by
  by_cases h0 : n < 0 ∨ 65535 < n
  · have hf : (decide (0 ≤ n) && decide (n ≤ 65535)) = false := by simp; omega
    have hr : numText n = ⟨#[]⟩ := by unfold numText; rw [if_pos h0]
    rw [hr]
    clear h0
    go_enter Tryz.func177, Tryz.ntmps177
    go_wp2_with fail
    refine (fits1 _ _ n _ _ ?hc1).mono ?_
    case hc1 => simp [go_sem]
    rintro e w2 ⟨rfl, rfl⟩
    rw [hf]
    go_wp2_with fail
    go_ret
    exact ⟨rfl, by (repeat (first | exact Below.refl _ _ | refine Below.drew ?_ | (refine below_gw' ?_ (by first | omega | (simp [go_sem]; done) | (simp [go_sem]; omega)) _) | (refine Below.alloc ?_ (by first | omega | (simp [go_sem]; done) | (simp [go_sem]; omega)) _) | (refine Below.setCell ?_ (by first | omega | (simp [go_sem]; done) | (simp [go_sem]; omega)) _)))⟩
  · have hf : (decide (0 ≤ n) && decide (n ≤ 65535)) = true := by simp; omega
    have hf0 : 0 ≤ n := by omega
    obtain ⟨m, rfl⟩ := Int.eq_ofNat_of_zero_le hf0
    have hf1 : m ≤ 65535 := by omega
    by_cases h9 : m ≤ 9
    · have hr : numText m = ⟨(Lib.decDigits m).toArray⟩ := by
        have : m = 0 ∨ m = 1 ∨ m = 2 ∨ m = 3 ∨ m = 4 ∨ m = 5 ∨ m = 6 ∨ m = 7 ∨ m = 8 ∨ m = 9 := by omega
        rcases this with rfl | rfl | rfl | rfl | rfl | rfl | rfl | rfl | rfl | rfl <;> rw [Lib.decDigits] <;> rfl
      have h9i : (m : Int) ≤ 9 := by omega
      rw [hr]
      clear h0
      go_enter Tryz.func177, Tryz.ntmps177
      go_wp2_with fail
      refine (fits1 _ _ m _ _ ?hc2).mono ?_
      case hc2 => simp [go_sem]
      rintro e w2 ⟨rfl, rfl⟩
      rw [hf]
      go_wp2_with fail
      refine (Tryz.strconv_Itoa_small m (by omega) _).mono ?_
      rintro e w2 ⟨rfl, rfl⟩
      go_wp2_with fail
      go_ret
      exact ⟨rfl, by (repeat (first | exact Below.refl _ _ | refine Below.drew ?_ | (refine below_gw' ?_ (by first | omega | (simp [go_sem]; done) | (simp [go_sem]; omega)) _) | (refine Below.alloc ?_ (by first | omega | (simp [go_sem]; done) | (simp [go_sem]; omega)) _) | (refine Below.setCell ?_ (by first | omega | (simp [go_sem]; done) | (simp [go_sem]; omega)) _)))⟩
    · have h9i : ¬ (m : Int) ≤ 9 := by omega
      go_enter Tryz.func177, Tryz.ntmps177
      go_wp2_with fail
      refine (fits1 _ _ m _ _ ?hc3).mono ?_
      case hc3 => simp [go_sem]
      rintro e w2 ⟨rfl, rfl⟩
      rw [hf]
      go_wp2_with fail
      refine (fmtInt16 m _ (by omega) hf1 (hT.below (by (repeat (first | exact Below.refl _ _ | refine Below.drew ?_ | (refine below_gw' ?_ (by first | omega | (simp [go_sem]; done) | (simp [go_sem]; omega)) _) | (refine Below.alloc ?_ (by first | omega | (simp [go_sem]; done) | (simp [go_sem]; omega)) _) | (refine Below.setCell ?_ (by first | omega | (simp [go_sem]; done) | (simp [go_sem]; omega)) _)))))).mono ?_
      rintro e w2 ⟨rfl, hb⟩
      obtain ⟨p1, rfl⟩ := gw_of_below hb
      clear hb
      go_wp2_with fail
      refine (upper_any _ _ ?hu).mono ?_
      case hu => have := hexDigs_len 4 m; unfold maxLen; show (hexDigs 4 m).toArray.size ≤ _; simp; omega
      rintro e w2 ⟨rfl, hb⟩
      obtain ⟨p2, rfl⟩ := gw_of_below hb
      clear hb
      have hr : numText m = if 57 < ((upper ⟨(hexDigs 4 m).toArray⟩ ++ (⟨#[72]⟩ : ByteArray)).data[0]?.getD 0).toNat then (⟨#[48]⟩ : ByteArray) ++ (upper ⟨(hexDigs 4 m).toArray⟩ ++ (⟨#[72]⟩ : ByteArray)) else upper ⟨(hexDigs 4 m).toArray⟩ ++ (⟨#[72]⟩ : ByteArray) := by
        unfold numText
        rw [if_neg h0, if_neg (by omega)]
        rfl
      have hU4 : (upper ⟨(hexDigs 4 m).toArray⟩).size ≤ 4 := by
        have := hexDigs_len 4 m
        show ((((hexDigs 4 m).toArray.toList.map up).toArray).size ≤ 4)
        simp; omega
      have Hr := Lib.hid hr; clear hr h0
      generalize upper ⟨(hexDigs 4 m).toArray⟩ = U at Hr hU4 ⊢
      go_wp2_with fail
      · go_ret
        refine ⟨?_, by (repeat (first | exact Below.refl _ _ | refine Below.drew ?_ | (refine below_gw' ?_ (by first | omega | (simp [go_sem]; done) | (simp [go_sem]; omega)) _) | (refine Below.alloc ?_ (by first | omega | (simp [go_sem]; done) | (simp [go_sem]; omega)) _) | (refine Below.setCell ?_ (by first | omega | (simp [go_sem]; done) | (simp [go_sem]; omega)) _)))⟩
        rename_i h
        rw [Hr.out, if_pos (by rw [getD_first _ (by simp; show 0 < U.size + 1; omega)]; omega)]
        rfl
      · go_ret
        refine ⟨?_, by (repeat (first | exact Below.refl _ _ | refine Below.drew ?_ | (refine below_gw' ?_ (by first | omega | (simp [go_sem]; done) | (simp [go_sem]; omega)) _) | (refine Below.alloc ?_ (by first | omega | (simp [go_sem]; done) | (simp [go_sem]; omega)) _) | (refine Below.setCell ?_ (by first | omega | (simp [go_sem]; done) | (simp [go_sem]; omega)) _)))⟩
        rename_i h
        rw [Hr.out, if_neg (by rw [getD_first _ (by simp; show 0 < U.size + 1; omega)]; omega)]
        rfl
end Go.Proofs.YtnjpfhihbjihbaaGreatDoor

/- The texts of expressions. No program in sight. -/
namespace Go.Proofs.YtnjpfhihbjihbaaGreatDoor
open Go.RowKit Go.Sort

/-- A text in brackets, where needed. -/
def brk (c : Bool) (s : ByteArray) : ByteArray := if c then ⟨#[40]⟩ ++ s ++ ⟨#[41]⟩ else s
/-- The text of an expression. -/
def Ex.text : Ex → ByteArray
  | .num n => numText n
  | .sym s => s
  | .here => ⟨#[36]⟩
  | .un op a => op ++ brk (a.kd == 5) a.text
  | .bin op a b => brk (a.kd == 5 && decide (lvlS a.nm < lvlS op)) a.text ++ ⟨#[32]⟩ ++ op ++ ⟨#[32]⟩ ++ brk (b.kd == 5 && decide (lvlS b.nm ≤ lvlS op)) b.text
theorem brk_size (c : Bool) (s : ByteArray) : (brk c s).size ≤ s.size + 2 := by
  cases c
  · exact Nat.le_add_right _ _
  · show (⟨#[40]⟩ ++ s ++ ⟨#[41]⟩ : ByteArray).size ≤ _
    rw [ByteArray.size_append, ByteArray.size_append]
    show 1 + s.size + 1 ≤ _
    omega
theorem upper_len (l : ByteArray) : (upper l).size = l.size := by show (upper l).data.size = l.data.size; simp [upper]
theorem numText_size (n : Int) : (numText n).size ≤ 10 := by
  have h4 := hexDigs_len 4 n.toNat
  have hu : (upper ⟨(hexDigs 4 n.toNat).toArray⟩).size ≤ 4 := by rw [upper_len]; show (hexDigs 4 n.toNat).toArray.size ≤ 4; simpa using h4
  unfold numText
  split
  · show 0 ≤ 10; omega
  · split
    · show 1 ≤ 10; omega
    · split
      · rw [ByteArray.size_append, ByteArray.size_append]
        show 1 + (_ + 1) ≤ 10
        omega
      · rw [ByteArray.size_append]
        show _ + 1 ≤ 10
        omega
theorem op_size {op : ByteArray} (h : lvlS op ≠ 0) : op.size ≤ 3 := by
  have := lvlL_op _ h
  have e : op.size = op.toList.length := by rw [ByteArray.toList_eq]; show op.data.size = _; simp
  rw [e]
  rcases this with h | h | h | h | h | h | h | h | h | h <;> rw [h] <;> decide
theorem un_size {op : ByteArray} (h : op.toList = [45] ∨ op.toList = [43] ∨ op.toList = [126]) : op.size ≤ 3 := by
  have e : op.size = op.toList.length := by rw [ByteArray.toList_eq]; show op.data.size = _; simp
  rw [e]
  rcases h with h | h | h <;> rw [h] <;> decide
theorem text_size : ∀ x : Ex, x.good → x.text.size ≤ x.nodes * 1000100
  | .num n, _ => by have := numText_size n; show (numText n).size ≤ 1 * 1000100; omega
  | .sym s, h => by have h : s.size ≤ 1000000 := h; show s.size ≤ 1 * 1000100; omega
  | .here, _ => by show 1 ≤ 1 * 1000100; omega
  | .un op a, h => by
    have h1 := text_size a h.2
    have h2 := un_size h.1
    have h3 := brk_size (a.kd == 5) a.text
    show (op ++ brk (a.kd == 5) a.text).size ≤ (1 + a.nodes) * 1000100
    rw [ByteArray.size_append]
    omega
  | .bin op a b, h => by
    have h1 := text_size a h.2.1
    have h2 := text_size b h.2.2
    have h3 := op_size h.1
    have h4 := brk_size (a.kd == 5 && decide (lvlS a.nm < lvlS op)) a.text
    have h5 := brk_size (b.kd == 5 && decide (lvlS b.nm ≤ lvlS op)) b.text
    show (brk (a.kd == 5 && decide (lvlS a.nm < lvlS op)) a.text ++ ⟨#[32]⟩ ++ op ++ ⟨#[32]⟩ ++ brk (b.kd == 5 && decide (lvlS b.nm ≤ lvlS op)) b.text).size ≤ (1 + a.nodes + b.nodes) * 1000100
    rw [ByteArray.size_append, ByteArray.size_append, ByteArray.size_append, ByteArray.size_append]
    show _ + 1 + _ + 1 + _ ≤ _
    omega
end Go.Proofs.YtnjpfhihbjihbaaGreatDoor

/- The two examples of the chapter. No program in sight. -/
namespace Go.Proofs.YtnjpfhihbjihbaaGreatDoor
open Go.RowKit Go.Sort

def aLine : ByteArray := ⟨#[50, 32, 43, 32, 51, 32, 42, 32, 52, 32, 77, 79, 68, 32, 53]⟩
def bLine : ByteArray := ⟨#[40, 40, 49, 41, 41, 32, 45, 32, 40, 50, 32, 45, 32, 120, 41]⟩
def aToks : List Tok := [⟨2, ⟨#[]⟩, 2, 0⟩, ⟨4, ⟨#[43]⟩, 0, 2⟩, ⟨2, ⟨#[]⟩, 3, 4⟩, ⟨4, ⟨#[42]⟩, 0, 6⟩, ⟨2, ⟨#[]⟩, 4, 8⟩, ⟨1, ⟨#[77, 79, 68]⟩, 0, 10⟩, ⟨2, ⟨#[]⟩, 5, 14⟩]
def bToks : List Tok := [⟨4, ⟨#[40]⟩, 0, 0⟩, ⟨4, ⟨#[40]⟩, 0, 1⟩, ⟨2, ⟨#[]⟩, 1, 2⟩, ⟨4, ⟨#[41]⟩, 0, 3⟩, ⟨4, ⟨#[41]⟩, 0, 4⟩, ⟨4, ⟨#[45]⟩, 0, 6⟩, ⟨4, ⟨#[40]⟩, 0, 8⟩, ⟨2, ⟨#[]⟩, 2, 9⟩, ⟨4, ⟨#[45]⟩, 0, 11⟩, ⟨1, ⟨#[120]⟩, 0, 13⟩, ⟨4, ⟨#[41]⟩, 0, 14⟩]
theorem aToks_eq : toksP aLine = .ok (aToks ++ [⟨0, ⟨#[]⟩, 0, 15⟩]) := by kernel_rfl
theorem bToks_eq : toksP bLine = .ok (bToks ++ [⟨0, ⟨#[]⟩, 0, 15⟩]) := by kernel_rfl
def aEx : Ex := .bin ⟨#[43]⟩ (.num 2) (.bin sMOD (.bin ⟨#[42]⟩ (.num 3) (.num 4)) (.num 5))
def bEx : Ex := .bin ⟨#[45]⟩ (.num 1) (.bin ⟨#[45]⟩ (.num 2) (.sym ⟨#[120]⟩))
theorem g_num (n off : Int) : G exLang none [⟨2, ⟨#[]⟩, n, off⟩] (.num n) := by
  refine .atom _ _ ?_
  show tatom _ = _
  have h : (tnm ⟨2, ⟨#[]⟩, n, off⟩).toList = [] := by
    show (⟨#[]⟩ : ByteArray).toList = []
    rw [ByteArray.toList_eq]
  unfold tatom
  rw [h]
  rfl
theorem lv_of {t : Tok} {s : ByteArray} {k : Nat} (h1 : tnm t = s) (h2 : lvlS s = k) : exLang.lvl t = k := by show lvlS (tnm t) = k; rw [h1]; exact h2
theorem g_bin (k : Nat) (t : Tok) (l l' : List Tok) (a b : Ex) (s : ByteArray) (v : Nat) (h1 : tnm t = s) (h2 : lvlS s = v) (h0 : v ≠ 0) (hk : k ≤ v) (g1 : G exLang (some v) l a) (g2 : G exLang (some (v + 1)) l' b) : G exLang (some k) (l ++ t :: l') (.bin s a b) := by
  have e := lv_of h1 h2
  have h := G.bin (S := exLang) k t l l' a b (by rw [e]; exact h0) (by rw [e]; exact hk) (by rw [e]; exact g1) (by rw [e]; exact g2)
  have e2 : exLang.bin t a b = .bin s a b := by show Ex.bin (tnm t) a b = _; rw [h1]
  rw [e2] at h
  exact h
theorem a_gram : G exLang (some 1) aToks aEx :=
  g_bin 1 ⟨4, ⟨#[43]⟩, 0, 2⟩ [⟨2, ⟨#[]⟩, 2, 0⟩] [⟨2, ⟨#[]⟩, 3, 4⟩, ⟨4, ⟨#[42]⟩, 0, 6⟩, ⟨2, ⟨#[]⟩, 4, 8⟩, ⟨1, ⟨#[77, 79, 68]⟩, 0, 10⟩, ⟨2, ⟨#[]⟩, 5, 14⟩] _ _ ⟨#[43]⟩ 5 (by kernel_rfl) (by kernel_rfl) (by decide) (by decide) (.one _ _ _ (g_num 2 0))
    (g_bin 6 ⟨1, ⟨#[77, 79, 68]⟩, 0, 10⟩ [⟨2, ⟨#[]⟩, 3, 4⟩, ⟨4, ⟨#[42]⟩, 0, 6⟩, ⟨2, ⟨#[]⟩, 4, 8⟩] [⟨2, ⟨#[]⟩, 5, 14⟩] _ _ sMOD 6 (by kernel_rfl) (by kernel_rfl) (by decide) (by decide)
      (g_bin 6 ⟨4, ⟨#[42]⟩, 0, 6⟩ [⟨2, ⟨#[]⟩, 3, 4⟩] [⟨2, ⟨#[]⟩, 4, 8⟩] _ _ ⟨#[42]⟩ 6 (by kernel_rfl) (by kernel_rfl) (by decide) (by decide) (.one _ _ _ (g_num 3 4)) (.one _ _ _ (g_num 4 8)))
      (.one _ _ _ (g_num 5 14)))
theorem b_gram : G exLang (some 1) bToks bEx :=
  g_bin 1 ⟨4, ⟨#[45]⟩, 0, 6⟩ [⟨4, ⟨#[40]⟩, 0, 0⟩, ⟨4, ⟨#[40]⟩, 0, 1⟩, ⟨2, ⟨#[]⟩, 1, 2⟩, ⟨4, ⟨#[41]⟩, 0, 3⟩, ⟨4, ⟨#[41]⟩, 0, 4⟩] [⟨4, ⟨#[40]⟩, 0, 8⟩, ⟨2, ⟨#[]⟩, 2, 9⟩, ⟨4, ⟨#[45]⟩, 0, 11⟩, ⟨1, ⟨#[120]⟩, 0, 13⟩, ⟨4, ⟨#[41]⟩, 0, 14⟩] _ _ ⟨#[45]⟩ 5 (by kernel_rfl) (by kernel_rfl) (by decide) (by decide)
    (.one _ _ _ (G.par (S := exLang) ⟨4, ⟨#[40]⟩, 0, 0⟩ ⟨4, ⟨#[41]⟩, 0, 4⟩ [⟨4, ⟨#[40]⟩, 0, 1⟩, ⟨2, ⟨#[]⟩, 1, 2⟩, ⟨4, ⟨#[41]⟩, 0, 3⟩] _ (by kernel_rfl) (by kernel_rfl) (.one _ _ _ (G.par (S := exLang) ⟨4, ⟨#[40]⟩, 0, 1⟩ ⟨4, ⟨#[41]⟩, 0, 3⟩ [⟨2, ⟨#[]⟩, 1, 2⟩] _ (by kernel_rfl) (by kernel_rfl) (.one _ _ _ (g_num 1 2))))))
    (.one _ _ _ (G.par (S := exLang) ⟨4, ⟨#[40]⟩, 0, 8⟩ ⟨4, ⟨#[41]⟩, 0, 14⟩ [⟨2, ⟨#[]⟩, 2, 9⟩, ⟨4, ⟨#[45]⟩, 0, 11⟩, ⟨1, ⟨#[120]⟩, 0, 13⟩] _ (by kernel_rfl) (by kernel_rfl)
      (g_bin 1 ⟨4, ⟨#[45]⟩, 0, 11⟩ [⟨2, ⟨#[]⟩, 2, 9⟩] [⟨1, ⟨#[120]⟩, 0, 13⟩] _ _ ⟨#[45]⟩ 5 (by kernel_rfl) (by kernel_rfl) (by decide) (by decide) (.one _ _ _ (g_num 2 9)) (.one _ _ _ (G.atom (S := exLang) ⟨1, ⟨#[120]⟩, 0, 13⟩ _ (by kernel_rfl))))))
theorem parseR_gram {l : List Tok} {x : Ex} (h : G exLang (some 1) l x) (hr : (oSyms (some x)).any resv = false) : parseR l = (0, some x) := by
  obtain ⟨r, hp⟩ := P.some_res l
  have he := (P.full exLang hp x).2 h
  subst he
  rw [← parseR_of hp]
  unfold parsed
  dsimp only
  rw [if_pos rfl, any_uniq]
  have e : lSyms [some x] = oSyms (some x) := by simp [lSyms]
  rw [e, hr]
  rfl
theorem a_parse : parseL aLine = (0, some aEx) := by
  unfold parseL
  rw [aToks_eq]
  show parseR (aToks ++ [_]).dropLast = _
  rw [List.dropLast_concat]
  exact parseR_gram a_gram rfl
theorem b_parse : parseL bLine = (0, some bEx) := by
  unfold parseL
  rw [bToks_eq]
  show parseR (bToks ++ [_]).dropLast = _
  rw [List.dropLast_concat]
  exact parseR_gram b_gram (by kernel_rfl)
theorem a_eval : aEx.eval (fun _ => none) 0 = (4, 0) := by kernel_rfl
theorem b_text : bEx.text = ⟨#[49, 32, 45, 32, 40, 50, 32, 45, 32, 120, 41]⟩ := by kernel_rfl
theorem a_good : aEx.good := by
  refine ⟨?_, ⟨by decide, by decide⟩, ?_, ⟨?_, ⟨by decide, by decide⟩, ⟨by decide, by decide⟩⟩, ⟨by decide, by decide⟩⟩
  · rw [show lvlS ⟨#[43]⟩ = 5 by kernel_rfl]; decide
  · rw [show lvlS sMOD = 6 by kernel_rfl]; decide
  · rw [show lvlS ⟨#[42]⟩ = 6 by kernel_rfl]; decide
theorem b_good : bEx.good := by
  have h : lvlS ⟨#[45]⟩ ≠ 0 := by rw [show lvlS ⟨#[45]⟩ = 5 by kernel_rfl]; decide
  exact ⟨h, ⟨by decide, by decide⟩, h, ⟨by decide, by decide⟩, by show 1 ≤ 1000000; decide⟩
theorem b_nodes : bEx.nodes ≤ 1000000 := by decide
end Go.Proofs.YtnjpfhihbjihbaaGreatDoor

/- The law's own function alive; (*symbols.Table).Value. -/
namespace Go.Proofs.YtnjpfhihbjihbaaGreatDoor
open Go.RowKit Go.Sort

open Go.ChangeMaps
def sX : ByteArray := ⟨#[120]⟩
def sY : ByteArray := ⟨#[121]⟩
def sW : ByteArray := ⟨#[119]⟩
def l1Line : ByteArray := ⟨#[119, 32, 43, 32, 49]⟩
def l2Line : ByteArray := ⟨#[120, 32, 42, 32, 50]⟩
def l1Toks : List Tok := [⟨1, ⟨#[119]⟩, 0, 0⟩, ⟨4, ⟨#[43]⟩, 0, 2⟩, ⟨2, ⟨#[]⟩, 1, 4⟩]
def l2Toks : List Tok := [⟨1, ⟨#[120]⟩, 0, 0⟩, ⟨4, ⟨#[42]⟩, 0, 2⟩, ⟨2, ⟨#[]⟩, 2, 4⟩]
theorem l1Toks_eq : toksP l1Line = .ok (l1Toks ++ [⟨0, ⟨#[]⟩, 0, 5⟩]) := by kernel_rfl
theorem l2Toks_eq : toksP l2Line = .ok (l2Toks ++ [⟨0, ⟨#[]⟩, 0, 5⟩]) := by kernel_rfl
def l1Ex : Ex := .bin ⟨#[43]⟩ (.sym ⟨#[119]⟩) (.num 1)
def l2Ex : Ex := .bin ⟨#[42]⟩ (.sym ⟨#[120]⟩) (.num 2)
theorem l1_gram : G exLang (some 1) l1Toks l1Ex :=
  g_bin 1 ⟨4, ⟨#[43]⟩, 0, 2⟩ [⟨1, ⟨#[119]⟩, 0, 0⟩] [⟨2, ⟨#[]⟩, 1, 4⟩] _ _ ⟨#[43]⟩ 5 (by kernel_rfl) (by kernel_rfl) (by decide) (by decide) (.one _ _ _ (G.atom (S := exLang) ⟨1, ⟨#[119]⟩, 0, 0⟩ _ (by kernel_rfl))) (.one _ _ _ (g_num 1 4))
theorem l2_gram : G exLang (some 1) l2Toks l2Ex :=
  g_bin 1 ⟨4, ⟨#[42]⟩, 0, 2⟩ [⟨1, ⟨#[120]⟩, 0, 0⟩] [⟨2, ⟨#[]⟩, 2, 4⟩] _ _ ⟨#[42]⟩ 6 (by kernel_rfl) (by kernel_rfl) (by decide) (by decide) (.one _ _ _ (G.atom (S := exLang) ⟨1, ⟨#[120]⟩, 0, 0⟩ _ (by kernel_rfl))) (.one _ _ _ (g_num 2 4))
theorem l1_parse : parseL l1Line = (0, some l1Ex) := by
  unfold parseL
  rw [l1Toks_eq]
  show parseR (l1Toks ++ [_]).dropLast = _
  rw [List.dropLast_concat]
  exact parseR_gram l1_gram (by kernel_rfl)
theorem l2_parse : parseL l2Line = (0, some l2Ex) := by
  unfold parseL
  rw [l2Toks_eq]
  show parseR (l2Toks ++ [_]).dropLast = _
  rw [List.dropLast_concat]
  exact parseR_gram l2_gram (by kernel_rfl)
theorem node20_ok (s : ByteArray) (x : Ex) (h : (parseL s).2 = some x) (w : World) : Calls Tryz.prog 13 #[.string s] w fun e w' => ∃ g, e = .returned (.pointer (some ⟨g, 0, none⟩)) ∧ NodeAt 130 0 w' x (.pointer (some ⟨g, 0, none⟩)) ∧ Below w.heap.size w w' := by
  refine (node20_any s w).mono ?_
  rintro e w' ⟨vt, he, ho, hb⟩
  rw [h] at ho
  obtain ⟨g, rfl, _⟩ := NodeAt.ptr ho
  exact ⟨g, he, ho, hb⟩
def aL1 : List Sy := [⟨sX, 5, none, 0, 1⟩]
def aL2 : List Sy := [⟨sX, 5, none, 0, 1⟩, ⟨sY, 0, some l1Ex, 0, 2⟩]
def aL3 : List Sy := [⟨sX, 5, none, 0, 1⟩, ⟨sY, 0, some l1Ex, 0, 2⟩, ⟨sW, 0, some l2Ex, 0, 3⟩]
theorem aL3_nodup : (aL3.map Sy.name).Nodup := by decide
theorem aL3_len : (knownR aL3).length = 3 := by kernel_rfl
theorem aL3_x : Kn aL3 sX = some 5 := by rw [← knownR_env aL3_nodup]; kernel_rfl
theorem aL3_y : Kn aL3 sY = some 11 := by rw [← knownR_env aL3_nodup]; kernel_rfl
theorem aL3_w : Kn aL3 sW = some 10 := by rw [← knownR_env aL3_nodup]; kernel_rfl
theorem aL3_ok : ∀ s ∈ aL3, SyOk s := by
  have h1 : l1Ex.good := ⟨by rw [show lvlS ⟨#[43]⟩ = 5 by kernel_rfl]; decide, by show 1 ≤ 1000000; decide, by decide, by decide⟩
  have h2 : l2Ex.good := ⟨by rw [show lvlS ⟨#[42]⟩ = 6 by kernel_rfl]; decide, by show 1 ≤ 1000000; decide, by decide, by decide⟩
  intro s hs
  simp only [aL3, List.mem_cons, List.not_mem_nil, or_false] at hs
  rcases hs with rfl | rfl | rfl
  · exact ⟨by decide, by decide, fun x hx => by cases hx⟩
  · exact ⟨by decide, by decide, fun x hx => by cases hx; exact ⟨h1, by decide⟩⟩
  · exact ⟨by decide, by decide, fun x hx => by cases hx; exact ⟨h2, by decide⟩⟩
theorem DefRes.new {g b : Nat} {M : List (Sy × Value)} {s : Sy} {v : Value} {w : World} {e : Ending} {w' : World} (h : DefRes g b M s v w e w') (hf : (sfindS (M.map Prod.fst) s.name).isSome = false) : e = .returned (.int .i64 0) ∧ TabIn w' g b (M ++ [(s, v)]) ∧ Kb b w w' := by
  obtain ⟨hk, h | h⟩ := h
  · rw [hf] at h; cases h.1
  · exact ⟨h.2.1, h.2.2, hk⟩
set_option maxHeartbeats 2000000 in
set_option maxRecDepth 100000 in
theorem alive20 (w : World) : Calls Tryz.prog 11 #[] w fun e w' => e = .returned (.bool true) ∧ Below w.heap.size w w' := by
  have hn1 := fun w => node20_ok l1Line l1Ex (by rw [l1_parse]) w
  have hn2 := fun w => node20_ok l2Line l2Ex (by rw [l2_parse]) w
  have hl1 := fun g b w hT => (label_any g b [] sX 5 1 w hT).mono fun e w' h => h.new rfl
  have hl2 := fun g b v w (hT : TabIn w g b [(⟨sX, 5, none, 0, 1⟩, .pointer none)]) hn => (equ_any g b [(⟨sX, 5, none, 0, 1⟩, .pointer none)] sY l1Ex 0 2 v w hT hn).mono fun e w' h => h.new (by kernel_rfl)
  have hl3 := fun g b v1 v w (hT : TabIn w g b [(⟨sX, 5, none, 0, 1⟩, .pointer none), (⟨sY, 0, some l1Ex, 0, 2⟩, v1)]) hn => (equ_any g b [(⟨sX, 5, none, 0, 1⟩, .pointer none), (⟨sY, 0, some l1Ex, 0, 2⟩, v1)] sW l2Ex 0 3 v w hT hn).mono fun e w' h => h.new (by kernel_rfl)
  have hkn := fun g b v1 v2 w (hT : TabIn w g b [(⟨sX, 5, none, 0, 1⟩, .pointer none), (⟨sY, 0, some l1Ex, 0, 2⟩, v1), (⟨sW, 0, some l2Ex, 0, 3⟩, v2)]) => known_any g b [(⟨sX, 5, none, 0, 1⟩, .pointer none), (⟨sY, 0, some l1Ex, 0, 2⟩, v1), (⟨sW, 0, some l2Ex, 0, 3⟩, v2)] (fun x hx => aL3_ok x.1 (by
    simp only [List.mem_cons, List.not_mem_nil, or_false] at hx
    rcases hx with rfl | rfl | rfl <;> simp [aL3])) w hT
  unfold l1Line at hn1
  unfold l2Line at hn2
  unfold sX at hl1
  unfold sX sY at hl2
  unfold sX sY sW at hl3 hkn
  have HN1 := Lib.hid hn1; clear hn1
  have HN2 := Lib.hid hn2; clear hn2
  have HL1 := Lib.hid hl1; clear hl1
  have HL2 := Lib.hid hl2; clear hl2
  have HL3 := Lib.hid hl3; clear hl3
  have HKN := Lib.hid hkn; clear hkn
  go_enter Tryz.func11, Tryz.ntmps11
  go_wp2_with fail
  (with_reducible refine (new_any _).mono ?_)
  rintro e w1 ⟨g, b, rfl, ht1, hgb, hb1⟩
  have HT1 := Lib.hid ht1
  have HGB := Lib.hid hgb
  have HB1 := Lib.hid hb1
  clear ht1 hgb hb1
  go_wp2_with fail
  (with_reducible refine (HL1.out g b _ HT1.out).mono ?_)
  rintro e w2 ⟨rfl, ht2, hk2⟩
  have HT2 := Lib.hid ht2
  have HB2 : Hid (Below w.heap.size w w2) := Lib.hid (HB1.out.trans (hk2.low HGB.out HB1.out.size))
  clear ht2 hk2 HB1 HT1
  go_wp2_with fail
  (with_reducible refine (HN1.out _).mono ?_)
  rintro e w3 ⟨g1, rfl, hn3, hb3⟩
  have HN3 := Lib.hid hn3
  have HT3 := Lib.hid (HT2.out.below hb3)
  have HB3 : Hid (Below w.heap.size w w3) := Lib.hid (HB2.out.trans (hb3.mono HB2.out.size))
  clear hn3 hb3 HB2 HT2
  go_wp2_with fail
  (with_reducible refine (HL2.out g b _ _ HT3.out HN3.out).mono ?_)
  rintro e w4 ⟨rfl, ht4, hk4⟩
  have HT4 := Lib.hid ht4
  have HB4 : Hid (Below w.heap.size w w4) := Lib.hid (HB3.out.trans (hk4.low HGB.out HB3.out.size))
  clear ht4 hk4 HB3 HT3
  go_wp2_with fail
  (with_reducible refine (HN2.out _).mono ?_)
  rintro e w5 ⟨g2, rfl, hn5, hb5⟩
  have HN5 := Lib.hid hn5
  have HT5 := Lib.hid (HT4.out.below hb5)
  have HB5 : Hid (Below w.heap.size w w5) := Lib.hid (HB4.out.trans (hb5.mono HB4.out.size))
  clear hn5 hb5 HB4 HT4
  go_wp2_with fail
  (with_reducible refine (HL3.out g b _ _ _ HT5.out HN5.out).mono ?_)
  rintro e w6 ⟨rfl, ht6, hk6⟩
  have HT6 := Lib.hid ht6
  have HB6 : Hid (Below w.heap.size w w6) := Lib.hid (HB5.out.trans (hk6.low HGB.out HB5.out.size))
  clear ht6 hk6 HB5 HT5
  go_wp2_with fail
  (with_reducible refine (HKN.out g b _ _ _ HT6.out).mono ?_)
  rintro e w7 ⟨m, rfl, hkm, hb7⟩
  have HB7 : Hid (Below w.heap.size w w7) := Lib.hid (HB6.out.trans (hb7.mono HB6.out.size))
  clear hb7 HB6 HT6
  obtain ⟨bo, lO, rfl, hsm, hob⟩ := hkm
  have hob : ∀ t, sget lO t = (Kn aL3 t).map (Value.int .i64) := hob
  have hlen : lO.length = 3 := by rw [env_len hsm.nodup (knownR_nodup aL3_nodup) hob (knownR_env aL3_nodup), aL3_len]
  have h1 := hob sX
  rw [aL3_x] at h1
  have h2 := hob sY
  rw [aL3_y] at h2
  have h3 := hob sW
  rw [aL3_w] at h3
  have q1 := run_sget (P := Tryz.prog) Tryz.underlying49 Tryz.underlying9 zeroInt hsm sX false
  have q2 := run_sget (P := Tryz.prog) Tryz.underlying49 Tryz.underlying9 zeroInt hsm sY false
  have q3 := run_sget (P := Tryz.prog) Tryz.underlying49 Tryz.underlying9 zeroInt hsm sW false
  rw [h1] at q1
  rw [h2] at q2
  rw [h3] at q3
  simp only [Option.map_some, Option.getD_some, Bool.false_eq_true, if_false] at q1 q2 q3
  unfold sX at q1
  unfold sY at q2
  unfold sW at q3
  have HSM := Lib.hid hsm
  have HLEN := Lib.hid hlen
  clear hsm hob hlen h1 h2 h3
  go_wp2_with (at_len; refine wpList_slen rfl _ 49 rfl 9 3 Tryz.underlying49 bo lO rfl HSM.out ?_; rw [HLEN.out])
  go_ret
  exact ⟨rfl, HB7.out⟩
end Go.Proofs.YtnjpfhihbjihbaaGreatDoor
