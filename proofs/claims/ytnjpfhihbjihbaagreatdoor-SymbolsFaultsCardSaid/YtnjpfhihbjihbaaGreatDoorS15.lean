/- Joined texts: Tree17. -/
import Derived.Test.YtnjpfhihbjihbaaGreatDoorS09
import Derived.Test.YtnjpfhihbjihbaaGreatDoorS10
import Derived.Test.YtnjpfhihbjihbaaGreatDoorS12
import Derived.Test.YtnjpfhihbjihbaaGreatDoorS13
import Derived.Test.YtnjpfhihbjihbaaGreatDoorS14
/- breadboardref17.tree. (Written by wip/gen_tree.py.) -/
namespace Go.Proofs.YtnjpfhihbjihbaaGreatDoor
open Go.RowKit Go.Sort

def TreeRes (l : List Tok) (w : World) (e : Ending) (w' : World) : Prop := ∃ res, T exLang l res ∧ ∃ vt, e = .returned vt ∧ OptAt 89 w' res vt ∧ Below w.heap.size w w'
def TreeC (l : List Tok) : Prop := ∀ (v : Value) (w : World), Row w v l.length (tokc l) → Small l → l.length ≤ 1000000 → Calls Tryz.prog 63 #[v] w (TreeRes l w)
theorem Small.sub {l : List Tok} (h : Small l) (lo hi : Nat) : Small ((l.take hi).drop lo) := fun t ht => h t (List.mem_of_mem_take (List.mem_of_mem_drop ht))
theorem or3 {a b c : Bool} (h : false = (a || b || c)) : a = false ∧ b = false ∧ c = false := by cases a <;> cases b <;> cases c <;> first | (cases h; done) | exact ⟨rfl, rfl, rfl⟩
theorem alloc_eq {w : World} {o : Obj} {n : Nat} (h : n = w.heap.size) : (w.alloc o).heap[n]? = some o := by subst h; exact alloc_at' w o
theorem split_at {l : List Tok} {i : Nat} {t : Tok} (h : l[i]? = some t) : l = (l.take i).drop 0 ++ t :: (l.take l.length).drop (i + 1) := by
  obtain ⟨hi, rfl⟩ := List.getElem?_eq_some_iff.1 h
  rw [List.drop_zero, List.take_length, ← List.drop_eq_getElem_cons hi, List.take_append_drop]

set_option maxHeartbeats 1000000 in
set_option maxRecDepth 100000 in
theorem tree_split (l : List Tok) (i : Nat) (hp : place exLang l = some i) (ih : ∀ l' : List Tok, l'.length < l.length → TreeC l') : TreeC l := by
  intro v w hr hs hl
  have hin := place_in hp
  obtain ⟨t, ht⟩ : ∃ t, l[i]? = some t := ⟨_, List.getElem?_eq_getElem hin.2⟩
  have hpl := fun w hr => place17_any l v w hr hs hl
  rw [hp] at hpl
  obtain ⟨g, o, cap, rfl, hcap, hg, htk, hsub⟩ := hr.tok2 (by rintro rfl; simp at hin)
  have hts := hs t (List.mem_of_getElem? ht)
  have hspl := split_at ht
  have hra := hsub 0 i (some ⟨g, o, none⟩) cap (Nat.zero_le _) (by omega) (fun _ => by simp) (by omega)
  have hrb := fun a' h => hsub (i + 1) l.length a' (cap - (i + 1)) (by omega) (Nat.le_refl _) h (by omega)
  have hla : ((l.take i).drop 0).length = i := by rw [List.drop_zero, List.length_take]; omega
  have hlb : ((l.take l.length).drop (i + 1)).length = l.length - (i + 1) := by rw [List.length_drop, List.length_take]; omega
  have hca := fun w hr => ih ((l.take i).drop 0) (by rw [hla]; exact hin.2) (.slice (some ⟨g, o, none⟩) i cap) w hr (hs.sub 0 i) (by rw [hla]; omega)
  have hcb : ∀ (a' : Option Addr) (n' c' : Nat) (w' : World), n' = l.length - (i + 1) → c' = cap - (i + 1) → (i + 1 < l.length → a' = some ⟨g, o + (i + 1) * 4, none⟩) → Below w.heap.size w w' → Calls Tryz.prog 63 #[.slice a' n' c'] w' (TreeRes ((l.take l.length).drop (i + 1)) w') := fun a' n' c' w' h1 h2 h3 h4 => by
    subst h1 h2
    exact ih ((l.take l.length).drop (i + 1)) (by rw [hlb]; omega) _ w' ((hrb a' h3).below h4) (hs.sub _ _) (by rw [hlb]; omega)
  have hT : ∀ ra rb, T exLang ((l.take i).drop 0) ra → T exLang ((l.take l.length).drop (i + 1)) rb → T exLang l (match ra, rb with | some a, some b => some (exLang.bin t a b) | _, _ => none) := fun ra rb h1 h2 => by
    have h := T.split (S := exLang) _ _ t ra rb (by rw [← hspl, hp, hla]) h1 h2
    rw [← hspl] at h
    cases ra <;> cases rb <;> exact h
  obtain ⟨e0, e1, e2, e3⟩ := htk i t ht
  have hnm := fun w => rtname_any t w hts
  obtain ⟨k, s, n, a⟩ := t
  simp only at e0 e1 e2 e3 hnm
  have hi0 : (0 : Int) < (i : Int) := by omega
  have hl0 : ((l.length : Int) == 0) = false := by rw [beq_eq_false_iff_ne]; omega
  have hl00 : ¬ (l.length : Int) = 0 := by omega
  have hi1 : (i : Int) < (l.length : Int) := by omega
  have hi1n : i < l.length := hin.2
  have hc1 : (l.length : Int) ≤ (cap : Int) := by omega
  have hl1 : (l.length : Int) ≤ 1000000 := by omega
  have HPL := Lib.hid hpl; clear hpl
  have HCA := Lib.hid hca; clear hca
  have HCB := Lib.hid hcb; clear hcb
  have HRA := Lib.hid hra; clear hra
  have HR := Lib.hid hr; clear hr
  have HT := Lib.hid hT; clear hT
  have HNM := Lib.hid hnm; clear hnm hrb hsub htk ih hp hla hlb hspl hs ht hin hts
  have hcx : cap = i + 1 ∨ (i : Int) + 1 < (cap : Int) := by omega
  rcases hcx with rfl | hcx
  all_goals
    go_enter Tryz.func63, Tryz.ntmps63
    go_wp2_with fail
    (with_reducible refine (HPL.out _ HR.out).mono ?_)
    rintro e w1 ⟨rfl, hb1⟩
    obtain ⟨p1, rfl⟩ := gw_of_below hb1
    clear hb1
    simp only [bI]
    go_wp2_with fail
    (with_reducible refine (HCA.out _ (HRA.out.below (by (repeat (first | exact Below.refl _ _ | refine Below.drew ?_ | (refine below_gw' ?_ (by first | omega | (simp [go_sem]; done) | (simp [go_sem]; omega)) _) | (refine Below.alloc ?_ (by first | omega | (simp [go_sem]; done) | (simp [go_sem]; omega)) _) | (refine Below.setCell ?_ (by first | omega | (simp [go_sem]; done) | (simp [go_sem]; omega)) _)))))).mono ?_)
    rintro e w2 ⟨ra, hTa, va, rfl, hoa, hb2⟩
    obtain ⟨p2, rfl⟩ := gw_of_below hb2
    clear hb2
    have HTA := Lib.hid hTa; clear hTa
    have HOA := Lib.hid hoa; clear hoa
    go_wp2_with fail
    (with_reducible refine (HCB.out _ _ _ _ (by omega) (by omega) (fun h => by first | omega | rfl | (congr 2 <;> omega)) (by (repeat (first | exact Below.refl _ _ | refine Below.drew ?_ | (refine below_gw' ?_ (by first | omega | (simp [go_sem]; done) | (simp [go_sem]; omega)) _) | (refine Below.alloc ?_ (by first | omega | (simp [go_sem]; done) | (simp [go_sem]; omega)) _) | (refine Below.setCell ?_ (by first | omega | (simp [go_sem]; done) | (simp [go_sem]; omega)) _))))).mono ?_)
    rintro e w3 ⟨rb, hTb, vb, rfl, hob, hb3⟩
    obtain ⟨p3, rfl⟩ := gw_of_below hb3
    clear hb3
    have HTB := Lib.hid hTb; clear hTb
    have HOB := Lib.hid hob; clear hob
    rcases ra with _ | xa
    · obtain rfl : va = .pointer none := HOA.out
      obtain ⟨qb, rfl⟩ := HOB.out.ptr0
      go_wp2_with fail
      go_ret
      exact ⟨none, HT.out none rb HTA.out HTB.out, _, rfl, rfl, by (repeat (first | exact Below.refl _ _ | refine Below.drew ?_ | (refine below_gw' ?_ (by first | omega | (simp [go_sem]; done) | (simp [go_sem]; omega)) _) | (refine Below.alloc ?_ (by first | omega | (simp [go_sem]; done) | (simp [go_sem]; omega)) _) | (refine Below.setCell ?_ (by first | omega | (simp [go_sem]; done) | (simp [go_sem]; omega)) _)))⟩
    · obtain ⟨ga, rfl, hga⟩ := NodeAt.ptr HOA.out
      rcases rb with _ | xb
      · obtain rfl : vb = .pointer none := HOB.out
        go_wp2_with fail
        go_ret
        exact ⟨none, HT.out (some xa) none HTA.out HTB.out, _, rfl, rfl, by (repeat (first | exact Below.refl _ _ | refine Below.drew ?_ | (refine below_gw' ?_ (by first | omega | (simp [go_sem]; done) | (simp [go_sem]; omega)) _) | (refine Below.alloc ?_ (by first | omega | (simp [go_sem]; done) | (simp [go_sem]; omega)) _) | (refine Below.setCell ?_ (by first | omega | (simp [go_sem]; done) | (simp [go_sem]; omega)) _)))⟩
      · obtain ⟨gb, rfl, hgb⟩ := NodeAt.ptr HOB.out
        have hg1 : g < w.heap.size + p1.os.size := by omega
        have hg2 : g < w.heap.size + p1.os.size + p2.os.size := by omega
        have hg3 : g < w.heap.size + p1.os.size + p2.os.size + p3.os.size := by omega
        go_wp2_with fail
        (with_reducible refine (HNM.out _).mono ?_)
        rintro e w4 ⟨rfl, hb4⟩
        obtain ⟨p4, rfl⟩ := gw_of_below hb4
        clear hb4
        go_wp2_with fail
        go_ret
        exact ⟨some (.bin (tnm ⟨k, s, n, a⟩) xa xb), HT.out (some xa) (some xb) HTA.out HTB.out, _, rfl, ⟨_, _, _, Nat.zero_le _, rfl, alloc_eq (by simp [go_sem]), NodeAt.below HOA.out (by (repeat (first | exact Below.refl _ _ | refine Below.drew ?_ | (refine below_gw' ?_ (by first | omega | (simp [go_sem]; done) | (simp [go_sem]; omega)) _) | (refine Below.alloc ?_ (by first | omega | (simp [go_sem]; done) | (simp [go_sem]; omega)) _) | (refine Below.setCell ?_ (by first | omega | (simp [go_sem]; done) | (simp [go_sem]; omega)) _)))), NodeAt.below HOB.out (by (repeat (first | exact Below.refl _ _ | refine Below.drew ?_ | (refine below_gw' ?_ (by first | omega | (simp [go_sem]; done) | (simp [go_sem]; omega)) _) | (refine Below.alloc ?_ (by first | omega | (simp [go_sem]; done) | (simp [go_sem]; omega)) _) | (refine Below.setCell ?_ (by first | omega | (simp [go_sem]; done) | (simp [go_sem]; omega)) _))))⟩, by (repeat (first | exact Below.refl _ _ | refine Below.drew ?_ | (refine below_gw' ?_ (by first | omega | (simp [go_sem]; done) | (simp [go_sem]; omega)) _) | (refine Below.alloc ?_ (by first | omega | (simp [go_sem]; done) | (simp [go_sem]; omega)) _) | (refine Below.setCell ?_ (by first | omega | (simp [go_sem]; done) | (simp [go_sem]; omega)) _)))⟩

theorem tree_nil : TreeC [] := by
  intro v w hr hs hl
  obtain ⟨a, cap, rfl, hcap, _⟩ := hr
  simp only [List.length_nil] at hcap ⊢
  go_enter Tryz.func63, Tryz.ntmps63
  go_wp2_with fail
  go_ret
  exact ⟨none, .nil, _, rfl, rfl, by (repeat (first | exact Below.refl _ _ | refine Below.drew ?_ | (refine below_gw' ?_ (by first | omega | (simp [go_sem]; done) | (simp [go_sem]; omega)) _) | (refine Below.alloc ?_ (by first | omega | (simp [go_sem]; done) | (simp [go_sem]; omega)) _) | (refine Below.setCell ?_ (by first | omega | (simp [go_sem]; done) | (simp [go_sem]; omega)) _)))⟩

set_option maxHeartbeats 1000000 in
set_option maxRecDepth 100000 in
theorem tree_un (t : Tok) (r : List Tok) (hp : place exLang (t :: r) = none) (hu : tU t = true) (ih : TreeC r) : TreeC (t :: r) := by
  intro v w hr hs hl
  have hpl := fun w hr => place17_any (t :: r) v w hr hs hl
  rw [hp] at hpl
  obtain ⟨g, o, cap, rfl, hcap, hg, htk, hsub⟩ := hr.tok2 (by simp)
  have hts := hs t (by simp)
  obtain ⟨e0, e1, e2, e3⟩ := htk 0 t rfl
  rw [Nat.zero_mul, Nat.add_zero] at e0 e1 e2 e3
  have hnm := fun w => rtname_any t w hts
  have hln : (t :: r).length = r.length + 1 := rfl
  obtain ⟨L, hL⟩ : ∃ L, (t :: r).length = L := ⟨_, rfl⟩
  have hca : ∀ (a' : Option Addr) (n' c' : Nat) (w' : World), n' = L - 1 → c' = cap - 1 → (1 < L → a' = some ⟨g, o + 4, none⟩) → Below w.heap.size w w' → Calls Tryz.prog 63 #[.slice a' n' c'] w' (TreeRes r w') := fun a' n' c' w' h1 h2 h3 h4 => by
    subst h1 h2
    have h := hsub 1 L a' (cap - 1) (by omega) (by omega) (fun hh => by rw [h3 hh]) (by omega)
    have e : ((t :: r).take L).drop 1 = r := by rw [← hL, List.take_length]; rfl
    rw [e] at h
    exact ih _ w' (h.below h4) (Small.tail hs) (by omega)
  have hT : ∀ ra, T exLang r ra → T exLang (t :: r) (ra.map (exLang.un t)) := fun ra h => .un t r ra hp hu h
  rw [hL] at hpl hcap hr hl ⊢
  have hL0 : ((L : Int) == 0) = false := by rw [beq_eq_false_iff_ne]; omega
  have hL00 : (0 : Int) < (L : Int) := by omega
  have hL01 : (L : Int) ≤ 1000000 := by omega
  have hc1 : (L : Int) ≤ (cap : Int) := by omega
  have hg1 : ∀ p : Regrown, g < w.heap.size + p.os.size := fun p => by omega
  have hN : (tnm t).toList = [45] ∨ (tnm t).toList = [43] ∨ (tnm t).toList = [126] := by simpa [tU, or_assoc] using hu
  have hT2 : ∀ a, exLang.un t a = .un (tnm t) a := fun a => rfl
  generalize tnm t = N at *
  have htst : (N.toList == [45]) = true ∨ (N.toList == [45]) = false ∧ (N.toList == [43]) = true ∨ (N.toList == [45]) = false ∧ (N.toList == [43]) = false ∧ (N.toList == [126]) = true := by
    rcases hN with h | h | h <;> simp [h]
  obtain ⟨k, s, n, a⟩ := t
  simp only at e0 e1 e2 e3 hnm
  have HPL := Lib.hid hpl; clear hpl
  have HCA := Lib.hid hca; clear hca
  have HR := Lib.hid hr; clear hr
  have HT : Hid (∀ ra, T exLang r ra → T exLang (⟨k, s, n, a⟩ :: r) (ra.map (Ex.un N))) := Lib.hid (fun ra h => by have := hT ra h; rw [show exLang.un ⟨k, s, n, a⟩ = Ex.un N from funext hT2] at this; exact this); clear hT hT2
  have HNM := Lib.hid hnm; clear hnm hsub htk ih hp hs hts hu hN hln hL
  have hcx : cap = 1 ∨ (1 : Int) < (cap : Int) := by omega
  rcases hcx with rfl | hcx
  all_goals rcases htst with h1 | ⟨h1, h2⟩ | ⟨h1, h2, h3⟩
  all_goals
    go_enter Tryz.func63, Tryz.ntmps63
    go_wp2_with fail
    (with_reducible refine (HPL.out _ HR.out).mono ?_)
    rintro e w1 ⟨rfl, hb1⟩
    obtain ⟨p1, rfl⟩ := gw_of_below hb1
    clear hb1
    simp only [bI]
    go_wp2_with fail
    (with_reducible refine (HNM.out _).mono ?_)
    rintro e w2 ⟨rfl, hb2⟩
    obtain ⟨p2, rfl⟩ := gw_of_below hb2
    clear hb2
    go_wp2_with fail
    (with_reducible refine (HCA.out _ _ _ _ (by omega) (by omega) (fun h => by first | omega | rfl | (congr 2 <;> omega)) (by (repeat (first | exact Below.refl _ _ | refine Below.drew ?_ | (refine below_gw' ?_ (by first | omega | (simp [go_sem]; done) | (simp [go_sem]; omega)) _) | (refine Below.alloc ?_ (by first | omega | (simp [go_sem]; done) | (simp [go_sem]; omega)) _) | (refine Below.setCell ?_ (by first | omega | (simp [go_sem]; done) | (simp [go_sem]; omega)) _))))).mono ?_)
    rintro e w3 ⟨ra, hTa, va, rfl, hoa, hb3⟩
    obtain ⟨p3, rfl⟩ := gw_of_below hb3
    clear hb3
    have HTA := Lib.hid hTa; clear hTa
    have HOA := Lib.hid hoa; clear hoa
    rcases ra with _ | xa
    · obtain rfl : va = .pointer none := HOA.out
      go_wp2_with fail
      go_ret
      exact ⟨none, HT.out none HTA.out, _, rfl, rfl, by (repeat (first | exact Below.refl _ _ | refine Below.drew ?_ | (refine below_gw' ?_ (by first | omega | (simp [go_sem]; done) | (simp [go_sem]; omega)) _) | (refine Below.alloc ?_ (by first | omega | (simp [go_sem]; done) | (simp [go_sem]; omega)) _) | (refine Below.setCell ?_ (by first | omega | (simp [go_sem]; done) | (simp [go_sem]; omega)) _)))⟩
    · obtain ⟨ga, rfl, hga⟩ := NodeAt.ptr HOA.out
      go_wp2_with fail
      go_ret
      exact ⟨some (.un N xa), HT.out (some xa) HTA.out, _, rfl, ⟨_, _, Nat.zero_le _, rfl, alloc_eq (by simp [go_sem]), NodeAt.below HOA.out (by (repeat (first | exact Below.refl _ _ | refine Below.drew ?_ | (refine below_gw' ?_ (by first | omega | (simp [go_sem]; done) | (simp [go_sem]; omega)) _) | (refine Below.alloc ?_ (by first | omega | (simp [go_sem]; done) | (simp [go_sem]; omega)) _) | (refine Below.setCell ?_ (by first | omega | (simp [go_sem]; done) | (simp [go_sem]; omega)) _))))⟩, by (repeat (first | exact Below.refl _ _ | refine Below.drew ?_ | (refine below_gw' ?_ (by first | omega | (simp [go_sem]; done) | (simp [go_sem]; omega)) _) | (refine Below.alloc ?_ (by first | omega | (simp [go_sem]; done) | (simp [go_sem]; omega)) _) | (refine Below.setCell ?_ (by first | omega | (simp [go_sem]; done) | (simp [go_sem]; omega)) _)))⟩

set_option maxHeartbeats 1000000 in
set_option maxRecDepth 100000 in
theorem tree_par (t t' : Tok) (m : List Tok) (hp : place exLang (t :: (m ++ [t'])) = none) (hu : tU t = false) (hl' : tL t = true) (hm : m ≠ []) (hc : cls exLang 0 (t :: (m ++ [t'])) = true) (ih : TreeC m) : TreeC (t :: (m ++ [t'])) := by
  obtain ⟨r, hrr⟩ : ∃ r, m ++ [t'] = r := ⟨_, rfl⟩
  have hml : r.length = m.length + 1 := by rw [← hrr]; simp
  have hm0 : 0 < m.length := List.length_pos_iff.2 hm
  have hT : ∀ ra, T exLang m ra → T exLang (t :: r) ra := fun ra h => by rw [← hrr]; exact .par t t' m ra hp hu hl' hm hc h
  have hmm : (t :: r).take (r.length) = t :: m := by rw [← hrr]; simp
  rw [hrr] at hp hc ⊢
  intro v w hr hs hl
  have hpl := fun w hr => place17_any (t :: r) v w hr hs hl
  rw [hp] at hpl
  have hcl := fun w hr => closed17_any (t :: r) v w hr hs hl
  rw [hc] at hcl
  obtain ⟨g, o, cap, rfl, hcap, hg, htk, hsub⟩ := hr.tok2 (by simp)
  have hts := hs t (by simp)
  obtain ⟨e0, e1, e2, e3⟩ := htk 0 t rfl
  rw [Nat.zero_mul, Nat.add_zero] at e0 e1 e2 e3
  have hnm := fun w => rtname_any t w hts
  have hln : (t :: r).length = r.length + 1 := rfl
  obtain ⟨L, hL⟩ : ∃ L, (t :: r).length = L := ⟨_, rfl⟩
  have hca : ∀ (a' : Option Addr) (n' c' : Nat) (w' : World), n' = L - 2 → c' = cap - 1 → a' = some ⟨g, o + 4, none⟩ → Below w.heap.size w w' → Calls Tryz.prog 63 #[.slice a' n' c'] w' (TreeRes m w') := fun a' n' c' w' h1 h2 h3 h4 => by
    subst h2 h3
    have h := hsub 1 (L - 1) (some ⟨g, o + 4, none⟩) (cap - 1) (by omega) (by omega) (fun hh => rfl) (by omega)
    have e : ((t :: r).take (L - 1)).drop 1 = m := by rw [show L - 1 = r.length by omega, hmm]; rfl
    rw [e] at h
    rw [show L - 1 - 1 = n' by omega] at h
    exact ih _ w' (h.below h4) (fun x hx => hs x (by rw [← hrr]; simp [hx])) (by omega)
  rw [hL] at hpl hcl hcap hr hl ⊢
  have hL0 : ((L : Int) == 0) = false := by rw [beq_eq_false_iff_ne]; omega
  have hL00 : (0 : Int) < (L : Int) := by omega
  have hL01 : (L : Int) ≤ 1000000 := by omega
  have hc1 : (L : Int) ≤ (cap : Int) := by omega
  have hg1 : ∀ p : Regrown, g < w.heap.size + p.os.size := fun p => by omega
  have hL2 : (2 : Int) < (L : Int) := by omega
  have hcx : (1 : Int) < (cap : Int) := by omega
  have hN : (tnm t).toList = [40] := by simpa [tL] using hl'
  generalize tnm t = N at *
  have h1 : (N.toList == [45]) = false := by rw [hN]; rfl
  have h2 : (N.toList == [43]) = false := by rw [hN]; rfl
  have h3 : (N.toList == [126]) = false := by rw [hN]; rfl
  have h4 : (N.toList == [40]) = true := by rw [hN]; rfl
  obtain ⟨k, s, n, a⟩ := t
  simp only at e0 e1 e2 e3 hnm
  have HPL := Lib.hid hpl; clear hpl
  have HCL := Lib.hid hcl; clear hcl
  have HCA := Lib.hid hca; clear hca
  have HR := Lib.hid hr; clear hr
  have HT := Lib.hid hT; clear hT
  have HNM := Lib.hid hnm; clear hnm hsub htk ih hp hs hts hu hN hln hL hrr hml hm0 hmm hm hc hl'
  go_enter Tryz.func63, Tryz.ntmps63
  go_wp2_with fail
  (with_reducible refine (HPL.out _ HR.out).mono ?_)
  rintro e w1 ⟨rfl, hb1⟩
  obtain ⟨p1, rfl⟩ := gw_of_below hb1
  clear hb1
  simp only [bI]
  go_wp2_with fail
  (with_reducible refine (HNM.out _).mono ?_)
  rintro e w2 ⟨rfl, hb2⟩
  obtain ⟨p2, rfl⟩ := gw_of_below hb2
  clear hb2
  go_wp2_with fail
  (with_reducible refine (HCL.out _ (HR.out.below (by (repeat (first | exact Below.refl _ _ | refine Below.drew ?_ | (refine below_gw' ?_ (by first | omega | (simp [go_sem]; done) | (simp [go_sem]; omega)) _) | (refine Below.alloc ?_ (by first | omega | (simp [go_sem]; done) | (simp [go_sem]; omega)) _) | (refine Below.setCell ?_ (by first | omega | (simp [go_sem]; done) | (simp [go_sem]; omega)) _)))))).mono ?_)
  rintro e w3 ⟨rfl, hb3⟩
  obtain ⟨p3, rfl⟩ := gw_of_below hb3
  clear hb3
  go_wp2_with fail
  (with_reducible refine (HCA.out _ _ _ _ (by omega) (by omega) (by first | rfl | (congr 2 <;> omega)) (by (repeat (first | exact Below.refl _ _ | refine Below.drew ?_ | (refine below_gw' ?_ (by first | omega | (simp [go_sem]; done) | (simp [go_sem]; omega)) _) | (refine Below.alloc ?_ (by first | omega | (simp [go_sem]; done) | (simp [go_sem]; omega)) _) | (refine Below.setCell ?_ (by first | omega | (simp [go_sem]; done) | (simp [go_sem]; omega)) _))))).mono ?_)
  rintro e w4 ⟨ra, hTa, va, rfl, hoa, hb4⟩
  obtain ⟨p4, rfl⟩ := gw_of_below hb4
  clear hb4
  have HTA := Lib.hid hTa; clear hTa
  have HOA := Lib.hid hoa; clear hoa
  go_wp2_with fail
  go_ret
  exact ⟨ra, HT.out ra HTA.out, _, rfl, HOA.out, by (repeat (first | exact Below.refl _ _ | refine Below.drew ?_ | (refine below_gw' ?_ (by first | omega | (simp [go_sem]; done) | (simp [go_sem]; omega)) _) | (refine Below.alloc ?_ (by first | omega | (simp [go_sem]; done) | (simp [go_sem]; omega)) _) | (refine Below.setCell ?_ (by first | omega | (simp [go_sem]; done) | (simp [go_sem]; omega)) _)))⟩

set_option maxHeartbeats 2000000 in
set_option maxRecDepth 100000 in
theorem tree_many (t t' : Tok) (r' : List Tok) (hp : place exLang (t :: t' :: r') = none) (hu : tU t = false) (hc : tL t = true → r' ≠ [] → cls exLang 0 (t :: t' :: r') = false) : TreeC (t :: t' :: r') := by
  have hT : T exLang (t :: t' :: r') none := .many t t' r' hp hu hc
  have hln2 : (t' :: r').length = r'.length + 1 := rfl
  have hrr : r' = [] ↔ r'.length = 0 := List.length_eq_zero_iff.symm
  obtain ⟨r, hrr2⟩ : ∃ r, t' :: r' = r := ⟨_, rfl⟩
  rw [hrr2] at hp hc hT hln2 ⊢
  intro v w hr hs hl
  have hpl := fun w hr => place17_any (t :: r) v w hr hs hl
  rw [hp] at hpl
  have hcl := fun w hr => closed17_any (t :: r) v w hr hs hl
  obtain ⟨g, o, cap, rfl, hcap, hg, htk, hsub⟩ := hr.tok2 (by simp)
  have hts := hs t (by simp)
  obtain ⟨e0, e1, e2, e3⟩ := htk 0 t rfl
  rw [Nat.zero_mul, Nat.add_zero] at e0 e1 e2 e3
  have hnm := fun w => rtname_any t w hts
  have hln : (t :: r).length = r.length + 1 := rfl
  obtain ⟨L, hL⟩ : ∃ L, (t :: r).length = L := ⟨_, rfl⟩
  rw [hL] at hpl hcl hcap hr hl ⊢
  have hL0 : ((L : Int) == 0) = false := by rw [beq_eq_false_iff_ne]; omega
  have hL00 : (0 : Int) < (L : Int) := by omega
  have hL01 : (L : Int) ≤ 1000000 := by omega
  have hc1 : (L : Int) ≤ (cap : Int) := by omega
  have hg1 : ∀ p : Regrown, g < w.heap.size + p.os.size := fun p => by omega
  have hLm : (1 : Int) < (L : Int) := by omega
  have hLe : L = r'.length + 2 := by omega
  have hN : tU t = ((tnm t).toList == [45] || (tnm t).toList == [43] || (tnm t).toList == [126]) := rfl
  have hNL : tL t = ((tnm t).toList == [40]) := rfl
  rw [hu] at hN
  rw [hNL] at hc
  generalize tnm t = N at *
  obtain ⟨h1, h2, h3⟩ := or3 hN
  obtain ⟨k, s, n, a⟩ := t
  simp only at e0 e1 e2 e3 hnm
  have HPL := Lib.hid hpl; clear hpl
  have HR := Lib.hid hr; clear hr
  have HT := Lib.hid hT; clear hT
  have HNM := Lib.hid hnm; clear hnm hsub htk hp hs hts hu hN hNL hln hL hrr2
  rcases h4 : (N.toList == [40]) with _ | _
  · clear hc hcl hln2 hrr hLe
    go_enter Tryz.func63, Tryz.ntmps63
    go_wp2_with fail
    (with_reducible refine (HPL.out _ HR.out).mono ?_)
    rintro e w1 ⟨rfl, hb1⟩
    obtain ⟨p1, rfl⟩ := gw_of_below hb1
    clear hb1
    simp only [bI]
    go_wp2_with fail
    (with_reducible refine (HNM.out _).mono ?_)
    rintro e w2 ⟨rfl, hb2⟩
    obtain ⟨p2, rfl⟩ := gw_of_below hb2
    clear hb2
    go_wp2_with fail
    go_ret
    exact ⟨none, HT.out, _, rfl, rfl, by (repeat (first | exact Below.refl _ _ | refine Below.drew ?_ | (refine below_gw' ?_ (by first | omega | (simp [go_sem]; done) | (simp [go_sem]; omega)) _) | (refine Below.alloc ?_ (by first | omega | (simp [go_sem]; done) | (simp [go_sem]; omega)) _) | (refine Below.setCell ?_ (by first | omega | (simp [go_sem]; done) | (simp [go_sem]; omega)) _)))⟩
  · by_cases hr0 : r' = []
    · have hL2 : ¬ (2 : Int) < (L : Int) := by rw [hrr] at hr0; omega
      clear hc hcl hln2 hrr hr0 hLe
      go_enter Tryz.func63, Tryz.ntmps63
      go_wp2_with fail
      (with_reducible refine (HPL.out _ HR.out).mono ?_)
      rintro e w1 ⟨rfl, hb1⟩
      obtain ⟨p1, rfl⟩ := gw_of_below hb1
      clear hb1
      simp only [bI]
      go_wp2_with fail
      (with_reducible refine (HNM.out _).mono ?_)
      rintro e w2 ⟨rfl, hb2⟩
      obtain ⟨p2, rfl⟩ := gw_of_below hb2
      clear hb2
      go_wp2_with fail
      go_ret
      exact ⟨none, HT.out, _, rfl, rfl, by (repeat (first | exact Below.refl _ _ | refine Below.drew ?_ | (refine below_gw' ?_ (by first | omega | (simp [go_sem]; done) | (simp [go_sem]; omega)) _) | (refine Below.alloc ?_ (by first | omega | (simp [go_sem]; done) | (simp [go_sem]; omega)) _) | (refine Below.setCell ?_ (by first | omega | (simp [go_sem]; done) | (simp [go_sem]; omega)) _)))⟩
    · have hL2 : (2 : Int) < (L : Int) := by rw [hrr] at hr0; omega
      rw [hc h4 hr0] at hcl
      have HCL := Lib.hid hcl; clear hcl hc hln2 hrr hr0 hLe
      go_enter Tryz.func63, Tryz.ntmps63
      go_wp2_with fail
      (with_reducible refine (HPL.out _ HR.out).mono ?_)
      rintro e w1 ⟨rfl, hb1⟩
      obtain ⟨p1, rfl⟩ := gw_of_below hb1
      clear hb1
      simp only [bI]
      go_wp2_with fail
      (with_reducible refine (HNM.out _).mono ?_)
      rintro e w2 ⟨rfl, hb2⟩
      obtain ⟨p2, rfl⟩ := gw_of_below hb2
      clear hb2
      go_wp2_with fail
      (with_reducible refine (HCL.out _ (HR.out.below (by (repeat (first | exact Below.refl _ _ | refine Below.drew ?_ | (refine below_gw' ?_ (by first | omega | (simp [go_sem]; done) | (simp [go_sem]; omega)) _) | (refine Below.alloc ?_ (by first | omega | (simp [go_sem]; done) | (simp [go_sem]; omega)) _) | (refine Below.setCell ?_ (by first | omega | (simp [go_sem]; done) | (simp [go_sem]; omega)) _)))))).mono ?_)
      rintro e w3 ⟨rfl, hb3⟩
      obtain ⟨p3, rfl⟩ := gw_of_below hb3
      clear hb3
      go_wp2_with fail
      go_ret
      exact ⟨none, HT.out, _, rfl, rfl, by (repeat (first | exact Below.refl _ _ | refine Below.drew ?_ | (refine below_gw' ?_ (by first | omega | (simp [go_sem]; done) | (simp [go_sem]; omega)) _) | (refine Below.alloc ?_ (by first | omega | (simp [go_sem]; done) | (simp [go_sem]; omega)) _) | (refine Below.setCell ?_ (by first | omega | (simp [go_sem]; done) | (simp [go_sem]; omega)) _)))⟩

set_option maxHeartbeats 2000000 in
set_option maxRecDepth 100000 in
theorem tree_one (t : Tok) (hp : place exLang [t] = none) (hu : tU t = false) : TreeC [t] := by
  have hT : T exLang [t] (tatom t) := .one t hp hu
  obtain ⟨r, hrr⟩ : ∃ r : List Tok, [] = r := ⟨_, rfl⟩
  have hr0 : r.length = 0 := by rw [← hrr]; rfl
  rw [hrr] at hp hT ⊢
  intro v w hr hs hl
  have hpl := fun w hr => place17_any (t :: r) v w hr hs hl
  rw [hp] at hpl
  obtain ⟨g, o, cap, rfl, hcap, hg, htk, hsub⟩ := hr.tok2 (by simp)
  have hts := hs t (by simp)
  obtain ⟨e0, e1, e2, e3⟩ := htk 0 t rfl
  rw [Nat.zero_mul, Nat.add_zero] at e0 e1 e2 e3
  have hnm := fun w => rtname_any t w hts
  have hln : (t :: r).length = r.length + 1 := rfl
  obtain ⟨L, hL⟩ : ∃ L, (t :: r).length = L := ⟨_, rfl⟩
  have hL1 : L = 1 := by rw [← hL, hln, hr0]
  subst hL1
  rw [hL] at hpl hcap hr hl ⊢
  have hc1 : (1 : Int) ≤ (cap : Int) := by omega
  have hg1 : ∀ p : Regrown, g < w.heap.size + p.os.size := fun p => by omega
  have hN : tU t = ((tnm t).toList == [45] || (tnm t).toList == [43] || (tnm t).toList == [126]) := rfl
  rw [hu] at hN
  unfold tatom at hT
  generalize tnm t = N at *
  obtain ⟨h1, h2, h3⟩ := or3 hN
  obtain ⟨k, s, n, a⟩ := t
  simp only at e0 e1 e2 e3 hnm hT hts
  have hne : N.toList.isEmpty = decide (N.toList = []) := by cases N.toList <;> simp
  have HPL := Lib.hid hpl; clear hpl
  have HR := Lib.hid hr; clear hr
  have HNM := Lib.hid hnm; clear hnm hsub htk hp hs hu hN hln hL hrr hr0
  by_cases h36 : N.toList = [36]
  · rw [if_pos h36] at hT
    have h5 : (N.toList == [36]) = true := by simpa using h36
    have h4 : (N.toList == [40]) = false := by rw [h36]; rfl
    rw [h36] at hne
    have HT := Lib.hid hT; clear hT h36 hne
    go_enter Tryz.func63, Tryz.ntmps63
    go_wp2_with fail
    (with_reducible refine (HPL.out _ HR.out).mono ?_)
    rintro e w1 ⟨rfl, hb1⟩
    obtain ⟨p1, rfl⟩ := gw_of_below hb1
    clear hb1
    simp only [bI]
    go_wp2_with fail
    (with_reducible refine (HNM.out _).mono ?_)
    rintro e w2 ⟨rfl, hb2⟩
    obtain ⟨p2, rfl⟩ := gw_of_below hb2
    clear hb2
    go_wp2_with fail
    go_ret
    exact ⟨some (.here), HT.out, _, rfl, ⟨_, Nat.zero_le _, rfl, alloc_eq (by simp [go_sem])⟩, by (repeat (first | exact Below.refl _ _ | refine Below.drew ?_ | (refine below_gw' ?_ (by first | omega | (simp [go_sem]; done) | (simp [go_sem]; omega)) _) | (refine Below.alloc ?_ (by first | omega | (simp [go_sem]; done) | (simp [go_sem]; omega)) _) | (refine Below.setCell ?_ (by first | omega | (simp [go_sem]; done) | (simp [go_sem]; omega)) _)))⟩
  rw [if_neg h36] at hT
  have h5 : (N.toList == [36]) = false := by simpa using h36
  clear h36
  by_cases he : N.toList = []
  · rw [if_neg (fun h => h he)] at hT
    rw [decide_eq_true he] at hne
    have h4 : (N.toList == [40]) = false := by rw [he]; rfl
    clear he
    by_cases hk1 : k = 1
    · rw [if_pos hk1] at hT
      subst hk1
      have HT := Lib.hid hT; clear hT
      go_enter Tryz.func63, Tryz.ntmps63
      go_wp2_with fail
      (with_reducible refine (HPL.out _ HR.out).mono ?_)
      rintro e w1 ⟨rfl, hb1⟩
      obtain ⟨p1, rfl⟩ := gw_of_below hb1
      clear hb1
      simp only [bI]
      go_wp2_with fail
      (with_reducible refine (HNM.out _).mono ?_)
      rintro e w2 ⟨rfl, hb2⟩
      obtain ⟨p2, rfl⟩ := gw_of_below hb2
      clear hb2
      go_wp2_with fail
      go_ret
      exact ⟨some (.sym s), HT.out, _, rfl, ⟨_, Nat.zero_le _, rfl, alloc_eq (by simp [go_sem])⟩, by (repeat (first | exact Below.refl _ _ | refine Below.drew ?_ | (refine below_gw' ?_ (by first | omega | (simp [go_sem]; done) | (simp [go_sem]; omega)) _) | (refine Below.alloc ?_ (by first | omega | (simp [go_sem]; done) | (simp [go_sem]; omega)) _) | (refine Below.setCell ?_ (by first | omega | (simp [go_sem]; done) | (simp [go_sem]; omega)) _)))⟩
    rw [if_neg hk1] at hT
    have b1 : (k == 1) = false := by simpa using hk1
    clear hk1
    by_cases hk2 : k = 2
    · rw [if_pos hk2] at hT
      subst hk2
      have HT := Lib.hid hT; clear hT
      go_enter Tryz.func63, Tryz.ntmps63
      go_wp2_with fail
      (with_reducible refine (HPL.out _ HR.out).mono ?_)
      rintro e w1 ⟨rfl, hb1⟩
      obtain ⟨p1, rfl⟩ := gw_of_below hb1
      clear hb1
      simp only [bI]
      go_wp2_with fail
      (with_reducible refine (HNM.out _).mono ?_)
      rintro e w2 ⟨rfl, hb2⟩
      obtain ⟨p2, rfl⟩ := gw_of_below hb2
      clear hb2
      go_wp2_with fail
      go_ret
      exact ⟨some (.num n), HT.out, _, rfl, ⟨_, Nat.zero_le _, rfl, alloc_eq (by simp [go_sem])⟩, by (repeat (first | exact Below.refl _ _ | refine Below.drew ?_ | (refine below_gw' ?_ (by first | omega | (simp [go_sem]; done) | (simp [go_sem]; omega)) _) | (refine Below.alloc ?_ (by first | omega | (simp [go_sem]; done) | (simp [go_sem]; omega)) _) | (refine Below.setCell ?_ (by first | omega | (simp [go_sem]; done) | (simp [go_sem]; omega)) _)))⟩
    rw [if_neg hk2] at hT
    have b2 : (k == 2) = false := by simpa using hk2
    clear hk2
    by_cases hk3 : k = 3 ∧ s.toList.length = 1
    · rw [if_pos hk3] at hT
      obtain ⟨rfl, h31⟩ := hk3
      have hz : s.size = 1 := by rw [ByteArray.toList_eq] at h31; simpa using h31
      have hz0 : 0 < s.size := by omega
      have hz1 : ((s.size : Int) == 1) = true := by simp; omega
      rw [head_byte s hz0] at hT
      have hw64 : wrap64 (s[0].toNat : Int) = (s[0].toNat : Int) := by have := s[0].toNat_lt; simp only [wrap64]; omega
      have HT := Lib.hid hT; clear hT h31 hz
      go_enter Tryz.func63, Tryz.ntmps63
      go_wp2_with fail
      (with_reducible refine (HPL.out _ HR.out).mono ?_)
      rintro e w1 ⟨rfl, hb1⟩
      obtain ⟨p1, rfl⟩ := gw_of_below hb1
      clear hb1
      simp only [bI]
      go_wp2_with fail
      (with_reducible refine (HNM.out _).mono ?_)
      rintro e w2 ⟨rfl, hb2⟩
      obtain ⟨p2, rfl⟩ := gw_of_below hb2
      clear hb2
      go_wp2_with fail
      go_ret
      exact ⟨some (.num (s[0].toNat : Int)), HT.out, _, rfl, ⟨_, Nat.zero_le _, rfl, alloc_eq (by simp [go_sem])⟩, by (repeat (first | exact Below.refl _ _ | refine Below.drew ?_ | (refine below_gw' ?_ (by first | omega | (simp [go_sem]; done) | (simp [go_sem]; omega)) _) | (refine Below.alloc ?_ (by first | omega | (simp [go_sem]; done) | (simp [go_sem]; omega)) _) | (refine Below.setCell ?_ (by first | omega | (simp [go_sem]; done) | (simp [go_sem]; omega)) _)))⟩
    rw [if_neg hk3] at hT
    have HT := Lib.hid hT; clear hT
    by_cases h33 : k = 3
    · have hz : ¬ s.size = 1 := fun h => hk3 ⟨h33, by rw [ByteArray.toList_eq]; simpa using h⟩
      have hz1 : ((s.size : Int) == 1) = false := by simp; omega
      subst h33
      clear hk3
      go_enter Tryz.func63, Tryz.ntmps63
      go_wp2_with fail
      (with_reducible refine (HPL.out _ HR.out).mono ?_)
      rintro e w1 ⟨rfl, hb1⟩
      obtain ⟨p1, rfl⟩ := gw_of_below hb1
      clear hb1
      simp only [bI]
      go_wp2_with fail
      (with_reducible refine (HNM.out _).mono ?_)
      rintro e w2 ⟨rfl, hb2⟩
      obtain ⟨p2, rfl⟩ := gw_of_below hb2
      clear hb2
      go_wp2_with fail
      go_ret
      exact ⟨none, HT.out, _, rfl, rfl, by (repeat (first | exact Below.refl _ _ | refine Below.drew ?_ | (refine below_gw' ?_ (by first | omega | (simp [go_sem]; done) | (simp [go_sem]; omega)) _) | (refine Below.alloc ?_ (by first | omega | (simp [go_sem]; done) | (simp [go_sem]; omega)) _) | (refine Below.setCell ?_ (by first | omega | (simp [go_sem]; done) | (simp [go_sem]; omega)) _)))⟩
    · have b3 : (k == 3) = false := by simpa using h33
      clear hk3 h33
      go_enter Tryz.func63, Tryz.ntmps63
      go_wp2_with fail
      (with_reducible refine (HPL.out _ HR.out).mono ?_)
      rintro e w1 ⟨rfl, hb1⟩
      obtain ⟨p1, rfl⟩ := gw_of_below hb1
      clear hb1
      simp only [bI]
      go_wp2_with fail
      (with_reducible refine (HNM.out _).mono ?_)
      rintro e w2 ⟨rfl, hb2⟩
      obtain ⟨p2, rfl⟩ := gw_of_below hb2
      clear hb2
      go_wp2_with fail
      go_ret
      exact ⟨none, HT.out, _, rfl, rfl, by (repeat (first | exact Below.refl _ _ | refine Below.drew ?_ | (refine below_gw' ?_ (by first | omega | (simp [go_sem]; done) | (simp [go_sem]; omega)) _) | (refine Below.alloc ?_ (by first | omega | (simp [go_sem]; done) | (simp [go_sem]; omega)) _) | (refine Below.setCell ?_ (by first | omega | (simp [go_sem]; done) | (simp [go_sem]; omega)) _)))⟩
  · rw [if_pos he] at hT
    rw [decide_eq_false he] at hne
    have HT := Lib.hid hT; clear hT he
    rcases h4 : (N.toList == [40]) with _ | _
    all_goals
      go_enter Tryz.func63, Tryz.ntmps63
      go_wp2_with fail
      (with_reducible refine (HPL.out _ HR.out).mono ?_)
      rintro e w1 ⟨rfl, hb1⟩
      obtain ⟨p1, rfl⟩ := gw_of_below hb1
      clear hb1
      simp only [bI]
      go_wp2_with fail
      (with_reducible refine (HNM.out _).mono ?_)
      rintro e w2 ⟨rfl, hb2⟩
      obtain ⟨p2, rfl⟩ := gw_of_below hb2
      clear hb2
      go_wp2_with fail
      go_ret
      exact ⟨none, HT.out, _, rfl, rfl, by (repeat (first | exact Below.refl _ _ | refine Below.drew ?_ | (refine below_gw' ?_ (by first | omega | (simp [go_sem]; done) | (simp [go_sem]; omega)) _) | (refine Below.alloc ?_ (by first | omega | (simp [go_sem]; done) | (simp [go_sem]; omega)) _) | (refine Below.setCell ?_ (by first | omega | (simp [go_sem]; done) | (simp [go_sem]; omega)) _)))⟩

theorem treeC_any : ∀ (n : Nat) (l : List Tok), l.length ≤ n → TreeC l
  | n, [], _ => tree_nil
  | n, t :: r, hn => by
    have hn1 : r.length + 1 ≤ n := hn
    have ih : ∀ l' : List Tok, l'.length < (t :: r).length → TreeC l' := fun l' h => treeC_any (n - 1) l' (by have : l'.length < r.length + 1 := h; omega)
    rcases hp : place exLang (t :: r) with _ | i
    · rcases hu : tU t with _ | _
      · rcases r with _ | ⟨t', r'⟩
        · exact tree_one t hp hu
        · by_cases hc : tL t = true ∧ r' ≠ [] ∧ cls exLang 0 (t :: t' :: r') = true
          · obtain ⟨h1, h2, h3⟩ := hc
            have hne : t' :: r' ≠ [] := by simp
            have hsp : t' :: r' = (t' :: r').dropLast ++ [(t' :: r').getLast hne] := (List.dropLast_concat_getLast hne).symm
            have hm : (t' :: r').dropLast ≠ [] := by
              intro e
              have := congrArg List.length e
              simp at this
              exact h2 this
            rw [hsp] at hp h3 ⊢
            exact tree_par t _ _ hp hu h1 hm h3 (ih _ (by rw [List.length_dropLast]; simp only [List.length_cons]; omega))
          · exact tree_many t t' r' hp hu (fun h1 h2 => by
              rcases h3 : cls exLang 0 (t :: t' :: r') with _ | _
              · rfl
              · exact absurd ⟨h1, h2, h3⟩ hc)
      · exact tree_un t r hp hu (ih r (by simp))
    · exact tree_split (t :: r) i hp ih
theorem tree_any (l : List Tok) : TreeC l := treeC_any l.length l (Nat.le_refl _)
end Go.Proofs.YtnjpfhihbjihbaaGreatDoor
