/- Joined texts: UsesR, OpenStrs. -/
import Derived.Test.YtnjpfhihbjihbaaGreatDoorS01
import Derived.Test.YtnjpfhihbjihbaaGreatDoorS09
import Derived.Test.YtnjpfhihbjihbaaGreatDoorS30
import Derived.Test.YtnjpfhihbjihbaaGreatDoorS39
import Derived.Test.YtnjpfhihbjihbaaGreatDoorS40
import Derived.Maps.AppendAt
/- breadboardref20.Uses. -/
namespace Go.Proofs.YtnjpfhihbjihbaaGreatDoor
open Go.RowKit Go.Sort

/-- What holds at the head of the outer loop: out, wait (the names and out), i looked at. -/
structure RU (L : List Sy) (names out : List (List UInt8)) (i : Nat) : Prop where
  nodup : out.Nodup
  sound : ∀ t ∈ out, ∃ nm ∈ names, Leads L ⟨nm.toArray⟩ ⟨t.toArray⟩
  done : ∀ nm ∈ (names ++ out).take i, ∀ t, Dep L ⟨nm.toArray⟩ t → t.data.toList ∈ out
theorem RU.start (L : List Sy) (names : List (List UInt8)) : RU L names [] 0 := ⟨List.nodup_nil, (fun t h => by cases h), fun nm h => by simp at h⟩
theorem arr_eq (s : ByteArray) : (⟨s.data.toList.toArray⟩ : ByteArray) = s := by simp
theorem RU.len {L : List Sy} {names out : List (List UInt8)} {i : Nat} (h : RU L names out i) : out.length ≤ L.length := by
  have h1 := nodup_len h.nodup (m := L.map fun s => s.name.data.toList) fun t ht => by
    obtain ⟨nm, _, hl⟩ := h.sound t ht
    obtain ⟨s, hs⟩ := leads_def hl
    obtain ⟨h1, h2⟩ := sfindS_some hs
    rw [List.mem_map]
    exact ⟨s, h1, by rw [h2]⟩
  simpa using h1
/-- What the reference's list has in the end. -/
theorem RU.mem {L : List Sy} {names out : List (List UInt8)} {i : Nat} (h : RU L names out i) (hi : (names ++ out).length ≤ i) (t : ByteArray) : t.data.toList ∈ out ↔ ∃ nm ∈ names, Leads L ⟨nm.toArray⟩ t := by
  have hd := h.done
  rw [List.take_of_length_le hi] at hd
  constructor
  · intro ht
    obtain ⟨nm, hn, hl⟩ := h.sound _ ht
    rw [arr_eq] at hl
    exact ⟨nm, hn, hl⟩
  · rintro ⟨nm, hn, hl⟩
    induction hl with
    | one d => exact hd nm (List.mem_append.2 (.inl hn)) _ d
    | more _ d ih =>
      refine hd _ (List.mem_append.2 (.inr ih)) _ ?_
      rw [arr_eq]; exact d
/-- In the inner loop: the names of the symbol at i, the first k of them looked at. -/
structure RUin (L : List Sy) (names out : List (List UInt8)) (i : Nat) (nm : List UInt8) (ns : List (List UInt8)) (k : Nat) : Prop where
  ru : RU L names out i
  part : ∀ t ∈ ns.take k, (∃ s, sfindS L ⟨t.toArray⟩ = some s) → t ∈ out
theorem RU.into {L : List Sy} {names out : List (List UInt8)} {i : Nat} (h : RU L names out i) (nm : List UInt8) (ns : List (List UInt8)) : RUin L names out i nm ns 0 := ⟨h, fun t ht => by simp at ht⟩
theorem RUin.skip {L : List Sy} {names out : List (List UInt8)} {i k : Nat} {nm t : List UInt8} {ns : List (List UInt8)} (h : RUin L names out i nm ns k) (ht : ns[k]? = some t) (hs : (∃ s, sfindS L ⟨t.toArray⟩ = some s) → t ∈ out) : RUin L names out i nm ns (k + 1) :=
  ⟨h.ru, fun u hu hd => by
    rw [List.take_add_one, ht] at hu
    rcases List.mem_append.1 hu with hu | hu
    · exact h.part u hu hd
    · simp only [Option.toList_some, List.mem_singleton] at hu
      subst hu; exact hs hd⟩
theorem take_append_le {α : Type} (l m : List α) (i : Nat) (h : i ≤ l.length) : (l ++ m).take i = l.take i := by
  rw [List.take_append_of_le_length h]
theorem RUin.add {L : List Sy} {names out : List (List UInt8)} {i k : Nat} {nm t : List UInt8} {ns : List (List UInt8)} (h : RUin L names out i nm ns k) (ht : ns[k]? = some t) (hn : t ∉ out) (hnm : (names ++ out)[i]? = some nm) (hd : Dep L ⟨nm.toArray⟩ ⟨t.toArray⟩) : RUin L names (out ++ [t]) i nm ns (k + 1) := by
  have hlt := (List.getElem?_eq_some_iff.1 hnm).1
  refine ⟨⟨?_, fun u hu => ?_, fun n2 hn2 u hu => ?_⟩, fun u hu hdd => ?_⟩
  · rw [List.nodup_append]
    exact ⟨h.ru.nodup, by simp, fun a ha b hb e => by rw [List.mem_singleton] at hb; subst hb; subst e; exact hn ha⟩
  · rcases List.mem_append.1 hu with hu | hu
    · exact h.ru.sound u hu
    · rw [List.mem_singleton] at hu; subst hu
      rcases List.mem_append.1 (List.mem_of_getElem? hnm) with hm | hm
      · exact ⟨nm, hm, .one hd⟩
      · obtain ⟨n0, h0, hl⟩ := h.ru.sound nm hm
        exact ⟨n0, h0, .more hl hd⟩
  · rw [← List.append_assoc, take_append_le _ _ _ (Nat.le_of_lt hlt)] at hn2
    exact List.mem_append.2 (.inl (h.ru.done n2 hn2 u hu))
  · rw [List.take_add_one, ht] at hu
    rcases List.mem_append.1 hu with hu | hu
    · exact List.mem_append.2 (.inl (h.part u hu hdd))
    · simp only [Option.toList_some, List.mem_singleton] at hu
      subst hu; simp
theorem RUin.outof {L : List Sy} {names out : List (List UInt8)} {i : Nat} {nm : List UInt8} {ns : List (List UInt8)} {k : Nat} (h : RUin L names out i nm ns k) (hk : ns.length ≤ k) (hnm : (names ++ out)[i]? = some nm) (hns : ∀ t, Dep L ⟨nm.toArray⟩ t → t.data.toList ∈ ns) : RU L names out (i + 1) := by
  refine ⟨h.ru.nodup, h.ru.sound, fun n2 hn2 t hd => ?_⟩
  rw [List.take_add_one, hnm] at hn2
  rcases List.mem_append.1 hn2 with h1 | h1
  · exact h.ru.done n2 h1 t hd
  · simp only [Option.toList_some, List.mem_singleton] at h1
    subst h1
    have hp := h.part t.data.toList (by rw [List.take_of_length_le hk]; exact hns t hd)
    rw [arr_eq] at hp
    obtain ⟨_, _, _, hdef⟩ := hd
    exact hp hdef
/-- Three rows of one's own in three blocks. -/
structure Three (w : World) (B : Nat) (vo vw vn : Value) (out wait ns : List (List UInt8)) : Prop where
  o : w.ownsRow B 9 1 vo out.length (out.map Proofs.encStr)
  nil : out = [] → vo = .slice none 0 0
  wt : w.ownsRow B 9 1 vw wait.length (wait.map Proofs.encStr)
  n : w.ownsRow B 9 1 vn ns.length (ns.map Proofs.encStr)
  ow : ∀ g, vo.ownBlock = some g → vw.ownBlock ≠ some g
  on : ∀ g, vo.ownBlock = some g → vn.ownBlock ≠ some g
  wn : ∀ g, vw.ownBlock = some g → vn.ownBlock ≠ some g
theorem blk_lt {w : World} {base : Nat} {e : TypeId} {size : Nat} {v : Value} {n : Nat} {xs : List Value} (h : w.ownsRow base e size v n xs) : ∀ k, v.ownBlock = some k → k < w.heap.size := fun k hk => by
  rcases h.2 with ⟨h1, _⟩ | ⟨g, cap, cur, h1, hg, hh, _⟩
  · rw [h1] at hk; cases hk
  · rw [h1] at hk; cases hk; exact lt_of_block hh
theorem Three.below {w w' : World} {B : Nat} {vo vw vn : Value} {out wait ns : List (List UInt8)} (h : Three w B vo vw vn out wait ns) (hb : Below w.heap.size w w') : Three w' B vo vw vn out wait ns :=
  ⟨owns_below' h.o hb, h.nil, owns_below' h.wt hb, owns_below' h.n hb, h.ow, h.on, h.wn⟩
theorem kept_of {w w' : World} {base : Nat} {e : TypeId} {size : Nat} {v : Value} {n : Nat} {xs : List Value} {row : Option Nat} (h : w.ownsRow base e size v n xs) (hg : w.grownBy w' row) (hne : ∀ g, row = some g → v.ownBlock ≠ some g) : w'.ownsRow base e size v n xs := by
  refine h.kept hg ?_
  rcases hv : v.ownBlock with _ | g
  · exact .inl rfl
  · right
    intro e
    exact hne g e.symm hv
theorem Three.addO {w w' : World} {B : Nat} {vo vw vn v' : Value} {out wait ns : List (List UInt8)} {t : List UInt8} (h : Three w B vo vw vn out wait ns) (ho : w'.ownsRow B 9 1 v' (out.length + 1) (out.map Proofs.encStr ++ [Proofs.encStr t])) (hg : w.grownBy w' vo.ownBlock) (hb : v'.ownBlock = vo.ownBlock ∨ v'.ownBlock = some w.heap.size) : Three w' B v' vw vn (out ++ [t]) wait ns := by
  refine ⟨by rw [List.length_append, List.map_append]; exact ho, fun e => by simp at e, kept_of h.wt hg h.ow, kept_of h.n hg h.on, fun g hv => ?_, fun g hv => ?_, h.wn⟩
  · rcases hb with hb | hb
    · exact h.ow g (by rw [← hb]; exact hv)
    · rw [hb] at hv; cases hv
      intro e; exact absurd (blk_lt h.wt _ e) (Nat.lt_irrefl _)
  · rcases hb with hb | hb
    · exact h.on g (by rw [← hb]; exact hv)
    · rw [hb] at hv; cases hv
      intro e; exact absurd (blk_lt h.n _ e) (Nat.lt_irrefl _)
theorem Three.addW {w w' : World} {B : Nat} {vo vw vn v' : Value} {out wait ns : List (List UInt8)} {t : List UInt8} (h : Three w B vo vw vn out wait ns) (ho : w'.ownsRow B 9 1 v' (wait.length + 1) (wait.map Proofs.encStr ++ [Proofs.encStr t])) (hg : w.grownBy w' vw.ownBlock) (hb : v'.ownBlock = vw.ownBlock ∨ v'.ownBlock = some w.heap.size) : Three w' B vo v' vn out (wait ++ [t]) ns := by
  refine ⟨kept_of h.o hg (fun g hv e => h.ow g e hv), h.nil, by rw [List.length_append, List.map_append]; exact ho, kept_of h.n hg h.wn, fun g hv e => ?_, h.on, fun g hv => ?_⟩
  · rcases hb with hb | hb
    · rw [hb] at e; exact h.ow g hv e
    · rw [hb] at e; cases e
      exact absurd (blk_lt h.o _ hv) (Nat.lt_irrefl _)
  · rcases hb with hb | hb
    · exact h.wn g (by rw [← hb]; exact hv)
    · rw [hb] at hv; cases hv
      intro e; exact absurd (blk_lt h.n _ e) (Nat.lt_irrefl _)
end Go.Proofs.YtnjpfhihbjihbaaGreatDoor

/- A slice of strings as an argument, opened. -/
namespace Go.Proofs.YtnjpfhihbjihbaaGreatDoor
open Go.RowKit Go.Sort

open Go.ChangeShapes Go.WideShapes
instance : Inhabited (List UInt8) := ⟨[]⟩
def strc1 (s : List UInt8) : List Value := [Proofs.encStr s]
theorem strc1_flat (l : List (List UInt8)) : l.flatMap strc1 = l.map Proofs.encStr := by
  induction l with
  | nil => rfl
  | cons a l ih => rw [List.flatMap_cons, ih]; rfl
set_option maxRecDepth 100000 in
theorem open_strs {H : Type} {enc : TypeId × Value → H} {W w : World} {r : Reach} {base b0 : Nat} {spare : Nat → Bool} {held : Bool} {v : Value} {d : DataW H} {p : List MemPlace}
    (hv : Value.okWide Tryz.prog w r b0 45 v) (h : DataW.Trod enc Tryz.prog W base spare held 45 v d p) : ∃ L : List (List UInt8), Row W v L.length (L.map Proofs.encStr) ∧ L.length ≤ maxLen ∧ (v = .slice none 0 0 ∨ ∃ ad n c, v = .slice (some ad) n c) := by
  obtain ⟨L, h1, h2, _⟩ := open_structs strc1 (fun _ => True) 1 (fun _ => rfl) (by decide) Tryz.underlying45 (by kernel_rfl) (fun cs n y hl hy => by
    match cs, hl with
    | [u0], _ =>
      obtain ⟨z0, k0, _, _⟩ := DataW.trod_string Tryz.underlying9 hy
      simp at k0
      subst k0
      refine ⟨z0.data.toList, ?_, trivial⟩
      show [Value.string z0] = [Value.string ⟨z0.data.toList.toArray⟩]
      simp) hv h
  rw [strc1_flat] at h1
  refine ⟨L, h1, h2, ?_⟩
  obtain ⟨a, len, cap, rfl⟩ := Go.WideShapes.okWide_slice Tryz.underlying45 hv
  obtain ⟨fuel, hf⟩ := h
  rcases Deep.open_slice Tryz.underlying45 hf with ⟨he, _⟩ | ⟨a', len', cap', m, n, D, Pl, he, _⟩
  · simp [Value.cells] at he
    obtain ⟨rfl, rfl, rfl⟩ := he
    exact .inl rfl
  · simp [Value.cells] at he
    obtain ⟨rfl, rfl, rfl⟩ := he
    exact .inr ⟨_, _, _, rfl⟩
theorem src_strs {w : World} {v : Value} {L : List (List UInt8)} (h : Row w v L.length (L.map Proofs.encStr)) (hs : v = .slice none 0 0 ∨ ∃ ad n c, v = .slice (some ad) n c) : SrcAt w v L.length (L.map Proofs.encStr) := by
  obtain ⟨a, cap, hv, hc, hr⟩ := h
  by_cases hL : L = []
  · subst hL
    rcases hs with rfl | ⟨ad, n, c, rfl⟩
    · exact .inl ⟨rfl, rfl⟩
    · cases hv
      exact .inr ⟨ad, cap, rfl, fun j u hj => by simp at hj⟩
  · right
    obtain ⟨g, o, ha, hg, hcc⟩ := hr (by simpa using hL)
    refine ⟨⟨g, o, none⟩, cap, by rw [hv, ha], fun j u hj => ?_⟩
    rw [addr_add, hcc j (List.getElem?_eq_some_iff.1 hj).1]
    exact hj
end Go.Proofs.YtnjpfhihbjihbaaGreatDoor
