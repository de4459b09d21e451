/- Joined texts: Stream, Node. -/
import Derived.Test.YtpkbonfbehhbdaaGreatDoorE03
/- The parser's stream of tokens: sign and take. -/
namespace Go.Proofs.YtpkbonfbehhbdaaGreatDoor
open Go.RowKit Go.Sort

/-- A token as a value. -/
abbrev tokW (t : Tok) : Value := .agg #[.int .i64 t.kind, .string t.text, .int .i64 t.n, .int .i64 t.off]
/-- The parser as it lies in memory: the tokens that are left. -/
def StrAt (w : World) (b : Nat) (l : List Tok) : Prop :=
  ∃ a cap, w.heap[b]? = some (.cells #[.slice a l.length cap] 68 (0, 0)) ∧ l.length ≤ cap ∧ (l ≠ [] → ∃ g o, a = some ⟨g, o, none⟩ ∧ g < w.heap.size ∧ g ≠ b ∧ ∀ i x, l[i]? = some x →
    w.cell? ⟨g, o + i * 4, none⟩ = some (.int .i64 x.kind) ∧ w.cell? ⟨g, o + i * 4 + 1, none⟩ = some (.string x.text) ∧ w.cell? ⟨g, o + i * 4 + 2, none⟩ = some (.int .i64 x.n) ∧ w.cell? ⟨g, o + i * 4 + 3, none⟩ = some (.int .i64 x.off))
theorem StrAt.lt {w : World} {b : Nat} {l : List Tok} (h : StrAt w b l) : b < w.heap.size := by
  obtain ⟨a, cap, h, _⟩ := h; exact lt_of_block h
theorem StrAt.below {w w' : World} {b : Nat} {l : List Tok} (h : StrAt w b l) (hb : Below w.heap.size w w') : StrAt w' b l := by
  obtain ⟨a, cap, h1, h2, h3⟩ := h
  refine ⟨a, cap, by rw [hb.block b (lt_of_block h1)]; exact h1, h2, fun hl => ?_⟩
  obtain ⟨g, o, ha, hg, hne, hc⟩ := h3 hl
  refine ⟨g, o, ha, Nat.lt_of_lt_of_le hg hb.size, hne, fun i x hx => ?_⟩
  obtain ⟨e0, e1, e2, e3⟩ := hc i x hx
  have e : ∀ j, w'.cell? ⟨g, j, none⟩ = w.cell? ⟨g, j, none⟩ := fun j => hb.cell (p := ⟨g, j, none⟩) hg
  exact ⟨by rw [e]; exact e0, by rw [e]; exact e1, by rw [e]; exact e2, by rw [e]; exact e3⟩
theorem StrAt.gw {w : World} {b : Nat} {l : List Tok} (h : StrAt w b l) (p : Regrown) : StrAt (gw w p) b l := h.below (below_gw w p)
theorem StrAt.alloc {w : World} {b : Nat} {l : List Tok} (h : StrAt w b l) (o : Obj) : StrAt (w.alloc o) b l := h.below ((Below.refl _ _).alloc (Nat.le_refl _) o)
/-- What a token at the front gives. -/
theorem StrAt.head {w : World} {b : Nat} {t : Tok} {l : List Tok} (h : StrAt w b (t :: l)) : ∃ g o cap, w.cell? ⟨b, 0, none⟩ = some (.slice (some ⟨g, o, none⟩) (l.length + 1) cap) ∧ w.frozen? ⟨b, 0, none⟩ = false ∧ l.length + 1 ≤ cap ∧ g < w.heap.size ∧ g ≠ b ∧
    w.cell? ⟨g, o, none⟩ = some (.int .i64 t.kind) ∧ w.cell? ⟨g, o + 1, none⟩ = some (.string t.text) ∧ w.cell? ⟨g, o + 2, none⟩ = some (.int .i64 t.n) ∧ w.cell? ⟨g, o + 3, none⟩ = some (.int .i64 t.off) := by
  obtain ⟨a, cap, h1, h2, h3⟩ := h
  obtain ⟨g, o, rfl, hg, hne, hc⟩ := h3 (by simp)
  obtain ⟨e0, e1, e2, e3⟩ := hc 0 t rfl
  rw [Nat.zero_mul, Nat.add_zero] at e0 e1 e2 e3
  refine ⟨g, o, cap, ?_, ?_, h2, hg, hne, e0, e1, e2, e3⟩
  · simp [World.cell?, h1]
  · simp [World.frozen?, h1]
theorem StrAt.nil {w : World} {b : Nat} (h : StrAt w b []) : ∃ a cap, w.cell? ⟨b, 0, none⟩ = some (.slice a 0 cap) := by
  obtain ⟨a, cap, h1, _⟩ := h
  exact ⟨a, cap, by simp [World.cell?, h1]⟩
/-- The stream moved on by a token: whatever address an empty rest has. -/
theorem StrAt.tail {w : World} {b g o cap : Nat} {t : Tok} {l : List Tok} (h : StrAt w b (t :: l)) (hv : w.cell? ⟨b, 0, none⟩ = some (.slice (some ⟨g, o, none⟩) (l.length + 1) cap)) (a' : Option Addr) (ha : l ≠ [] → a' = some ⟨g, o + 4, none⟩) :
    StrAt (w.setCell ⟨b, 0, none⟩ (.slice a' l.length (cap - 1))) b l := by
  obtain ⟨a, cap', h1, h2, h3⟩ := h
  have hv' := hv
  simp [World.cell?, h1] at hv'
  obtain ⟨h4, h5⟩ := hv'
  subst h4
  have h5' : cap = cap' := h5.symm
  subst h5'
  refine ⟨a', cap - 1, ?_, ?_, fun hl => ?_⟩
  · simp [World.setCell, Array.getElem?_modify, h1]
  · simp at h2; omega
  · obtain ⟨g', o', he, hg, hne, hc⟩ := h3 (by simp)
    cases he
    refine ⟨g, o + 4, ha hl, by show g < (w.heap.modify _ _).size; rw [Array.size_modify]; exact hg, hne, fun i x hx => ?_⟩
    have e : ∀ j, (w.setCell ⟨b, 0, none⟩ (.slice a' l.length (cap - 1))).cell? ⟨g, j, none⟩ = w.cell? ⟨g, j, none⟩ := fun j => World.cell?_of_block (w := w) (Below.heap_setCell w ⟨b, 0, none⟩ _ g hne)
    obtain ⟨e0, e1, e2, e3⟩ := hc (i + 1) x (by simpa using hx)
    rw [show o + (i + 1) * 4 = o + 4 + i * 4 by omega] at e0 e1 e2 e3
    exact ⟨by rw [e]; exact e0, by rw [e]; exact e1, by rw [e]; exact e2, by rw [e]; exact e3⟩
/-- The operator, sign or bracket at the front, or the empty string. -/
def hdn : List Tok → ByteArray
  | [] => ⟨#[]⟩
  | t :: _ => tnm t

set_option maxHeartbeats 1000000 in
set_option maxRecDepth 100000 in
theorem psign_any (l : List Tok) (b : Nat) (w : World) (h : StrAt w b l) (hs : ∀ t ∈ l, t.text.size ≤ 1000000) :
    Calls Tryz.prog 52 #[.pointer (some ⟨b, 0, none⟩)] w fun e w' => e = .returned (.string (hdn l)) ∧ Below w.heap.size w w' := by
  rcases l with _ | ⟨t, l⟩
  · obtain ⟨a, cap, hc⟩ := h.nil
    have hb := h.lt
    clear h
    go_enter Tryz.func52, Tryz.ntmps52
    go_wp2_with fail
    go_ret
    exact ⟨rfl, by (repeat (first | exact Below.refl _ _ | refine Below.drew ?_ | (refine below_gw' ?_ (by first | omega | (simp [go_sem]; done) | (simp [go_sem]; omega)) _) | (refine Below.alloc ?_ (by first | omega | (simp [go_sem]; done) | (simp [go_sem]; omega)) _) | (refine Below.setCell ?_ (by first | omega | (simp [go_sem]; done) | (simp [go_sem]; omega)) _)))⟩
  · obtain ⟨g, o, cap, hc, hf, hcap, hg, hne, e0, e1, e2, e3⟩ := h.head
    have hts := hs t (by simp)
    have hb : b < w.heap.size := h.lt
    have hl0 : ¬ ((l.length : Int) + 1 = 0) := by omega
    have hl1 : (0 : Int) < (l.length : Int) + 1 := by omega
    clear h hs
    obtain ⟨k, s, n, ta⟩ := t
    simp only at hts e0 e1 e2 e3
    show Calls _ _ _ _ (fun e w' => e = .returned (.string (tnm ⟨k, s, n, ta⟩)) ∧ Below w.heap.size w w')
    obtain ⟨R, hR⟩ : ∃ R, tnm ⟨k, s, n, ta⟩ = R := ⟨_, rfl⟩
    rw [hR]
    unfold tnm at hR
    simp only at hR
    by_cases h4 : k = 4
    · rw [if_pos h4] at hR
      subst hR h4
      go_enter Tryz.func52, Tryz.ntmps52
      go_wp2_with fail
      go_ret
      exact ⟨rfl, by (repeat (first | exact Below.refl _ _ | refine Below.drew ?_ | (refine below_gw' ?_ (by first | omega | (simp [go_sem]; done) | (simp [go_sem]; omega)) _) | (refine Below.alloc ?_ (by first | omega | (simp [go_sem]; done) | (simp [go_sem]; omega)) _) | (refine Below.setCell ?_ (by first | omega | (simp [go_sem]; done) | (simp [go_sem]; omega)) _)))⟩
    · rw [if_neg h4] at hR
      have b4 : (k == 4) = false := by simpa using h4
      by_cases h1 : k = 1
      · subst h1
        have HU := Lib.hid (fun w => upper_any s w (by unfold maxLen; omega))
        rcases hm : ((upper s).toList == [77, 79, 68]) with _ | _
        · rw [if_neg (fun h => by rw [h.2] at hm; cases hm)] at hR
          subst hR
          go_enter Tryz.func52, Tryz.ntmps52
          go_wp2_with fail
          refine (HU.out _).mono ?_
          rintro e w1 ⟨rfl, hb⟩
          obtain ⟨p1, rfl⟩ := gw_of_below hb
          clear hb
          go_wp2_with fail
          go_ret
          exact ⟨rfl, by (repeat (first | exact Below.refl _ _ | refine Below.drew ?_ | (refine below_gw' ?_ (by first | omega | (simp [go_sem]; done) | (simp [go_sem]; omega)) _) | (refine Below.alloc ?_ (by first | omega | (simp [go_sem]; done) | (simp [go_sem]; omega)) _) | (refine Below.setCell ?_ (by first | omega | (simp [go_sem]; done) | (simp [go_sem]; omega)) _)))⟩
        · rw [if_pos ⟨rfl, by simpa using hm⟩] at hR
          subst hR
          go_enter Tryz.func52, Tryz.ntmps52
          go_wp2_with fail
          refine (HU.out _).mono ?_
          rintro e w1 ⟨rfl, hb⟩
          obtain ⟨p1, rfl⟩ := gw_of_below hb
          clear hb
          go_wp2_with fail
          go_ret
          exact ⟨rfl, by (repeat (first | exact Below.refl _ _ | refine Below.drew ?_ | (refine below_gw' ?_ (by first | omega | (simp [go_sem]; done) | (simp [go_sem]; omega)) _) | (refine Below.alloc ?_ (by first | omega | (simp [go_sem]; done) | (simp [go_sem]; omega)) _) | (refine Below.setCell ?_ (by first | omega | (simp [go_sem]; done) | (simp [go_sem]; omega)) _)))⟩
      · rw [if_neg (fun h => h1 h.1)] at hR
        subst hR
        have b1 : (k == 1) = false := by simpa using h1
        go_enter Tryz.func52, Tryz.ntmps52
        go_wp2_with fail
        go_ret
        exact ⟨rfl, by (repeat (first | exact Below.refl _ _ | refine Below.drew ?_ | (refine below_gw' ?_ (by first | omega | (simp [go_sem]; done) | (simp [go_sem]; omega)) _) | (refine Below.alloc ?_ (by first | omega | (simp [go_sem]; done) | (simp [go_sem]; omega)) _) | (refine Below.setCell ?_ (by first | omega | (simp [go_sem]; done) | (simp [go_sem]; omega)) _)))⟩

/-- The parser's panic. -/
abbrev wrongP : List PanicEntry := [{ v := .iface 63 (.agg #[]), recovered := false }]

set_option maxHeartbeats 1000000 in
set_option maxRecDepth 100000 in
theorem take_none (b : Nat) (w : World) (h : StrAt w b []) :
    Calls Tryz.prog 53 #[.pointer (some ⟨b, 0, none⟩)] w fun e w' => e = .panicked wrongP ∧ Below w.heap.size w w' := by
  obtain ⟨a, cap, hc⟩ := h.nil
  have hb := h.lt
  clear h
  go_enter Tryz.func53, Tryz.ntmps53
  go_wp2_with fail
  refine ⟨rfl, ?_⟩
  exact ⟨rfl, by (repeat (first | exact Below.refl _ _ | refine Below.drew ?_ | (refine below_gw' ?_ (by first | omega | (simp [go_sem]; done) | (simp [go_sem]; omega)) _) | (refine Below.alloc ?_ (by first | omega | (simp [go_sem]; done) | (simp [go_sem]; omega)) _) | (refine Below.setCell ?_ (by first | omega | (simp [go_sem]; done) | (simp [go_sem]; omega)) _)))⟩

set_option maxHeartbeats 1000000 in
set_option maxRecDepth 100000 in
theorem take_some (t : Tok) (l : List Tok) (b : Nat) (w : World) (h : StrAt w b (t :: l)) :
    Calls Tryz.prog 53 #[.pointer (some ⟨b, 0, none⟩)] w fun e w' => e = .returned (tokW t) ∧ StrAt w' b l ∧ Kb b w w' := by
  obtain ⟨g, o, cap, hc, hf, hcap, hg, hne, e0, e1, e2, e3⟩ := h.head
  have hb := h.lt
  have hl0 : ¬ ((l.length : Int) + 1 = 0) := by omega
  have hl1 : (0 : Int) < (l.length : Int) + 1 := by omega
  have HS := Lib.hid h; clear h
  by_cases hcc : cap = 1
  · subst hcc
    have hnil : l = [] := List.eq_nil_of_length_eq_zero (by omega)
    go_enter Tryz.func53, Tryz.ntmps53
    go_wp2_with fail
    refine bodyPost_ret (v := tokW t) (by simp [results, Tryz.results53, go_sem, *]) rfl ⟨rfl, ?_, by (with_reducible repeat (first | refine Kb.gw ?_ _ | refine Kb.setCell ?_ _ _ | refine Kb.alloc ?_ _ | refine Kb.drew ?_ | exact Kb.refl _ _ | exact HK.out))⟩
    have h := HS.out.tail hc (some ⟨g, o, none⟩) (fun hl => absurd hnil hl)
    subst hnil
    exact (h.alloc _).alloc _
  · have hcc' : (1 : Int) < (cap : Int) := by omega
    go_enter Tryz.func53, Tryz.ntmps53
    go_wp2_with fail
    refine bodyPost_ret (v := tokW t) (by simp [results, Tryz.results53, go_sem, *]) rfl ⟨rfl, ?_, by (with_reducible repeat (first | refine Kb.gw ?_ _ | refine Kb.setCell ?_ _ _ | refine Kb.alloc ?_ _ | refine Kb.drew ?_ | exact Kb.refl _ _ | exact HK.out))⟩
    have h := HS.out.tail hc (some ⟨g, o + 4, none⟩) (fun hl => rfl)
    exact (h.alloc _).alloc _
end Go.Proofs.YtpkbonfbehhbdaaGreatDoor

/- Expressions in memory, and what the parser's methods leave. -/
namespace Go.Proofs.YtpkbonfbehhbdaaGreatDoor
open Go.RowKit Go.Sort

/-- An expression as it lies in memory, every node in a block from B on; T: the nodes' type. -/
def NodeAt (T : TypeId) (B : Nat) (w : World) : Ex → Value → Prop
  | .num n, v => ∃ g, B ≤ g ∧ v = .pointer (some ⟨g, 0, none⟩) ∧ w.heap[g]? = some (.cells #[.int .i64 1, .int .i64 n, .string ⟨#[]⟩, .pointer none, .pointer none] T (0, 0))
  | .sym s, v => ∃ g, B ≤ g ∧ v = .pointer (some ⟨g, 0, none⟩) ∧ w.heap[g]? = some (.cells #[.int .i64 2, .int .i64 0, .string s, .pointer none, .pointer none] T (0, 0))
  | .here, v => ∃ g, B ≤ g ∧ v = .pointer (some ⟨g, 0, none⟩) ∧ w.heap[g]? = some (.cells #[.int .i64 3, .int .i64 0, .string ⟨#[]⟩, .pointer none, .pointer none] T (0, 0))
  | .un op a, v => ∃ g va, B ≤ g ∧ v = .pointer (some ⟨g, 0, none⟩) ∧ w.heap[g]? = some (.cells #[.int .i64 4, .int .i64 0, .string op, va, .pointer none] T (0, 0)) ∧ NodeAt T B w a va
  | .bin op a b, v => ∃ g va vb, B ≤ g ∧ v = .pointer (some ⟨g, 0, none⟩) ∧ w.heap[g]? = some (.cells #[.int .i64 5, .int .i64 0, .string op, va, vb] T (0, 0)) ∧ NodeAt T B w a va ∧ NodeAt T B w b vb

theorem NodeAt.keep {T : TypeId} {B : Nat} {w w' : World} (hk : ∀ k, B ≤ k → k < w.heap.size → w'.heap[k]? = w.heap[k]?) : ∀ (x : Ex) (v : Value), NodeAt T B w x v → NodeAt T B w' x v
  | .num n, v, ⟨g, h1, h2, h3⟩ => ⟨g, h1, h2, by rw [hk g h1 (lt_of_block h3)]; exact h3⟩
  | .sym s, v, ⟨g, h1, h2, h3⟩ => ⟨g, h1, h2, by rw [hk g h1 (lt_of_block h3)]; exact h3⟩
  | .here, v, ⟨g, h1, h2, h3⟩ => ⟨g, h1, h2, by rw [hk g h1 (lt_of_block h3)]; exact h3⟩
  | .un op a, v, ⟨g, va, h1, h2, h3, h4⟩ => ⟨g, va, h1, h2, by rw [hk g h1 (lt_of_block h3)]; exact h3, NodeAt.keep hk a va h4⟩
  | .bin op a b, v, ⟨g, va, vb, h1, h2, h3, h4, h5⟩ => ⟨g, va, vb, h1, h2, by rw [hk g h1 (lt_of_block h3)]; exact h3, NodeAt.keep hk a va h4, NodeAt.keep hk b vb h5⟩
theorem NodeAt.below {T : TypeId} {B : Nat} {w w' : World} {x : Ex} {v : Value} (h : NodeAt T B w x v) (hb : Below w.heap.size w w') : NodeAt T B w' x v := NodeAt.keep (fun k _ hk => hb.block k hk) x v h
theorem NodeAt.kb {T : TypeId} {B b : Nat} {w w' : World} {x : Ex} {v : Value} (h : NodeAt T B w x v) (hb : Kb b w w') (hlt : b < B) : NodeAt T B w' x v := NodeAt.keep (fun k h1 hk => hb.block k hk (by omega)) x v h
theorem NodeAt.mono {T : TypeId} {B B' : Nat} {w : World} (hB : B' ≤ B) : ∀ (x : Ex) (v : Value), NodeAt T B w x v → NodeAt T B' w x v
  | .num n, v, ⟨g, h1, h2, h3⟩ => ⟨g, by omega, h2, h3⟩
  | .sym s, v, ⟨g, h1, h2, h3⟩ => ⟨g, by omega, h2, h3⟩
  | .here, v, ⟨g, h1, h2, h3⟩ => ⟨g, by omega, h2, h3⟩
  | .un op a, v, ⟨g, va, h1, h2, h3, h4⟩ => ⟨g, va, by omega, h2, h3, NodeAt.mono hB a va h4⟩
  | .bin op a b, v, ⟨g, va, vb, h1, h2, h3, h4, h5⟩ => ⟨g, va, vb, by omega, h2, h3, NodeAt.mono hB a va h4, NodeAt.mono hB b vb h5⟩
theorem NodeAt.ptr {T : TypeId} {B : Nat} {w : World} {x : Ex} {v : Value} (h : NodeAt T B w x v) : ∃ g, v = .pointer (some ⟨g, 0, none⟩) ∧ g < w.heap.size := by
  cases x with
  | num n => obtain ⟨g, _, h2, h3⟩ := h; exact ⟨g, h2, lt_of_block h3⟩
  | sym s => obtain ⟨g, _, h2, h3⟩ := h; exact ⟨g, h2, lt_of_block h3⟩
  | here => obtain ⟨g, _, h2, h3⟩ := h; exact ⟨g, h2, lt_of_block h3⟩
  | un op a => obtain ⟨g, va, _, h2, h3, _⟩ := h; exact ⟨g, h2, lt_of_block h3⟩
  | bin op a b => obtain ⟨g, va, vb, _, h2, h3, _⟩ := h; exact ⟨g, h2, lt_of_block h3⟩

/-- What a method of the parser leaves. -/
def ParRes (res : Option (Ex × List Tok)) (b : Nat) (w : World) (e : Ending) (w' : World) : Prop :=
  Kb b w w' ∧ match res with
  | none => e = .panicked wrongP
  | some x => ∃ v, e = .returned v ∧ NodeAt 80 (b + 1) w' x.1 v ∧ StrAt w' b x.2
def BRes (lv : Nat) (l : List Tok) (b : Nat) (w : World) (e : Ending) (w' : World) : Prop := ∃ res, P exLang (.B lv l) res ∧ ParRes res b w e w'
def URes (l : List Tok) (b : Nat) (w : World) (e : Ending) (w' : World) : Prop := ∃ res, P exLang (.U l) res ∧ ParRes res b w e w'
def Small (l : List Tok) : Prop := ∀ t ∈ l, t.text.size ≤ 1000000
def BC (l : List Tok) : Prop := ∀ (lv b : Nat) (w : World), Small l → StrAt w b l → Calls Tryz.prog 33 #[.pointer (some ⟨b, 0, none⟩), .int .i64 lv] w (BRes lv l b w)
def UC (l : List Tok) : Prop := ∀ (b : Nat) (w : World), Small l → StrAt w b l → Calls Tryz.prog 51 #[.pointer (some ⟨b, 0, none⟩)] w (URes l b w)
def OC (l : List Tok) : Prop := ∀ (b : Nat) (w : World), Small l → StrAt w b l → (∀ t r, l = t :: r → tU t = false) → Calls Tryz.prog 98 #[.pointer (some ⟨b, 0, none⟩)] w (URes l b w)
theorem Small.tail {t : Tok} {l : List Tok} (h : Small (t :: l)) : Small l := fun x hx => h x (List.mem_cons_of_mem _ hx)
theorem P.ends {s : St Tok Ex} {res : Option (Ex × List Tok)} (h : P exLang s res) : ∀ e r, res = some (e, r) → (∀ l, s = .U l → ∃ l1, l = l1 ++ r ∧ l1 ≠ []) ∧ (∀ lv l, s = .B lv l → ∃ l1, l = l1 ++ r ∧ l1 ≠ []) := by
  intro e r he
  have hs := h.sound exLang
  refine ⟨fun l hl => ?_, fun lv l hl => ?_⟩
  · subst hl
    obtain ⟨l1, h1, h2⟩ := hs e r he
    exact ⟨l1, h1, h2.ne_nil exLang⟩
  · subst hl
    obtain ⟨l1, h1, h2, _⟩ := hs e r he
    exact ⟨l1, h1, h2.ne_nil exLang⟩
theorem Small.suffix {l1 r : List Tok} (h : Small (l1 ++ r)) : Small r := fun x hx => h x (List.mem_append_right _ hx)
theorem str_get0 (s : ByteArray) (h : 0 < s.size) : s.data.toList = s[0] :: s.data.toList.drop 1 := by
  have h2 := List.drop_eq_getElem_cons (l := s.data.toList) (i := 0) (by simpa using h)
  rw [List.drop_zero] at h2
  rw [h2]
  simp; rfl
theorem head_byte (s : ByteArray) (h0 : 0 < s.size) : ((s.toList.headD 0).toNat : Int) = (s[0].toNat : Int) := by
  rw [ByteArray.toList_eq, str_get0 s h0]; rfl
end Go.Proofs.YtpkbonfbehhbdaaGreatDoor
