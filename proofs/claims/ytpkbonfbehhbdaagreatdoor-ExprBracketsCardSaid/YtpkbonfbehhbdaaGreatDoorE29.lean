/- Joined texts: RParse17, ParseF, Line17, AliveP, Quot16. -/
import Derived.Test.YtpkbonfbehhbdaaGreatDoorE07
import Derived.Test.YtpkbonfbehhbdaaGreatDoorE11
import Derived.Test.YtpkbonfbehhbdaaGreatDoorE14
import Derived.Test.YtpkbonfbehhbdaaGreatDoorE22
import Derived.Test.YtpkbonfbehhbdaaGreatDoorE24
import Derived.Test.YtpkbonfbehhbdaaGreatDoorE27
import Derived.Test.YtpkbonfbehhbdaaGreatDoorE28
/- breadboardref17.Parse. -/
namespace Go.Proofs.YtpkbonfbehhbdaaGreatDoor
open Go.RowKit Go.Sort

theorem resv_O (y : List UInt8) : decide (0 < ((namedO ⟨y.toArray⟩).length : Int)) = resv y := by
  have h : (namedO ⟨y.toArray⟩).length = (namedL ⟨y.toArray⟩).length := by simp [namedO]
  unfold resv
  rw [h]
  rw [decide_eq_decide]
  omega
/-- What the reference makes of an expression. -/
def rparsed : Option Ex → Int × Option Ex
  | none => (3, none)
  | some x => if (oSyms (some x)).any resv then (21, none) else (0, some x)
def RParseRes (l : List Tok) (w : World) (e : Ending) (w' : World) : Prop := ∃ res, T exLang l res ∧ ∃ vt, e = .returned (.tuple #[vt, .int .i64 (rparsed res).1]) ∧ OptAt 78 w' (rparsed res).2 vt ∧ Below w.heap.size w w'
set_option maxHeartbeats 2000000 in
set_option maxRecDepth 100000 in
theorem rparse17_any (l : List Tok) (v : Value) (w : World) (hr : Row w v l.length (tokc l)) (hs : Small l) (hl : l.length ≤ 1000000) (hn : ∀ x, T exLang l (some x) → x.nodes ≤ 1000000 ∧ SymsOk x) :
    Calls Tryz.prog 13 #[v] w (RParseRes l w) := by
  have htr := tree_any l v w hr hs hl
  have HTR := Lib.hid htr; clear htr
  obtain ⟨a, cap, rfl, _⟩ := hr
  have HN := Lib.hid hn; clear hn hs hl
  go_enter Tryz.func13, Tryz.ntmps13
  go_wp2_with fail
  (with_reducible refine HTR.out.mono ?_)
  rintro e w1 ⟨res, hT, vt, rfl, hot, hb1⟩
  obtain ⟨p1, rfl⟩ := gw_of_below hb1
  clear hb1
  have HT := Lib.hid hT; clear hT
  have HOT := Lib.hid hot; clear hot
  rcases res with _ | x
  · obtain rfl : vt = .pointer none := HOT.out
    go_wp2_with fail
    exact bodyPost_ret (v := .tuple #[.pointer none, .int .i64 3]) (by simp [results, Tryz.results13, go_sem]) rfl ⟨none, HT.out, _, rfl, rfl, by (repeat (first | exact Below.refl _ _ | refine Below.drew ?_ | (refine below_gw' ?_ (by first | omega | (simp [go_sem]; done) | (simp [go_sem]; omega)) _) | (refine Below.alloc ?_ (by first | omega | (simp [go_sem]; done) | (simp [go_sem]; omega)) _) | (refine Below.setCell ?_ (by first | omega | (simp [go_sem]; done) | (simp [go_sem]; omega)) _)))⟩
  · obtain ⟨gx, rfl, hgx⟩ := NodeAt.ptr HOT.out
    have hnd := HN.out x HT.out
    have hnm := rnames17_any x.nodes (some x) (Nat.le_refl _) hnd.1 (.pointer (some ⟨gx, 0, none⟩)) (gw w p1) HOT.out
    have hlen : (oSyms (some x)).length ≤ 1000000 := Nat.le_trans (oSyms_len (some x)) hnd.1
    have hsz : ∀ y ∈ oSyms (some x), y.length ≤ 1000000 := fun y hy => by
      simp only [oSyms, List.mem_map] at hy
      obtain ⟨z, hz, rfl⟩ := hy
      have := hnd.2 z hz
      rw [Array.length_toList]
      exact this
    have HNM := Lib.hid hnm; clear hnm hnd
    have hrp : rparsed (some x) = if (oSyms (some x)).any resv then (21, none) else (0, some x) := rfl
    have HRP := Lib.hid hrp; clear hrp HN
    unfold RNRes at HNM
    generalize oSyms (some x) = L at *
    have HSZ := Lib.hid hsz; clear hsz
    go_wp2_with fail
    (with_reducible refine HNM.out.mono ?_)
    rintro e w2 ⟨vn, rfl, hown, _, hb2⟩
    obtain ⟨an, cn, rfl, hcn, hrow⟩ := Row.of_owns hown
    have HROW := Lib.hid hrow; clear hrow
    obtain ⟨p2, rfl⟩ := gw_of_below hb2
    clear hb2 hown HNM
    go_wp2_with fail
    go_loopw [6] (fun i wr => ∃ k : Nat, k ≤ L.length ∧ i = .int .i64 k ∧ Below (gw (gw w p1) p2).heap.size (gw (gw w p1) p2) wr ∧ Hid ((L.take k).any resv = false)) (fun i _ => L.length - (intOf i).toNat)
    case atStart => exact ⟨0, Nat.zero_le _, rfl, Below.refl _ _, Lib.hid (by simp)⟩
    case round =>
      obtain ⟨k, hk, rfl, hbel, Hno⟩ := hrel
      have HBEL := Lib.hid hbel; clear hbel
      by_cases hlt : k < L.length
      · obtain ⟨y, hy⟩ : ∃ y, L[k]? = some y := ⟨_, List.getElem?_eq_getElem hlt⟩
        obtain ⟨g, o, rfl, hg, hc⟩ := HROW.out (by intro e; rw [List.map_eq_nil_iff] at e; rw [e] at hlt; exact absurd hlt (Nat.not_lt_zero _))
        have hcy : wr.cell? ⟨g, o + k, none⟩ = some (.string ⟨y.toArray⟩) := by
          rw [HBEL.out.cell (p := ⟨g, o + k, none⟩) hg, hc k (by rw [List.length_map]; exact hlt), List.getElem?_map, hy]; rfl
        clear hc
        have hi0 : (0 : Int) ≤ (k : Int) := by omega
        have hi1 : (k : Int) < (L.length : Int) := by omega
        have hc1 : (L.length : Int) ≤ (cn : Int) := by omega
        have hl6 : (L.length : Int) ≤ 1000000 := by omega
        have hszw : (gw (gw w p1) p2).heap.size ≤ wr.heap.size := HBEL.out.size
        have hgw : g < wr.heap.size := by omega
        have hmem : y ∈ L := List.mem_of_getElem? hy
        have hcall := rnamed_any ⟨y.toArray⟩ wr (by have := HSZ.out y hmem; show y.toArray.size ≤ 1000000; simpa using this)
        have hrv := resv_O y
        have HCALL := Lib.hid hcall; clear hcall
        have HRV := Lib.hid hrv; clear hrv
        have HY := Lib.hid hy; clear hy
        have HM := Lib.hid hmem; clear hmem
        go_wp2_with fail
        refine HCALL.out.mono ?_
        rintro e w3 ⟨v3, rfl, ⟨a3, c3, rfl, _⟩, hb3⟩
        have HB := Lib.hid (HBEL.out.trans (hb3.mono hszw)); clear hb3
        rcases hrv : resv y with _ | _
        · have htst : ¬ (0 : Int) < ((namedO ⟨y.toArray⟩).length : Int) := by have := HRV.out; rw [hrv] at this; simpa using this
          have HRY := Lib.hid hrv; clear hrv
          go_wp2_with fail
          go_roundw
          case rel => exact ⟨k + 1, by omega, by go_num, HB.out, Lib.hid (by rw [List.take_add_one, HY.out]; simp [Hno.out, HRY.out])⟩
          case measure => simp [intOf]; omega
        · have htst : (0 : Int) < ((namedO ⟨y.toArray⟩).length : Int) := by have := HRV.out; rw [hrv] at this; simpa using this
          have HRY := Lib.hid hrv; clear hrv
          go_wp2_with fail
          refine bodyPost_ret (v := .tuple #[.pointer none, .int .i64 21]) (by simp [results, Tryz.results13, go_sem]) rfl ⟨some x, HT.out, .pointer none, ?_, ?_, ?_⟩
          · rw [HRP.out, if_pos (List.any_eq_true.2 ⟨y, HM.out, HRY.out⟩)]
          · rw [HRP.out, if_pos (List.any_eq_true.2 ⟨y, HM.out, HRY.out⟩)]; rfl
          · exact Below.trans (b := gw (gw w p1) p2) (by (repeat (first | exact Below.refl _ _ | refine Below.drew ?_ | (refine below_gw' ?_ (by first | omega | (simp [go_sem]; done) | (simp [go_sem]; omega)) _) | (refine Below.alloc ?_ (by first | omega | (simp [go_sem]; done) | (simp [go_sem]; omega)) _) | (refine Below.setCell ?_ (by first | omega | (simp [go_sem]; done) | (simp [go_sem]; omega)) _)))) (HB.out.mono (by (first | omega | (simp [go_sem]; done) | (simp [go_sem]; omega))))
      · obtain rfl : k = L.length := by omega
        have hno : L.any resv = false := by have := Hno.out; rwa [List.take_length] at this
        have HNO := Lib.hid hno; clear hno
        go_wp2_with fail
        refine bodyPost_ret (v := .tuple #[.pointer (some ⟨gx, 0, none⟩), .int .i64 0]) (by simp [results, Tryz.results13, go_sem]) rfl ⟨some x, HT.out, .pointer (some ⟨gx, 0, none⟩), ?_, ?_, ?_⟩
        · rw [HRP.out, if_neg (by rw [HNO.out]; simp)]
        · rw [HRP.out, if_neg (by rw [HNO.out]; simp)]; exact NodeAt.below HOT.out (Below.trans (b := gw (gw w p1) p2) (by (repeat (first | exact Below.refl _ _ | refine Below.drew ?_ | (refine below_gw' ?_ (by first | omega | (simp [go_sem]; done) | (simp [go_sem]; omega)) _) | (refine Below.alloc ?_ (by first | omega | (simp [go_sem]; done) | (simp [go_sem]; omega)) _) | (refine Below.setCell ?_ (by first | omega | (simp [go_sem]; done) | (simp [go_sem]; omega)) _)))) (HBEL.out.mono (by (first | omega | (simp [go_sem]; done) | (simp [go_sem]; omega)))))
        · exact Below.trans (b := gw (gw w p1) p2) (by (repeat (first | exact Below.refl _ _ | refine Below.drew ?_ | (refine below_gw' ?_ (by first | omega | (simp [go_sem]; done) | (simp [go_sem]; omega)) _) | (refine Below.alloc ?_ (by first | omega | (simp [go_sem]; done) | (simp [go_sem]; omega)) _) | (refine Below.setCell ?_ (by first | omega | (simp [go_sem]; done) | (simp [go_sem]; omega)) _)))) (HBEL.out.mono (by (first | omega | (simp [go_sem]; done) | (simp [go_sem]; omega))))
end Go.Proofs.YtpkbonfbehhbdaaGreatDoor

/- The parser as a function: it always has a result, and it has one. No program in sight. -/
namespace Go.Proofs.YtpkbonfbehhbdaaGreatDoor
open Go.RowKit Go.Sort

theorem P.total : ∀ (n : Nat) (l : List Tok), l.length ≤ n → (∃ res, P exLang (.U l) res) ∧ ∀ lv, ∃ res, P exLang (.B lv l) res
  | n, l, hn => by
    have ihn : ∀ l' : List Tok, l'.length < l.length → (∃ res, P exLang (.U l') res) ∧ ∀ lv, ∃ res, P exLang (.B lv l') res := fun l' h => P.total (n - 1) l' (by omega)
    have hU : ∃ res, P exLang (.U l) res := by
      rcases l with _ | ⟨t, r⟩
      · exact ⟨none, .nil⟩
      · rcases hu : tU t with _ | _
        · rcases hl : tL t with _ | _
          · exact ⟨_, .atom t r hu hl⟩
          · obtain ⟨res, h⟩ := (ihn r (by simp)).2 1
            rcases res with _ | ⟨e, r1⟩
            · exact ⟨none, .parN t r none hu hl h (fun e t' r h => by cases h)⟩
            · rcases r1 with _ | ⟨t', r2⟩
              · exact ⟨none, .parN t r _ hu hl h (fun e t' r h => by cases h)⟩
              · rcases hr : tR t' with _ | _
                · exact ⟨none, .parN t r _ hu hl h (fun e t2 r h => by cases h; exact hr)⟩
                · exact ⟨_, .par t t' r r2 e hu hl h hr⟩
        · obtain ⟨res, h⟩ := (ihn r (by simp)).1
          exact ⟨_, .un t r res hu h⟩
    have hL : ∀ (m : Nat) (lv : Nat) (a : Ex) (r : List Tok), r.length ≤ m → r.length < l.length → ∃ res, P exLang (.L lv a r) res := by
      intro m
      induction m with
      | zero =>
        intro lv a r hr _
        obtain rfl : r = [] := List.eq_nil_of_length_eq_zero (by omega)
        exact ⟨_, .stop lv a [] (fun t r h => by cases h)⟩
      | succ m ihm =>
        intro lv a r hr hlt
        rcases r with _ | ⟨t, r⟩
        · exact ⟨_, .stop lv a [] (fun t r h => by cases h)⟩
        · by_cases hs : exLang.lvl t = 0 ∨ exLang.lvl t < lv
          · exact ⟨_, .stop lv a _ (fun t' r' h => by cases h; exact hs)⟩
          · obtain ⟨res, h⟩ := (ihn r (by simp at hlt; omega)).2 (exLang.lvl t + 1)
            rcases res with _ | ⟨b, r'⟩
            · exact ⟨none, .stepN lv a t r (fun h0 => hs (.inl h0)) (fun h0 => hs (.inr h0)) h⟩
            · obtain ⟨l1, hl1, hne⟩ := (P.ends h b r' rfl).2 _ r rfl
              have hlen : r'.length < r.length := by
                rw [hl1, List.length_append]
                have : 0 < l1.length := List.length_pos_iff.2 hne
                omega
              obtain ⟨res, h2⟩ := ihm lv (exLang.bin t a b) r' (by simp at hr; omega) (by simp at hlt; omega)
              exact ⟨res, .step lv a b t r r' res (fun h0 => hs (.inl h0)) (fun h0 => hs (.inr h0)) h h2⟩
    refine ⟨hU, fun lv => ?_⟩
    obtain ⟨res, h⟩ := hU
    rcases res with _ | ⟨a, r⟩
    · exact ⟨none, .binN lv l h⟩
    · obtain ⟨l1, hl1, hne⟩ := (P.ends h a r rfl).1 l rfl
      have hlen : r.length < l.length := by
        rw [hl1, List.length_append]
        have : 0 < l1.length := List.length_pos_iff.2 hne
        omega
      obtain ⟨res, h2⟩ := hL r.length lv a r (Nat.le_refl _) hlen
      exact ⟨res, .bin lv l r a res h h2⟩
  termination_by _ l => l.length
theorem P.some_res (l : List Tok) : ∃ res, P exLang (.B 1 l) res := (P.total l.length l (Nat.le_refl _)).2 1
/-- What tokens are parsed to: the code and the expression. -/
noncomputable def parseR (l : List Tok) : Int × Option Ex := parsed (Classical.choose (P.some_res l))
theorem parseR_of {l : List Tok} {res : Option (Ex × List Tok)} (h : P exLang (.B 1 l) res) : parsed res = parseR l := by
  unfold parseR
  rw [P.det exLang h (Classical.choose_spec (P.some_res l))]
theorem any_uniq (L : List (List UInt8)) : (uniq L).any resv = L.any resv := by
  rw [Bool.eq_iff_iff, List.any_eq_true, List.any_eq_true]
  exact ⟨fun ⟨x, h, h2⟩ => ⟨x, (mem_uniq L x).1 h, h2⟩, fun ⟨x, h, h2⟩ => ⟨x, (mem_uniq L x).2 h, h2⟩⟩
theorem rparsed_of {l : List Tok} {res : Option Ex} (h : T exLang l res) : rparsed res = parseR l := by
  obtain ⟨r, hr⟩ := P.some_res l
  rw [← parseR_of hr]
  have ha := fun e => parse_agree exLang hr h e
  rcases res with _ | x
  · have hn : ∀ e, r ≠ some (e, []) := fun e he => by have := (ha e).1 he; cases this
    rcases r with _ | ⟨e, r⟩
    · rfl
    · have : r ≠ [] := by rintro rfl; exact hn e rfl
      simp [parsed, this, rparsed]
  · have hr2 := (ha x).2 rfl
    subst hr2
    simp only [parsed, rparsed, if_true]
    rw [any_uniq]
    simp [lSyms]
theorem parseR_ok {l : List Tok} {x : Ex} (h : (parseR l).2 = some x) : P exLang (.B 1 l) (some (x, [])) ∧ (parseR l).1 = 0 := by
  obtain ⟨r, hr⟩ := P.some_res l
  rw [← parseR_of hr] at h ⊢
  rcases r with _ | ⟨e, r⟩
  · cases h
  · unfold parsed at h ⊢
    dsimp only at h ⊢
    by_cases h1 : r = []
    · subst h1
      rw [if_pos rfl] at h ⊢
      by_cases h2 : (uniq (lSyms [some e])).any resv = true
      · rw [if_pos h2] at h; cases h
      · rw [if_neg h2] at h ⊢
        cases h
        exact ⟨hr, rfl⟩
    · rw [if_neg h1] at h; cases h
theorem parseR_code {l : List Tok} (h : (parseR l).2 = none) : (parseR l).1 = 3 ∨ (parseR l).1 = 21 := by
  obtain ⟨r, hr⟩ := P.some_res l
  rw [← parseR_of hr] at h ⊢
  rcases r with _ | ⟨e, r⟩
  · exact .inl rfl
  · unfold parsed at h ⊢
    dsimp only at h ⊢
    repeat' split
    all_goals first | exact .inl rfl | exact .inr rfl | (simp_all; done)
theorem parseR_good {l : List Tok} {x : Ex} (ht : TokOk l) (h : (parseR l).2 = some x) : x.good ∧ x.nodes ≤ l.length ∧ SymsOk x := by
  have hp := (parseR_ok h).1
  exact ⟨(P.good hp ht x [] rfl).1, by have := P.size hp x [] rfl; simpa [stM] using this, (P.syms hp ht.small x [] rfl).1⟩
theorem T_good {l : List Tok} {x : Ex} (ht : TokOk l) (h : T exLang l (some x)) : x.good ∧ x.nodes ≤ l.length ∧ SymsOk x := by
  obtain ⟨r, hr⟩ := P.some_res l
  have hr2 := (parse_agree exLang hr h x).2 rfl
  subst hr2
  exact ⟨(P.good hr ht x [] rfl).1, by have := P.size hr x [] rfl; simpa [stM] using this, (P.syms hr ht.small x [] rfl).1⟩
/-- What both functions Parse leave. -/
def ParseRes (T : TypeId) (l : List Tok) (w : World) (e : Ending) (w' : World) : Prop := ∃ vt, e = .returned (.tuple #[vt, .int .i64 (parseR l).1]) ∧ OptAt T w' (parseR l).2 vt ∧ Below w.heap.size w w'
theorem parse_any (l : List Tok) (v : Value) (w : World) (hr : Row w v l.length (tokc l)) (hs : TokOk l) (hl : l.length ≤ 1000000) : Calls Tryz.prog 11 #[v] w (ParseRes 80 l w) := by
  refine (parseE_any l v w hs.small hl hr.tok).mono ?_
  rintro e w' ⟨res, hP, vt, he, ho, hb⟩
  rw [parseR_of hP] at he ho
  exact ⟨vt, he, ho, hb⟩
theorem rparse_any (l : List Tok) (v : Value) (w : World) (hr : Row w v l.length (tokc l)) (hs : TokOk l) (hl : l.length ≤ 1000000) : Calls Tryz.prog 13 #[v] w (ParseRes 78 l w) := by
  refine (rparse17_any l v w hr hs.small hl (fun x hx => ⟨Nat.le_trans (T_good hs hx).2.1 hl, (T_good hs hx).2.2⟩)).mono ?_
  rintro e w' ⟨res, hT, vt, he, ho, hb⟩
  rw [rparsed_of hT] at he ho
  exact ⟨vt, he, ho, hb⟩
end Go.Proofs.YtpkbonfbehhbdaaGreatDoor

/- Lines and their tokens. No program in sight. -/
namespace Go.Proofs.YtpkbonfbehhbdaaGreatDoor
open Go.RowKit Go.Sort

theorem toksGo_code (s : ByteArray) (i : Nat) (acc : List Tok) (c : Int) (h : toksGo s i acc = .error c) : c = 3 ∨ c = 20 := by
  by_cases h1 : moreAt s (skipEnd s i) = true
  · cases hn : nextP s (skipEnd s i) with
    | error e =>
      rw [toksGo_err s i acc e h1 hn] at h
      cases h
      exact nextP_err s _ c hn
    | ok x =>
      obtain ⟨t, n⟩ := x
      have hl := moreAt_lt h1
      have hb := nextP_bd s _ hl t n hn
      have hg := skipEnd_ge s i
      rw [toksGo_step s i acc t n h1 hn] at h
      exact toksGo_code s n (acc ++ [t]) c h
  · rw [toksGo_end s i acc (by simpa using h1)] at h
    cases h
  termination_by s.size - i
theorem toksP_code {s : ByteArray} {c : Int} (h : toksP s = .error c) : c = 3 ∨ c = 20 ∨ c = 19 := by
  unfold toksP at h
  split at h
  · cases h; exact .inr (.inr rfl)
  · rcases toksGo_code s 0 [] c h with h | h
    · exact .inl h
    · exact .inr (.inl h)
theorem toksP_ok {s : ByteArray} {l : List Tok} (h : toksP s = .ok l) : TokOk l ∧ 1 ≤ l.length ∧ l.length ≤ 1025 := by
  unfold toksP at h
  split at h
  · cases h
  · rename_i hs
    have hl := toksGo_len s 0 [] l (Nat.zero_le _) h
    refine ⟨toksGo_all s 0 [] l h _ (fun t ht => by cases ht) (fun j => ⟨Nat.zero_le _, Int.le_refl _, by show (0 : Int) ≤ 65535; decide⟩) (fun j n t hj hn => ?_), by simpa using hl.1, by have := hl.2; simp at this; omega⟩
    have := nextP_bd s j hj t n hn
    exact ⟨by omega, this.2.2.2.1, this.2.2.2.2⟩
theorem TokOk.sub {l : List Tok} (h : TokOk l) : TokOk l.dropLast := fun t ht => h t (List.dropLast_subset l ht)
theorem dropLast_part (l : List Tok) : (l.take (l.length - 1)).drop 0 = l.dropLast := by rw [List.drop_zero, List.dropLast_eq_take]
/-- What a line is parsed to. -/
noncomputable def parseL (s : ByteArray) : Int × Option Ex := match toksP s with | .ok l => parseR l.dropLast | .error c => (c, none)
/-- The tokens of a line that is short and has some. -/
def knownP (s : ByteArray) : Option (List Tok) := if 200 < s.size then none else match toksP s with | .ok l => some l.dropLast | .error _ => none
theorem knownP_ok {s : ByteArray} {l : List Tok} (h : knownP s = some l) : TokOk l ∧ l.length ≤ 1024 ∧ parseL s = parseR l := by
  unfold knownP at h
  split at h
  · cases h
  · unfold parseL
    cases ht : toksP s with
    | error c => rw [ht] at h; cases h
    | ok m =>
      rw [ht] at h
      cases h
      have := toksP_ok ht
      exact ⟨this.1.sub, by rw [List.length_dropLast]; omega, rfl⟩
end Go.Proofs.YtpkbonfbehhbdaaGreatDoor

/- The two examples of the chapter. No program in sight. -/
namespace Go.Proofs.YtpkbonfbehhbdaaGreatDoor
open Go.RowKit Go.Sort

def aLine : ByteArray := ⟨#[50, 32, 43, 32, 51, 32, 42, 32, 52, 32, 77, 79, 68, 32, 53]⟩
def bLine : ByteArray := ⟨#[40, 40, 49, 41, 41, 32, 45, 32, 40, 50, 32, 45, 32, 120, 41]⟩
def aToks : List Tok := [⟨2, ⟨#[]⟩, 2, 0⟩, ⟨4, ⟨#[43]⟩, 0, 2⟩, ⟨2, ⟨#[]⟩, 3, 4⟩, ⟨4, ⟨#[42]⟩, 0, 6⟩, ⟨2, ⟨#[]⟩, 4, 8⟩, ⟨1, ⟨#[77, 79, 68]⟩, 0, 10⟩, ⟨2, ⟨#[]⟩, 5, 14⟩]
def bToks : List Tok := [⟨4, ⟨#[40]⟩, 0, 0⟩, ⟨4, ⟨#[40]⟩, 0, 1⟩, ⟨2, ⟨#[]⟩, 1, 2⟩, ⟨4, ⟨#[41]⟩, 0, 3⟩, ⟨4, ⟨#[41]⟩, 0, 4⟩, ⟨4, ⟨#[45]⟩, 0, 6⟩, ⟨4, ⟨#[40]⟩, 0, 8⟩, ⟨2, ⟨#[]⟩, 2, 9⟩, ⟨4, ⟨#[45]⟩, 0, 11⟩, ⟨1, ⟨#[120]⟩, 0, 13⟩, ⟨4, ⟨#[41]⟩, 0, 14⟩]
theorem aToks_eq : toksP aLine = .ok (aToks ++ [⟨0, ⟨#[]⟩, 0, 15⟩]) := by kernel_rfl
theorem bToks_eq : toksP bLine = .ok (bToks ++ [⟨0, ⟨#[]⟩, 0, 15⟩]) := by kernel_rfl
def aEx : Ex := .bin ⟨#[43]⟩ (.num 2) (.bin sMOD (.bin ⟨#[42]⟩ (.num 3) (.num 4)) (.num 5))
def bEx : Ex := .bin ⟨#[45]⟩ (.num 1) (.bin ⟨#[45]⟩ (.num 2) (.sym ⟨#[120]⟩))
theorem g_num (n off : Int) : G exLang none [⟨2, ⟨#[]⟩, n, off⟩] (.num n) := by
  refine .atom _ _ ?_
  show tatom _ = _
  have h : (tnm ⟨2, ⟨#[]⟩, n, off⟩).toList = [] := by
    show (⟨#[]⟩ : ByteArray).toList = []
    rw [ByteArray.toList_eq]
  unfold tatom
  rw [h]
  rfl
theorem lv_of {t : Tok} {s : ByteArray} {k : Nat} (h1 : tnm t = s) (h2 : lvlS s = k) : exLang.lvl t = k := by show lvlS (tnm t) = k; rw [h1]; exact h2
theorem g_bin (k : Nat) (t : Tok) (l l' : List Tok) (a b : Ex) (s : ByteArray) (v : Nat) (h1 : tnm t = s) (h2 : lvlS s = v) (h0 : v ≠ 0) (hk : k ≤ v) (g1 : G exLang (some v) l a) (g2 : G exLang (some (v + 1)) l' b) : G exLang (some k) (l ++ t :: l') (.bin s a b) := by
  have e := lv_of h1 h2
  have h := G.bin (S := exLang) k t l l' a b (by rw [e]; exact h0) (by rw [e]; exact hk) (by rw [e]; exact g1) (by rw [e]; exact g2)
  have e2 : exLang.bin t a b = .bin s a b := by show Ex.bin (tnm t) a b = _; rw [h1]
  rw [e2] at h
  exact h
theorem a_gram : G exLang (some 1) aToks aEx :=
  g_bin 1 ⟨4, ⟨#[43]⟩, 0, 2⟩ [⟨2, ⟨#[]⟩, 2, 0⟩] [⟨2, ⟨#[]⟩, 3, 4⟩, ⟨4, ⟨#[42]⟩, 0, 6⟩, ⟨2, ⟨#[]⟩, 4, 8⟩, ⟨1, ⟨#[77, 79, 68]⟩, 0, 10⟩, ⟨2, ⟨#[]⟩, 5, 14⟩] _ _ ⟨#[43]⟩ 5 (by kernel_rfl) (by kernel_rfl) (by decide) (by decide) (.one _ _ _ (g_num 2 0))
    (g_bin 6 ⟨1, ⟨#[77, 79, 68]⟩, 0, 10⟩ [⟨2, ⟨#[]⟩, 3, 4⟩, ⟨4, ⟨#[42]⟩, 0, 6⟩, ⟨2, ⟨#[]⟩, 4, 8⟩] [⟨2, ⟨#[]⟩, 5, 14⟩] _ _ sMOD 6 (by kernel_rfl) (by kernel_rfl) (by decide) (by decide)
      (g_bin 6 ⟨4, ⟨#[42]⟩, 0, 6⟩ [⟨2, ⟨#[]⟩, 3, 4⟩] [⟨2, ⟨#[]⟩, 4, 8⟩] _ _ ⟨#[42]⟩ 6 (by kernel_rfl) (by kernel_rfl) (by decide) (by decide) (.one _ _ _ (g_num 3 4)) (.one _ _ _ (g_num 4 8)))
      (.one _ _ _ (g_num 5 14)))
theorem b_gram : G exLang (some 1) bToks bEx :=
  g_bin 1 ⟨4, ⟨#[45]⟩, 0, 6⟩ [⟨4, ⟨#[40]⟩, 0, 0⟩, ⟨4, ⟨#[40]⟩, 0, 1⟩, ⟨2, ⟨#[]⟩, 1, 2⟩, ⟨4, ⟨#[41]⟩, 0, 3⟩, ⟨4, ⟨#[41]⟩, 0, 4⟩] [⟨4, ⟨#[40]⟩, 0, 8⟩, ⟨2, ⟨#[]⟩, 2, 9⟩, ⟨4, ⟨#[45]⟩, 0, 11⟩, ⟨1, ⟨#[120]⟩, 0, 13⟩, ⟨4, ⟨#[41]⟩, 0, 14⟩] _ _ ⟨#[45]⟩ 5 (by kernel_rfl) (by kernel_rfl) (by decide) (by decide)
    (.one _ _ _ (G.par (S := exLang) ⟨4, ⟨#[40]⟩, 0, 0⟩ ⟨4, ⟨#[41]⟩, 0, 4⟩ [⟨4, ⟨#[40]⟩, 0, 1⟩, ⟨2, ⟨#[]⟩, 1, 2⟩, ⟨4, ⟨#[41]⟩, 0, 3⟩] _ (by kernel_rfl) (by kernel_rfl) (.one _ _ _ (G.par (S := exLang) ⟨4, ⟨#[40]⟩, 0, 1⟩ ⟨4, ⟨#[41]⟩, 0, 3⟩ [⟨2, ⟨#[]⟩, 1, 2⟩] _ (by kernel_rfl) (by kernel_rfl) (.one _ _ _ (g_num 1 2))))))
    (.one _ _ _ (G.par (S := exLang) ⟨4, ⟨#[40]⟩, 0, 8⟩ ⟨4, ⟨#[41]⟩, 0, 14⟩ [⟨2, ⟨#[]⟩, 2, 9⟩, ⟨4, ⟨#[45]⟩, 0, 11⟩, ⟨1, ⟨#[120]⟩, 0, 13⟩] _ (by kernel_rfl) (by kernel_rfl)
      (g_bin 1 ⟨4, ⟨#[45]⟩, 0, 11⟩ [⟨2, ⟨#[]⟩, 2, 9⟩] [⟨1, ⟨#[120]⟩, 0, 13⟩] _ _ ⟨#[45]⟩ 5 (by kernel_rfl) (by kernel_rfl) (by decide) (by decide) (.one _ _ _ (g_num 2 9)) (.one _ _ _ (G.atom (S := exLang) ⟨1, ⟨#[120]⟩, 0, 13⟩ _ (by kernel_rfl))))))
theorem parseR_gram {l : List Tok} {x : Ex} (h : G exLang (some 1) l x) (hr : (oSyms (some x)).any resv = false) : parseR l = (0, some x) := by
  obtain ⟨r, hp⟩ := P.some_res l
  have he := (P.full exLang hp x).2 h
  subst he
  rw [← parseR_of hp]
  unfold parsed
  dsimp only
  rw [if_pos rfl, any_uniq]
  have e : lSyms [some x] = oSyms (some x) := by simp [lSyms]
  rw [e, hr]
  rfl
theorem a_parse : parseL aLine = (0, some aEx) := by
  unfold parseL
  rw [aToks_eq]
  show parseR (aToks ++ [_]).dropLast = _
  rw [List.dropLast_concat]
  exact parseR_gram a_gram rfl
theorem b_parse : parseL bLine = (0, some bEx) := by
  unfold parseL
  rw [bToks_eq]
  show parseR (bToks ++ [_]).dropLast = _
  rw [List.dropLast_concat]
  exact parseR_gram b_gram (by kernel_rfl)
theorem a_eval : aEx.eval (fun _ => none) 0 = (4, 0) := by kernel_rfl
theorem b_text : bEx.text = ⟨#[49, 32, 45, 32, 40, 50, 32, 45, 32, 120, 41]⟩ := by kernel_rfl
theorem a_good : aEx.good := by
  refine ⟨?_, ⟨by decide, by decide⟩, ?_, ⟨?_, ⟨by decide, by decide⟩, ⟨by decide, by decide⟩⟩, ⟨by decide, by decide⟩⟩
  · rw [show lvlS ⟨#[43]⟩ = 5 by kernel_rfl]; decide
  · rw [show lvlS sMOD = 6 by kernel_rfl]; decide
  · rw [show lvlS ⟨#[42]⟩ = 6 by kernel_rfl]; decide
theorem b_good : bEx.good := by
  have h : lvlS ⟨#[45]⟩ ≠ 0 := by rw [show lvlS ⟨#[45]⟩ = 5 by kernel_rfl]; decide
  exact ⟨h, ⟨by decide, by decide⟩, h, ⟨by decide, by decide⟩, by show 1 ≤ 1000000; decide⟩
theorem b_nodes : bEx.nodes ≤ 1000000 := by decide
end Go.Proofs.YtpkbonfbehhbdaaGreatDoor

/- The reference's lexer: quoted strings. -/
namespace Go.Proofs.YtpkbonfbehhbdaaGreatDoor
open Go.RowKit Go.Sort

/-- What a look for a quoted string hands back. -/
def qR (o : Option (ByteArray × Nat)) : ByteArray × Int := match o with | some x => (x.1, x.2) | none => (⟨#[]⟩, -1)

set_option maxHeartbeats 1000000 in
set_option maxRecDepth 100000 in
theorem quoted16_any (s : ByteArray) (i : Nat) (w : World) (hi : i < s.size) (hs : s.size ≤ 1000000) :
    Calls Tryz.prog 96 #[.string s, .int .i64 i] w fun e w' => e = .returned (.tuple #[.string (qR (quotedP s i)).1, .int .i64 (qR (quotedP s i)).2]) ∧ w = w' := by
  obtain ⟨R, hR⟩ : ∃ R, qR (quotedP s i) = R := ⟨_, rfl⟩
  rw [hR]
  unfold quotedP at hR
  rw [← bat_get s i hi] at hR
  obtain ⟨m, hm⟩ : ∃ m, s[i] = m := ⟨_, rfl⟩
  rw [hm] at hR
  obtain ⟨mk, hmk⟩ : ∃ mk : Int, (m.toNat : Int) = mk := ⟨_, rfl⟩
  have hmi : (s[i].toNat : Int) = mk := by rw [hm]; exact hmk
  have hi0 : (0 : Int) ≤ (i : Int) := by omega
  have hi1 : (i : Int) < (s.size : Int) := by omega
  have HR := Lib.hid hR; clear hR hm
  have HMK := Lib.hid hmk; clear hmk
  go_enter Tryz.func96, Tryz.ntmps96
  go_wp2_with fail
  have HMI := Lib.hid hmi; clear hmi
  go_loop [7, 8] (fun x v => ∃ (k : Nat) (acc : ByteArray), k ≤ s.size ∧ acc.size ≤ k ∧ v = .int .i64 k ∧ x = .string acc ∧ Hid (qR (quotedGo s m k acc) = R)) (fun _ v => s.size - (intOf v).toNat)
  case atStart => exact ⟨i + 1, ⟨#[]⟩, hi, Nat.zero_le _, by go_num, rfl, HR⟩
  case round =>
    obtain ⟨k, acc, hk, hac, rfl, rfl, HK⟩ := hrel
    by_cases hlt : k < s.size
    · have hk0 : (0 : Int) ≤ (k : Int) := by omega
      have hk1 : (k : Int) < (s.size : Int) := by omega
      have hac2 : acc.size ≤ 1000000 := by omega
      have hes : (s.extract k (k + 1)).size ≤ 1 := by rw [ByteArray.size_extract]; omega
      have hes2 : acc.size + (s.extract k (k + 1)).size ≤ k + 1 := by omega
      by_cases he : s[k] = m
      · have he' : (s[k].toNat : Int) = mk := by rw [he]; exact HMK.out
        by_cases h2 : k + 1 < s.size
        · have h2' : (k : Int) + 1 < (s.size : Int) := by omega
          by_cases he2 : s[k + 1] = m
          · have he2' : (s[k + 1].toNat : Int) = mk := by rw [he2]; exact HMK.out
            have hst := HK.out
            rw [quotedGo_two s m k acc hlt he h2 (by rw [← bat_get s (k + 1) h2]; exact he2)] at hst
            have HST := Lib.hid hst; clear hst HK he he2
            go_wp2_with fail
            go_round
            case rel => exact ⟨k + 2, acc ++ s.extract k (k + 1), by omega, by rw [ByteArray.size_append]; omega, by go_num, rfl, HST⟩
            case measure => simp [intOf]; omega
          · have he2' : ¬ (s[k + 1].toNat : Int) = mk := by rw [← HMK.out]; intro h; exact he2 (UInt8.toNat_inj.1 (by omega))
            have hst := HK.out
            rw [quotedGo_end s m k acc hlt he (by rw [← bat_get s (k + 1) h2]; exact fun h => he2 h.2)] at hst
            have HST := Lib.hid hst; clear hst HK he he2
            go_wp2_with fail
            go_ret2
            exact ⟨by rw [← HST.out]; rfl, rfl⟩
        · have h2' : ¬ (k : Int) + 1 < (s.size : Int) := by omega
          have hst := HK.out
          rw [quotedGo_end s m k acc hlt he (fun h => h2 h.1)] at hst
          have HST := Lib.hid hst; clear hst HK he
          go_wp2_with fail
          go_ret2
          exact ⟨by rw [← HST.out]; rfl, rfl⟩
      · have he' : ¬ (s[k].toNat : Int) = mk := by rw [← HMK.out]; intro h; exact he (UInt8.toNat_inj.1 (by omega))
        have hst := HK.out
        rw [quotedGo_step s m k acc hlt he] at hst
        have HST := Lib.hid hst; clear hst HK he
        go_wp2_with fail
        go_round
        case rel => exact ⟨k + 1, acc ++ s.extract k (k + 1), by omega, by rw [ByteArray.size_append]; omega, by go_num, rfl, HST⟩
        case measure => simp [intOf]; omega
    · obtain rfl : k = s.size := by omega
      have hst := HK.out
      rw [quotedGo_out s m _ acc hlt] at hst
      have HST := Lib.hid hst; clear hst HK
      go_wp2_with fail
      go_ret2
      exact ⟨by rw [← HST.out]; rfl, rfl⟩
end Go.Proofs.YtpkbonfbehhbdaaGreatDoor
