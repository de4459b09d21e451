/- Joined texts: Ck, Tab, Quot16, Lex16b, Lex16c. -/
import Derived.Test.YtnjpfhihbjihbaaGreatDoorS04
import Derived.Test.YtnjpfhihbjihbaaGreatDoorS09
import Derived.Test.YtnjpfhihbjihbaaGreatDoorS12
import Derived.Test.YtnjpfhihbjihbaaGreatDoorS18
import Derived.Test.YtnjpfhihbjihbaaGreatDoorS19
import Derived.Test.YtnjpfhihbjihbaaGreatDoorS26
/- Worlds in which all blocks of cells are kept (maps may be written). -/
namespace Go.Proofs.YtnjpfhihbjihbaaGreatDoor
open Go.RowKit Go.Sort

open Go.ChangeMaps
/-- Blocks of cells stand as they stood. -/
structure Ck (w w' : World) : Prop where
  size : w.heap.size ≤ w'.heap.size
  block : ∀ (k : Nat) (c : Array Value) (T : TypeId) (r : Nat × Nat), w.heap[k]? = some (Obj.cells c T r) → w'.heap[k]? = some (Obj.cells c T r)
theorem Ck.refl (w : World) : Ck w w := ⟨Nat.le_refl _, fun _ _ _ _ h => h⟩
theorem Ck.trans {u v w : World} (h : Ck u v) (k : Ck v w) : Ck u w := ⟨Nat.le_trans h.size k.size, fun i c T r hi => k.block i c T r (h.block i c T r hi)⟩
theorem Ck.of_below {w w' : World} (h : Below w.heap.size w w') : Ck w w' := ⟨h.size, fun k c T r hk => by rw [h.block k (lt_of_block hk)]; exact hk⟩
theorem Ck.of_kb {w w' : World} {b : Nat} {l : List (ByteArray × Value)} (hb : Kb b w w') (h : SMap w b l) : Ck w w' :=
  ⟨hb.size, fun k c T r hk => by
    have hne : k ≠ b := fun e => by obtain ⟨es, c2, h1, _⟩ := h; rw [← e, hk] at h1; cases h1
    rw [hb.block k (lt_of_block hk) hne]; exact hk⟩
theorem Ck.of_kbr {w w' : World} {b r : Nat} {l left : List (ByteArray × Value)} (hb : Kb r w w') (h : SRng w b r l left) : Ck w w' :=
  ⟨hb.size, fun k c T t hk => by
    have hne : k ≠ r := fun e => by obtain ⟨es, c2, since, seen, c0, _, _, _, h1, _⟩ := h; rw [← e, hk] at h1; cases h1
    rw [hb.block k (lt_of_block hk) hne]; exact hk⟩
theorem cell_block {w : World} {b o : Nat} {v : Value} (h : w.cell? ⟨b, o, none⟩ = some v) : ∃ c T r, w.heap[b]? = some (.cells c T r) := by
  unfold World.cell? at h
  dsimp only at h
  rcases hb : w.heap[b]? with _ | ob
  · rw [hb] at h; simp at h
  · cases ob with
    | cells c T r => exact ⟨c, T, r, rfl⟩
    | _ => rw [hb] at h; simp at h
theorem Ck.cell {w w' : World} (h : Ck w w') {b o : Nat} {v : Value} (hc : w.cell? ⟨b, o, none⟩ = some v) : w'.cell? ⟨b, o, none⟩ = some v := by
  obtain ⟨c, T, r, hb⟩ := cell_block hc
  rw [World.cell?_of_block (w := w) (w' := w') (by rw [h.block b c T r hb]; exact hb.symm)]
  exact hc
theorem NodeAt.ck {T : TypeId} {B : Nat} {w w' : World} (hk : Ck w w') : ∀ (x : Ex) (v : Value), NodeAt T B w x v → NodeAt T B w' x v
  | .num _, _, ⟨g, h1, h2, h3⟩ => ⟨g, h1, h2, hk.block _ _ _ _ h3⟩
  | .sym _, _, ⟨g, h1, h2, h3⟩ => ⟨g, h1, h2, hk.block _ _ _ _ h3⟩
  | .here, _, ⟨g, h1, h2, h3⟩ => ⟨g, h1, h2, hk.block _ _ _ _ h3⟩
  | .un _ a, _, ⟨g, va, h1, h2, h3, h4⟩ => ⟨g, va, h1, h2, hk.block _ _ _ _ h3, NodeAt.ck hk a va h4⟩
  | .bin _ a b, _, ⟨g, va, vb, h1, h2, h3, h4, h5⟩ => ⟨g, va, vb, h1, h2, hk.block _ _ _ _ h3, NodeAt.ck hk a va h4, NodeAt.ck hk b vb h5⟩
theorem OptAt.ck {T : TypeId} {w w' : World} {o : Option Ex} {v : Value} (h : OptAt T w o v) (hb : Ck w w') : OptAt T w' o v := by
  cases o with
  | none => exact h
  | some x => exact NodeAt.ck hb x v h
theorem Row.ck {w w' : World} {v : Value} {n : Nat} {xs : List Value} (h : Row w v n xs) (hb : Ck w w') : Row w' v n xs := by
  obtain ⟨a, cap, hv, hn, h⟩ := h
  refine ⟨a, cap, hv, hn, fun hx => ?_⟩
  obtain ⟨g, o, ha, hg, hc⟩ := h hx
  refine ⟨g, o, ha, Nat.lt_of_lt_of_le hg hb.size, fun j hj => ?_⟩
  have := hc j hj
  rw [List.getElem?_eq_getElem hj] at this ⊢
  exact hb.cell this
/-- All blocks but two are kept. -/
structure K2 (b1 b2 : Nat) (w w' : World) : Prop where
  os : w'.os = w.os
  tape : w'.tape = w.tape
  output : w'.output = w.output
  size : w.heap.size ≤ w'.heap.size
  block : ∀ k, k < w.heap.size → k ≠ b1 → k ≠ b2 → w'.heap[k]? = w.heap[k]?
theorem K2.refl (b1 b2 : Nat) (w : World) : K2 b1 b2 w w := ⟨rfl, rfl, rfl, Nat.le_refl _, fun _ _ _ _ => rfl⟩
theorem K2.trans {b1 b2 : Nat} {u v w : World} (h : K2 b1 b2 u v) (k : K2 b1 b2 v w) : K2 b1 b2 u w :=
  ⟨k.os.trans h.os, k.tape.trans h.tape, k.output.trans h.output, Nat.le_trans h.size k.size, fun i hi hb hc => (k.block i (Nat.lt_of_lt_of_le hi h.size) hb hc).trans (h.block i hi hb hc)⟩
theorem K2.of_below {b1 b2 : Nat} {u w : World} (h : Below u.heap.size u w) : K2 b1 b2 u w := ⟨h.os, h.tape, h.output, h.size, fun k hk _ _ => h.block k hk⟩
theorem K2.of_kb1 {b1 b2 : Nat} {u w : World} (h : Kb b1 u w) : K2 b1 b2 u w := ⟨h.os, h.tape, h.output, h.size, fun k hk h1 _ => h.block k hk h1⟩
theorem K2.of_kb2 {b1 b2 : Nat} {u w : World} (h : Kb b2 u w) : K2 b1 b2 u w := ⟨h.os, h.tape, h.output, h.size, fun k hk _ h1 => h.block k hk h1⟩
theorem K2.ck {b1 b2 : Nat} {w w' : World} (h : K2 b1 b2 w w') {l1 l2 : List (ByteArray × Value)} (h1 : SMap w b1 l1) (h2 : SMap w b2 l2) : Ck w w' :=
  ⟨h.size, fun k c T r hk => by
    have hne1 : k ≠ b1 := fun e => by obtain ⟨es, c2, h1, _⟩ := h1; rw [← e, hk] at h1; cases h1
    have hne2 : k ≠ b2 := fun e => by obtain ⟨es, c2, h1, _⟩ := h2; rw [← e, hk] at h1; cases h1
    rw [h.block k (lt_of_block hk) hne1 hne2]; exact hk⟩
theorem K2.below {b1 b2 B : Nat} {w w' : World} (h : K2 b1 b2 w w') (h1 : B ≤ b1) (h2 : B ≤ b2) (h3 : B ≤ w.heap.size) : Below B w w' := ⟨h.os, h.tape, h.output, h.size, fun k hk => h.block k (by omega) (by omega) (by omega)⟩
theorem Kb.low {b B : Nat} {w w' : World} (h : Kb b w w') (h1 : B ≤ b) (h3 : B ≤ w.heap.size) : Below B w w' := ⟨h.os, h.tape, h.output, h.size, fun k hk => h.block k (by omega) (by omega)⟩
theorem SMap.ne_cell {w : World} {b o : Nat} {l : List (ByteArray × Value)} {g : Nat} {v : Value} (h : SMap w b l) (hc : w.cell? ⟨g, o, none⟩ = some v) : g ≠ b := fun e => by
  obtain ⟨c, T, r, hb⟩ := cell_block hc
  obtain ⟨es, c2, h1, _⟩ := h
  rw [e, h1] at hb; cases hb
end Go.Proofs.YtnjpfhihbjihbaaGreatDoor

/- A table of symbols in memory. -/
namespace Go.Proofs.YtnjpfhihbjihbaaGreatDoor
open Go.RowKit Go.Sort

open Go.ChangeMaps
/-- A symbol's value in the map. -/
def symV (s : Sy) (v : Value) : Value := .agg #[.int .i64 s.n, v, .int .i64 s.here, .int .i64 s.line]
def symP (x : Sy × Value) : ByteArray × Value := (x.1.name, symV x.1 x.2)
/-- A table: the struct in block g, its map in block b. -/
structure TabIn (w : World) (g b : Nat) (M : List (Sy × Value)) : Prop where
  head : w.heap[g]? = some (.cells #[.map (some b)] 105 (0, 0))
  map : SMap w b (M.map symP)
  node : ∀ x ∈ M, OptAt 130 w x.1.ex x.2
theorem TabIn.ck {w w' : World} {g b : Nat} {M : List (Sy × Value)} (h : TabIn w g b M) (hk : Ck w w') (hb : w'.heap[b]? = w.heap[b]?) : TabIn w' g b M :=
  ⟨hk.block _ _ _ _ h.head, h.map.block hb, fun x hx => (h.node x hx).ck hk⟩
theorem TabIn.below {w w' : World} {g b : Nat} {M : List (Sy × Value)} (h : TabIn w g b M) (hb : Below w.heap.size w w') : TabIn w' g b M := h.ck (.of_below hb) (hb.block b h.map.lt)
theorem TabIn.cell {w : World} {g b : Nat} {M : List (Sy × Value)} (h : TabIn w g b M) : w.cell? ⟨g, 0, none⟩ = some (.map (some b)) := by simp [World.cell?, h.head]
theorem symP_names (M : List (Sy × Value)) : (M.map symP).map Prod.fst = (M.map Prod.fst).map Sy.name := by simp [List.map_map, Function.comp_def, symP]
theorem TabIn.nodup {w : World} {g b : Nat} {M : List (Sy × Value)} (h : TabIn w g b M) : ((M.map Prod.fst).map Sy.name).Nodup := by
  rw [← symP_names]; exact h.map.nodup
/-- What the map holds at a name. -/
theorem sget_symP (M : List (Sy × Value)) (t : ByteArray) : (sget (M.map symP) t = none ∧ sfindS (M.map Prod.fst) t = none) ∨ ∃ x ∈ M, sget (M.map symP) t = some (symV x.1 x.2) ∧ sfindS (M.map Prod.fst) t = some x.1 := by
  induction M with
  | nil => exact .inl ⟨rfl, rfl⟩
  | cons a M ih =>
    by_cases h : t = a.1.name
    · right
      refine ⟨a, List.mem_cons_self, ?_, ?_⟩
      · show (if (t == a.1.name) = true then _ else _) = _
        rw [h, bb_self]; rfl
      · show (if t = a.1.name then _ else _) = _
        rw [if_pos h]
    · have e1 : sget ((a :: M).map symP) t = sget (M.map symP) t := by
        show (if (t == a.1.name) = true then _ else _) = _
        rw [bb_ne h]; rfl
      have e2 : sfindS ((a :: M).map Prod.fst) t = sfindS (M.map Prod.fst) t := by
        show (if t = a.1.name then _ else _) = _
        rw [if_neg h]
      rw [e1, e2]
      rcases ih with h | ⟨x, hx, h⟩
      · exact .inl h
      · exact .inr ⟨x, List.mem_cons_of_mem _ hx, h⟩
theorem zeroBool (w : World) : (zeroValue 4).run Tryz.prog w = .ok (.bool false) w := by kernel_rfl
theorem zeroSym (w : World) : (zeroValue 101).run Tryz.prog w = .ok (.agg #[.int .i64 0, .pointer none, .int .i64 0, .int .i64 0]) w := by kernel_rfl
end Go.Proofs.YtnjpfhihbjihbaaGreatDoor

/- The reference's lexer: quoted strings. -/
namespace Go.Proofs.YtnjpfhihbjihbaaGreatDoor
open Go.RowKit Go.Sort

/-- What a look for a quoted string hands back. -/
def qR (o : Option (ByteArray × Nat)) : ByteArray × Int := match o with | some x => (x.1, x.2) | none => (⟨#[]⟩, -1)

set_option maxHeartbeats 1000000 in
set_option maxRecDepth 100000 in
theorem quoted16_any (s : ByteArray) (i : Nat) (w : World) (hi : i < s.size) (hs : s.size ≤ 1000000) :
    Calls Tryz.prog 95 #[.string s, .int .i64 i] w fun e w' => e = .returned (.tuple #[.string (qR (quotedP s i)).1, .int .i64 (qR (quotedP s i)).2]) ∧ w = w' := by
  obtain ⟨R, hR⟩ : ∃ R, qR (quotedP s i) = R := ⟨_, rfl⟩
  rw [hR]
  unfold quotedP at hR
  rw [← bat_get s i hi] at hR
  obtain ⟨m, hm⟩ : ∃ m, s[i] = m := ⟨_, rfl⟩
  rw [hm] at hR
  obtain ⟨mk, hmk⟩ : ∃ mk : Int, (m.toNat : Int) = mk := ⟨_, rfl⟩
  have hmi : (s[i].toNat : Int) = mk := by rw [hm]; exact hmk
  have hi0 : (0 : Int) ≤ (i : Int) := by omega
  have hi1 : (i : Int) < (s.size : Int) := by omega
  have HR := Lib.hid hR; clear hR hm
  have HMK := Lib.hid hmk; clear hmk
  go_enter Tryz.func95, Tryz.ntmps95
  go_wp2_with fail
  have HMI := Lib.hid hmi; clear hmi
  go_loop [7, 8] (fun x v => ∃ (k : Nat) (acc : ByteArray), k ≤ s.size ∧ acc.size ≤ k ∧ v = .int .i64 k ∧ x = .string acc ∧ Hid (qR (quotedGo s m k acc) = R)) (fun _ v => s.size - (intOf v).toNat)
  case atStart => exact ⟨i + 1, ⟨#[]⟩, hi, Nat.zero_le _, by go_num, rfl, HR⟩
  case round =>
    obtain ⟨k, acc, hk, hac, rfl, rfl, HK⟩ := hrel
    by_cases hlt : k < s.size
    · have hk0 : (0 : Int) ≤ (k : Int) := by omega
      have hk1 : (k : Int) < (s.size : Int) := by omega
      have hac2 : acc.size ≤ 1000000 := by omega
      have hes : (s.extract k (k + 1)).size ≤ 1 := by rw [ByteArray.size_extract]; omega
      have hes2 : acc.size + (s.extract k (k + 1)).size ≤ k + 1 := by omega
      by_cases he : s[k] = m
      · have he' : (s[k].toNat : Int) = mk := by rw [he]; exact HMK.out
        by_cases h2 : k + 1 < s.size
        · have h2' : (k : Int) + 1 < (s.size : Int) := by omega
          by_cases he2 : s[k + 1] = m
          · have he2' : (s[k + 1].toNat : Int) = mk := by rw [he2]; exact HMK.out
            have hst := HK.out
            rw [quotedGo_two s m k acc hlt he h2 (by rw [← bat_get s (k + 1) h2]; exact he2)] at hst
            have HST := Lib.hid hst; clear hst HK he he2
            go_wp2_with fail
            go_round
            case rel => exact ⟨k + 2, acc ++ s.extract k (k + 1), by omega, by rw [ByteArray.size_append]; omega, by go_num, rfl, HST⟩
            case measure => simp [intOf]; omega
          · have he2' : ¬ (s[k + 1].toNat : Int) = mk := by rw [← HMK.out]; intro h; exact he2 (UInt8.toNat_inj.1 (by omega))
            have hst := HK.out
            rw [quotedGo_end s m k acc hlt he (by rw [← bat_get s (k + 1) h2]; exact fun h => he2 h.2)] at hst
            have HST := Lib.hid hst; clear hst HK he he2
            go_wp2_with fail
            go_ret2
            exact ⟨by rw [← HST.out]; rfl, rfl⟩
        · have h2' : ¬ (k : Int) + 1 < (s.size : Int) := by omega
          have hst := HK.out
          rw [quotedGo_end s m k acc hlt he (fun h => h2 h.1)] at hst
          have HST := Lib.hid hst; clear hst HK he
          go_wp2_with fail
          go_ret2
          exact ⟨by rw [← HST.out]; rfl, rfl⟩
      · have he' : ¬ (s[k].toNat : Int) = mk := by rw [← HMK.out]; intro h; exact he (UInt8.toNat_inj.1 (by omega))
        have hst := HK.out
        rw [quotedGo_step s m k acc hlt he] at hst
        have HST := Lib.hid hst; clear hst HK he
        go_wp2_with fail
        go_round
        case rel => exact ⟨k + 1, acc ++ s.extract k (k + 1), by omega, by rw [ByteArray.size_append]; omega, by go_num, rfl, HST⟩
        case measure => simp [intOf]; omega
    · obtain rfl : k = s.size := by omega
      have hst := HK.out
      rw [quotedGo_out s m _ acc hlt] at hst
      have HST := Lib.hid hst; clear hst HK
      go_wp2_with fail
      go_ret2
      exact ⟨by rw [← HST.out]; rfl, rfl⟩
end Go.Proofs.YtnjpfhihbjihbaaGreatDoor

/- The reference's lexer: words. -/
namespace Go.Proofs.YtnjpfhihbjihbaaGreatDoor
open Go.RowKit Go.Sort

theorem sub_len (s : ByteArray) (i j : Nat) : (sub s i j).size ≤ s.size := by
  unfold sub; rw [ByteArray.size_extract]; omega

set_option maxHeartbeats 400000 in
set_option maxRecDepth 100000 in
theorem word16_any (s : ByteArray) (i : Nat) (w : World) (hi : i ≤ s.size) (hs : s.size ≤ 1000000) :
    Calls Tryz.prog 91 #[.string s, .int .i64 i] w fun e w' => e = .returned (.int .i64 (wordEnd s i : Nat)) ∧ Below w.heap.size w w' := by
  by_cases hlt : i < s.size
  · have hi0 : (0 : Int) ≤ (i : Int) := by omega
    have hi1 : (i : Int) < (s.size : Int) := by omega
    have hl := fun w => letter16_any s[i] w
    rcases hb : isLet s[i] with _ | _
    · have hr : wordEnd s i = i := by unfold wordEnd; rw [dif_pos hlt, if_neg (by rw [hb]; simp)]
      rw [hr]; rw [hb] at hl
      have HL := Lib.hid hl; clear hl hb hr
      go_enter Tryz.func91, Tryz.ntmps91
      go_wp2_with fail
      refine (HL.out _).mono ?_
      rintro e w1 ⟨rfl, rfl⟩
      go_wp2_with fail
      go_ret
      exact ⟨rfl, Below.refl _ _⟩
    · rw [hb] at hl
      obtain ⟨m, hm⟩ : ∃ m, runEnd s i = m := ⟨_, rfl⟩
      have hm1 := runEnd_ge s i
      have hm2 := runEnd_le s i hi
      have hrun := fun w => run16_any s i w hi hs
      rw [hm] at hm1 hm2
      simp only [hm] at hrun
      have hm3 : (i : Int) ≤ (m : Int) := by omega
      have hm4 : (m : Int) ≤ (s.size : Int) := by omega
      have hwe : wordEnd s i = (if h2 : m < s.size then (if (upper (sub s i m)).toList = [65, 70] ∧ s[m] = 39 then m + 1 else m) else m) := by
        unfold wordEnd; rw [dif_pos hlt, if_pos hb]; subst hm; rfl
      rw [hwe]
      obtain ⟨R, hR⟩ : ∃ R, (if h2 : m < s.size then (if (upper (sub s i m)).toList = [65, 70] ∧ s[m] = 39 then m + 1 else m) else m) = R := ⟨_, rfl⟩
      rw [hR]
      have HR := Lib.hid hR; clear hR
      have hub := sub_len s i m
      have HUP := Lib.hid (fun w => rupper_any (sub s i m) w (by omega))
      have HL := Lib.hid hl; clear hl hb hwe hm
      have HRUN := Lib.hid hrun; clear hrun
      go_enter Tryz.func91, Tryz.ntmps91
      go_wp2_with fail
      refine (HL.out _).mono ?_
      rintro e w1 ⟨rfl, rfl⟩
      go_wp2_with fail
      refine (HRUN.out _).mono ?_
      rintro e w1 ⟨rfl, rfl⟩
      go_wp2_with fail
      refine (HUP.out _).mono ?_
      rintro e w1 ⟨rfl, hb⟩
      obtain ⟨p1, rfl⟩ := gw_of_below hb
      clear hb
      rcases hAF : ((upper (sub s i m)).toList == [65, 70]) with _ | _
      · have hne : ¬ ((upper (sub s i m)).toList = [65, 70]) := by simpa using hAF
        have hres : R = m := by
          rw [← HR.out]
          split
          · rw [if_neg (fun h => hne h.1)]
          · rfl
        have HRES := Lib.hid hres; clear hres hne
        go_wp2_with fail
        go_ret
        exact ⟨by rw [HRES.out]; rfl, by (repeat (first | exact Below.refl _ _ | refine Below.drew ?_ | (refine below_gw' ?_ (by first | omega | (simp [go_sem]; done) | (simp [go_sem]; omega)) _) | (refine Below.alloc ?_ (by first | omega | (simp [go_sem]; done) | (simp [go_sem]; omega)) _) | (refine Below.setCell ?_ (by first | omega | (simp [go_sem]; done) | (simp [go_sem]; omega)) _)))⟩
      · have he : (upper (sub s i m)).toList = [65, 70] := by simpa using hAF
        by_cases h2 : m < s.size
        · have h3 : (m : Int) < (s.size : Int) := by omega
          have h4 : (0 : Int) ≤ (m : Int) := by omega
          by_cases hq : (s[m].toNat : Int) = 39
          · have hres : R = m + 1 := by
              rw [← HR.out]
              rw [dif_pos h2, if_pos ⟨he, UInt8.toNat_inj.1 (by show s[m].toNat = 39; omega)⟩]
            have HRES := Lib.hid hres; clear hres he
            go_wp2_with fail
            go_ret
            exact ⟨by rw [HRES.out]; rfl, by (repeat (first | exact Below.refl _ _ | refine Below.drew ?_ | (refine below_gw' ?_ (by first | omega | (simp [go_sem]; done) | (simp [go_sem]; omega)) _) | (refine Below.alloc ?_ (by first | omega | (simp [go_sem]; done) | (simp [go_sem]; omega)) _) | (refine Below.setCell ?_ (by first | omega | (simp [go_sem]; done) | (simp [go_sem]; omega)) _)))⟩
          · have hres : R = m := by
              rw [← HR.out]
              rw [dif_pos h2, if_neg (fun h => hq (by rw [h.2]; rfl))]
            have HRES := Lib.hid hres; clear hres he
            go_wp2_with fail
            go_ret
            exact ⟨by rw [HRES.out]; rfl, by (repeat (first | exact Below.refl _ _ | refine Below.drew ?_ | (refine below_gw' ?_ (by first | omega | (simp [go_sem]; done) | (simp [go_sem]; omega)) _) | (refine Below.alloc ?_ (by first | omega | (simp [go_sem]; done) | (simp [go_sem]; omega)) _) | (refine Below.setCell ?_ (by first | omega | (simp [go_sem]; done) | (simp [go_sem]; omega)) _)))⟩
        · have h3 : ¬ (m : Int) < (s.size : Int) := by omega
          have hres : R = m := by
            rw [← HR.out]
            rw [dif_neg h2]
          have HRES := Lib.hid hres; clear hres he
          go_wp2_with fail
          go_ret
          exact ⟨by rw [HRES.out]; rfl, by (repeat (first | exact Below.refl _ _ | refine Below.drew ?_ | (refine below_gw' ?_ (by first | omega | (simp [go_sem]; done) | (simp [go_sem]; omega)) _) | (refine Below.alloc ?_ (by first | omega | (simp [go_sem]; done) | (simp [go_sem]; omega)) _) | (refine Below.setCell ?_ (by first | omega | (simp [go_sem]; done) | (simp [go_sem]; omega)) _)))⟩
  · have hr : wordEnd s i = i := by unfold wordEnd; rw [dif_neg hlt]
    rw [hr]
    have hi1 : ¬ (i : Int) < (s.size : Int) := by omega
    have hi2 : (s.size : Int) ≤ (i : Int) := by omega
    clear hr
    go_enter Tryz.func91, Tryz.ntmps91
    go_wp2_with fail
    go_ret
    exact ⟨rfl, Below.refl _ _⟩
end Go.Proofs.YtnjpfhihbjihbaaGreatDoor

/- The reference's lexer: signs. (Written by wip/gen_sign16.py.) -/
namespace Go.Proofs.YtnjpfhihbjihbaaGreatDoor
open Go.RowKit Go.Sort

theorem signs1_at (q : Nat) (h : q < 14) : signs1[q]? = some ((⟨#[44, 40, 41, 43, 45, 42, 47, 38, 124, 94, 126, 58, 61, 36]⟩ : ByteArray)[q]'h) := by
  show (⟨#[44, 40, 41, 43, 45, 42, 47, 38, 124, 94, 126, 58, 61, 36]⟩ : ByteArray).data.toList[q]? = _
  rw [List.getElem?_eq_getElem (by simpa using h)]
  simp
  rfl
set_option maxHeartbeats 1000000 in
set_option maxRecDepth 100000 in
theorem sign16_any (s : ByteArray) (i : Nat) (w : World) (hi : i < s.size) (hs : s.size ≤ 1000000) :
    Calls Tryz.prog 96 #[.string s, .int .i64 i] w fun e w' => e = .returned (.int .i64 (signLen s i : Nat)) ∧ Below w.heap.size w w' := by
  obtain ⟨R, hR⟩ : ∃ R, signLen s i = R := ⟨_, rfl⟩
  rw [hR]
  unfold signLen at hR
  rw [dif_pos hi] at hR
  have HR := Lib.hid hR; clear hR
  have hi0 : (0 : Int) ≤ (i : Int) := by omega
  have hi1 : (i : Int) < (s.size : Int) := by omega
  by_cases h2 : i + 1 < s.size
  · have h3 : (i : Int) + 1 < (s.size : Int) := by omega
    have h4 : (i : Int) + 2 ≤ (s.size : Int) := by omega
    have h5 : (i : Int) ≤ (i : Int) + 2 := by omega
    rcases hq : ((s.extract i (i + 2)).toList == [60, 60]) with _ | _
    · rcases hq2 : ((s.extract i (i + 2)).toList == [62, 62]) with _ | _
      · have hres : R = if s[i] ∈ signs1 then 1 else 0 := by
          rw [← HR.out, if_neg]
          rintro ⟨_, h | h⟩
          · rw [h] at hq; cases hq
          · rw [h] at hq2; cases hq2
        have HRES := Lib.hid hres; clear hres HR
        go_enter Tryz.func96, Tryz.ntmps96
        go_wp2_with fail
        go_loopw [6] (fun v wr => ∃ q : Nat, q ≤ 14 ∧ v = .int .i64 q ∧ Hid (s[i] ∉ signs1.take q) ∧ Below w.heap.size w wr) (fun v _ => 14 - (intOf v).toNat)
        case atStart => exact ⟨0, Nat.zero_le _, rfl, Lib.hid (by simp), Below.refl _ _⟩
        case round =>
          obtain ⟨q, hq, rfl, HN, hbel⟩ := hrel
          have HBEL := Lib.hid hbel; clear hbel
          by_cases hlt : q < 14
          · have hA : q < (⟨#[44, 40, 41, 43, 45, 42, 47, 38, 124, 94, 126, 58, 61, 36]⟩ : ByteArray).size := hlt
            have hi2 : (0 : Int) ≤ (q : Int) := by omega
            have hi3 : (q : Int) < 14 := by omega
            have hget : signs1[q]? = some ((⟨#[44, 40, 41, 43, 45, 42, 47, 38, 124, 94, 126, 58, 61, 36]⟩ : ByteArray)[q]) := signs1_at q hlt
            rcases he : ((s[i].toNat : Int) == (((⟨#[44, 40, 41, 43, 45, 42, 47, 38, 124, 94, 126, 58, 61, 36]⟩ : ByteArray)[q]).toNat : Int)) with _ | _
            · have hno : s[i] ∉ signs1.take (q + 1) := by
                have h1 := HN.out
                rw [List.take_add_one, hget]
                intro hm
                rcases List.mem_append.1 hm with hm | hm
                · exact h1 hm
                · rw [Option.toList_some, List.mem_singleton] at hm
                  rw [← hm] at he
                  simp at he
              have HNO := Lib.hid hno; clear hno hget
              go_wp2_with fail
              go_region
              all_goals
                go_wp2_with fail
                go_roundw
              case rel => exact ⟨q + 1, by omega, by go_num, HNO, HBEL.out.drew⟩
              case measure => simp [intOf]; omega
            · have hmem : s[i] ∈ signs1 := by
                have : s[i] = (⟨#[44, 40, 41, 43, 45, 42, 47, 38, 124, 94, 126, 58, 61, 36]⟩ : ByteArray)[q] := UInt8.toNat_inj.1 (by have := eq_of_beq he; omega)
                rw [this]; exact List.mem_of_getElem? hget
              have HMEM := Lib.hid hmem; clear hmem hget
              go_wp2_with fail
              go_region
              all_goals
                go_wp2_with fail
                go_ret
                exact ⟨by rw [HRES.out, if_pos HMEM.out]; rfl, HBEL.out.drew⟩
          · obtain rfl : q = 14 := by omega
            have hno : s[i] ∉ signs1 := by have := HN.out; rwa [show signs1.take 14 = signs1 from rfl] at this
            have HNO := Lib.hid hno; clear hno
            go_wp2_with fail
            go_ret
            exact ⟨by rw [HRES.out, if_neg HNO.out]; rfl, HBEL.out⟩
      · have hres : R = 2 := by rw [← HR.out, if_pos ⟨h2, .inr (by simpa using hq2)⟩]
        have HRES := Lib.hid hres; clear hres HR
        go_enter Tryz.func96, Tryz.ntmps96
        go_wp2_with fail
        go_ret
        exact ⟨by rw [HRES.out]; rfl, Below.refl _ _⟩
    · have hres : R = 2 := by rw [← HR.out, if_pos ⟨h2, .inl (by simpa using hq)⟩]
      have HRES := Lib.hid hres; clear hres HR
      go_enter Tryz.func96, Tryz.ntmps96
      go_wp2_with fail
      go_ret
      exact ⟨by rw [HRES.out]; rfl, Below.refl _ _⟩
  · have h3 : ¬ (i : Int) + 1 < (s.size : Int) := by omega
    have hres : R = if s[i] ∈ signs1 then 1 else 0 := by rw [← HR.out, if_neg (fun h => h2 h.1)]
    have HRES := Lib.hid hres; clear hres HR
    go_enter Tryz.func96, Tryz.ntmps96
    go_wp2_with fail
    go_loopw [6] (fun v wr => ∃ q : Nat, q ≤ 14 ∧ v = .int .i64 q ∧ Hid (s[i] ∉ signs1.take q) ∧ Below w.heap.size w wr) (fun v _ => 14 - (intOf v).toNat)
    case atStart => exact ⟨0, Nat.zero_le _, rfl, Lib.hid (by simp), Below.refl _ _⟩
    case round =>
      obtain ⟨q, hq, rfl, HN, hbel⟩ := hrel
      have HBEL := Lib.hid hbel; clear hbel
      by_cases hlt : q < 14
      · have hA : q < (⟨#[44, 40, 41, 43, 45, 42, 47, 38, 124, 94, 126, 58, 61, 36]⟩ : ByteArray).size := hlt
        have hi2 : (0 : Int) ≤ (q : Int) := by omega
        have hi3 : (q : Int) < 14 := by omega
        have hget : signs1[q]? = some ((⟨#[44, 40, 41, 43, 45, 42, 47, 38, 124, 94, 126, 58, 61, 36]⟩ : ByteArray)[q]) := signs1_at q hlt
        rcases he : ((s[i].toNat : Int) == (((⟨#[44, 40, 41, 43, 45, 42, 47, 38, 124, 94, 126, 58, 61, 36]⟩ : ByteArray)[q]).toNat : Int)) with _ | _
        · have hno : s[i] ∉ signs1.take (q + 1) := by
            have h1 := HN.out
            rw [List.take_add_one, hget]
            intro hm
            rcases List.mem_append.1 hm with hm | hm
            · exact h1 hm
            · rw [Option.toList_some, List.mem_singleton] at hm
              rw [← hm] at he
              simp at he
          have HNO := Lib.hid hno; clear hno hget
          go_wp2_with fail
          go_region
          all_goals
            go_wp2_with fail
            go_roundw
          case rel => exact ⟨q + 1, by omega, by go_num, HNO, HBEL.out.drew⟩
          case measure => simp [intOf]; omega
        · have hmem : s[i] ∈ signs1 := by
            have : s[i] = (⟨#[44, 40, 41, 43, 45, 42, 47, 38, 124, 94, 126, 58, 61, 36]⟩ : ByteArray)[q] := UInt8.toNat_inj.1 (by have := eq_of_beq he; omega)
            rw [this]; exact List.mem_of_getElem? hget
          have HMEM := Lib.hid hmem; clear hmem hget
          go_wp2_with fail
          go_region
          all_goals
            go_wp2_with fail
            go_ret
            exact ⟨by rw [HRES.out, if_pos HMEM.out]; rfl, HBEL.out.drew⟩
      · obtain rfl : q = 14 := by omega
        have hno : s[i] ∉ signs1 := by have := HN.out; rwa [show signs1.take 14 = signs1 from rfl] at this
        have HNO := Lib.hid hno; clear hno
        go_wp2_with fail
        go_ret
        exact ⟨by rw [HRES.out, if_neg HNO.out]; rfl, HBEL.out⟩
end Go.Proofs.YtnjpfhihbjihbaaGreatDoor
