/- Joined texts: Lex16, LexA, LexB. -/
import Derived.Test.YtkldoojonnkfgaaGreatDoorC16
namespace Go.Proofs.YtkldoojonnkfgaaGreatDoor
open Go.RowKit Go.Sort
def LexAt (w:World) (b:Nat) (s:ByteArray) (i:Int) (t:Tok):Prop :=
 w.heap[b]? = some (.cells #[.string s,.int .i64 i,.int .i64 t.kind,.string t.text,.int .i64 t.n,.int .i64 t.off] 94 (0,0))
theorem LexAt.facts {w:World} {b:Nat} {s:ByteArray} {i:Int} {t:Tok} (h:LexAt w b s i t) :
 w.cell? ⟨b,0,none⟩=some (.string s)∧w.cell? ⟨b,1,none⟩=some (.int .i64 i)∧w.cell? ⟨b,2,none⟩=some (.int .i64 t.kind)∧w.cell? ⟨b,3,none⟩=some (.string t.text)∧w.cell? ⟨b,4,none⟩=some (.int .i64 t.n)∧w.cell? ⟨b,5,none⟩=some (.int .i64 t.off)∧b<w.heap.size ∧
 (w.frozen? ⟨b,0,none⟩=false∧w.frozen? ⟨b,1,none⟩=false∧w.frozen? ⟨b,2,none⟩=false∧w.frozen? ⟨b,3,none⟩=false∧w.frozen? ⟨b,4,none⟩=false∧w.frozen? ⟨b,5,none⟩=false):=by
 unfold LexAt at h
 refine ⟨?_,?_,?_,?_,?_,?_,lt_of_block h,?_,?_,?_,?_,?_,?_⟩<;>simp [World.cell?,World.frozen?,h]
theorem LexAt.gw {w:World} {b:Nat} {s:ByteArray} {i:Int} {t:Tok} (h:LexAt w b s i t) (p:Regrown):LexAt (gw w p) b s i t:=by
 unfold LexAt at *
 rw [(below_gw w p).block b (lt_of_block h)]
 exact h
theorem LexAt.alloc {w:World} {b:Nat} {s:ByteArray} {i:Int} {t:Tok} (h:LexAt w b s i t) (o:Obj):LexAt (w.alloc o) b s i t:=by
 unfold LexAt at *
 rw [Below.heap_alloc w o b (lt_of_block h)]
 exact h
theorem LexAt.drew {w:World} {b:Nat} {s:ByteArray} {i:Int} {t:Tok} (h:LexAt w b s i t):LexAt w.drew b s i t:=h
theorem LexAt.at {w:World} {b:Nat} {s:ByteArray} {i:Int} {t:Tok} (h:LexAt w b s i t) (j:Int):LexAt (w.setCell ⟨b,1,none⟩ (.int .i64 j)) b s j t:=by
 unfold LexAt at *
 simp [World.setCell,Array.getElem?_modify,h]
theorem LexAt.kind {w:World} {b:Nat} {s:ByteArray} {i:Int} {t:Tok} (h:LexAt w b s i t) (j:Int):LexAt (w.setCell ⟨b,2,none⟩ (.int .i64 j)) b s i { t with kind:=j }:=by
 unfold LexAt at *
 simp [World.setCell,Array.getElem?_modify,h]
theorem LexAt.text {w:World} {b:Nat} {s:ByteArray} {i:Int} {t:Tok} (h:LexAt w b s i t) (j:ByteArray):LexAt (w.setCell ⟨b,3,none⟩ (.string j)) b s i { t with text:=j }:=by
 unfold LexAt at *
 simp [World.setCell,Array.getElem?_modify,h]
theorem LexAt.n {w:World} {b:Nat} {s:ByteArray} {i:Int} {t:Tok} (h:LexAt w b s i t) (j:Int):LexAt (w.setCell ⟨b,4,none⟩ (.int .i64 j)) b s i { t with n:=j }:=by
 unfold LexAt at *
 simp [World.setCell,Array.getElem?_modify,h]
theorem LexAt.off {w:World} {b:Nat} {s:ByteArray} {i:Int} {t:Tok} (h:LexAt w b s i t) (j:Int):LexAt (w.setCell ⟨b,5,none⟩ (.int .i64 j)) b s i { t with off:=j }:=by
 unfold LexAt at *
 simp [World.setCell,Array.getElem?_modify,h]
set_option maxHeartbeats 400000 in
theorem isDigit_any (c:UInt8) (w:World) :
 Calls Tryz.prog 175 #[.int .u8 (c.toNat:Int)] w fun e w'=>e=.returned (.bool (isDig c))∧w=w':=by
 have hd:isDig c=decide (48≤(c.toNat:Int)∧(c.toNat:Int)≤57):=by
  unfold isDig; rw [decide_eq_decide]; omega
 rw [hd]
 generalize (c.toNat:Int)=n
 go_enter Tryz.func175,Tryz.ntmps175
 go_wp2
 all_goals
  go_ret
  refine ⟨?_,rfl⟩
  simp
  try (rw [Bool.eq_iff_iff]; simp)
  try omega
theorem capIdx:∀ n:Fin 256,isLet (UInt8.ofNat n.val)=((decide (65≤bits BinOp.andNot IntKind.u8 (n.val:Int) 32) && decide (bits BinOp.andNot IntKind.u8 (n.val:Int) 32≤90)) || decide (0≤Lib.indexByte [95,46,63,64] (UInt8.ofNat n.val))):=by decide +kernel
set_option maxHeartbeats 1000000 in
theorem isLetter_any (c:UInt8) (w:World) :
 Calls Tryz.prog 173 #[.int .u8 (c.toNat:Int)] w fun e w'=>e=.returned (.bool (isLet c))∧w=w':=by
 have hc:=capIdx ⟨c.toNat,c.toNat_lt⟩
 simp only [UInt8.ofNat_toNat] at hc
 have hidx:=fun w=>Tryz.strings_IndexByte ⟨#[95,46,63,64]⟩ (c.toNat:Int) w
 have e1:((c.toNat:Int).toNat.toUInt8)=c:=by rw [Int.toNat_natCast]; exact UInt8.ofNat_toNat
 simp only [e1] at hidx
 obtain ⟨q,hq⟩:∃ q,Lib.indexByte [95,46,63,64] c=q:=⟨_,rfl⟩
 obtain ⟨u,hu⟩:∃ u,bits BinOp.andNot IntKind.u8 (c.toNat:Int) 32=u:=⟨_,rfl⟩
 rw [hq,hu] at hc
 simp only [hq] at hidx
 rw [hc]
 have HI:=Hh hidx; clear hidx hc e1 hq
 go_enter Tryz.func173,Tryz.ntmps173
 go_wp2_with (refine (HI.out _).mono ?_; rintro e w1 ⟨rfl,rfl⟩)
 all_goals
  go_ret
  refine ⟨?_,rfl⟩
  simp [*]
  try (rw [Bool.eq_iff_iff]; simp [*])
  try omega
set_option maxHeartbeats 1000000 in
set_option maxRecDepth 100000 in
theorem peek_any (s:ByteArray) (i b:Nat) (t:Tok) (w:World) (hL:LexAt w b s i t) :
 Calls Tryz.prog 97 #[.pointer (some ⟨b,0,none⟩)] w fun e w'=>e=.returned (.int .u8 ((bat s i).toNat:Int))∧Below w.heap.size w w':=by
 obtain ⟨c0,c1,_,_,_,_,hb,_⟩:=hL.facts
 have hi0:(0:Int)≤(i:Int):=by omega
 clear hL
 by_cases hlt:i<s.size
 · have hi1:(i:Int)<(s.size:Int):=by omega
   have hbat:=bat_get s i hlt
   obtain ⟨c,hc⟩:∃ c,bat s i=c:=⟨_,rfl⟩
   rw [hc] at hbat ⊢
   have hbt:(s[i].toNat:Int)=(c.toNat:Int):=by rw [hbat]
   clear hbat hc
   generalize (c.toNat:Int)=x at hbt ⊢
   go_enter Tryz.func97,Tryz.ntmps97
   go_wp2_with fail
   refine wp_region_gw (by kernel_rfl) (by kernel_rfl) ?_
   repeat (go_big_quiet_step (fail))
   refine wpQuiet_nil ?_
   rintro _ ⟨p1,rfl⟩
   have hb1:b<w.heap.size+p1.os.size:=by omega
   go_wp2_with fail
   refine wp_region_gw (by kernel_rfl) (by kernel_rfl) ?_
   repeat (go_big_quiet_step (fail))
   refine wpQuiet_nil ?_
   rintro _ ⟨p2,rfl⟩
   go_wp2_with fail
   go_ret
   exact ⟨by rw [←hbt]; rfl,bl⟩
 · have hi1:¬ (i:Int)<(s.size:Int):=by omega
   have hz:bat s i=0:=by unfold bat; rw [Array.getElem?_eq_none (by show s.data.size≤i; have:s.data.size=s.size:=rfl; omega)]; rfl
   rw [hz]
   clear hz
   go_enter Tryz.func97,Tryz.ntmps97
   go_wp2_with fail
   refine wp_region_gw (by kernel_rfl) (by kernel_rfl) ?_
   repeat (go_big_quiet_step (fail))
   refine wpQuiet_nil ?_
   rintro _ ⟨p1,rfl⟩
   go_wp2_with fail
   go_ret
   exact ⟨rfl,bl⟩
set_option maxHeartbeats 1000000 in
set_option maxRecDepth 100000 in
theorem rest_any (s:ByteArray) (i b:Nat) (t:Tok) (w:World) (hL:LexAt w b s i t) (hi:i≤s.size) :
 Calls Tryz.prog 178 #[.pointer (some ⟨b,0,none⟩)] w fun e w'=>e=.returned (.string (sub s i s.size))∧Below w.heap.size w w':=by
 obtain ⟨c0,c1,_,_,_,_,hb,_⟩:=hL.facts
 have hi0:(0:Int)≤(i:Int):=by omega
 have hi1:(i:Int)≤(s.size:Int):=by omega
 clear hL
 go_enter Tryz.func178,Tryz.ntmps178
 go_wp2_with fail
 refine wp_region_gw (by kernel_rfl) (by kernel_rfl) ?_
 repeat (go_big_quiet_step (fail))
 refine wpQuiet_nil ?_
 rintro _ ⟨p1,rfl⟩
 go_wp2_with fail
 go_ret
 exact ⟨rfl,bl⟩
theorem isW_eq (c:UInt8):isW c=(isLet c || isDig c):=rfl
theorem LexAt.cong {w:World} {b:Nat} {s:ByteArray} {i j:Int} {t:Tok} (h:LexAt w b s i t) (e:i=j):LexAt w b s j t:=e ▸ h
def offAt (w:World) (b:Nat):Int:=match w.cell? ⟨b,1,none⟩ with | some v=>intOf v | none=>0
theorem LexAt.offAt {w:World} {b:Nat} {s:ByteArray} {i:Int} {t:Tok} (h:LexAt w b s i t):offAt w b=i:=by
 unfold Proofs.YtkldoojonnkfgaaGreatDoor.offAt
 rw [h.facts.2.1]; rfl
set_option maxHeartbeats 2000000 in
set_option maxRecDepth 100000 in
theorem run_any (s:ByteArray) (i b:Nat) (t:Tok) (w:World) (hL:LexAt w b s i t) (hi:i≤s.size) (hs:s.size≤1000000) :
 Calls Tryz.prog 174 #[.pointer (some ⟨b,0,none⟩)] w fun e w'=>e=.returned (.string (sub s i (runEnd s i)))∧LexAt w' b s (runEnd s i:Nat) t∧Kb b w w':=by
 obtain ⟨R,hR⟩:∃ R,runEnd s i=R:=⟨_,rfl⟩
 have hR1:=runEnd_ge s i
 have hR2:=runEnd_le s i hi
 rw [hR] at hR1 hR2 ⊢
 have HR:=Hh hR; clear hR
 have hi0:(0:Int)≤(i:Int):=by omega
 have hiR:(i:Int)≤(R:Int):=by omega
 have hRs:(R:Int)≤(s.size:Int):=by omega
 obtain ⟨c0,c1,_,_,_,_,hb,_⟩:=hL.facts
 have HL:=Hh hL; clear hL
 go_enter Tryz.func174,Tryz.ntmps174
 go_wp2_with fail
 clear c0 c1 hb
 go_loopw [] (fun wr=>∃ k:Nat,i≤k∧k≤s.size∧LexAt wr b s k t∧Kb b w wr∧Hid (runEnd s k=R)) (fun wr=>s.size - (offAt wr b).toNat)
 case atStart=>exact ⟨i,Nat.le_refl _,hi,HL.out,Kb.refl _ _,HR⟩
 case round =>
  obtain ⟨k,hik,hk,hLk,hkb,HK⟩:=hrel
  have hik':(i:Int)≤(k:Int):=by omega
  have hks':(k:Int)≤(s.size:Int):=by omega
  obtain ⟨c0,c1,_,_,_,_,hb,_,f1,_⟩:=hLk.facts
  have hw:k<s.size→isW s[k]! = isW s[k]! := fun _=>rfl
  have hk0:(0:Int)≤(k:Int):=by omega
  have HLk:=Hh hLk; clear hLk hw
  have HKB:=Hh hkb; clear hkb
  by_cases hlt:k<s.size
  · have hk1:(k:Int)<(s.size:Int):=by omega
    have hbk:=bat_get s k hlt
    have hl:=fun w=>isLetter_any (bat s k) w
    have hd:=fun w=>isDigit_any (bat s k) w
    rcases h1:isLet (bat s k) with _ | _
    · rcases h2:isDig (bat s k) with _ | _
      · have hst:=runEnd_no s k hlt (by rw [isW_eq,hbk,h1,h2]; rfl)
        rw [h1] at hl; rw [h2] at hd
        have HST:=Hh (HK.out.symm.trans hst); clear hst h1 h2 hbk
        have HLET:=Hh hl; clear hl
        have HDIG:=Hh hd; clear hd
        go_wp2_with fail
        refine wp_region_gw (by kernel_rfl) (by kernel_rfl) ?_
        repeat (go_big_quiet_step (first | exact gw_quiet (peek_any s k b t _ (HLk.out.gw _)) | exact gw_quiet_same (HLET.out _) | exact gw_quiet_same (HDIG.out _)))
        refine wpQuiet_nil ?_
        rintro _ ⟨p1,rfl⟩
        have hb1:b<wr.heap.size+p1.os.size:=by omega
        go_wp2_with fail
        refine wp_region_gw (by kernel_rfl) (by kernel_rfl) ?_
        repeat (go_big_quiet_step (fail))
        refine wpQuiet_nil ?_
        rintro _ ⟨p2,rfl⟩
        go_wp2_with fail
        go_ret
        obtain rfl:R=k:=HST.out
        exact ⟨rfl,(HLk.out.gw _).gw _,(HKB.out.gw _).gw _⟩
      · have hst:=runEnd_go s k hlt (by rw [isW_eq,hbk,h1,h2]; rfl)
        rw [h1] at hl; rw [h2] at hd
        have HST:=Hh (hst.symm.trans HK.out); clear hst h1 h2 hbk
        have HLET:=Hh hl; clear hl
        have HDIG:=Hh hd; clear hd
        go_wp2_with fail
        refine wp_region_gw (by kernel_rfl) (by kernel_rfl) ?_
        repeat (go_big_quiet_step (first | exact gw_quiet (peek_any s k b t _ (HLk.out.gw _)) | exact gw_quiet_same (HLET.out _) | exact gw_quiet_same (HDIG.out _)))
        refine wpQuiet_nil ?_
        rintro _ ⟨p1,rfl⟩
        go_wp2_with fail
        go_roundw
        case rel=>exact ⟨k+1,by omega,by omega,(((HLk.out.at _).cong (by go_num)).gw _),((HKB.out.setCell 1 _).gw _),HST⟩
        case measure=>rw [HLk.out.offAt,((HLk.out.at ((k:Int)+1)).gw p1).offAt]; omega
    · have hst:=runEnd_go s k hlt (by rw [isW_eq,hbk,h1]; rfl)
      rw [h1] at hl
      have HST:=Hh (hst.symm.trans HK.out); clear hst h1 hbk hd
      have HLET:=Hh hl; clear hl
      go_wp2_with fail
      refine wp_region_gw (by kernel_rfl) (by kernel_rfl) ?_
      repeat (go_big_quiet_step (first | exact gw_quiet (peek_any s k b t _ (HLk.out.gw _)) | exact gw_quiet_same (HLET.out _)))
      refine wpQuiet_nil ?_
      rintro _ ⟨p1,rfl⟩
      go_wp2_with fail
      go_roundw
      case rel=>exact ⟨k+1,by omega,by omega,(((HLk.out.at _).cong (by go_num)).gw _),((HKB.out.setCell 1 _).gw _),HST⟩
      case measure=>rw [HLk.out.offAt,((HLk.out.at ((k:Int)+1)).gw p1).offAt]; omega
  · obtain rfl:k=s.size:=by omega
    have hst:=runEnd_out s _ hlt
    have HST:=Hh (HK.out.symm.trans hst); clear hst
    go_wp2_with fail
    refine wp_region_gw (by kernel_rfl) (by kernel_rfl) ?_
    repeat (go_big_quiet_step (fail))
    refine wpQuiet_nil ?_
    rintro _ ⟨p1,rfl⟩
    have hb1:b<wr.heap.size+p1.os.size:=by omega
    go_wp2_with fail
    refine wp_region_gw (by kernel_rfl) (by kernel_rfl) ?_
    repeat (go_big_quiet_step (fail))
    refine wpQuiet_nil ?_
    rintro _ ⟨p2,rfl⟩
    go_wp2_with fail
    go_ret
    obtain rfl:R=s.size:=HST.out
    exact ⟨rfl,(HLk.out.gw _).gw _,(HKB.out.gw _).gw _⟩
set_option maxHeartbeats 2000000 in
set_option maxRecDepth 100000 in
theorem blanks_any (s:ByteArray) (i b:Nat) (t:Tok) (w:World) (hL:LexAt w b s i t) (hi:i≤s.size) (hs:s.size≤1000000) :
 Calls Tryz.prog 44 #[.pointer (some ⟨b,0,none⟩)] w fun e w'=>e=.returned (.bool (moreAt s (skipEnd s i)))∧LexAt w' b s (skipEnd s i:Nat) t∧Kb b w w':=by
 obtain ⟨R,hR⟩:∃ R,skipEnd s i=R:=⟨_,rfl⟩
 rw [hR]
 have HR:=Hh hR; clear hR
 have hi0:(0:Int)≤(i:Int):=by omega
 have HL:=Hh hL; clear hL
 go_enter Tryz.func44,Tryz.ntmps44
 go_wp2_with fail
 go_loopw [] (fun wr=>∃ k:Nat,k≤s.size∧LexAt wr b s k t∧Kb b w wr∧Hid (skipEnd s k=R)) (fun wr=>s.size - (offAt wr b).toNat)
 case atStart=>exact ⟨i,hi,HL.out,Kb.refl _ _,HR⟩
 case round =>
  obtain ⟨k,hk,hLk,hkb,HK⟩:=hrel
  have hks':(k:Int)≤(s.size:Int):=by omega
  obtain ⟨c0,c1,_,_,_,_,hb,_,f1,_⟩:=hLk.facts
  have hk0:(0:Int)≤(k:Int):=by omega
  have HLk:=Hh hLk; clear hLk
  have HKB:=Hh hkb; clear hkb
  by_cases hlt:k<s.size
  · have hk1:(k:Int)<(s.size:Int):=by omega
    have hbk:=bat_get s k hlt
    obtain ⟨c,hc⟩:∃ c:Int,((bat s k).toNat:Int)=c:=⟨_,rfl⟩
    have hpk:∀ w,LexAt w b s k t→Calls Tryz.prog 97 #[.pointer (some ⟨b,0,none⟩)] w fun e w'=>e=.returned (.int .u8 c)∧Below w.heap.size w w':=fun w h=>by rw [←hc]; exact peek_any s k b t w h
    have HPK:=Hh hpk; clear hpk
    by_cases h1:c=32
    · have hst:=skipEnd_go s k hlt (.inl (by rw [hbk]; exact UInt8.toNat_inj.1 (by show (bat s k).toNat=32; omega)))
      have HST:=Hh (hst.symm.trans HK.out); clear hst hbk hc
      subst h1
      go_wp2_with fail
      refine wp_region_gw (by kernel_rfl) (by kernel_rfl) ?_
      repeat (go_big_quiet_step (exact gw_quiet (HPK.out _ (HLk.out.gw _))))
      refine wpQuiet_nil ?_
      rintro _ ⟨p1,rfl⟩
      go_wp2_with fail
      go_roundw
      case rel=>exact ⟨k+1,by omega,(((HLk.out.at _).cong (by go_num)).gw _),((HKB.out.setCell 1 _).gw _),HST⟩
      case measure=>rw [HLk.out.offAt,((HLk.out.at ((k:Int)+1)).gw p1).offAt]; omega
    · by_cases h2:c=9
      · have hst:=skipEnd_go s k hlt (.inr (by rw [hbk]; exact UInt8.toNat_inj.1 (by show (bat s k).toNat=9; omega)))
        have HST:=Hh (hst.symm.trans HK.out); clear hst hbk hc h1
        subst h2
        go_wp2_with fail
        refine wp_region_gw (by kernel_rfl) (by kernel_rfl) ?_
        repeat (go_big_quiet_step (exact gw_quiet (HPK.out _ (HLk.out.gw _))))
        refine wpQuiet_nil ?_
        rintro _ ⟨p1,rfl⟩
        go_wp2_with fail
        go_roundw
        case rel=>exact ⟨k+1,by omega,(((HLk.out.at _).cong (by go_num)).gw _),((HKB.out.setCell 1 _).gw _),HST⟩
        case measure=>rw [HLk.out.offAt,((HLk.out.at ((k:Int)+1)).gw p1).offAt]; omega
      · have hst:=skipEnd_no s k hlt (by
         rw [hbk]
         rintro (h | h)
         · apply h1; rw [←hc,h]; rfl
         · apply h2; rw [←hc,h]; rfl)
        have hmo:moreAt s k=!(c == 59):=by
         unfold moreAt
         rw [decide_eq_true hlt,Bool.true_and,Bool.eq_iff_iff]
         simp only [bne_iff_ne,ne_eq,Bool.not_eq_true',beq_eq_false_iff_ne]
         rw [←hc,←UInt8.toNat_inj]
         have:(59:UInt8).toNat=59:=rfl
         rw [this]; omega
        have HST:=Hh (HK.out.symm.trans hst); clear hst hbk hc
        have b1:(c == 32)=false:=by simpa using h1
        have b2:(c == 9)=false:=by simpa using h2
        clear h1 h2
        have HMO:=Hh hmo; clear hmo
        have hb1:∀ p:Regrown,b<wr.heap.size+p.os.size:=fun p=>by omega
        rcases h59:(c == 59) with _ | _
        · have n59:(c != 59)=true:=by simpa using h59
          go_wp2_with fail
          refine wp_region_gw (by kernel_rfl) (by kernel_rfl) ?_
          repeat (go_big_quiet_step (exact gw_quiet (HPK.out _ (HLk.out.gw _))))
          refine wpQuiet_nil ?_
          rintro _ ⟨p1,rfl⟩
          have hb1:b<wr.heap.size+p1.os.size:=by omega
          go_wp2_with fail
          refine wp_region_gw (by kernel_rfl) (by kernel_rfl) ?_
          repeat (go_big_quiet_step (exact gw_quiet (HPK.out _ ((HLk.out.gw _).gw _))))
          refine wpQuiet_nil ?_
          rintro _ ⟨p2,rfl⟩
          go_wp2_with fail
          go_ret
          obtain rfl:R=k:=HST.out
          exact ⟨by rw [HMO.out,h59]; rfl,(HLk.out.gw _).gw _,(HKB.out.gw _).gw _⟩
        · have n59:(c != 59)=false:=by simpa using h59
          go_wp2_with fail
          refine wp_region_gw (by kernel_rfl) (by kernel_rfl) ?_
          repeat (go_big_quiet_step (exact gw_quiet (HPK.out _ (HLk.out.gw _))))
          refine wpQuiet_nil ?_
          rintro _ ⟨p1,rfl⟩
          have hb1:b<wr.heap.size+p1.os.size:=by omega
          go_wp2_with fail
          refine wp_region_gw (by kernel_rfl) (by kernel_rfl) ?_
          repeat (go_big_quiet_step (exact gw_quiet (HPK.out _ ((HLk.out.gw _).gw _))))
          refine wpQuiet_nil ?_
          rintro _ ⟨p2,rfl⟩
          go_wp2_with fail
          go_ret
          obtain rfl:R=k:=HST.out
          exact ⟨by rw [HMO.out,h59]; rfl,(HLk.out.gw _).gw _,(HKB.out.gw _).gw _⟩
  · obtain rfl:k=s.size:=by omega
    have hst:=skipEnd_out s _ hlt
    have HST:=Hh (HK.out.symm.trans hst); clear hst
    go_wp2_with fail
    refine wp_region_gw (by kernel_rfl) (by kernel_rfl) ?_
    repeat (go_big_quiet_step (fail))
    refine wpQuiet_nil ?_
    rintro _ ⟨p1,rfl⟩
    have hb1:b<wr.heap.size+p1.os.size:=by omega
    go_wp2_with fail
    refine wp_region_gw (by kernel_rfl) (by kernel_rfl) ?_
    repeat (go_big_quiet_step (fail))
    refine wpQuiet_nil ?_
    rintro _ ⟨p2,rfl⟩
    go_wp2_with fail
    go_ret
    obtain rfl:R=s.size:=HST.out
    exact ⟨by unfold moreAt; simp,(HLk.out.gw _).gw _,(HKB.out.gw _).gw _⟩
end Go.Proofs.YtkldoojonnkfgaaGreatDoor
