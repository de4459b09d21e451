/- Joined texts: NumD, NumF, NumParse, LexD. -/
import Derived.Test.YtkldoojonnkfgaaGreatDoorC43
namespace Go.Proofs.YtkldoojonnkfgaaGreatDoor
open Go.RowKit Go.Sort
theorem digIdx:∀ n:Fin 256,Lib.indexByte [48,49,50,51,52,53,54,55,56,57,65,66,67,68,69,70] (UInt8.ofNat n.val)=if digU (UInt8.ofNat n.val)=99 then -1 else (digU (UInt8.ofNat n.val):Int):=by decide +kernel
theorem digIdx' (c:UInt8):Lib.indexByte [48,49,50,51,52,53,54,55,56,57,65,66,67,68,69,70] ((c.toNat:Int).toNat.toUInt8)=if digU c=99 then -1 else (digU c:Int):=by
 have h:=digIdx ⟨c.toNat,c.toNat_lt⟩
 simp only [UInt8.ofNat_toNat] at h
 rw [←h]
 congr 1
 rw [Int.toNat_natCast]
 exact UInt8.ofNat_toNat
theorem digU_99 (c:UInt8) (h:digU c≠99):digU c≤15:=by
 unfold digU at h ⊢
 repeat' split at h
 · rename_i h1; rw [if_pos h1]; omega
 · rename_i h1 h2; rw [if_neg h1,if_pos h2]; omega
 · exact absurd rfl h
def dR (o:Option Nat):Int × Bool:=match o with | some n=>(n,true) | none=>(0,false)
theorem numR_eq (s:ByteArray):numR s=dR (numP s):=rfl
theorem str_get (s:ByteArray) (k:Nat) (h:k<s.size):s.data.toList.drop k=s[k]::s.data.toList.drop (k+1):=by
 rw [List.drop_eq_getElem_cons (by simpa using h)]
 simp; rfl
set_option maxHeartbeats 1000000 in
theorem digits_any (s:ByteArray) (b:Nat) (w:World) (hs:s.size≤1000000) (hb:1≤b) (hb2:b≤16) :
 Calls Tryz.prog 251 #[.string s,.int .i64 b] w fun e w'=>e=.returned (.tuple #[.int .i64 (dR (valU b s.data.toList)).1,.bool (dR (valU b s.data.toList)).2])∧w=w':=by
 obtain ⟨R,hR⟩:∃ R,dR (valU b s.data.toList)=R:=⟨_,rfl⟩
 rw [hR]
 by_cases h0:s.size=0
 · have he:s.data.toList=[]:=List.eq_nil_of_length_eq_zero (by simpa using h0)
   have he2:s.toList=[]:=by rw [ByteArray.toList_eq]; exact he
   have he3:s.toList.isEmpty=true:=by rw [he2]; rfl
   obtain rfl:(0,false)=R:=by rw [←hR,he]; rfl
   clear hR
   have h0':(s.size:Int)≤0:=by omega
   go_enter Tryz.func251,Tryz.ntmps251
   go_wp2_with fail
   go_loop [6,7,11] (fun x _ i=>x=.int .i64 0∧i=.int .i64 0) (fun _ _ _=>0)
   case atStart=>exact ⟨rfl,rfl⟩
   case round =>
    obtain ⟨rfl,rfl⟩:=hrel
    go_wp2_with fail
    go_ret2
    exact ⟨rfl,rfl⟩
 · have hne:s.data.toList≠[]:=by intro h; apply h0; have:=congrArg List.length h; simpa using this
   have hne2:¬ s.toList=[]:=by rw [ByteArray.toList_eq]; exact hne
   have hne3:s.toList.isEmpty=false:=by simpa using hne2
   have hR2:dR (valGo b 0 s.data.toList)=R:=by
    rw [←hR]
    unfold valU
    rw [if_neg hne]
   have HR:=Hh hR2; clear hR hR2 hne
   have hb0:(1:Int)≤(b:Int):=by omega
   have hb3:(b:Int)≤16:=by omega
   go_enter Tryz.func251,Tryz.ntmps251
   go_wp2_with fail
   go_loop [6,7,11] (fun x _ i=>∃ k n:Nat,k≤s.size∧n≤65535∧i=.int .i64 k∧x=.int .i64 n∧Hid (valGo b 0 s.data.toList=valGo b n (s.data.toList.drop k))) (fun _ _ i=>s.size - (intOf i).toNat)
   case atStart=>exact ⟨0,0,Nat.zero_le _,Nat.zero_le _,rfl,rfl,Hh rfl⟩
   case round =>
    obtain ⟨k,n,hk,hn,rfl,rfl,HK⟩:=hrel
    by_cases hlt:k<s.size
    · have hi0:(0:Int)≤(k:Int):=by omega
      have hi1:(k:Int)<(s.size:Int):=by omega
      obtain ⟨d,hd⟩:∃ d,digU s[k]=d:=⟨_,rfl⟩
      have hidx:=fun w=>Tryz.strings_IndexByte ⟨#[48,49,50,51,52,53,54,55,56,57,65,66,67,68,69,70]⟩ (s[k].toNat:Int) w
      have hdx:=digIdx' s[k]
      have hd99:=digU_99 s[k]
      rw [hd] at hdx hd99
      have hkk:=HK.out
      rw [str_get s k hlt,valGo_cons,hd] at hkk
      clear HK
      by_cases h99:d=99
      · rw [if_pos h99] at hdx
        simp only [hdx] at hidx
        rw [if_pos (by omega)] at hkk
        have HKK:=Hh hkk; clear hkk hdx hd99 h99 hd
        have HI:=Hh hidx; clear hidx
        go_wp2_with fail
        refine (HI.out _).mono ?_
        rintro e w1 ⟨rfl,rfl⟩
        go_wp2_with fail
        go_ret2
        exact ⟨by rw [←HR.out,HKK.out]; rfl,rfl⟩
      · have hd15:=hd99 h99
        rw [if_neg h99] at hdx
        simp only [hdx] at hidx
        have hd0:(0:Int)≤(d:Int):=by omega
        have hd1:(d:Int)≤15:=by omega
        have hnb:n * b≤65535 * 16:=Nat.mul_le_mul hn hb2
        have hc:((n * b:Nat):Int)=(n:Int) * (b:Int):=by simp
        have hnb0:(0:Int)≤(n:Int) * (b:Int):=by omega
        have hnb1:(n:Int) * (b:Int)≤1048560:=by omega
        clear hdx hd99 h99 hd
        have HI:=Hh hidx; clear hidx
        by_cases hbd:b≤d
        · rw [if_pos hbd] at hkk
          have HKK:=Hh hkk; clear hkk
          have hbd':(b:Int)≤(d:Int):=by omega
          clear hc
          go_wp2_with fail
          refine (HI.out _).mono ?_
          rintro e w1 ⟨rfl,rfl⟩
          go_wp2_with fail
          go_ret2
          exact ⟨by rw [←HR.out,HKK.out]; rfl,rfl⟩
        · rw [if_neg hbd] at hkk
          have hbd':(d:Int)<(b:Int):=by omega
          by_cases hbig:65535<n * b+d
          · rw [if_pos hbig] at hkk
            have HKK:=Hh hkk; clear hkk
            have hbig':(65535:Int)<(n:Int) * (b:Int)+(d:Int):=by omega
            clear hc
            go_wp2_with fail
            refine (HI.out _).mono ?_
            rintro e w1 ⟨rfl,rfl⟩
            go_wp2_with fail
            go_ret2
            exact ⟨by rw [←HR.out,HKK.out]; rfl,rfl⟩
          · rw [if_neg hbig] at hkk
            have HKK:=Hh hkk; clear hkk
            have hbig':(n:Int) * (b:Int)+(d:Int)≤65535:=by omega
            have hcc:((n * b+d:Nat):Int)=(n:Int) * (b:Int)+(d:Int):=by omega
            have HC:=Hh hcc; clear hc hcc
            go_wp2_with fail
            refine (HI.out _).mono ?_
            rintro e w1 ⟨rfl,rfl⟩
            go_wp2_with fail
            go_round
            case rel=>exact ⟨k+1,n * b+d,by omega,by omega,by go_num,by rw [HC.out],HKK⟩
            case measure=>simp [intOf]; omega
    · obtain rfl:k=s.size:=by omega
      have hkk:=HK.out
      rw [List.drop_of_length_le (by simp),valGo_nil] at hkk
      have HKK:=Hh hkk; clear hkk HK
      go_wp2_with fail
      go_ret2
      exact ⟨by rw [←HR.out,HKK.out]; rfl,rfl⟩
theorem upper_size (s:ByteArray):(upper s).size=s.size:=by
 show ((s.data.toList.map up).toArray).size=_
 simp
theorem mk_size (l:List UInt8):(⟨l.toArray⟩:ByteArray).size=l.length:=by show l.toArray.size=_; simp
theorem mk_list (l:List UInt8):(⟨l.toArray⟩:ByteArray).data.toList=l:=by simp
theorem trimPrefix_len (u p:List UInt8):(Lib.trimPrefix u p).length≤u.length:=by
 unfold Lib.trimPrefix; split
 · simp
 · exact Nat.le_refl _
theorem trimSuffix_len (u p:List UInt8):(Lib.trimSuffix u p).length≤u.length:=by
 unfold Lib.trimSuffix; split
 · simp
 · exact Nat.le_refl _
set_option maxHeartbeats 400000 in
theorem cut_same (s:ByteArray) (w:World) :
 Calls Tryz.prog 310 #[.string s] w fun e w'=>e=.returned (.tuple #[.string s,.bool true])∧w=w':=by
 go_enter Tryz.func310,Tryz.ntmps310
 go_wp2
 go_ret2
 exact ⟨rfl,rfl⟩
def cutP (s p:ByteArray):ByteArray:=⟨(Lib.trimPrefix (upper s).data.toList p.data.toList).toArray⟩
def cutS (s p:ByteArray):ByteArray:=⟨(Lib.trimSuffix (upper s).data.toList p.data.toList).toArray⟩
def hasP (s p:ByteArray):Bool:=Lib.hasPrefix (upper s).data.toList p.data.toList
def hasS (s p:ByteArray):Bool:=Lib.hasSuffix (upper s).data.toList p.data.toList
set_option maxHeartbeats 1000000 in
theorem cut_prefix (s p:ByteArray) (b:Nat) (w:World) (hs:s.size≤1000000) (hb:b<w.heap.size) (hc:w.cell? ⟨b,0,none⟩=some (.string p)) :
 Calls Tryz.prog 349 #[.string s,.pointer (some ⟨b,0,none⟩)] w fun e w'=>e=.returned (.tuple #[.string (cutP s p),.bool (hasP s p)])∧Below w.heap.size w w':=by
 have HU:=Hh (fun w=>upper_any s w (by unfold maxLen; omega))
 have HC:Hid (∀ w,Calls Tryz.prog 350 #[.string (upper s),.string p] w fun e w'=>e=.returned (.tuple #[.string (cutP s p),.bool (hasP s p)])∧w'=w):=Hh (fun w=>Tryz.strings_CutPrefix (upper s) p w)
 generalize cutP s p=D at HC ⊢
 generalize hasP s p=B at HC ⊢
 go_enter Tryz.func349,Tryz.ntmps349
 go_wp2_with fail
 refine wp_region_gw (by kernel_rfl) (by kernel_rfl) ?_
 repeat (go_big_quiet_step (first | exact gw_quiet (HU.out _) | exact gw_quiet_same ((HC.out _).mono (fun e w' h=>⟨h.1,h.2.symm⟩))))
 refine wpQuiet_nil ?_
 rintro _ ⟨p2,rfl⟩
 go_wp2_with fail
 go_ret2
 exact ⟨rfl,below_gw w p2⟩
set_option maxHeartbeats 1000000 in
theorem cut_suffix (s p:ByteArray) (b:Nat) (w:World) (hs:s.size≤1000000) (hb:b<w.heap.size) (hc:w.cell? ⟨b,0,none⟩=some (.string p)) :
 Calls Tryz.prog 351 #[.string s,.pointer (some ⟨b,0,none⟩)] w fun e w'=>e=.returned (.tuple #[.string (cutS s p),.bool (hasS s p)])∧Below w.heap.size w w':=by
 have HU:=Hh (fun w=>upper_any s w (by unfold maxLen; omega))
 have HC:Hid (∀ w,Calls Tryz.prog 352 #[.string (upper s),.string p] w fun e w'=>e=.returned (.tuple #[.string (cutS s p),.bool (hasS s p)])∧w'=w):=Hh (fun w=>Tryz.strings_CutSuffix (upper s) p w (by rw [upper_size]; omega))
 generalize cutS s p=D at HC ⊢
 generalize hasS s p=B at HC ⊢
 go_enter Tryz.func351,Tryz.ntmps351
 go_wp2_with fail
 refine wp_region_gw (by kernel_rfl) (by kernel_rfl) ?_
 repeat (go_big_quiet_step (first | exact gw_quiet (HU.out _) | exact gw_quiet_same ((HC.out _).mono (fun e w' h=>⟨h.1,h.2.symm⟩))))
 refine wpQuiet_nil ?_
 rintro _ ⟨p2,rfl⟩
 go_wp2_with fail
 go_ret2
 exact ⟨rfl,below_gw w p2⟩
def cutH (s:ByteArray):ByteArray:=cutS s ⟨#[72]⟩
def hasH (s:ByteArray):Bool:=hasS s ⟨#[72]⟩ && (decide (0<(cutH s).size) && decide ((bat (cutH s) 0).toNat≤57))
set_option maxHeartbeats 1000000 in
theorem cut_hex (s:ByteArray) (w:World) (hs:s.size≤1000000) :
 Calls Tryz.prog 312 #[.string s] w fun e w'=>e=.returned (.tuple #[.string (cutH s),.bool (hasH s)])∧Below w.heap.size w w':=by
 have HC:=Hh (fun (b:Nat) (w:World)=>cut_suffix s ⟨#[72]⟩ b w hs)
 unfold hasH
 have hD:cutS s ⟨#[72]⟩=cutH s:=rfl
 rw [hD] at HC
 clear hD
 generalize cutH s=D at HC ⊢
 generalize hasS s ⟨#[72]⟩=B at HC ⊢
 obtain ⟨R,hR⟩:∃ R,(B && (decide (0<D.size) && decide ((bat D 0).toNat≤57)))=R:=⟨_,rfl⟩
 rw [hR]
 have hmf:∀ (fn:Fn) (first cap:Array Value) (w:World),(Instr.makeFunc fn first cap).run Tryz.prog w=.ok (.func fn first cap) w:=fun _ _ _ _=>rfl
 have hcase:B=false∨(B=true∧D.size=0)∨(B=true∧0<D.size∧(bat D 0).toNat≤57)∨(B=true∧0<D.size∧¬ (bat D 0).toNat≤57):=by
  rcases B with _ | _
  · exact .inl rfl
  · by_cases h1:D.size=0
    · exact .inr (.inl ⟨rfl,h1⟩)
    · by_cases h2:(bat D 0).toNat≤57
      · exact .inr (.inr (.inl ⟨rfl,by omega,h2⟩))
      · exact .inr (.inr (.inr ⟨rfl,by omega,h2⟩))
 have he:D.toList.isEmpty=decide (D.size=0):=by
  rw [ByteArray.toList_eq,show D.size=D.data.toList.length by simp]
  cases D.data.toList with
  | nil=>rfl
  | cons a l=>simp
 have he2:(D.toList == [])=decide (D.size=0):=by rw [←he]; cases D.toList<;>rfl
 rcases hcase with rfl | ⟨rfl,h1⟩ | ⟨rfl,h1,h2⟩ | ⟨rfl,h1,h2⟩
 · obtain rfl:false=R:=by rw [←hR]; rfl
   clear hR he he2
   go_enter Tryz.func312,Tryz.ntmps312
   go_wp2_with (first | (go_at_call 313; go_in) | fail)
   refine (HC.out _ _ ?h1 ?h2).mono ?_
   case h1=>simp [go_sem]
   case h2=>simp [go_sem]
   rintro e w1 ⟨rfl,hb⟩
   obtain ⟨p1,rfl⟩:=gw_of_below hb
   clear hb
   go_wp2_with fail
   refine wp_region_gw (by kernel_rfl) (by kernel_rfl) ?_
   repeat (go_big_quiet_step (fail))
   refine wpQuiet_nil ?_
   rintro _ ⟨p2,rfl⟩
   go_wp2_with fail
   go_ret2
   exact ⟨rfl,bl⟩
 · obtain rfl:false=R:=by rw [←hR,decide_eq_false (show ¬ 0<D.size by omega)]; rfl
   rw [decide_eq_true h1] at he he2
   clear hR h1
   go_enter Tryz.func312,Tryz.ntmps312
   go_wp2_with (first | (go_at_call 313; go_in) | fail)
   refine (HC.out _ _ ?h1 ?h2).mono ?_
   case h1=>simp [go_sem]
   case h2=>simp [go_sem]
   rintro e w1 ⟨rfl,hb⟩
   obtain ⟨p1,rfl⟩:=gw_of_below hb
   clear hb
   go_wp2_with fail
   refine wp_region_gw (by kernel_rfl) (by kernel_rfl) ?_
   repeat (go_big_quiet_step (fail))
   refine wpQuiet_nil ?_
   rintro _ ⟨p2,rfl⟩
   go_wp2_with fail
   go_ret2
   exact ⟨rfl,bl⟩
 · obtain rfl:true=R:=by rw [←hR,decide_eq_true h1,decide_eq_true h2]; rfl
   rw [decide_eq_false (by omega)] at he he2
   have h3:(D[0].toNat:Int)≤57:=by rw [bat_get D 0 h1]; omega
   clear hR h2
   go_enter Tryz.func312,Tryz.ntmps312
   go_wp2_with (first | (go_at_call 313; go_in) | fail)
   refine (HC.out _ _ ?h1 ?h2).mono ?_
   case h1=>simp [go_sem]
   case h2=>simp [go_sem]
   rintro e w1 ⟨rfl,hb⟩
   obtain ⟨p1,rfl⟩:=gw_of_below hb
   clear hb
   go_wp2_with fail
   refine wp_region_gw (by kernel_rfl) (by kernel_rfl) ?_
   repeat (go_big_quiet_step (fail))
   refine wpQuiet_nil ?_
   rintro _ ⟨p2,rfl⟩
   go_wp2_with fail
   go_ret2
   exact ⟨rfl,bl⟩
 · obtain rfl:false=R:=by rw [←hR,decide_eq_true h1,decide_eq_false h2]; rfl
   rw [decide_eq_false (by omega)] at he he2
   have h3:¬ (D[0].toNat:Int)≤57:=by rw [bat_get D 0 h1]; omega
   clear hR h2
   go_enter Tryz.func312,Tryz.ntmps312
   go_wp2_with (first | (go_at_call 313; go_in) | fail)
   refine (HC.out _ _ ?h1 ?h2).mono ?_
   case h1=>simp [go_sem]
   case h2=>simp [go_sem]
   rintro e w1 ⟨rfl,hb⟩
   obtain ⟨p1,rfl⟩:=gw_of_below hb
   clear hb
   go_wp2_with fail
   refine wp_region_gw (by kernel_rfl) (by kernel_rfl) ?_
   repeat (go_big_quiet_step (fail))
   refine wpQuiet_nil ?_
   rintro _ ⟨p2,rfl⟩
   go_wp2_with fail
   go_ret2
   refine ⟨?_,bl⟩
   show Ending.returned (.tuple #[.string D,.bool (decide ((D[0].toNat:Int)≤57))])=_
   rw [decide_eq_false (by omega)]
def fOk:Nat→ByteArray→Bool
 | 0,_=>true
 | 1,s=>hasP s ⟨#[48,88]⟩
 | 2,s=>hasP s ⟨#[36]⟩
 | 3,s=>hasH s
 | 4,s=>hasS s ⟨#[66]⟩
 | _,s=>hasP s ⟨#[37]⟩
def fD:Nat→ByteArray→ByteArray
 | 0,s=>s
 | 1,s=>cutP s ⟨#[48,88]⟩
 | 2,s=>cutP s ⟨#[36]⟩
 | 3,s=>cutH s
 | 4,s=>cutS s ⟨#[66]⟩
 | _,s=>cutP s ⟨#[37]⟩
def fB:Nat→Nat
 | 0=>10
 | 1=>16
 | 2=>16
 | 3=>16
 | 4=>2
 | _=>2
def fA (k:Nat) (s:ByteArray):Option Nat:=if fOk k s=true then valU (fB k) (fD k s).data.toList else none
def fRest (s:ByteArray):Nat→Option Nat
 | 0=>none
 | k+1=>(fA (5 - k) s).or (fRest s k)
theorem fD_size (k:Nat) (s:ByteArray):(fD k s).size≤s.size:=by
 have hp:∀ p,(cutP s p).size≤s.size:=fun p=>by
  unfold cutP
  rw [mk_size]
  have:=trimPrefix_len (upper s).data.toList p.data.toList
  rw [show (upper s).data.toList.length=s.size by rw [←upper_size s]; simp] at this
  exact this
 have hq:∀ p,(cutS s p).size≤s.size:=fun p=>by
  unfold cutS
  rw [mk_size]
  have:=trimSuffix_len (upper s).data.toList p.data.toList
  rw [show (upper s).data.toList.length=s.size by rw [←upper_size s]; simp] at this
  exact this
 unfold fD
 split
 · exact Nat.le_refl _
 · exact hp _
 · exact hp _
 · exact hq _
 · exact hq _
 · exact hp _
theorem suffix_last (u:List UInt8) (c:UInt8):([c].isSuffixOf u=true↔u.getLast? = some c)∧u.take (u.length - 1)=u.dropLast:=by
 refine ⟨?_,(List.dropLast_eq_take).symm⟩
 rw [List.isSuffixOf_iff_suffix]
 constructor
 · rintro ⟨t,rfl⟩; simp
 · intro h
   rw [List.getLast?_eq_some_iff] at h
   obtain ⟨ys,rfl⟩:=h
   exact ⟨ys,rfl⟩
theorem fRest_eq (s:ByteArray):fRest s 6=numP s:=by
 have h0:fA 0 s=valU 10 (upper s).data.toList:=by
  show (if true=true then valU 10 s.data.toList else none)=_
  rw [if_pos rfl,upper_list,valU_up]
 have h1:fA 1 s=if [48,88].isPrefixOf (upper s).data.toList then valU 16 ((upper s).data.toList.drop 2) else none:=by
  show (if hasP s ⟨#[48,88]⟩=true then valU 16 (cutP s ⟨#[48,88]⟩).data.toList else none)=_
  unfold hasP cutP Lib.trimPrefix Lib.hasPrefix
  rw [mk_list]
  split
  · rfl
  · rfl
 have h2:fA 2 s=if [36].isPrefixOf (upper s).data.toList then valU 16 ((upper s).data.toList.drop 1) else none:=by
  show (if hasP s ⟨#[36]⟩=true then valU 16 (cutP s ⟨#[36]⟩).data.toList else none)=_
  unfold hasP cutP Lib.trimPrefix Lib.hasPrefix
  rw [mk_list]
  split
  · rfl
  · rfl
 have h5:fA 5 s=if [37].isPrefixOf (upper s).data.toList then valU 2 ((upper s).data.toList.drop 1) else none:=by
  show (if hasP s ⟨#[37]⟩=true then valU 2 (cutP s ⟨#[37]⟩).data.toList else none)=_
  unfold hasP cutP Lib.trimPrefix Lib.hasPrefix
  rw [mk_list]
  split
  · rfl
  · rfl
 have hS:∀ c:UInt8,hasS s ⟨#[c]⟩=true↔(upper s).data.toList.getLast? = some c:=fun c=>(suffix_last (upper s).data.toList c).1
 have hC:∀ c:UInt8,hasS s ⟨#[c]⟩=true→(cutS s ⟨#[c]⟩).data.toList=(upper s).data.toList.dropLast:=fun c h=>by
  unfold cutS Lib.trimSuffix
  rw [mk_list,if_pos (by exact h)]
  exact (suffix_last (upper s).data.toList c).2
 have h4:fA 4 s=if (upper s).data.toList.getLast? = some 66 then valU 2 (upper s).data.toList.dropLast else none:=by
  show (if hasS s ⟨#[66]⟩=true then valU 2 (cutS s ⟨#[66]⟩).data.toList else none)=_
  by_cases h:hasS s ⟨#[66]⟩=true
  · rw [if_pos h,if_pos ((hS 66).1 h),hC 66 h]
  · rw [if_neg h,if_neg (fun h'=>h ((hS 66).2 h'))]
 have h3:fA 3 s=if (upper s).data.toList.getLast? = some 72∧((upper s).data.toList.dropLast.headD 99).toNat≤57 then valU 16 (upper s).data.toList.dropLast else none:=by
  show (if hasH s=true then valU 16 (cutH s).data.toList else none)=_
  unfold hasH cutH
  by_cases h:hasS s ⟨#[72]⟩=true
  · have hc:=hC 72 h
    have hz:(cutS s ⟨#[72]⟩).size=(upper s).data.toList.dropLast.length:=by rw [←hc]; simp
    rw [h,hc,bat_list,hc,hz,(hS 72).1 h]
    cases hd:(upper s).data.toList.dropLast with
    | nil=>simp
    | cons a l=>simp
  · rw [if_neg (fun h'=>h (by rw [Bool.and_eq_true] at h'; exact h'.1)),if_neg (fun h'=>h ((hS 72).2 h'.1))]
 show (fA 0 s).or ((fA 1 s).or ((fA 2 s).or ((fA 3 s).or ((fA 4 s).or ((fA 5 s).or none)))))=_
 rw [Option.or_none,h0,h1,h2,h3,h4,h5]
 rfl
structure FormsAt (W:World) (B g1 g2 g3 g4:Nat):Prop where
 f0:W.cell? ⟨B,0,none⟩=some (.int .i64 10)
 f1:W.cell? ⟨B,1,none⟩=some (.func (.func 310) #[] #[])
 f2:W.cell? ⟨B,2,none⟩=some (.int .i64 16)
 f3:W.cell? ⟨B,3,none⟩=some (.func (.func 349) #[] #[.pointer (some ⟨g1,0,none⟩)])
 f4:W.cell? ⟨B,4,none⟩=some (.int .i64 16)
 f5:W.cell? ⟨B,5,none⟩=some (.func (.func 349) #[] #[.pointer (some ⟨g2,0,none⟩)])
 f6:W.cell? ⟨B,6,none⟩=some (.int .i64 16)
 f7:W.cell? ⟨B,7,none⟩=some (.func (.func 312) #[] #[])
 f8:W.cell? ⟨B,8,none⟩=some (.int .i64 2)
 f9:W.cell? ⟨B,9,none⟩=some (.func (.func 351) #[] #[.pointer (some ⟨g3,0,none⟩)])
 f10:W.cell? ⟨B,10,none⟩=some (.int .i64 2)
 f11:W.cell? ⟨B,11,none⟩=some (.func (.func 349) #[] #[.pointer (some ⟨g4,0,none⟩)])
 f12:W.cell? ⟨g1,0,none⟩=some (.string ⟨#[48,88]⟩)
 f13:W.cell? ⟨g2,0,none⟩=some (.string ⟨#[36]⟩)
 f14:W.cell? ⟨g3,0,none⟩=some (.string ⟨#[66]⟩)
 f15:W.cell? ⟨g4,0,none⟩=some (.string ⟨#[37]⟩)
 f16:B<W.heap.size
 f17:g1<W.heap.size
 f18:g2<W.heap.size
 f19:g3<W.heap.size
 f20:g4<W.heap.size
set_option maxHeartbeats 1000000 in
set_option maxRecDepth 100000 in
theorem forms_any (w:World) :
 Calls Tryz.prog 250 #[] w fun e w'=>∃ B g1 g2 g3 g4,e=.returned (.slice (some ⟨B,0,none⟩) 6 6)∧FormsAt w' B g1 g2 g3 g4∧Below w.heap.size w w':=by
 have hmf:∀ (fn:Fn) (first cap:Array Value) (w:World),(Instr.makeFunc fn first cap).run Tryz.prog w=.ok (.func fn first cap) w:=fun _ _ _ _=>rfl
 go_enter Tryz.func250,Tryz.ntmps250
 go_wp2
 go_ret
 refine ⟨_,w.heap.size,w.heap.size+1,w.heap.size+1+1,w.heap.size+1+1+1,rfl,?_,bl⟩
 constructor<;>simp [go_sem]
theorem calls_dR (o:Option Nat):(∃ n,o=some n∧dR o=((n:Int),true))∨(o=none∧dR o=(0,false)):=by
 cases o with
 | none=>exact .inr ⟨rfl,rfl⟩
 | some n=>exact .inl ⟨n,rfl,rfl⟩
theorem digits_2 (s:ByteArray) (w:World) (hs:s.size≤1000000) :
 Calls Tryz.prog 251 #[.string s,.int .i64 2] w fun e w'=>e=.returned (.tuple #[.int .i64 (dR (valU 2 s.data.toList)).1,.bool (dR (valU 2 s.data.toList)).2])∧w=w':=digits_any s 2 w hs (by omega) (by omega)
theorem digits_10 (s:ByteArray) (w:World) (hs:s.size≤1000000) :
 Calls Tryz.prog 251 #[.string s,.int .i64 10] w fun e w'=>e=.returned (.tuple #[.int .i64 (dR (valU 10 s.data.toList)).1,.bool (dR (valU 10 s.data.toList)).2])∧w=w':=digits_any s 10 w hs (by omega) (by omega)
theorem digits_16 (s:ByteArray) (w:World) (hs:s.size≤1000000) :
 Calls Tryz.prog 251 #[.string s,.int .i64 16] w fun e w'=>e=.returned (.tuple #[.int .i64 (dR (valU 16 s.data.toList)).1,.bool (dR (valU 16 s.data.toList)).2])∧w=w':=digits_any s 16 w hs (by omega) (by omega)
theorem t166_0 {p:Prop} (h:p:=by
 simp only [hn] at HDIG
 clear hn
 go_wp2_with fail
 refine (HCUT.out _).mono ?_
 rintro e w1 ⟨rfl,hb⟩
 obtain ⟨p1,rfl⟩:=gw_of_below hb
 clear hb
 go_wp2_with fail
 refine (HDIG.out _).mono ?_
 rintro e w1 ⟨rfl,rfl⟩
 go_wp2_with fail
 go_ret2
 exact ⟨by rw [←HK.out,HST.out]; rfl,HB0.out.trans (Below.mono (show Below W.heap.size W _ from bl) HB0.out.size)⟩):p:=h
set_option maxHeartbeats 4000000 in
set_option maxRecDepth 100000 in
theorem numParse_any (s:ByteArray) (w:World) (hs:s.size≤1000000) :
 Calls Tryz.prog 176 #[.string s] w fun e w'=>e=.returned (.tuple #[.int .i64 (numR s).1,.bool (numR s).2])∧Below w.heap.size w w':=by
 obtain ⟨R,hR⟩:∃ R,dR (fRest s 6)=R:=⟨_,rfl⟩
 rw [numR_eq,←fRest_eq,hR]
 have HR:=Hh hR; clear hR
 go_enter Tryz.func176,Tryz.ntmps176
 go_wp2_with fail
 refine (forms_any _).mono ?_
 rintro e W ⟨B,g1,g2,g3,g4,rfl,hF,hb0⟩
 have HF:=Hh hF; clear hF
 have HB0:=Hh hb0; clear hb0
 go_wp2_with fail
 go_loopw [6,7,8,9,12] (fun _ _ _ _ i wr=>∃ k:Nat,k≤6∧i=.int .i64 k∧Hid (dR (fRest s (6 - k))=R)∧Below W.heap.size W wr) (fun _ _ _ _ i _=>6 - (intOf i).toNat)
 case atStart=>exact ⟨0,by omega,rfl,HR,Below.refl _ _⟩
 case round =>
  obtain ⟨k,hk,rfl,HK,hbel⟩:=hrel
  obtain ⟨p,rfl⟩:=gw_of_below hbel
  clear hbel HR
  have hcase:k=0∨k=1∨k=2∨k=3∨k=4∨k=5∨k=6:=by omega
  rcases hcase with rfl | rfl | rfl | rfl | rfl | rfl | rfl
  · have c0:=HF.out.f0
    have c1:=HF.out.f1
    have hB:=HF.out.f16
    have hcut:∀ W':World,Calls Tryz.prog 310 #[.string s] W' fun e w'=>e=.returned (.tuple #[.string (fD 0 s),.bool (fOk 0 s)])∧Below W'.heap.size W' w':=fun W'=>(cut_same s W').mono fun e w' h=>⟨h.1,by rw [←h.2]; exact Below.refl _ _⟩
    have hA:fA 0 s=if fOk 0 s=true then valU 10 (fD 0 s).data.toList else none:=rfl
    have hDs:(fD 0 s).size≤1000000:=Nat.le_trans (fD_size 0 s) hs
    obtain ⟨D,hD⟩:∃ D,fD 0 s=D:=⟨_,rfl⟩
    obtain ⟨ok,hok⟩:∃ ok,fOk 0 s=ok:=⟨_,rfl⟩
    simp only [hD,hok] at hcut hA hDs
    have hdig:=fun w=>digits_10 D w hDs
    obtain ⟨V,hV⟩:∃ V,valU 10 D.data.toList=V:=⟨_,rfl⟩
    simp only [hV] at hdig
    rw [hV] at hA
    have hst:fRest s (6 - 0)=(fA 0 s).or (fRest s (6 - 1)):=rfl
    rw [hA] at hst
    clear hA hV hok hDs hD
    have HST:=Hh hst; clear hst
    have HCUT:=Hh hcut; clear hcut
    have HDIG:=Hh hdig; clear hdig
    rcases ok with _ | _
    · go_wp2_with fail
      refine (HCUT.out _).mono ?_
      rintro e w1 ⟨rfl,hb⟩
      obtain ⟨p1,rfl⟩:=gw_of_below hb
      clear hb
      go_wp2_with fail
      go_roundw
      case rel=>exact ⟨1,by omega,by go_num,Hh (by rw [←HK.out,HST.out]; rfl),bl⟩
      case measure=>simp [intOf]
    · rcases calls_dR V with ⟨n,rfl,hn⟩ | ⟨rfl,hn⟩
      · exact t166_0
      · simp only [hn] at HDIG
        clear hn
        go_wp2_with fail
        refine (HCUT.out _).mono ?_
        rintro e w1 ⟨rfl,hb⟩
        obtain ⟨p1,rfl⟩:=gw_of_below hb
        clear hb
        go_wp2_with fail
        refine (HDIG.out _).mono ?_
        rintro e w1 ⟨rfl,rfl⟩
        go_wp2_with fail
        go_roundw
        case rel=>exact ⟨1,by omega,by go_num,Hh (by rw [←HK.out,HST.out]; rfl),bl⟩
        case measure=>simp [intOf]
  · have c0:=HF.out.f2
    have c1:=HF.out.f3
    have hB:=HF.out.f16
    have cg:=HF.out.f12
    have hg:=HF.out.f17
    have hcut:∀ W':World,g1<W'.heap.size→W'.cell? ⟨g1,0,none⟩=some (.string ⟨#[48,88]⟩)→Calls Tryz.prog 349 #[.string s,.pointer (some ⟨g1,0,none⟩)] W' fun e w'=>e=.returned (.tuple #[.string (fD 1 s),.bool (fOk 1 s)])∧Below W'.heap.size W' w':=fun W' h1 h2=>cut_prefix s ⟨#[48,88]⟩ g1 W' hs h1 h2
    have hA:fA 1 s=if fOk 1 s=true then valU 16 (fD 1 s).data.toList else none:=rfl
    have hDs:(fD 1 s).size≤1000000:=Nat.le_trans (fD_size 1 s) hs
    obtain ⟨D,hD⟩:∃ D,fD 1 s=D:=⟨_,rfl⟩
    obtain ⟨ok,hok⟩:∃ ok,fOk 1 s=ok:=⟨_,rfl⟩
    simp only [hD,hok] at hcut hA hDs
    have hdig:=fun w=>digits_16 D w hDs
    obtain ⟨V,hV⟩:∃ V,valU 16 D.data.toList=V:=⟨_,rfl⟩
    simp only [hV] at hdig
    rw [hV] at hA
    have hst:fRest s (6 - 1)=(fA 1 s).or (fRest s (6 - 2)):=rfl
    rw [hA] at hst
    clear hA hV hok hDs hD
    have HST:=Hh hst; clear hst
    have HCUT:=Hh hcut; clear hcut
    have HDIG:=Hh hdig; clear hdig
    rcases ok with _ | _
    · go_wp2_with fail
      refine (HCUT.out _ ?hA1 ?hB1).mono ?_
      case hA1=>(first | omega | (simp [go_sem]; done) | (simp [go_sem]; omega))
      case hB1=>exact ((show Below W.heap.size W _ from bl).cell hg).trans cg
      rintro e w1 ⟨rfl,hb⟩
      obtain ⟨p1,rfl⟩:=gw_of_below hb
      clear hb
      go_wp2_with fail
      go_roundw
      case rel=>exact ⟨2,by omega,by go_num,Hh (by rw [←HK.out,HST.out]; rfl),bl⟩
      case measure=>simp [intOf]
    · rcases calls_dR V with ⟨n,rfl,hn⟩ | ⟨rfl,hn⟩
      · simp only [hn] at HDIG
        clear hn
        go_wp2_with fail
        refine (HCUT.out _ ?hA2 ?hB2).mono ?_
        case hA2=>(first | omega | (simp [go_sem]; done) | (simp [go_sem]; omega))
        case hB2=>exact ((show Below W.heap.size W _ from bl).cell hg).trans cg
        rintro e w1 ⟨rfl,hb⟩
        obtain ⟨p1,rfl⟩:=gw_of_below hb
        clear hb
        go_wp2_with fail
        refine (HDIG.out _).mono ?_
        rintro e w1 ⟨rfl,rfl⟩
        go_wp2_with fail
        go_ret2
        exact ⟨by rw [←HK.out,HST.out]; rfl,HB0.out.trans (Below.mono (show Below W.heap.size W _ from bl) HB0.out.size)⟩
      · simp only [hn] at HDIG
        clear hn
        go_wp2_with fail
        refine (HCUT.out _ ?hA3 ?hB3).mono ?_
        case hA3=>(first | omega | (simp [go_sem]; done) | (simp [go_sem]; omega))
        case hB3=>exact ((show Below W.heap.size W _ from bl).cell hg).trans cg
        rintro e w1 ⟨rfl,hb⟩
        obtain ⟨p1,rfl⟩:=gw_of_below hb
        clear hb
        go_wp2_with fail
        refine (HDIG.out _).mono ?_
        rintro e w1 ⟨rfl,rfl⟩
        go_wp2_with fail
        go_roundw
        case rel=>exact ⟨2,by omega,by go_num,Hh (by rw [←HK.out,HST.out]; rfl),bl⟩
        case measure=>simp [intOf]
  · have c0:=HF.out.f4
    have c1:=HF.out.f5
    have hB:=HF.out.f16
    have cg:=HF.out.f13
    have hg:=HF.out.f18
    have hcut:∀ W':World,g2<W'.heap.size→W'.cell? ⟨g2,0,none⟩=some (.string ⟨#[36]⟩)→Calls Tryz.prog 349 #[.string s,.pointer (some ⟨g2,0,none⟩)] W' fun e w'=>e=.returned (.tuple #[.string (fD 2 s),.bool (fOk 2 s)])∧Below W'.heap.size W' w':=fun W' h1 h2=>cut_prefix s ⟨#[36]⟩ g2 W' hs h1 h2
    have hA:fA 2 s=if fOk 2 s=true then valU 16 (fD 2 s).data.toList else none:=rfl
    have hDs:(fD 2 s).size≤1000000:=Nat.le_trans (fD_size 2 s) hs
    obtain ⟨D,hD⟩:∃ D,fD 2 s=D:=⟨_,rfl⟩
    obtain ⟨ok,hok⟩:∃ ok,fOk 2 s=ok:=⟨_,rfl⟩
    simp only [hD,hok] at hcut hA hDs
    have hdig:=fun w=>digits_16 D w hDs
    obtain ⟨V,hV⟩:∃ V,valU 16 D.data.toList=V:=⟨_,rfl⟩
    simp only [hV] at hdig
    rw [hV] at hA
    have hst:fRest s (6 - 2)=(fA 2 s).or (fRest s (6 - 3)):=rfl
    rw [hA] at hst
    clear hA hV hok hDs hD
    have HST:=Hh hst; clear hst
    have HCUT:=Hh hcut; clear hcut
    have HDIG:=Hh hdig; clear hdig
    rcases ok with _ | _
    · go_wp2_with fail
      refine (HCUT.out _ ?hA4 ?hB4).mono ?_
      case hA4=>(first | omega | (simp [go_sem]; done) | (simp [go_sem]; omega))
      case hB4=>exact ((show Below W.heap.size W _ from bl).cell hg).trans cg
      rintro e w1 ⟨rfl,hb⟩
      obtain ⟨p1,rfl⟩:=gw_of_below hb
      clear hb
      go_wp2_with fail
      go_roundw
      case rel=>exact ⟨3,by omega,by go_num,Hh (by rw [←HK.out,HST.out]; rfl),bl⟩
      case measure=>simp [intOf]
    · rcases calls_dR V with ⟨n,rfl,hn⟩ | ⟨rfl,hn⟩
      · simp only [hn] at HDIG
        clear hn
        go_wp2_with fail
        refine (HCUT.out _ ?hA5 ?hB5).mono ?_
        case hA5=>(first | omega | (simp [go_sem]; done) | (simp [go_sem]; omega))
        case hB5=>exact ((show Below W.heap.size W _ from bl).cell hg).trans cg
        rintro e w1 ⟨rfl,hb⟩
        obtain ⟨p1,rfl⟩:=gw_of_below hb
        clear hb
        go_wp2_with fail
        refine (HDIG.out _).mono ?_
        rintro e w1 ⟨rfl,rfl⟩
        go_wp2_with fail
        go_ret2
        exact ⟨by rw [←HK.out,HST.out]; rfl,HB0.out.trans (Below.mono (show Below W.heap.size W _ from bl) HB0.out.size)⟩
      · simp only [hn] at HDIG
        clear hn
        go_wp2_with fail
        refine (HCUT.out _ ?hA6 ?hB6).mono ?_
        case hA6=>(first | omega | (simp [go_sem]; done) | (simp [go_sem]; omega))
        case hB6=>exact ((show Below W.heap.size W _ from bl).cell hg).trans cg
        rintro e w1 ⟨rfl,hb⟩
        obtain ⟨p1,rfl⟩:=gw_of_below hb
        clear hb
        go_wp2_with fail
        refine (HDIG.out _).mono ?_
        rintro e w1 ⟨rfl,rfl⟩
        go_wp2_with fail
        go_roundw
        case rel=>exact ⟨3,by omega,by go_num,Hh (by rw [←HK.out,HST.out]; rfl),bl⟩
        case measure=>simp [intOf]
  · have c0:=HF.out.f6
    have c1:=HF.out.f7
    have hB:=HF.out.f16
    have hcut:∀ W':World,Calls Tryz.prog 312 #[.string s] W' fun e w'=>e=.returned (.tuple #[.string (fD 3 s),.bool (fOk 3 s)])∧Below W'.heap.size W' w':=fun W'=>cut_hex s W' hs
    have hA:fA 3 s=if fOk 3 s=true then valU 16 (fD 3 s).data.toList else none:=rfl
    have hDs:(fD 3 s).size≤1000000:=Nat.le_trans (fD_size 3 s) hs
    obtain ⟨D,hD⟩:∃ D,fD 3 s=D:=⟨_,rfl⟩
    obtain ⟨ok,hok⟩:∃ ok,fOk 3 s=ok:=⟨_,rfl⟩
    simp only [hD,hok] at hcut hA hDs
    have hdig:=fun w=>digits_16 D w hDs
    obtain ⟨V,hV⟩:∃ V,valU 16 D.data.toList=V:=⟨_,rfl⟩
    simp only [hV] at hdig
    rw [hV] at hA
    have hst:fRest s (6 - 3)=(fA 3 s).or (fRest s (6 - 4)):=rfl
    rw [hA] at hst
    clear hA hV hok hDs hD
    have HST:=Hh hst; clear hst
    have HCUT:=Hh hcut; clear hcut
    have HDIG:=Hh hdig; clear hdig
    rcases ok with _ | _
    · go_wp2_with fail
      refine (HCUT.out _).mono ?_
      rintro e w1 ⟨rfl,hb⟩
      obtain ⟨p1,rfl⟩:=gw_of_below hb
      clear hb
      go_wp2_with fail
      go_roundw
      case rel=>exact ⟨4,by omega,by go_num,Hh (by rw [←HK.out,HST.out]; rfl),bl⟩
      case measure=>simp [intOf]
    · rcases calls_dR V with ⟨n,rfl,hn⟩ | ⟨rfl,hn⟩
      · exact t166_0
      · simp only [hn] at HDIG
        clear hn
        go_wp2_with fail
        refine (HCUT.out _).mono ?_
        rintro e w1 ⟨rfl,hb⟩
        obtain ⟨p1,rfl⟩:=gw_of_below hb
        clear hb
        go_wp2_with fail
        refine (HDIG.out _).mono ?_
        rintro e w1 ⟨rfl,rfl⟩
        go_wp2_with fail
        go_roundw
        case rel=>exact ⟨4,by omega,by go_num,Hh (by rw [←HK.out,HST.out]; rfl),bl⟩
        case measure=>simp [intOf]
  · have c0:=HF.out.f8
    have c1:=HF.out.f9
    have hB:=HF.out.f16
    have cg:=HF.out.f14
    have hg:=HF.out.f19
    have hcut:∀ W':World,g3<W'.heap.size→W'.cell? ⟨g3,0,none⟩=some (.string ⟨#[66]⟩)→Calls Tryz.prog 351 #[.string s,.pointer (some ⟨g3,0,none⟩)] W' fun e w'=>e=.returned (.tuple #[.string (fD 4 s),.bool (fOk 4 s)])∧Below W'.heap.size W' w':=fun W' h1 h2=>cut_suffix s ⟨#[66]⟩ g3 W' hs h1 h2
    have hA:fA 4 s=if fOk 4 s=true then valU 2 (fD 4 s).data.toList else none:=rfl
    have hDs:(fD 4 s).size≤1000000:=Nat.le_trans (fD_size 4 s) hs
    obtain ⟨D,hD⟩:∃ D,fD 4 s=D:=⟨_,rfl⟩
    obtain ⟨ok,hok⟩:∃ ok,fOk 4 s=ok:=⟨_,rfl⟩
    simp only [hD,hok] at hcut hA hDs
    have hdig:=fun w=>digits_2 D w hDs
    obtain ⟨V,hV⟩:∃ V,valU 2 D.data.toList=V:=⟨_,rfl⟩
    simp only [hV] at hdig
    rw [hV] at hA
    have hst:fRest s (6 - 4)=(fA 4 s).or (fRest s (6 - 5)):=rfl
    rw [hA] at hst
    clear hA hV hok hDs hD
    have HST:=Hh hst; clear hst
    have HCUT:=Hh hcut; clear hcut
    have HDIG:=Hh hdig; clear hdig
    rcases ok with _ | _
    · go_wp2_with fail
      refine (HCUT.out _ ?hA7 ?hB7).mono ?_
      case hA7=>(first | omega | (simp [go_sem]; done) | (simp [go_sem]; omega))
      case hB7=>exact ((show Below W.heap.size W _ from bl).cell hg).trans cg
      rintro e w1 ⟨rfl,hb⟩
      obtain ⟨p1,rfl⟩:=gw_of_below hb
      clear hb
      go_wp2_with fail
      go_roundw
      case rel=>exact ⟨5,by omega,by go_num,Hh (by rw [←HK.out,HST.out]; rfl),bl⟩
      case measure=>simp [intOf]
    · rcases calls_dR V with ⟨n,rfl,hn⟩ | ⟨rfl,hn⟩
      · simp only [hn] at HDIG
        clear hn
        go_wp2_with fail
        refine (HCUT.out _ ?hA8 ?hB8).mono ?_
        case hA8=>(first | omega | (simp [go_sem]; done) | (simp [go_sem]; omega))
        case hB8=>exact ((show Below W.heap.size W _ from bl).cell hg).trans cg
        rintro e w1 ⟨rfl,hb⟩
        obtain ⟨p1,rfl⟩:=gw_of_below hb
        clear hb
        go_wp2_with fail
        refine (HDIG.out _).mono ?_
        rintro e w1 ⟨rfl,rfl⟩
        go_wp2_with fail
        go_ret2
        exact ⟨by rw [←HK.out,HST.out]; rfl,HB0.out.trans (Below.mono (show Below W.heap.size W _ from bl) HB0.out.size)⟩
      · simp only [hn] at HDIG
        clear hn
        go_wp2_with fail
        refine (HCUT.out _ ?hA9 ?hB9).mono ?_
        case hA9=>(first | omega | (simp [go_sem]; done) | (simp [go_sem]; omega))
        case hB9=>exact ((show Below W.heap.size W _ from bl).cell hg).trans cg
        rintro e w1 ⟨rfl,hb⟩
        obtain ⟨p1,rfl⟩:=gw_of_below hb
        clear hb
        go_wp2_with fail
        refine (HDIG.out _).mono ?_
        rintro e w1 ⟨rfl,rfl⟩
        go_wp2_with fail
        go_roundw
        case rel=>exact ⟨5,by omega,by go_num,Hh (by rw [←HK.out,HST.out]; rfl),bl⟩
        case measure=>simp [intOf]
  · have c0:=HF.out.f10
    have c1:=HF.out.f11
    have hB:=HF.out.f16
    have cg:=HF.out.f15
    have hg:=HF.out.f20
    have hcut:∀ W':World,g4<W'.heap.size→W'.cell? ⟨g4,0,none⟩=some (.string ⟨#[37]⟩)→Calls Tryz.prog 349 #[.string s,.pointer (some ⟨g4,0,none⟩)] W' fun e w'=>e=.returned (.tuple #[.string (fD 5 s),.bool (fOk 5 s)])∧Below W'.heap.size W' w':=fun W' h1 h2=>cut_prefix s ⟨#[37]⟩ g4 W' hs h1 h2
    have hA:fA 5 s=if fOk 5 s=true then valU 2 (fD 5 s).data.toList else none:=rfl
    have hDs:(fD 5 s).size≤1000000:=Nat.le_trans (fD_size 5 s) hs
    obtain ⟨D,hD⟩:∃ D,fD 5 s=D:=⟨_,rfl⟩
    obtain ⟨ok,hok⟩:∃ ok,fOk 5 s=ok:=⟨_,rfl⟩
    simp only [hD,hok] at hcut hA hDs
    have hdig:=fun w=>digits_2 D w hDs
    obtain ⟨V,hV⟩:∃ V,valU 2 D.data.toList=V:=⟨_,rfl⟩
    simp only [hV] at hdig
    rw [hV] at hA
    have hst:fRest s (6 - 5)=(fA 5 s).or (fRest s (6 - 6)):=rfl
    rw [hA] at hst
    clear hA hV hok hDs hD
    have HST:=Hh hst; clear hst
    have HCUT:=Hh hcut; clear hcut
    have HDIG:=Hh hdig; clear hdig
    rcases ok with _ | _
    · go_wp2_with fail
      refine (HCUT.out _ ?hA10 ?hB10).mono ?_
      case hA10=>(first | omega | (simp [go_sem]; done) | (simp [go_sem]; omega))
      case hB10=>exact ((show Below W.heap.size W _ from bl).cell hg).trans cg
      rintro e w1 ⟨rfl,hb⟩
      obtain ⟨p1,rfl⟩:=gw_of_below hb
      clear hb
      go_wp2_with fail
      go_roundw
      case rel=>exact ⟨6,by omega,by go_num,Hh (by rw [←HK.out,HST.out]; rfl),bl⟩
      case measure=>simp [intOf]
    · rcases calls_dR V with ⟨n,rfl,hn⟩ | ⟨rfl,hn⟩
      · simp only [hn] at HDIG
        clear hn
        go_wp2_with fail
        refine (HCUT.out _ ?hA11 ?hB11).mono ?_
        case hA11=>(first | omega | (simp [go_sem]; done) | (simp [go_sem]; omega))
        case hB11=>exact ((show Below W.heap.size W _ from bl).cell hg).trans cg
        rintro e w1 ⟨rfl,hb⟩
        obtain ⟨p1,rfl⟩:=gw_of_below hb
        clear hb
        go_wp2_with fail
        refine (HDIG.out _).mono ?_
        rintro e w1 ⟨rfl,rfl⟩
        go_wp2_with fail
        go_ret2
        exact ⟨by rw [←HK.out,HST.out]; rfl,HB0.out.trans (Below.mono (show Below W.heap.size W _ from bl) HB0.out.size)⟩
      · simp only [hn] at HDIG
        clear hn
        go_wp2_with fail
        refine (HCUT.out _ ?hA12 ?hB12).mono ?_
        case hA12=>(first | omega | (simp [go_sem]; done) | (simp [go_sem]; omega))
        case hB12=>exact ((show Below W.heap.size W _ from bl).cell hg).trans cg
        rintro e w1 ⟨rfl,hb⟩
        obtain ⟨p1,rfl⟩:=gw_of_below hb
        clear hb
        go_wp2_with fail
        refine (HDIG.out _).mono ?_
        rintro e w1 ⟨rfl,rfl⟩
        go_wp2_with fail
        go_roundw
        case rel=>exact ⟨6,by omega,by go_num,Hh (by rw [←HK.out,HST.out]; rfl),bl⟩
        case measure=>simp [intOf]
  · go_wp2_with fail
    go_ret2
    exact ⟨by rw [←HK.out]; rfl,HB0.out.trans (Below.mono (show Below W.heap.size W _ from bl) HB0.out.size)⟩
theorem sub_empty (s:ByteArray) (i j:Nat) (hj:j≤s.size) (hij:i≤j):(sub s i j).toList.isEmpty=decide (j=i):=by
 rw [ByteArray.toList_eq]
 have hl:(sub s i j).data.toList.length=j - i:=by unfold sub; simp [ByteArray.data_extract]; have:s.data.size=s.size:=rfl; omega
 cases h:(sub s i j).data.toList with
 | nil=>rw [h] at hl; simp at hl; simp; omega
 | cons a l=>rw [h] at hl; simp at hl; simp; omega
theorem t167_0 {p:Prop} (h:p:=by
 go_enter Tryz.func99,Tryz.ntmps99
 go_wp2_with fail
 refine wp_region_gw (by kernel_rfl) (by kernel_rfl) ?_
 repeat (go_big_quiet_step (exact gw_quiet (HPK.out _ (HL.out.gw _))))
 refine wpQuiet_nil ?_
 rintro _ ⟨p1,rfl⟩
 have hb1:b<w.heap.size+p1.os.size:=by omega
 go_wp2_with fail
 refine (HDIG.out _).mono ?_
 rintro e w1 ⟨rfl,rfl⟩
 go_wp2_with fail
 refine (HRUN.out _ (LexAt.cast (lxq) (by go_num) rfl)).mono ?_
 rintro e w1 ⟨rfl,hL1,hK1⟩
 have HK:=Hh (Kb.trans (kbq:Kb b w _) hK1); clear hK1
 obtain ⟨d0,d1,d2,d3,d4,d5,hbb,g0,g1,g2,g3,g4,g5⟩:=hL1.facts
 have HL1:=Hh hL1; clear hL1
 go_wp2_with fail
 refine wp_region_gw (by kernel_rfl) (by kernel_rfl) ?_
 repeat (go_big_quiet_step (exact gw_quiet (HPAR.out _)))
 refine wpQuiet_nil ?_
 rintro _ ⟨p2,rfl⟩
 have hb2:b<w1.heap.size+p2.os.size:=by omega
 go_wp2_with fail
 go_ret2
 have HL:=HL1
 refine ⟨kbq,rfl,?_⟩
 refine LexAt.cast (lxq) ?_ ?_
 · rfl
 · rfl):p:=h
theorem t167_1 {p:Prop} (h:p:=by
 go_enter Tryz.func99,Tryz.ntmps99
 go_wp2_with fail
 refine wp_region_gw (by kernel_rfl) (by kernel_rfl) ?_
 repeat (go_big_quiet_step (exact gw_quiet (HPK.out _ (HL.out.gw _))))
 refine wpQuiet_nil ?_
 rintro _ ⟨p1,rfl⟩
 have hb1:b<w.heap.size+p1.os.size:=by omega
 go_wp2_with fail
 refine (HDIG.out _).mono ?_
 rintro e w1 ⟨rfl,rfl⟩
 go_wp2_with fail
 refine (HRUN.out _ (LexAt.cast (lxq) (by go_num) rfl)).mono ?_
 rintro e w1 ⟨rfl,hL1,hK1⟩
 have HK:=Hh (Kb.trans (kbq:Kb b w _) hK1); clear hK1
 obtain ⟨d0,d1,d2,d3,d4,d5,hbb,g0,g1,g2,g3,g4,g5⟩:=hL1.facts
 have HL1:=Hh hL1; clear hL1
 go_wp2_with fail
 refine wp_region_gw (by kernel_rfl) (by kernel_rfl) ?_
 repeat (go_big_quiet_step (exact gw_quiet (HPAR.out _)))
 refine wpQuiet_nil ?_
 rintro _ ⟨p2,rfl⟩
 have hb2:b<w1.heap.size+p2.os.size:=by omega
 go_wp2_with fail
 go_ret2
 have HL:=HL1
 exact ⟨kbq,rfl,m,_,hm2,lxq⟩):p:=h
set_option maxHeartbeats 8000000 in
set_option maxRecDepth 100000 in
theorem lexNumber_any (s:ByteArray) (i b:Nat) (t:Tok) (w:World) (hL:LexAt w b s i t) (hi:i≤s.size) (hs:s.size≤1000000) :
 Calls Tryz.prog 99 #[.pointer (some ⟨b,0,none⟩)] w (ReadRes (numberP s i) s i b t w):=by
 obtain ⟨Q,hQ⟩:∃ Q,numberP s i=Q:=⟨_,rfl⟩
 rw [hQ]
 unfold numberP isNumAt at hQ
 have hpk:=fun w hL=>peek_any s i b t w hL
 have hdig:=fun w=>isDigit_any (bat s i) w
 obtain ⟨d,hd⟩:∃ d,isDig (bat s i)=d:=⟨_,rfl⟩
 obtain ⟨c,hc⟩:∃ c:Int,((bat s i).toNat:Int)=c:=⟨_,rfl⟩
 obtain ⟨m,hm⟩:∃ m,runEnd s (i+1)=m:=⟨_,rfl⟩
 have hc8:∀ k:UInt8,(bat s i == k)=decide (c=(k.toNat:Int)):=fun k=>by
  rw [←hc,Bool.eq_iff_iff,beq_iff_eq,decide_eq_true_iff,←UInt8.toNat_inj]; omega
 have hdc:d=true→48≤c∧c≤57:=fun h=>by rw [←hd] at h; unfold isDig at h; simp at h; omega
 have hlt:(d=true∨c=37∨c=36)→i<s.size:=fun h=>by
  rcases Nat.lt_or_ge i s.size with h1 | h1
  · exact h1
  · exfalso
    rw [bat_out s i (by omega)] at hc hd
    have:c=0:=by rw [←hc]; rfl
    rcases h with h | h | h
    · rw [←hd] at h; cases h
    · omega
    · omega
 rw [hd,hm,hc8 37,hc8 36] at hQ
 change (if (d || decide (c=37) || (decide (c=36) && decide (i+1<m)))=true then _ else _)=Q at hQ
 simp only [hd,hc] at hdig
 simp only [hc] at hpk
 obtain ⟨c0,c1,c2,c3,c4,c5,hb,f0,f1,f2,f3,f4,f5⟩:=hL.facts
 have hi0:(0:Int)≤(i:Int):=by omega
 have hi1:(i:Int)≤(s.size:Int):=by omega
 clear hc8 hd
 have HL:=Hh hL; clear hL
 have HPK:=Hh hpk; clear hpk
 have HDIG:=Hh hdig; clear hdig
 by_cases hF1:d=false∧¬ c=37∧¬ c=36
 · obtain ⟨rfl,h37,h36⟩:=hF1
   rw [if_neg (by simp [h37,h36])] at hQ
   subst hQ
   have b36:(c != 36)=true:=by simpa using h36
   have b37:(c != 37)=true:=by simpa using h37
   have a36:(c == 36)=false:=by simpa using h36
   have a37:(c == 37)=false:=by simpa using h37
   clear h36 h37 hdc hlt hc
   go_enter Tryz.func99,Tryz.ntmps99
   go_wp2_with fail
   refine wp_region_gw (by kernel_rfl) (by kernel_rfl) ?_
   repeat (go_big_quiet_step (exact gw_quiet (HPK.out _ (HL.out.gw _))))
   refine wpQuiet_nil ?_
   rintro _ ⟨p1,rfl⟩
   have hb1:b<w.heap.size+p1.os.size:=by omega
   go_wp2_with fail
   refine (HDIG.out _).mono ?_
   rintro e w1 ⟨rfl,rfl⟩
   go_wp2_with fail
   go_ret2
   exact ⟨kbq,rfl,lxq⟩
 have hil:i<s.size:=hlt (by by_cases h1:d=true; exact .inl h1; by_cases h2:c=37; exact .inr (.inl h2); by_cases h3:c=36; exact .inr (.inr h3); exact absurd ⟨by simpa using h1,h2,h3⟩ hF1)
 have hm1:=runEnd_ge s (i+1)
 have hm2:=runEnd_le s (i+1) hil
 rw [hm] at hm1 hm2
 have hrun:=fun w hL=>run_any s (i+1) b t w hL hil hs
 have hse:=sub_empty s (i+1) m hm2 hm1
 simp only [hm] at hrun
 obtain ⟨X,hX⟩:∃ X,sub s (i+1) m=X:=⟨_,rfl⟩
 rw [hX] at hse
 simp only [hX] at hrun
 have hm1':(i:Int)+1≤(m:Int):=by omega
 have hm2':(m:Int)≤(s.size:Int):=by omega
 have him:(i:Int)≤(m:Int):=by omega
 have hpar:=fun w=>numParse_any (sub s i m) w (by unfold sub; rw [ByteArray.size_extract]; omega)
 have e1:numR (sub s i m)=dR (numP (sub s i m)):=rfl
 clear hlt hc hX hm
 have HRUN:=Hh hrun; clear hrun
 by_cases hF2:d=false∧c=36∧m=i+1
 · obtain ⟨rfl,rfl,hmi⟩:=hF2
   rw [if_neg (by simp; omega)] at hQ
   subst hQ
   rw [decide_eq_true hmi] at hse
   subst hmi
   clear hdc hF1 e1 hpar
   go_enter Tryz.func99,Tryz.ntmps99
   go_wp2_with fail
   refine wp_region_gw (by kernel_rfl) (by kernel_rfl) ?_
   repeat (go_big_quiet_step (exact gw_quiet (HPK.out _ (HL.out.gw _))))
   refine wpQuiet_nil ?_
   rintro _ ⟨p1,rfl⟩
   have hb1:b<w.heap.size+p1.os.size:=by omega
   go_wp2_with fail
   refine (HDIG.out _).mono ?_
   rintro e w1 ⟨rfl,rfl⟩
   go_wp2_with fail
   refine (HRUN.out _ (LexAt.cast (lxq) (by go_num) rfl)).mono ?_
   rintro e w1 ⟨rfl,hL1,hK1⟩
   have HK:=Hh (Kb.trans (kbq:Kb b w _) hK1); clear hK1
   obtain ⟨d0,d1,d2,d3,d4,d5,hbb,g0,g1,g2,g3,g4,g5⟩:=hL1.facts
   have HL1:=Hh hL1; clear hL1
   go_wp2_with fail
   go_ret2
   refine ⟨kbq,rfl,?_⟩
   have HL:=HL1
   exact LexAt.cast (lxq) rfl rfl
 have hN:(d || decide (c=37) || (decide (c=36) && decide (i+1<m)))=true:=by
  by_cases h1:d=true
  · rw [h1]; rfl
  · by_cases h2:c=37
    · rw [decide_eq_true h2]; simp
    · by_cases h3:c=36
      · have:¬ m=i+1:=fun h=>hF2 ⟨by simpa using h1,h3,h⟩
        rw [decide_eq_true h3,decide_eq_true (show i+1<m by omega)]; simp
      · exact absurd ⟨by simpa using h1,h2,h3⟩ hF1
 rw [if_pos hN] at hQ
 clear hN
 have hRr:∀ o:Option Nat,(o=none∧dR o=(0,false))∨∃ n,o=some n∧dR o=((n:Int),true):=fun o=>by cases o with
  | none=>exact .inl ⟨rfl,rfl⟩
  | some n=>exact .inr ⟨n,rfl,rfl⟩
 have hcase:(d=true∧(c != 36)=true∧(c == 36)=false)∨(d=false∧c=37)∨(d=false∧c=36∧decide (m=i+1)=false):=by
  by_cases h1:d=true
  · have:=hdc h1; left; refine ⟨h1,?_,?_⟩<;>simp<;>omega
  · by_cases h2:c=37
    · exact .inr (.inl ⟨by simpa using h1,h2⟩)
    · by_cases h3:c=36
      · exact .inr (.inr ⟨by simpa using h1,h3,decide_eq_false (fun h=>hF2 ⟨by simpa using h1,h3,h⟩)⟩)
      · exact absurd ⟨by simpa using h1,h2,h3⟩ hF1
 clear hF1 hF2 hdc
 obtain ⟨em,hem⟩:∃ em,decide (m=i+1)=em:=⟨_,rfl⟩
 rw [hem] at hse hcase
 clear hem
 rcases hRr (numP (sub s i m)) with ⟨h1,h2⟩ | ⟨n,h1,h2⟩
 · rw [h1] at hQ
   subst hQ
   simp only [e1,h2] at hpar
   clear e1 h1 h2 hRr
   have HPAR:=Hh hpar; clear hpar
   rcases hcase with ⟨rfl,n36,a36⟩ | ⟨rfl,rfl⟩ | ⟨rfl,rfl,rfl⟩
   · rcases em with _ | _
     · exact t167_1
     · exact t167_1
   · rcases em with _ | _
     · exact t167_1
     · exact t167_1
   · exact t167_1
 · rw [h1] at hQ
   subst hQ
   simp only [e1,h2] at hpar
   clear e1 h1 h2 hRr
   have HPAR:=Hh hpar; clear hpar
   rcases hcase with ⟨rfl,n36,a36⟩ | ⟨rfl,rfl⟩ | ⟨rfl,rfl,rfl⟩
   · rcases em with _ | _
     · exact t167_0
     · exact t167_0
   · rcases em with _ | _
     · exact t167_0
     · exact t167_0
   · exact t167_0
end Go.Proofs.YtkldoojonnkfgaaGreatDoor
