/- Joined texts: Fmt16, NumText, OpText, InsP. -/
import Derived.Test.YtkldoojonnkfgaaGreatDoorC02
import Derived.Test.YtkldoojonnkfgaaGreatDoorC04
import Derived.Test.YtkldoojonnkfgaaGreatDoorCX1
namespace Go.Proofs.YtkldoojonnkfgaaGreatDoor
open Go.RowKit Go.Sort
def hexLow (d:Nat):UInt8:=if d<10 then UInt8.ofNat (48+d) else UInt8.ofNat (87+d)
def hexDigs:Nat→Nat→List UInt8
 | 0,_=>[]
 | f+1,u=>if u<16 then [hexLow u] else hexDigs f (u / 16)++[hexLow (u % 16)]
theorem hexDigs_small (f u:Nat) (h:u<16):hexDigs (f+1) u=[hexLow u]:=by simp [hexDigs,h]
theorem hexDigs_big (f u:Nat) (h:16≤u):hexDigs (f+1) u=hexDigs f (u / 16)++[hexLow (u % 16)]:=by
 simp [hexDigs,show ¬ u<16 by omega]
def Tabs (w:World):Prop:=w.cell? ⟨8,15,none⟩=some (.int .u8 4)
theorem Tabs.lt {w:World} (h:Tabs w):8<w.heap.size:=block_lt_of_cell (a:=⟨8,15,none⟩) h
theorem Tabs.below {w w':World} (h:Tabs w) (hb:Below w.heap.size w w'):Tabs w':=(hb.cell (p:=⟨8,15,none⟩) h.lt).trans h
theorem tz16_eq:IntKind.u64.wrap (bits BinOp.and IntKind.u64 16 (IntKind.u64.wrap (-16)) * 285870213051353865) / 288230376151711744=15:=by decide +kernel
theorem pow16_eq:bits BinOp.and IntKind.i64 16 15=0:=by decide +kernel
theorem and15_u64 (u:Nat) (h:u<18446744073709551616):bits BinOp.and IntKind.u64 (u:Int) 15=((u % 16:Nat):Int):=by
 have h1:=bits_and_u64_nat u 15 h (by omega)
 rw [show (15:Nat)=2 ^ 4 - 1 from rfl,Nat.and_two_pow_sub_one_eq_mod] at h1
 exact h1
theorem hexConst:∀ d:Fin 16,(([48,49,50,51,52,53,54,55,56,57,97,98,99,100,101,102,103,104,105,106,107,108,109,110,111,112,113,114,115,116,117,118,119,120,121,122]:List UInt8))[d.val]? = some (hexLow d.val):=by decide
set_option maxHeartbeats 400000 in
theorem tz16 (w:World) (hT:w.cell? ⟨8,15,none⟩=some (.int .u8 4)) :
 Calls Tryz.prog 376 #[.int .u64 16] w fun e w'=>e=.returned (.int .i64 4)∧w'=w:=by
 have e2:=tz16_eq
 go_enter Tryz.func376,Tryz.ntmps376
 go_wp2
 go_ret
 exact ⟨rfl,rfl⟩
set_option maxHeartbeats 400000 in
theorem pow16 (w:World) :
 Calls Tryz.prog 375 #[.int .i64 16] w fun e w'=>e=.returned (.bool true)∧w'=w:=by
 have e2:=pow16_eq
 go_enter Tryz.func375,Tryz.ntmps375
 go_wp2
 go_ret
 exact ⟨rfl,rfl⟩
theorem zero65:(Tryz.zeroCells419).size=65:=by kernel_rfl
set_option maxHeartbeats 4000000 in
set_option maxRecDepth 100000 in
theorem fmt16 (n:Nat) (w:World) (h1:10≤n) (h2:n≤65535) (hT0:Tabs w) :
 Calls Tryz.prog 293 #[.int .i64 n,.int .i64 16] w fun e w'=>e=.returned (.string ⟨(hexDigs 4 n).toArray⟩)∧Below w.heap.size w w':=by
 have hsz:=hT0.lt
 have hT:w.cell? ⟨8,15,none⟩=some (.int .u8 4):=hT0
 clear hT0
 have h0:(0:Int)≤(n:Int):=by omega
 have h3:(n:Int)≤65535:=by omega
 have h4:¬ (n:Int)<0:=by omega
 have h5:decide ((n:Int)<0)=false:=by simp
 go_enter Tryz.func293,Tryz.ntmps293
 go_wp2_with (first | (go_at_call 347; go_in) | (go_at_call 375; refine (pow16 _).mono ?_; rintro e w' ⟨rfl,rfl⟩) | (go_at_call 376; refine (tz16 _ ?_).mono ?_; (simp [go_sem,hT,hsz]); rintro e w' ⟨rfl,rfl⟩))
 have hz:=zero65
 generalize Tryz.zeroCells419=Z at hz ⊢
 have Hz:=Hh hz; clear hz
 go_loopw [1,13] (fun u i wr=>∃ (x k f:Nat) (C:Array Value) (l:List UInt8),u=.int .u64 x∧i=.int .i64 k∧wr=w.alloc (.cells C 419)∧C.size=65∧k=61+f∧f≤4∧1≤f∧x<16 ^ f∧l.length+f=4∧x≤65535 ∧
  hexDigs 4 n=hexDigs f x++l∧(∀ j (hj:j<l.length),C[k+j]? = some (.int .u8 (l[j].toNat:Int))))
  (fun u _ _=>(intOf u).toNat)
 case atStart=>exact ⟨n,65,4,Z,[],rfl,rfl,rfl,Hz.out,rfl,by omega,by omega,by omega,rfl,h2,by simp,by simp⟩
 case round =>
  obtain ⟨x,k,f,C,l,rfl,rfl,rfl,hCs,hk,hf,hf1,hx,hl,hx2,hd,hC⟩:=hrel
  have Hd:=Hh hd; clear hd
  have HC:=Hh hC; clear hC
  have HCs:=Hh hCs; clear hCs
  have hk1:62≤k:=by omega
  have hk2:k≤65:=by omega
  have Hk:=Hh hk; clear hk
  have Hl:=Hh hl; clear hl
  have Hx:=Hh hx; clear hx
  obtain ⟨v0,hv0⟩:∃ v,C[k - 1]? = some v:=⟨_,Array.getElem?_eq_getElem (by have:=HCs.out; omega)⟩
  by_cases hge:16≤x
  · have hf2:2≤f:=by
     have:=Hx.out
     rcases Nat.lt_or_ge f 2 with h | h
     · obtain rfl:f=1:=by omega
       omega
     · exact h
    have hb:=and15_u64 x (by omega)
    obtain ⟨y,hy⟩:∃ y,x % 16=y:=⟨_,rfl⟩
    have hy1:y<16:=by omega
    rw [hy] at hb
    have Hy:=Hh hy; clear hy
    go_wp2
    go_roundw
    case rel =>
     refine ⟨x / 16,k - 1,f - 1,_,hexLow y::l,by go_num,by go_num,rfl,by rw [Array.size_setIfInBounds]; exact HCs.out,by have:=Hk.out; omega,by omega,by have:=Hl.out; have:=Hk.out; omega,?_,?_,by omega,?_,?_⟩
     · have:=Hx.out
       obtain ⟨g,rfl⟩:∃ g,f=g+1:=⟨f - 1,by omega⟩
       rw [Nat.pow_succ] at this
       show x / 16<16 ^ g
       omega
     · have:=Hl.out
       simp; omega
     · obtain ⟨g,rfl⟩:∃ g,f=g+1:=⟨f - 1,by omega⟩
       rw [Hd.out,hexDigs_big g x hge,Hy.out]
       simp
     · intro j hj
       have hcs:=HCs.out
       rw [Array.getElem?_setIfInBounds]
       rcases j with _ | j
       · rw [if_pos (by omega),if_pos (by omega)]
         have h0:=hexConst ⟨y,hy1⟩
         have h1:=List.getElem?_eq_some_iff.1 h0
         obtain ⟨_,h1⟩:=h1
         show some (Value.int .u8 _)=some (Value.int .u8 _)
         rw [←h1]; rfl
       · rw [if_neg (by omega),show k - 1+(j+1)=k+j from by omega]
         exact HC.out j (by simpa using hj)
    case measure=>simp [intOf]; omega
  · have hcs:=HCs.out
    have hal:Tryz.prog.arrayLen 419=65:=by kernel_rfl
    have hsl:∀ W,(Instr.sliceAt 419 (.pointer (some ⟨w.heap.size,0,none⟩)) (some (.int .i64 ((k:Int) - 1))) none none).run Tryz.prog W=.ok (.slice (some ⟨w.heap.size,k - 1,none⟩) (66 - k) (66 - k)) W:=fun W=>by
     rw [run_sliceAt_array_l W 419 ⟨w.heap.size,0,none⟩ (by kernel_rfl) .i64 ((k:Int) - 1) (by omega) (by rw [hal]; omega),hal]
     go_simp
     omega
    have hcv:=run_convert_bytes_back (P:=Tryz.prog) (w.alloc (.cells (C.setIfInBounds (k - 1) (.int .u8 ((hexLow x).toNat:Int))) 419)) 79 9 5 ⟨w.heap.size,k - 1,none⟩ (66 - k) (hexLow x::l) Tryz.underlying79 Tryz.underlying5 Tryz.underlying9 (by
     intro j hj
     rw [show Addr.add ⟨w.heap.size,k - 1,none⟩ j=⟨w.heap.size,k - 1+j,none⟩ from addr_add _ _ _,World.cell?_alloc_at _ _ _ _ rfl,Array.getElem?_setIfInBounds]
     rcases j with _ | j
     · rw [if_pos (by omega),if_pos (by omega)]; rfl
     · rw [if_neg (by omega),show k - 1+(j+1)=k+j from by omega]
       exact HC.out j (by simpa using hj))
    have hll:(hexLow x::l).length=66 - k:=by have:=Hl.out; have:=Hk.out; simp; omega
    rw [hll] at hcv
    have hdg:(({ data:=#[48,49,50,51,52,53,54,55,56,57,97,98,99,100,101,102,103,104,105,106,107,108,109,110,111,112,113,114,115,116,117,118,119,120,121,122] }:ByteArray)[x]'(by show x<36; omega)).toNat=(hexLow x).toNat:=by
     obtain ⟨_,h1⟩:=List.getElem?_eq_some_iff.1 (hexConst ⟨x,by omega⟩)
     rw [←h1]; rfl
    have hx16:¬ (16:Int)≤(x:Int):=by omega
    clear hal hll hcs
    go_wp2
    go_ret
    exact ⟨by rw [Hd.out]; obtain ⟨g,rfl⟩:∃ g,f=g+1:=⟨f - 1,by omega⟩; rw [hexDigs_small g x (by omega)]; rfl,(Below.refl _ _).alloc (Nat.le_refl _) _⟩
set_option maxHeartbeats 400000 in
theorem fmtInt16 (n:Nat) (w:World) (h1:10≤n) (h2:n≤65535) (hT:Tabs w) :
 Calls Tryz.prog 224 #[.int .i64 n,.int .i64 16] w fun e w'=>e=.returned (.string ⟨(hexDigs 4 n).toArray⟩)∧Below w.heap.size w w':=by
 go_enter Tryz.func224,Tryz.ntmps224
 go_wp2_with fail
 refine (fmt16 n _ h1 h2 hT).mono ?_
 rintro e w1 ⟨rfl,hb⟩
 go_wp2_with fail
 go_ret
 exact ⟨rfl,hb⟩
def numText (n:Int):ByteArray :=
 if n<0∨65535<n then ⟨#[]⟩
 else if n≤9 then ⟨#[UInt8.ofNat (48+n.toNat)]⟩
 else if 57<((upper ⟨(hexDigs 4 n.toNat).toArray⟩++(⟨#[72]⟩:ByteArray)).data[0]?.getD 0).toNat then (⟨#[48]⟩:ByteArray)++(upper ⟨(hexDigs 4 n.toNat).toArray⟩++(⟨#[72]⟩:ByteArray))
 else upper ⟨(hexDigs 4 n.toNat).toArray⟩++(⟨#[72]⟩:ByteArray)
theorem hexDigs_len:∀ (f u:Nat),(hexDigs f u).length≤f
 | 0,_=>by simp [hexDigs]
 | f+1,u=>by
   unfold hexDigs
   split
   · simp
   · have:=hexDigs_len f (u / 16); simp; omega
theorem getD_first (X:ByteArray) (h:0<X.size):X.data[0]?.getD 0=X[0]:=by
 rw [Array.getElem?_eq_getElem (by exact h)]; rfl
set_option maxHeartbeats 1000000 in
theorem numText_any (n:Int) (w:World) (hT:Tabs w) :
 Calls Tryz.prog 139 #[.int .i64 n] w fun e w'=>e=.returned (.string (numText n))∧Below w.heap.size w w':=by
 by_cases h0:n<0∨65535<n
 · have hf:(decide (0≤n) && decide (n≤65535))=false:=by simp; omega
   have hr:numText n=⟨#[]⟩:=by unfold numText; rw [if_pos h0]
   rw [hr]
   clear h0
   go_enter Tryz.func139,Tryz.ntmps139
   go_wp2_with fail
   refine (numFits1 _ _ n _ _ ?hc1).mono ?_
   case hc1=>simp [go_sem]
   rintro e w2 ⟨rfl,rfl⟩
   rw [hf]
   go_wp2_with fail
   go_ret
   exact ⟨rfl,bl⟩
 · have hf:(decide (0≤n) && decide (n≤65535))=true:=by simp; omega
   have hf0:0≤n:=by omega
   obtain ⟨m,rfl⟩:=Int.eq_ofNat_of_zero_le hf0
   have hf1:m≤65535:=by omega
   by_cases h9:m≤9
   · have hr:numText m=⟨(Lib.decDigits m).toArray⟩:=by
      have:m=0∨m=1∨m=2∨m=3∨m=4∨m=5∨m=6∨m=7∨m=8∨m=9:=by omega
      rcases this with rfl | rfl | rfl | rfl | rfl | rfl | rfl | rfl | rfl | rfl<;>rw [Lib.decDigits]<;>rfl
     have h9i:(m:Int)≤9:=by omega
     rw [hr]
     clear h0
     go_enter Tryz.func139,Tryz.ntmps139
     go_wp2_with fail
     refine (numFits1 _ _ m _ _ ?hc2).mono ?_
     case hc2=>simp [go_sem]
     rintro e w2 ⟨rfl,rfl⟩
     rw [hf]
     go_wp2_with fail
     refine (Tryz.strconv_Itoa_small m (by omega) _).mono ?_
     rintro e w2 ⟨rfl,rfl⟩
     go_wp2_with fail
     go_ret
     exact ⟨rfl,bl⟩
   · have h9i:¬ (m:Int)≤9:=by omega
     go_enter Tryz.func139,Tryz.ntmps139
     go_wp2_with fail
     refine (numFits1 _ _ m _ _ ?hc3).mono ?_
     case hc3=>simp [go_sem]
     rintro e w2 ⟨rfl,rfl⟩
     rw [hf]
     go_wp2_with fail
     refine (fmtInt16 m _ (by omega) hf1 (hT.below (bl))).mono ?_
     rintro e w2 ⟨rfl,hb⟩
     obtain ⟨p1,rfl⟩:=gw_of_below hb
     clear hb
     go_wp2_with fail
     refine (upper_any _ _ ?hu).mono ?_
     case hu=>have:=hexDigs_len 4 m; unfold maxLen; show (hexDigs 4 m).toArray.size≤_; simp; omega
     rintro e w2 ⟨rfl,hb⟩
     obtain ⟨p2,rfl⟩:=gw_of_below hb
     clear hb
     have hr:numText m=if 57<((upper ⟨(hexDigs 4 m).toArray⟩++(⟨#[72]⟩:ByteArray)).data[0]?.getD 0).toNat then (⟨#[48]⟩:ByteArray)++(upper ⟨(hexDigs 4 m).toArray⟩++(⟨#[72]⟩:ByteArray)) else upper ⟨(hexDigs 4 m).toArray⟩++(⟨#[72]⟩:ByteArray):=by
      unfold numText
      rw [if_neg h0,if_neg (by omega)]
      rfl
     have hU4:(upper ⟨(hexDigs 4 m).toArray⟩).size≤4:=by
      have:=hexDigs_len 4 m
      show ((((hexDigs 4 m).toArray.toList.map up).toArray).size≤4)
      simp; omega
     have Hr:=Hh hr; clear hr h0
     generalize upper ⟨(hexDigs 4 m).toArray⟩=U at Hr hU4 ⊢
     go_wp2_with fail
     · go_ret
       refine ⟨?_,bl⟩
       rename_i h
       rw [Hr.out,if_pos (by rw [getD_first _ (by simp; show 0<U.size+1; omega)]; omega)]
       rfl
     · go_ret
       refine ⟨?_,bl⟩
       rename_i h
       rw [Hr.out,if_neg (by rw [getD_first _ (by simp; show 0<U.size+1; omega)]; omega)]
       rfl
def signedS (n:Int):ByteArray:=if n<0 then (⟨#[45]⟩:ByteArray)++numText (-n) else (⟨#[43]⟩:ByteArray)++numText n
def formS (k:Nat) (reg:ByteArray) (n:Int):ByteArray :=
 if k=4 then (⟨#[40]⟩:ByteArray)++reg++(⟨#[41]⟩:ByteArray)
 else if k=5 then (⟨#[40]⟩:ByteArray)++reg++signedS n++(⟨#[41]⟩:ByteArray)
 else if k=6 then (if n<0 then signedS n else numText n)
 else if k=7 then (⟨#[40]⟩:ByteArray)++numText n++(⟨#[41]⟩:ByteArray)
 else if k=10 then (⟨#[36]⟩:ByteArray)++signedS (n+2)
 else reg
def opValid (k r n:Int):Bool:=decide (1≤k) && decide (k≤10) && decide (0≤r) && decide (r<9) && !(nm k.toNat r.toNat).toList.isEmpty && decide (klo k.toNat≤n) && decide (n≤khi k.toNat)
def opText (k r n:Int):ByteArray:=if opValid k r n then formS k.toNat (nm k.toNat r.toNat) n else ⟨#[]⟩
theorem of_no (k r n:Int) (w:World) (h:opValid k r n=false) :
 Calls Tryz.prog 172 #[.agg #[.int .i64 k,.int .i64 r,.int .i64 n]] w fun e w' =>
  e=.returned (.tuple #[.agg #[.string ⟨#[]⟩,.string ⟨#[]⟩,.string ⟨#[]⟩,.string ⟨#[]⟩,.string ⟨#[]⟩,.string ⟨#[]⟩,.string ⟨#[]⟩,.string ⟨#[]⟩,.string ⟨#[]⟩,.int .i64 0,.int .i64 0,.nilFunc],.string ⟨#[]⟩,.bool false])∧Below w.heap.size w w':=by
 by_cases hk:k<1∨10<k
 · exact of_no_kind k r n w hk
 · obtain ⟨k,rfl⟩:=Int.eq_ofNat_of_zero_le (show 0≤k by omega)
   by_cases hr:r<0∨9≤r
   · exact of_no_reg k r n w (by omega) (by omega) hr
   · obtain ⟨r,rfl⟩:=Int.eq_ofNat_of_zero_le (show 0≤r by omega)
     by_cases hn:(nm k r).toList.isEmpty=true
     · exact of_no_name k r n w (by omega) (by omega) (by omega) hn
     · have hn':(nm k r).toList.isEmpty=false:=by simpa using hn
       refine of_no_num k r n w (by omega) (by omega) (by omega) hn' ?_
       unfold opValid at h
       rw [Int.toNat_natCast,Int.toNat_natCast,hn',decide_eq_true (show (1:Int)≤k by omega),decide_eq_true (show (k:Int)≤10 by omega),decide_eq_true (show (0:Int)≤r by omega),decide_eq_true (show (r:Int)<9 by omega)] at h
       simp at h
       omega
theorem opValid_parts {k r n:Int} (h:opValid k r n=true):∃ a b:Nat,k=a∧r=b∧1≤a∧a≤10∧b<9∧(nm a b).toList.isEmpty=false∧klo a≤n∧n≤khi a:=by
 unfold opValid at h
 simp only [Bool.and_eq_true,decide_eq_true_eq,Bool.not_eq_true'] at h
 obtain ⟨⟨⟨⟨⟨⟨h1,h2⟩,h3⟩,h4⟩,h5⟩,h6⟩,h7⟩:=h
 obtain ⟨a,rfl⟩:=Int.eq_ofNat_of_zero_le (show 0≤k by omega)
 obtain ⟨b,rfl⟩:=Int.eq_ofNat_of_zero_le h3
 exact ⟨a,b,rfl,rfl,by omega,by omega,by omega,h5,h6,h7⟩
set_option maxHeartbeats 1000000 in
theorem valid_any (k r n:Int) (w:World) :
 Calls Tryz.prog 113 #[.agg #[.int .i64 k,.int .i64 r,.int .i64 n]] w fun e w'=>e=.returned (.bool (opValid k r n))∧Below w.heap.size w w':=by
 rcases hv:opValid k r n with _ | _
 · go_enter Tryz.func113,Tryz.ntmps113
   go_wp2_with fail
   refine (of_no k r n _ hv).mono ?_
   rintro e w1 ⟨rfl,hb⟩
   obtain ⟨p1,rfl⟩:=gw_of_below hb
   clear hb
   go_wp2_with fail
   go_ret
   exact ⟨rfl,bl⟩
 · obtain ⟨a,b,rfl,rfl,h1,h2,h3,h4,h5,h6⟩:=opValid_parts hv
   go_enter Tryz.func113,Tryz.ntmps113
   go_wp2_with fail
   refine (of_yes a b n _ h1 h2 h3 h4 h5 h6).mono ?_
   rintro e w1 ⟨rfl,hb⟩
   obtain ⟨p1,rfl⟩:=gw_of_below hb
   clear hb
   go_wp2_with fail
   go_ret
   exact ⟨rfl,bl⟩
def opsT:List UInt8:=[65,68,67,32,65,68,68,32,65,78,68,32,66,73,84,32,67,65,76,76,32,67,67,70,32,67,80,32,67,80,68,32,67,80,68,82,32,67,80,73,32,67,80,73,82,32,67,80,76,32,68,65,65,32,68,69,67,32,68,73,32,68,74,78,90,32,69,73,32,69,88,32,69,88,88,32,72,65,76,84,32,73,77,32,73,78,32,73,78,67,32,73,78,68,32,73,78,68,82,32,73,78,73,32,73,78,73,82,32,74,80,32,74,82,32,76,68,32,76,68,68,32,76,68,68,82,32,76,68,73,32,76,68,73,82,32,78,69,71,32,78,79,80,32,79,82,32,79,84,68,82,32,79,84,73,82,32,79,85,84,32,79,85,84,68,32,79,85,84,73,32,80,79,80,32,80,85,83,72,32,82,69,83,32,82,69,84,32,82,69,84,73,32,82,69,84,78,32,82,76,32,82,76,65,32,82,76,67,32,82,76,67,65,32,82,76,68,32,82,82,32,82,82,65,32,82,82,67,32,82,82,67,65,32,82,82,68,32,82,83,84,32,83,66,67,32,83,67,70,32,83,69,84,32,83,76,65,32,83,76,76,32,83,82,65,32,83,82,76,32,83,85,66,32,88,79,82]
def opsL:List (List UInt8):=[
 [65,68,67],[65,68,68],[65,78,68],[66,73,84],[67,65,76,76],[67,67,70],[67,80],[67,80,68],
 [67,80,68,82],[67,80,73],[67,80,73,82],[67,80,76],[68,65,65],[68,69,67],[68,73],[68,74,78,90],
 [69,73],[69,88],[69,88,88],[72,65,76,84],[73,77],[73,78],[73,78,67],[73,78,68],
 [73,78,68,82],[73,78,73],[73,78,73,82],[74,80],[74,82],[76,68],[76,68,68],[76,68,68,82],
 [76,68,73],[76,68,73,82],[78,69,71],[78,79,80],[79,82],[79,84,68,82],[79,84,73,82],[79,85,84],
 [79,85,84,68],[79,85,84,73],[80,79,80],[80,85,83,72],[82,69,83],[82,69,84],[82,69,84,73],[82,69,84,78],
 [82,76],[82,76,65],[82,76,67],[82,76,67,65],[82,76,68],[82,82],[82,82,65],[82,82,67],
 [82,82,67,65],[82,82,68],[82,83,84],[83,66,67],[83,67,70],[83,69,84],[83,76,65],[83,76,76],
 [83,82,65],[83,82,76],[83,85,66],[88,79,82]]
set_option maxRecDepth 100000 in
theorem opsT_fields:Lib.fields opsT=opsL:=by decide +kernel
theorem opsL_len:opsL.length=68:=by decide +kernel
def checkP (i:Ins2):Int:=if i.1∉opsL then 12 else if 3<i.2.length then 11 else if i.2.any (fun o=>!opValid o.1 o.2.1 o.2.2) then 2 else 0
def findI (i:Ins2):Option Ent × Int:=if checkP i=0 then entryP (canonP i) else (none,checkP i)
theorem exP_mem {m:List UInt8} {l:List Op3} {o:Op3} (h:o∈exP m l):o∈l:=by
 unfold exP at h
 split at h
 · rename_i hc
   rw [hc.2]
   simp only [List.mem_cons,List.not_mem_nil,or_false] at h ⊢
   exact h.symm
 · exact h
theorem accP_mem {i:Ins2} {o:Op3} (h:o∈accP i):o=(1,7,0)∨o∈i.2:=by
 unfold accP at h
 split at h
 · exact .inr (List.mem_of_mem_tail h)
 · split at h
   · rcases List.mem_cons.1 h with h | h
     · exact .inl h
     · exact .inr h
   · exact .inr h
theorem canonP_mem {i:Ins2} {o:Op3} (h:o∈(canonP i).2):o=(1,7,0)∨∃ x∈i.2,o.1=x.1∧o.2.1=x.2.1:=by
 unfold canonP at h
 obtain ⟨x,hx,rfl⟩:=List.mem_map.1 h
 rcases accP_mem (exP_mem hx) with rfl | hx
 · left; rfl
 · right
   refine ⟨x,hx,?_⟩
   unfold posP
   split<;>exact ⟨rfl,rfl⟩
end Go.Proofs.YtkldoojonnkfgaaGreatDoor
