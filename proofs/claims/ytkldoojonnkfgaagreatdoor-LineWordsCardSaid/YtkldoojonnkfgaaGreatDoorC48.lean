/- Joined texts: LineW, RUpper, RNamed, Ref19W, LawLWords. -/
import Derived.Test.YtkldoojonnkfgaaGreatDoorC47
namespace Go.Proofs.YtkldoojonnkfgaaGreatDoor
open Go.RowKit Go.Sort
theorem lx_af2 {s:ByteArray} {i:Nat} {x y:UInt8} (hx:up x=65) (hy:up y=70) (h:At s i ⟨#[x,y,39]⟩):Lx s i [⟨1,⟨#[x,y,39]⟩,0,i⟩] (i+3):=by
 obtain ⟨h0,b0⟩:=h 0 (by show 0<3; decide)
 obtain ⟨h1,b1⟩:=h 1 (by show 1<3; decide)
 obtain ⟨h2,b2⟩:=h 2 (by show 2<3; decide)
 have b0:bat s i=x:=b0
 have b1:bat s (i+1)=y:=b1
 have b2:bat s (i+2)=39:=b2
 have h0:i<s.size:=h0
 have wx:isW x=true:=by rw [←(up_keep1 x).2.1,hx]; rfl
 have lx:isLet x=true:=by rw [←(up_keep1 x).1,hx]; rfl
 have wy:isW y=true:=by rw [←(up_keep1 y).2.1,hy]; rfl
 have r2:runEnd s (i+2)=i+2:=runEnd_no _ _ h2 (by rw [bat_get _ _ h2,b2]; rfl)
 have r0:runEnd s i=i+2:=by
  rw [runEnd_go s i h0 (by rw [bat_get _ _ h0,b0]; exact wx),runEnd_go s (i+1) h1 (by rw [bat_get _ _ h1,b1]; exact wy)]
  exact r2
 have ha:At s i ⟨#[x,y]⟩:=by
  intro k hk
  have hk:k<2:=hk
  have hh:=h k (by show k<3; omega)
  have:k=0∨k=1:=by omega
  rcases this with rfl | rfl<;>exact hh
 have hsub:s.extract i (i+2)=⟨#[x,y]⟩:=sub_at' ha rfl
 have hup:(upper (⟨#[x,y]⟩:ByteArray)).toList=[65,70]:=by
  rw [ByteArray.toList_eq,up_data]
  simp [hx,hy]
 have hwe:wordEnd s i=i+3:=by
  unfold wordEnd
  rw [dif_pos h0,if_pos (by rw [bat_get _ _ h0,b0]; exact lx),dif_pos (by rw [r0]; exact h2),if_pos,r0]
  refine ⟨?_,?_⟩
  · rw [r0]
    show (upper (s.extract i (i+2))).toList=_
    rw [hsub,hup]
  · have:∀ j (hj:j<s.size),j=i+2→s[j]=39:=fun j hj e=>by subst e; rw [bat_get _ _ hj]; exact b2
    exact this _ _ r0
 obtain ⟨n1,n2,n3⟩:=isLet_ne lx
 refine lx_tok h0 (by rw [b0]; exact n1) (by rw [b0]; exact n2) (by rw [b0]; exact n3) ?_
 unfold nextP
 rw [if_pos (by rw [hwe]; omega),hwe]
 show Except.ok ((⟨1,s.extract i (i+3),0,i⟩:Tok),i+3)=_
 rw [show s.extract i (i+3)=⟨#[x,y,39]⟩ from sub_at' h rfl]
theorem resv_line {s:ByteArray} (h:resvW s=true) (hs:s.size≤100):(lineP (s++⟨#[58]⟩)).2=21:=by
 have hsz:(s++⟨#[58]⟩:ByteArray).size=s.size+1:=by rw [ByteArray.size_append,one_size]
 have ha:=At.self (s++⟨#[58]⟩:ByteArray)
 have hr:=ha.right
 rw [Nat.zero_add] at hr
 have hw:Lx (s++⟨#[58]⟩) 0 [⟨1,s,0,(0:Nat)⟩] s.size:=by
  rcases resv_word h with hw | hw
  · have:=lx_word ha.left hw (.inr (by rw [Nat.zero_add,hr.one.2]; decide))
    rw [Nat.zero_add] at this
    exact this
  · have hl:s.data.toList.map up=[65,70,39]:=by rw [←up_data,hw]
    obtain ⟨x,y,q,hd,hx,hy,hq⟩:∃ x y q,s.data.toList=[x,y,q]∧up x=65∧up y=70∧up q=39:=by
     rcases hd:s.data.toList with _ | ⟨x,_ | ⟨y,_ | ⟨q,_ | ⟨z,r⟩⟩⟩⟩<;>rw [hd] at hl<;>simp at hl
     exact ⟨x,y,q,rfl,hl.1,hl.2.1,hl.2.2⟩
    have hq:q=39:=(up_keep1 q).2.2.1 hq
    subst hq
    obtain rfl:s=⟨#[x,y,39]⟩:=ba_of hd
    have:=lx_af2 hx hy ha.left
    rw [Nat.zero_add] at this
    exact this
 have hc:=lx_sign hr (by decide) (by intro h; exact absurd h (by decide))
 have htk:toksP (s++⟨#[58]⟩)=.ok (([⟨1,s,0,(0:Nat)⟩]++[⟨4,⟨#[58]⟩,0,s.size⟩])++[⟨0,⟨#[]⟩,0,skipEnd (s++⟨#[58]⟩) (s++⟨#[58]⟩:ByteArray).size⟩]):=by
  unfold toksP
  rw [if_neg (by omega),(hw.trans hc) [],←hsz,end_tok]
  rfl
 unfold lineP
 rw [htk]
 dsimp only
 rw [List.dropLast_concat]
 unfold stmtP
 have hlb:labelP ([⟨1,s,0,(0:Nat)⟩]++[⟨4,⟨#[58]⟩,0,s.size⟩])=(s,2):=by
  have hcol:colonP [⟨4,⟨#[58]⟩,0,s.size⟩]=true:=by
   show signIs _ _=true
   rw [sign_eq]; rfl
  rw [List.singleton_append]
  unfold labelP
  dsimp only
  rw [if_neg (by decide),if_pos hcol]
 rw [hlb,if_pos ⟨Nat.zero_lt_succ _,h⟩]
theorem Tryz.infoByte:(Tryz.prog.info? 5).map (fun i=>(i.zero,i.size,i.bytes))=some (some (.int .u8 0),1,1):=by kernel_rfl
def bytc (l:List UInt8):List Value:=l.map fun c=>.int .u8 (c.toNat:Int)
theorem bytc_len (l:List UInt8):(bytc l).length=l.length:=by simp [bytc]
theorem bytc_append (l m:List UInt8):bytc (l++m)=bytc l++bytc m:=by simp [bytc]
set_option maxHeartbeats 1000000 in
set_option maxRecDepth 100000 in
theorem rupper_any (s:ByteArray) (w:World) (hs:s.size≤1000000) :
 Calls Tryz.prog 13 #[.string s] w fun e w'=>e=.returned (.string (upper s))∧Below w.heap.size w w':=by
 obtain ⟨i0,hi,hz0,hz1,hz2⟩:=info_parts Tryz.infoByte
 obtain ⟨B,hB⟩:∃ B,w.heap.size=B:=⟨_,rfl⟩
 obtain ⟨U,hU⟩:∃ U,s.data.toList.map up=U:=⟨_,rfl⟩
 have HU:=Hh hU; clear hU
 have HB:=Hh hB; clear hB
 go_enter Tryz.func13,Tryz.ntmps13
 go_wp2_with fail
 go_loopw [3,4,5] (fun v i _ wr=>∃ k:Nat,k≤s.size∧i=.int .i64 k∧wr.ownsRow B 5 1 v k (bytc (U.take k))∧Below B w wr) (fun _ i _ _=>s.size - (intOf i).toNat)
 case atStart=>exact ⟨0,Nat.zero_le _,rfl,World.ownsRow_nil _ _ _ _,Below.refl _ _⟩
 case round =>
  obtain ⟨k,hk,rfl,hown,hbel⟩:=hrel
  have HOWN:=Hh hown; clear hown
  have HBEL:=Hh hbel; clear hbel
  by_cases hlt:k<s.size
  · have hi0:(0:Int)≤(k:Int):=by omega
    have hi1:(k:Int)<(s.size:Int):=by omega
    have hup:=up_toNat s[k]
    have hc1:(s[k].toNat:Int)≤255:=by have:=s[k].toNat_lt; omega
    have hsucc:bytc (U.take (k+1))=bytc (U.take k)++[.int .u8 ((up s[k]).toNat:Int)]:=by
     rw [List.take_add_one,←HU.out,bytc_append]
     congr 1
     simp [bytc,hlt]
     rfl
    by_cases h1:97≤(s[k].toNat:Int)
    · by_cases h2:(s[k].toNat:Int)≤122
      · rw [if_pos ⟨h1,h2⟩,show (s[k].toNat:Int) - 97+65=(s[k].toNat:Int) - 32 by omega] at hup
        rw [hup] at hsucc
        clear hup
        have Hk:=Hh hsucc; clear hsucc
        go_wp2_with (at_builtin; refine wpList_append_own _ rfl _ _ 79 rfl B 5 i0 (.int .u8 0) 1 1 Tryz.underlying79 hi hz0 hz1 hz2 rfl (by decide) _ _ _ rfl (owns_below' HOWN.out (bl)) _ 1 1 [.int .u8 ((s[k].toNat:Int) - 32)] rfl rfl ?c1 ?c2 ?c3 ?c4 ?c5 ?_)
        try case c1 =>
         intro q u hq
         rw [addr_add]
         match q,hq with
         | 0,hq=>simp at hq; subst hq; simp [go_sem]
        case c2=>first | (intro u hu; simp at hu; subst hu; rfl) | rfl
        case c3=>unfold maxLen; omega
        case c4=>omega
        case c5=>have:=HBEL.out.size; have:=HB.out; simp [go_sem]; omega
        intro v' w1 hown' hgrow _
        have hsz:B≤wr.heap.size:=by have:=HBEL.out.size; have:=HB.out; omega
        have hb':Below B w w1:=(HBEL.out.trans (Below.mono (show Below wr.heap.size wr _ from bl) hsz)).grown hgrow (by simp [go_sem]; omega) (by
         intro q hq
         have:=HOWN.out.2
         rcases this with ⟨h,_⟩ | ⟨g,cap,cur,h,hg,_⟩
         · rw [h] at hq; cases hq
         · rw [h] at hq; cases hq; exact hg)
        have HOWN3:=Hh hown'; clear hown'
        have HB':=Hh hb'; clear hb' hgrow
        go_wp2_with fail
        go_roundw
        case rel=>exact ⟨k+1,by omega,by go_num,by rw [Hk.out]; exact HOWN3.out,HB'.out⟩
        case measure=>simp [intOf]; omega
      · rw [if_neg (fun h=>h2 h.2)] at hup
        rw [hup] at hsucc
        clear hup
        have Hk:=Hh hsucc; clear hsucc
        go_wp2_with (at_builtin; refine wpList_append_own _ rfl _ _ 79 rfl B 5 i0 (.int .u8 0) 1 1 Tryz.underlying79 hi hz0 hz1 hz2 rfl (by decide) _ _ _ rfl (owns_below' HOWN.out (bl)) _ 1 1 [.int .u8 ((s[k].toNat:Int))] rfl rfl ?c1 ?c2 ?c3 ?c4 ?c5 ?_)
        try case c1 =>
         intro q u hq
         rw [addr_add]
         match q,hq with
         | 0,hq=>simp at hq; subst hq; simp [go_sem]
        case c2=>first | (intro u hu; simp at hu; subst hu; rfl) | rfl
        case c3=>unfold maxLen; omega
        case c4=>omega
        case c5=>have:=HBEL.out.size; have:=HB.out; simp [go_sem]; omega
        intro v' w1 hown' hgrow _
        have hsz:B≤wr.heap.size:=by have:=HBEL.out.size; have:=HB.out; omega
        have hb':Below B w w1:=(HBEL.out.trans (Below.mono (show Below wr.heap.size wr _ from bl) hsz)).grown hgrow (by simp [go_sem]; omega) (by
         intro q hq
         have:=HOWN.out.2
         rcases this with ⟨h,_⟩ | ⟨g,cap,cur,h,hg,_⟩
         · rw [h] at hq; cases hq
         · rw [h] at hq; cases hq; exact hg)
        have HOWN3:=Hh hown'; clear hown'
        have HB':=Hh hb'; clear hb' hgrow
        go_wp2_with fail
        go_roundw
        case rel=>exact ⟨k+1,by omega,by go_num,by rw [Hk.out]; exact HOWN3.out,HB'.out⟩
        case measure=>simp [intOf]; omega
    · rw [if_neg (fun h=>h1 h.1)] at hup
      rw [hup] at hsucc
      clear hup
      have Hk:=Hh hsucc; clear hsucc
      go_wp2_with (at_builtin; refine wpList_append_own _ rfl _ _ 79 rfl B 5 i0 (.int .u8 0) 1 1 Tryz.underlying79 hi hz0 hz1 hz2 rfl (by decide) _ _ _ rfl (owns_below' HOWN.out (bl)) _ 1 1 [.int .u8 ((s[k].toNat:Int))] rfl rfl ?c1 ?c2 ?c3 ?c4 ?c5 ?_)
      try case c1 =>
       intro q u hq
       rw [addr_add]
       match q,hq with
       | 0,hq=>simp at hq; subst hq; simp [go_sem]
      case c2=>first | (intro u hu; simp at hu; subst hu; rfl) | rfl
      case c3=>unfold maxLen; omega
      case c4=>omega
      case c5=>have:=HBEL.out.size; have:=HB.out; simp [go_sem]; omega
      intro v' w1 hown' hgrow _
      have hsz:B≤wr.heap.size:=by have:=HBEL.out.size; have:=HB.out; omega
      have hb':Below B w w1:=(HBEL.out.trans (Below.mono (show Below wr.heap.size wr _ from bl) hsz)).grown hgrow (by simp [go_sem]; omega) (by
       intro q hq
       have:=HOWN.out.2
       rcases this with ⟨h,_⟩ | ⟨g,cap,cur,h,hg,_⟩
       · rw [h] at hq; cases hq
       · rw [h] at hq; cases hq; exact hg)
      have HOWN3:=Hh hown'; clear hown'
      have HB':=Hh hb'; clear hb' hgrow
      go_wp2_with fail
      go_roundw
      case rel=>exact ⟨k+1,by omega,by go_num,by rw [Hk.out]; exact HOWN3.out,HB'.out⟩
      case measure=>simp [intOf]; omega
  · obtain rfl:k=s.size:=by omega
    have hlen:U.length=s.size:=by rw [←HU.out]; simp
    have hrow:=Row.of_owns HOWN.out
    rw [List.take_of_length_le (by omega)] at hrow
    obtain ⟨a2,c2,rfl,hc2,hr⟩:=hrow
    have hconv:(convert 79 9 (.slice a2 s.size c2)).run Tryz.prog wr=.ok (.string (upper s)) wr:=by
     have hU:upper s=⟨U.toArray⟩:=by unfold upper; rw [HU.out]
     rw [hU]
     by_cases hnil:U=[]
     · have h0:s.size=0:=by rw [←hlen,hnil]; rfl
       rw [h0,hnil,run_convert_bytes_string (P:=Tryz.prog) wr 79 9 5 a2 0 c2 Tryz.underlying79 Tryz.underlying5 Tryz.underlying9]
       cases a2 with
       | none=>rfl
       | some a=>rfl
     · obtain ⟨g,o,rfl,hg,hcs⟩:=hr (by intro e; have h2:=bytc_len U; rw [e] at h2; exact hnil (List.eq_nil_of_length_eq_zero h2.symm))
       have:=run_convert_bytes_back (P:=Tryz.prog) wr 79 9 5 ⟨g,o,none⟩ c2 U Tryz.underlying79 Tryz.underlying5 Tryz.underlying9 (fun j hj=>by
        rw [addr_add,hcs j (by rw [bytc_len]; exact hj)]
        simp [bytc,hj])
       rw [hlen] at this
       exact this
    clear hr
    go_wp2_with fail
    go_ret
    exact ⟨rfl,by rw [HB.out]; exact HBEL.out⟩
def rcountN:Nat→Nat | 1=>8 | 2=>4 | 3=>8 | 8=>8 | 9=>2 | _=>0
theorem rcountN_le (k:Nat):rcountN k≤9:=by unfold rcountN; split<;>omega
def kcells (k:Nat):Array Value:=((List.range (rcountN k)).map fun j=>Value.string (nm k j)).toArray
theorem kcells_at (k j:Nat) (h:j<rcountN k):(kcells k)[j]? = some (.string (nm k j)):=by
 simp [kcells,h]
theorem kcells_1:kcells 1=#[.string ⟨#[66]⟩,.string ⟨#[67]⟩,.string ⟨#[68]⟩,.string ⟨#[69]⟩,.string ⟨#[72]⟩,.string ⟨#[76]⟩,.string ⟨#[]⟩,.string ⟨#[65]⟩]:=by rfl
theorem kcells_2:kcells 2=#[.string ⟨#[73,88,72]⟩,.string ⟨#[73,88,76]⟩,.string ⟨#[73,89,72]⟩,.string ⟨#[73,89,76]⟩]:=by rfl
theorem kcells_3:kcells 3=#[.string ⟨#[66,67]⟩,.string ⟨#[68,69]⟩,.string ⟨#[72,76]⟩,.string ⟨#[83,80]⟩,.string ⟨#[65,70]⟩,.string ⟨#[73,88]⟩,.string ⟨#[73,89]⟩,.string ⟨#[65,70,39]⟩]:=by rfl
theorem kcells_8:kcells 8=#[.string ⟨#[78,90]⟩,.string ⟨#[90]⟩,.string ⟨#[78,67]⟩,.string ⟨#[67]⟩,.string ⟨#[80,79]⟩,.string ⟨#[80,69]⟩,.string ⟨#[80]⟩,.string ⟨#[77]⟩]:=by rfl
theorem kcells_9:kcells 9=#[.string ⟨#[73]⟩,.string ⟨#[82]⟩]:=by rfl
set_option maxHeartbeats 400000 in
set_option maxRecDepth 100000 in
theorem regs_1 (w:World) :
 Calls Tryz.prog 146 #[.int .i64 1] w fun e w'=>e=.returned (.slice (some ⟨w.heap.size,0,none⟩) (rcountN 1) (rcountN 1))∧w'=w.alloc (.cells (kcells 1) 9):=by
 go_enter Tryz.func146,Tryz.ntmps146
 go_wp2_with fail
 go_ret
 exact ⟨rfl,by rw [kcells_1]⟩
set_option maxHeartbeats 400000 in
set_option maxRecDepth 100000 in
theorem regs_2 (w:World) :
 Calls Tryz.prog 146 #[.int .i64 2] w fun e w'=>e=.returned (.slice (some ⟨w.heap.size,0,none⟩) (rcountN 2) (rcountN 2))∧w'=w.alloc (.cells (kcells 2) 9):=by
 go_enter Tryz.func146,Tryz.ntmps146
 go_wp2_with fail
 go_ret
 exact ⟨rfl,by rw [kcells_2]⟩
set_option maxHeartbeats 400000 in
set_option maxRecDepth 100000 in
theorem regs_3 (w:World) :
 Calls Tryz.prog 146 #[.int .i64 3] w fun e w'=>e=.returned (.slice (some ⟨w.heap.size,0,none⟩) (rcountN 3) (rcountN 3))∧w'=w.alloc (.cells (kcells 3) 9):=by
 go_enter Tryz.func146,Tryz.ntmps146
 go_wp2_with fail
 go_ret
 exact ⟨rfl,by rw [kcells_3]⟩
set_option maxHeartbeats 400000 in
set_option maxRecDepth 100000 in
theorem regs_8 (w:World) :
 Calls Tryz.prog 146 #[.int .i64 8] w fun e w'=>e=.returned (.slice (some ⟨w.heap.size,0,none⟩) (rcountN 8) (rcountN 8))∧w'=w.alloc (.cells (kcells 8) 9):=by
 go_enter Tryz.func146,Tryz.ntmps146
 go_wp2_with fail
 go_ret
 exact ⟨rfl,by rw [kcells_8]⟩
set_option maxHeartbeats 400000 in
set_option maxRecDepth 100000 in
theorem regs_9 (w:World) :
 Calls Tryz.prog 146 #[.int .i64 9] w fun e w'=>e=.returned (.slice (some ⟨w.heap.size,0,none⟩) (rcountN 9) (rcountN 9))∧w'=w.alloc (.cells (kcells 9) 9):=by
 go_enter Tryz.func146,Tryz.ntmps146
 go_wp2_with fail
 go_ret
 exact ⟨rfl,by rw [kcells_9]⟩
theorem regs_any (i:Nat) (hi:i<5) (w:World) :
 Calls Tryz.prog 146 #[.int .i64 (kindAt i)] w fun e w'=>e=.returned (.slice (some ⟨w.heap.size,0,none⟩) (rcountN (kindAt i)) (rcountN (kindAt i)))∧w'=w.alloc (.cells (kcells (kindAt i)) 9):=by
 have:i=0∨i=1∨i=2∨i=3∨i=4:=by omega
 rcases this with rfl | rfl | rfl | rfl | rfl
 · exact regs_1 w
 · exact regs_2 w
 · exact regs_3 w
 · exact regs_8 w
 · exact regs_9 w
theorem nm_out:∀ (i:Fin 5) (j:Fin 9),rcountN (kindAt i.val)≤j.val→(nm (kindAt i.val) j.val).toList.isEmpty=true:=by decide +kernel
theorem wl_more (p:ByteArray→Bool) (i:Nat) (hi:i<5):∀ n,rcountN (kindAt i)≤n→n≤9→wl p (kindAt i) n=wl p (kindAt i) (rcountN (kindAt i))
 | 0,h,_=>by rw [Nat.le_zero.1 h]
 | n+1,h,h9=>by
   by_cases he:rcountN (kindAt i)=n+1
   · rw [he]
   · rw [wl_miss p _ _ (.inl (nm_out ⟨i,hi⟩ ⟨n,by omega⟩ (by simp only; omega))),wl_more p i hi n (by omega) (by omega)]
theorem wlist_kind (p:ByteArray→Bool) (i:Nat) (hi:i<5):wlist p (i+1)=wlist p i++wl p (kindAt i) (rcountN (kindAt i)):=by
 rw [wlist_succ,wl_more p i hi 9 (rcountN_le (kindAt i)) (Nat.le_refl _)]
theorem alloc_sz (w:World) (o:Obj):(w.alloc o).heap.size=w.heap.size+1:=by show (w.heap.push o).size=_; simp
theorem alloc_at (w:World) (o:Obj):(w.alloc o).heap[w.heap.size]? = some o:=by show (w.heap.push o)[w.heap.size]? = _; simp
theorem cell_of_block {w:World} {g:Nat} {C:Array Value} {e:TypeId} {fr:Nat × Nat} (h:w.heap[g]? = some (.cells C e fr)) (j:Nat):w.cell? ⟨g,j,none⟩=C[j]? := by
 simp [World.cell?,h]
set_option maxHeartbeats 1000000 in
set_option maxRecDepth 100000 in
theorem rnamed_any (s:ByteArray) (w:World) (hs:s.size≤1000000) :
 Calls Tryz.prog 77 #[.string s] w fun e w'=>∃ v,e=.returned v∧Row w' v (namedO s).length (opc (namedO s))∧Below w.heap.size w w':=by
 obtain ⟨i0,hi,hz0,hz1,hz2⟩:=info_parts Tryz.infoOperand
 obtain ⟨B,hB⟩:∃ B,w.heap.size=B:=⟨_,rfl⟩
 obtain ⟨p,hp⟩:∃ p:ByteArray→Bool,p=fun x=>x.toList == (upper s).toList:=⟨_,rfl⟩
 have HP:=Hh hp; clear hp
 have HB:=Hh hB; clear hB
 go_enter Tryz.func77,Tryz.ntmps77
 go_wp2_with fail
 go_loopw [3,5,6,7] (fun v i _ _ wr=>∃ j:Nat,j≤5∧i=.int .i64 j∧wr.ownsRow (B+1) 172 3 v (wlist p j).length (opCells (wlist p j))∧Below (B+1) (w.alloc (.cells #[.int .i64 1,.int .i64 2,.int .i64 3,.int .i64 8,.int .i64 9] 3)) wr) (fun _ i _ _ _=>5 - (intOf i).toNat)
 case atStart=>exact ⟨0,Nat.zero_le _,rfl,World.ownsRow_nil _ _ _ _,Below.refl _ _⟩
 case round =>
  obtain ⟨j,hj,rfl,hown,hbel⟩:=hrel
  have HOWN:=Hh hown; clear hown
  have HBEL:=Hh hbel; clear hbel
  by_cases hlt:j<5
  · have hi0:(0:Int)≤(j:Int):=by omega
    have hi1:(j:Int)<5:=by omega
    have hck:wr.cell? ⟨w.heap.size,j,none⟩=some (.int .i64 (kindAt j)):=by
     have hB:=HB.out
     rw [HBEL.out.cell (p:=⟨w.heap.size,j,none⟩) (by show w.heap.size<B+1; omega)]
     have:j=0∨j=1∨j=2∨j=3∨j=4:=by omega
     rcases this with rfl | rfl | rfl | rfl | rfl<;>simp [go_sem,kindAt]
    go_wp2_with fail
    refine (regs_any j hlt _).mono ?_
    rintro e w1 ⟨rfl,rfl⟩
    obtain ⟨k,hk⟩:∃ k,kindAt j=k:=⟨_,rfl⟩
    obtain ⟨n,hn⟩:∃ n,rcountN k=n:=⟨_,rfl⟩
    have hwk:=wlist_kind p j hlt
    rw [hk,hn] at hwk
    rw [hk] at hck ⊢
    rw [hn]
    have hn9:n≤9:=by rw [←hn]; exact rcountN_le k
    have Hwk:=Hh hwk; clear hwk
    have Hn:=Hh hn; clear hn
    have Hk:=Hh hk; clear hk
    have Hck:=Hh hck; clear hck
    obtain ⟨wo,rfl⟩:∃ wo:World,wo=wr:=⟨_,rfl⟩
    have hB:=HB.out
    have hsz1:B+1≤wo.heap.size:=by have:=HBEL.out.size; rw [alloc_sz] at this; omega
    have hbel1:Below (B+1) (w.alloc (.cells #[.int .i64 1,.int .i64 2,.int .i64 3,.int .i64 8,.int .i64 9] 3)) (wo.alloc (.cells (kcells k) 9)):=HBEL.out.alloc hsz1 _
    have hown1:=HOWN.out.alloc (.cells (kcells k) 9)
    have hblk1:(wo.alloc (.cells (kcells k) 9)).heap[wo.heap.size]? = some (.cells (kcells k) 9 (0,0)):=alloc_at _ _
    clear hB
    have HBEL1:=Hh hbel1; clear hbel1
    have HOWN1:=Hh hown1; clear hown1
    have HBLK1:=Hh hblk1; clear hblk1
    go_wp2_with fail
    go_loopw [3,7] (fun v i wr=>∃ q:Nat,q≤n∧i=.int .i64 q∧wr.ownsRow (B+1) 172 3 v (wlist p j++wl p k q).length (opCells (wlist p j++wl p k q))∧wr.heap[wo.heap.size]? = some (.cells (kcells k) 9 (0,0))∧Below (B+1) (w.alloc (.cells #[.int .i64 1,.int .i64 2,.int .i64 3,.int .i64 8,.int .i64 9] 3)) wr) (fun _ i _=>n - (intOf i).toNat)
    case atStart=>exact ⟨0,Nat.zero_le _,rfl,by simpa [wl] using HOWN1.out,HBLK1.out,HBEL1.out⟩
    case round =>
     obtain ⟨q,hq,rfl,hown2,hblk2,hbel2⟩:=hrel
     have HOWN2:=Hh hown2; clear hown2
     have HBEL2:=Hh hbel2; clear hbel2
     have hsz2:B+1≤wr.heap.size:=by have h1:=HBEL2.out.size; have h2:=HB.out; rw [alloc_sz] at h1; omega
     by_cases hqlt:q<n
     · have hq0:(0:Int)≤(q:Int):=by omega
       have hq1:(q:Int)<(n:Int):=by omega
       have hcell:wr.cell? ⟨wo.heap.size,q,none⟩=some (.string (nm k q)):=by rw [cell_of_block hblk2,kcells_at k q (by rw [Hn.out]; exact hqlt)]
       have hck2:wr.cell? ⟨w.heap.size,j,none⟩=some (.int .i64 k):=by
        have h2:=HB.out
        rw [HBEL2.out.cell (p:=⟨w.heap.size,j,none⟩) (by show w.heap.size<B+1; omega),←HBEL.out.cell (p:=⟨w.heap.size,j,none⟩) (by show w.heap.size<B+1; omega)]
        exact Hck.out
       have hlt0:wo.heap.size<wr.heap.size:=lt_of_block hblk2
       have hlt1:w.heap.size<wr.heap.size:=by have h2:=HB.out; omega
       have HBLK2:=Hh hblk2; clear hblk2
       by_cases hne:(nm k q).toList.isEmpty=true
       · go_wp2_with fail
         refine wp_region_gw (by kernel_rfl) (by kernel_rfl) ?_
         repeat (go_big_quiet_step (exact gw_quiet (rupper_any s _ hs)))
         refine wpQuiet_nil ?_
         rintro _ ⟨p2,rfl⟩
         go_wp2_with fail
         go_roundw
         case rel=>exact ⟨q+1,by omega,by go_num,by rw [wl_miss p k q (.inl hne)]; exact owns_below' HOWN2.out (below_gw wr p2),by rw [(below_gw wr p2).block _ (lt_of_block HBLK2.out)]; exact HBLK2.out,below_gw' HBEL2.out hsz2 p2⟩
         case measure=>simp [intOf]; omega
       · have hne':(nm k q).toList.isEmpty=false:=by simpa using hne
         clear hne
         rcases hpe:((nm k q).toList == (upper s).toList) with _ | _
         · have Hpe:Hid (p (nm k q)=false):=Hh (by rw [HP.out]; exact hpe)
           go_wp2_with fail
           refine wp_region_gw (by kernel_rfl) (by kernel_rfl) ?_
           repeat (go_big_quiet_step (exact gw_quiet (rupper_any s _ hs)))
           refine wpQuiet_nil ?_
           rintro _ ⟨p2,rfl⟩
           go_wp2_with fail
           go_roundw
           case rel=>exact ⟨q+1,by omega,by go_num,by rw [wl_miss p k q (.inr Hpe.out)]; exact owns_below' HOWN2.out (below_gw wr p2),by rw [(below_gw wr p2).block _ (lt_of_block HBLK2.out)]; exact HBLK2.out,below_gw' HBEL2.out hsz2 p2⟩
           case measure=>simp [intOf]; omega
         · have Hpe:Hid (p (nm k q)=true):=Hh (by rw [HP.out]; exact hpe)
           have hlen:=wlist_len p j
           have hlen2:=wl_len p k q
           go_wp2_with fail
           refine wp_region_gw (by kernel_rfl) (by kernel_rfl) ?_
           repeat (go_big_quiet_step (exact gw_quiet (rupper_any s _ hs)))
           refine wpQuiet_nil ?_
           rintro _ ⟨p2,rfl⟩
           go_wp2_with (at_builtin; refine wpList_append_own _ rfl _ _ 22 rfl (B+1) 172 i0 (.agg #[.int .i64 0,.int .i64 0,.int .i64 0]) 3 24 Tryz.underlying22 hi hz0 hz1 hz2 rfl (by decide) _ _ _ rfl (owns_below' HOWN2.out (bl)) _ 1 1 [.int .i64 k,.int .i64 q,.int .i64 0] rfl rfl ?c1 ?c2 ?c3 ?c4 ?c5 ?_)
           try case c1 =>
            intro q u hq
            rw [addr_add]
            match q,hq with
            | 0,hq=>simp at hq; subst hq; simp [go_sem]
            | 1,hq=>simp at hq; subst hq; simp [go_sem]
            | 2,hq=>simp at hq; subst hq; simp [go_sem]
           case c2=>first | (intro u hu; simp at hu; rcases hu with rfl | rfl | rfl<;>rfl) | rfl
           case c3=>rw [List.length_append]; unfold maxLen; omega
           case c4=>rw [List.length_append]; omega
           case c5=>simp [go_sem]; omega
           intro v' w1 hown' hgrow _
           have hb':Below (B+1) _ w1:=(HBEL2.out.trans (Below.mono (show Below wr.heap.size wr _ from bl) hsz2)).grown hgrow (by simp [go_sem]; omega) (by
            intro q hq
            have:=HOWN2.out.2
            rcases this with ⟨h,_⟩ | ⟨g,cap,cur,h,hg,_⟩
            · rw [h] at hq; cases hq
            · rw [h] at hq; cases hq; exact hg)
           have hbk:w1.heap[wo.heap.size]? = some (.cells (kcells k) 9 (0,0)):=by
            obtain ⟨_,_,_,_,hkk⟩:=hgrow
            rw [hkk wo.heap.size (by simp [go_sem]; omega) (by
             intro he
             rcases HOWN2.out.2 with ⟨h,_⟩ | ⟨g,cap,cur,h,hg,hh,_⟩
             · rw [h] at he; cases he
             · have hgg:wo.heap.size=g:=by rw [h] at he; simpa [Value.ownBlock] using he
               rw [←hgg] at hh
               cases hh.symm.trans HBLK2.out),(show Below wr.heap.size wr _ from bl).block _ hlt0]
            exact HBLK2.out
           have HOWN3:=Hh hown'; clear hown'
           have HB':=Hh hb'; clear hb' hgrow
           have HBK:=Hh hbk; clear hbk
           go_wp2_with fail
           go_roundw
           case rel=>exact ⟨q+1,by omega,by go_num,by rw [wl_hit p k q hne' Hpe.out,←List.append_assoc,opCells_append,List.length_append,List.length_append]; exact HOWN3.out,HBK.out,HB'.out⟩
           case measure=>simp [intOf]; omega
     · obtain rfl:q=n:=by omega
       go_wp2_with fail
       go_roundw
       case rel=>exact ⟨j+1,by omega,by go_num,by rw [Hwk.out]; exact HOWN2.out,HBEL2.out⟩
       case measure=>simp [intOf]; omega
  · obtain rfl:j=5:=by omega
    go_wp2_with fail
    go_ret
    refine ⟨_,rfl,?_,?_⟩
    · have:=Row.of_owns HOWN.out
      unfold namedO
      rw [List.length_map,←opCells_opc]
      unfold namedL
      rw [←HP.out]
      exact this
    · have hB:=HB.out
      exact Below.trans (b:=w.alloc (.cells #[.int .i64 1,.int .i64 2,.int .i64 3,.int .i64 8,.int .i64 9] 3)) (bl) (HBEL.out.mono (by omega))
set_option maxHeartbeats 4000000 in
set_option maxRecDepth 100000 in
theorem rops_any (w:World):Calls Tryz.prog 205 #[] w fun e w'=>e=.returned (.slice (some ⟨w.heap.size,0,none⟩) 68 68)∧w'=w.alloc (.cells (opsL.map fun x=>Value.string ⟨x.toArray⟩).toArray 9):=by
 go_enter Tryz.func205,Tryz.ntmps205
 go_wp2_with fail
 go_ret
 refine ⟨by rfl,?_⟩
 refine congrArg (fun a=>w.alloc (Obj.cells a 9)) ?_
 kernel_rfl
theorem mem_take_succ {L:List (List UInt8)} {x y:List UInt8} {j:Nat} (h:L[j]? = some y) (hn:x∉L.take j) (hne:y≠x):x∉L.take (j+1):=by
 rw [List.take_add_one,h]
 intro hm
 rcases List.mem_append.1 hm with hm | hm
 · exact hn hm
 · have hm:x=y:=by simpa using hm
   exact hne hm.symm
set_option maxRecDepth 100000 in
set_option maxHeartbeats 2000000 in
theorem rknown7_any (x:List UInt8) (w:World):Calls Tryz.prog 129 #[.string ⟨x.toArray⟩] w fun e w'=>e=.returned (.bool (decide (x∈opsL)))∧Below w.heap.size w w':=by
 have hops:=fun W=>rops_any W
 have hlen:opsL.length=68:=by decide
 obtain ⟨L,hL⟩:∃ L,opsL=L:=⟨_,rfl⟩
 rw [hL] at hops hlen ⊢
 clear hL
 have HOPS:=Hh hops; clear hops
 obtain ⟨R,hR⟩:∃ R,decide (x∈L)=R:=⟨_,rfl⟩
 rw [hR]
 have HRR:=Hh hR; clear hR
 go_enter Tryz.func129,Tryz.ntmps129
 go_wp2_with fail
 (with_reducible refine (HOPS.out _).mono ?_)
 rintro e w1 ⟨rfl,hw1⟩
 have hb1:Below w.heap.size w w1:=by rw [hw1]; exact (Below.refl _ _).alloc (Nat.le_refl _) _
 have hr1:w1.heap[w.heap.size]? = some (.cells (L.map fun x=>Value.string ⟨x.toArray⟩).toArray 9 (0,0)):=by rw [hw1]; exact blk_new _ _
 have HR:=Hh hr1; have HB:=Hh hb1
 have hlt1:=blk_lt hr1
 have hcy:∀ j:Nat,∀ y,L[j]? = some y→w1.cell? ⟨w.heap.size,j,none⟩=some (.string ⟨y.toArray⟩):=fun j y hy=>by
  rw [blk_cell HR.out]
  simp [hy]
 have HCY:=Hh hcy
 clear hr1 hb1 hw1 hcy
 go_wp2_with fail
 go_loopw [4] (fun i wr=>∃ j:Nat,j≤68∧i=.int .i64 j∧Hid (x∉L.take j)∧wr=w1) (fun i _=>68 - (intOf i).toNat)
 case atStart=>exact ⟨0,by omega,rfl,Hh (by simp),rfl⟩
 case round =>
  obtain ⟨j,hj,rfl,HN,rfl⟩:=hrel
  by_cases hlt:j<68
  · obtain ⟨y,hy⟩:∃ y,L[j]? = some y:=⟨_,List.getElem?_eq_getElem (by omega)⟩
    have hc:=HCY.out j y hy
    have hi0:(0:Int)≤(j:Int):=by omega
    have hi1:(j:Int)<68:=by omega
    have HY:=Hh hy
    clear hy
    by_cases he:y=x
    · subst he
      have hbb:((⟨y.toArray⟩:ByteArray) == ⟨y.toArray⟩)=true:=by
       show (y.toArray == y.toArray)=true
       simp
      have hin:=Hh (decide_eq_true (List.mem_of_getElem? HY.out))
      go_wp2_with fail
      go_ret
      exact ⟨by rw [←HRR.out,hin.out]; rfl,HB.out⟩
    · have hbb:(y == x)=false:=by simpa using he
      have HN2:=Hh (mem_take_succ HY.out HN.out he)
      go_wp2_with fail
      go_roundw
      case rel=>exact ⟨j+1,by omega,by go_num,HN2,trivial⟩
      case measure=>simp [intOf]; omega
  · obtain rfl:j=68:=by omega
    have hin:decide (x∈L)=false:=by
     have:=HN.out
     rw [←hlen,List.take_length] at this
     exact decide_eq_false this
    have hin:=Hh hin
    go_wp2_with fail
    go_ret
    exact ⟨by rw [←HRR.out,hin.out]; rfl,HB.out⟩
theorem t184_0 {p:Prop} (h:p:=by
 go_enter Tryz.func29,Tryz.ntmps29
 go_wp2_with fail
 (with_reducible refine (HUP.out _).mono ?_)
 rintro e w1 ⟨rfl,hb1⟩
 go_wp2_with fail
 go_ret
 exact ⟨rfl,hb1⟩):p:=h
set_option maxRecDepth 100000 in
set_option maxHeartbeats 2000000 in
theorem rdirective_any (s:ByteArray) (w:World) (hs:s.size≤1000000):Calls Tryz.prog 29 #[.string s] w fun e w'=>e=.returned (.string ⟨(dirP s).toArray⟩)∧Below w.heap.size w w':=by
 have hup:=fun W=>rupper_any s W hs
 have hdp:dirP s=dirU (upper s).data.toList:=rfl
 rw [hdp]
 generalize upper s=U at *
 have hbe:∀ v:List UInt8,(U.toList == v)=decide (U.data.toList=v):=fun v=>by
  rw [ByteArray.toList_eq,Bool.eq_iff_iff,decide_eq_true_eq,beq_iff_eq]
 generalize U.data.toList=u at hbe ⊢
 have b0:=hbe [79,82,71]
 have b1:=hbe [69,81,85]
 have b2:=hbe [68,69,70,66]
 have b3:=hbe [68,66]
 have b4:=hbe [68,69,70,87]
 have b5:=hbe [68,87]
 have b6:=hbe [68,69,70,83]
 have b7:=hbe [68,83]
 have HUP:=Hh hup
 have hR:dirU u=if decide (u=[79,82,71])=true then [79,82,71] else if decide (u=[69,81,85])=true then [69,81,85] else if decide (u=[68,69,70,66])=true then [68,69,70,66] else if decide (u=[68,66])=true then [68,69,70,66] else if decide (u=[68,69,70,87])=true then [68,69,70,87] else if decide (u=[68,87])=true then [68,69,70,87] else if decide (u=[68,69,70,83])=true then [68,69,70,83] else if decide (u=[68,83])=true then [68,69,70,83] else []:=by
  unfold dirU wORG wEQU wDEFB wDEFW wDEFS
  simp only [decide_eq_true_eq]
  (repeat' split)<;>first | rfl | simp_all
 rw [hR]
 clear hR hbe
 generalize decide (u=[79,82,71])=k0 at *
 generalize decide (u=[69,81,85])=k1 at *
 generalize decide (u=[68,69,70,66])=k2 at *
 generalize decide (u=[68,66])=k3 at *
 generalize decide (u=[68,69,70,87])=k4 at *
 generalize decide (u=[68,87])=k5 at *
 generalize decide (u=[68,69,70,83])=k6 at *
 generalize decide (u=[68,83])=k7 at *
 clear hdp
 clear hup
 cases k0 with
 | true =>
   exact t184_0
 | false =>
   cases k1 with
   | true =>
     exact t184_0
   | false =>
     cases k2 with
     | true =>
       exact t184_0
     | false =>
       cases k3 with
       | true =>
         exact t184_0
       | false =>
         cases k4 with
         | true =>
           exact t184_0
         | false =>
           cases k5 with
           | true =>
             exact t184_0
           | false =>
             cases k6 with
             | true =>
               exact t184_0
             | false =>
               cases k7 with
               | true =>
                 exact t184_0
               | false =>
                 exact t184_0
set_option maxHeartbeats 1000000 in
theorem rknown19_any (s:ByteArray) (w:World) (hs:s.size≤1000000):Calls Tryz.prog 61 #[.string s] w fun e w'=>e=.returned (.bool (operP s))∧Below w.heap.size w w':=by
 have hup:=rupper_any s w hs
 have hdr:=fun W=>rdirective_any s W hs
 have hkn:=fun W=>rknown7_any (upL s) W
 have hue:(⟨(upL s).toArray⟩:ByteArray)=upper s:=rfl
 rw [hue] at hkn
 have hop:operP s=(decide (dirP s≠[]) || decide (upL s∈opsL)):=rfl
 rw [hop]
 generalize decide (upL s∈opsL)=K at *
 have hbn:(⟨(dirP s).toArray⟩:ByteArray).toList.isEmpty=!decide (dirP s≠[]):=by
  rw [ByteArray.toList_eq]
  show (dirP s).isEmpty=_
  cases dirP s<;>simp
 generalize decide (dirP s≠[])=D at *
 generalize (⟨(dirP s).toArray⟩:ByteArray)=dn at *
 generalize upper s=U at *
 have HUP:=Hh hup; have HDR:=Hh hdr; have HKN:=Hh hkn
 clear hup hdr hkn hue hop
 go_enter Tryz.func61,Tryz.ntmps61
 go_wp2_with fail
 (with_reducible refine HUP.out.mono ?_)
 rintro e w1 ⟨rfl,hb1⟩
 have HB1:=Hh hb1; clear hb1
 go_wp2_with fail
 (with_reducible refine (HKN.out _).mono ?_)
 rintro e w2 ⟨rfl,hb2⟩
 have HB2:=Hh (HB1.out.trans (hb2.mono HB1.out.size)); clear hb2
 cases K with
 | true =>
   go_wp2_with fail
   go_ret
   exact ⟨by simp,HB2.out⟩
 | false =>
   go_wp2_with fail
   (with_reducible refine (HDR.out _).mono ?_)
   rintro e w3 ⟨rfl,hb3⟩
   have HB3:=Hh (HB2.out.trans (hb3.mono HB2.out.size)); clear hb3
   go_wp2_with fail
   go_ret
   exact ⟨by simp,HB3.out⟩
set_option maxHeartbeats 1000000 in
theorem rreserved19_any (s:ByteArray) (w:World) (hs:s.size≤1000000):Calls Tryz.prog 31 #[.string s] w fun e w'=>e=.returned (.bool (resvW s))∧Below w.heap.size w w':=by
 have hkn:=rknown19_any s w hs
 have hnm:=fun W=>rnamed_any s W hs
 have hup:=fun W=>rupper_any s W hs
 have hln:(namedL s).length=(namedO s).length:=by unfold namedO; rw [List.length_map]
 have hR:resvW s=(operP s || decide (0<(namedO s).length) || ((upper s).toList == [77,79,68])):=by
  unfold resvW resvA upL
  rw [ByteArray.toList_eq,hln]
  congr 1
  rw [Bool.eq_iff_iff,decide_eq_true_eq,beq_iff_eq]
 rw [hR]
 have hl45:=namedO_len s
 generalize operP s=O at *
 generalize namedO s=M at *
 generalize upper s=U at *
 obtain ⟨N,hN⟩:∃ N,decide (0<M.length)=N:=⟨_,rfl⟩
 rw [hN]
 have HNN:=Hh hN; clear hN
 have HKN:=Hh hkn; have HNM:=Hh hnm; have HUP:=Hh hup
 clear hkn hnm hup hR hln
 go_enter Tryz.func31,Tryz.ntmps31
 go_wp2_with fail
 (with_reducible refine HKN.out.mono ?_)
 rintro e w1 ⟨rfl,hb1⟩
 have HB1:=Hh hb1; clear hb1
 cases O with
 | true =>
   go_wp2_with fail
   go_ret
   exact ⟨rfl,HB1.out⟩
 | false =>
   go_wp2_with fail
   (with_reducible refine (HNM.out _).mono ?_)
   rintro e w2 ⟨v2,rfl,hr2,hb2⟩
   obtain ⟨a2,c2,rfl,_,_⟩:=hr2
   have HB2:=Hh (HB1.out.trans (hb2.mono HB1.out.size)); clear hb2
   by_cases hM:0<M.length
   · have hMi:(0:Int)<(M.length:Int):=by omega
     obtain rfl:true=N:=(decide_eq_true hM).symm.trans HNN.out
     go_wp2_with fail
     go_ret
     exact ⟨rfl,HB2.out⟩
   · have hMi:¬ (0:Int)<(M.length:Int):=by omega
     obtain rfl:false=N:=(decide_eq_false hM).symm.trans HNN.out
     go_wp2_with fail
     (with_reducible refine (HUP.out _).mono ?_)
     rintro e w3 ⟨rfl,hb3⟩
     have HB3:=Hh (HB2.out.trans (hb3.mono HB2.out.size)); clear hb3
     go_wp2_with fail
     go_ret
     exact ⟨rfl,HB3.out⟩
theorem t185_0 {p:Prop} (h:p:=by
 cases R with
 | true =>
   obtain rfl:=hres rfl
   go_wp2_with fail
   (with_reducible refine (HRR.out _).mono ?_)
   rintro e w6 ⟨rfl,hb6⟩
   have HB6:=Hh (HB5.out.trans (hb6.mono HB5.out.size)); clear hb6
   go_wp2_with fail
   go_ret
   exact ⟨rfl,HB6.out⟩
 | false =>
   go_wp2_with fail
   (with_reducible refine (HRR.out _).mono ?_)
   rintro e w6 ⟨rfl,hb6⟩
   have HB6:=Hh (HB5.out.trans (hb6.mono HB5.out.size)); clear hb6
   go_wp2_with fail
   go_ret
   exact ⟨rfl,HB6.out⟩):p:=h
set_option maxHeartbeats 4000000 in
set_option maxRecDepth 100000 in
theorem lawLWords_walk (s:ByteArray) (w:World) (_hs:s.size≤maxLen) (hT:TabsA w):Calls Tryz.prog 6 #[.string s] w fun e w'=>e=.returned (.bool true)∧Below w.heap.size w w':=by
 have HAL:=Hh (fun W (hb:Below w.heap.size w W)=>alive19 W (hT.below hb))
 by_cases hbig:100<s.size
 · have hbi:(100:Int)<(s.size:Int):=by omega
   clear hbig _hs
   go_enter Tryz.func6,Tryz.ntmps6
   go_wp2_with fail
   (with_reducible refine (HAL.out _ (Below.refl _ _)).mono ?_)
   rintro e w1 ⟨rfl,hb1⟩
   have HB1:=Hh hb1; clear hb1
   go_wp2_with fail
   go_ret
   exact ⟨rfl,HB1.out⟩
 · have hbi:¬ (100:Int)<(s.size:Int):=by omega
   have hd:=directive_any s w (by unfold maxLen; omega)
   have hrd:=fun W=>rdirective_any s W (by omega)
   have hrv:=fun W (hb:Below w.heap.size w W)=>lineReserved_any s W (hT.below hb) (by omega)
   have hrr:=fun W=>rreserved19_any s W (by omega)
   have hln:=fun W (hb:Below w.heap.size w W)=>line_any (s++⟨#[58]⟩) W (hT.below hb)
   have hres:resvW s=true→(lineP (s++⟨#[58]⟩)).2=21:=fun h=>resv_line h (by omega)
   have hde:(⟨(dirP s).toArray⟩:ByteArray).toList.isEmpty=!decide (dirP s≠[]):=by
    rw [ByteArray.toList_eq]
    show (dirP s).isEmpty=_
    cases dirP s<;>simp
   generalize decide (dirP s≠[])=OK at *
   generalize (⟨(dirP s).toArray⟩:ByteArray)=D at *
   generalize resvW s=R at *
   obtain ⟨⟨X,c⟩,hX⟩:∃ x,lineP (s++⟨#[58]⟩)=x:=⟨_,rfl⟩
   simp only [hX] at hln hres
   unfold LineRes at hln
   dsimp only at hln hres
   have HD:=Hh hd; have HRD:=Hh hrd; have HRV:=Hh hrv; have HRR:=Hh hrr; have HLN:=Hh hln
   have hss:s.size≤100:=by omega
   clear hd hrd hrv hrr hln hX hbig _hs
   go_enter Tryz.func6,Tryz.ntmps6
   go_wp2_with fail
   (with_reducible refine HD.out.mono ?_)
   rintro e w1 ⟨rfl,hb1⟩
   have HB1:=Hh hb1; clear hb1
   go_wp2_with fail
   (with_reducible refine (HRD.out _).mono ?_)
   rintro e w2 ⟨rfl,hb2⟩
   have HB2:=Hh (HB1.out.trans (hb2.mono HB1.out.size)); clear hb2
   go_wp2_with fail
   (with_reducible refine (HRV.out _ HB2.out).mono ?_)
   rintro e w3 ⟨rfl,hb3⟩
   have HB3:=Hh (HB2.out.trans (hb3.mono HB2.out.size)); clear hb3
   go_wp2_with fail
   (with_reducible refine (HLN.out _ HB3.out).mono ?_)
   rintro e w4 ⟨va,vp,rfl,hst,hb4⟩
   obtain ⟨aa,na,ca,rfl⟩:∃ a n c,va=.slice a n c:=by
    obtain ⟨_,_,_,⟨a,c,h,_⟩,_⟩:=hst
    exact ⟨_,_,_,h⟩
   obtain ⟨ap,np,cp,rfl⟩:∃ a n c,vp=.slice a n c:=by
    obtain ⟨_,_,_,_,_,_,⟨a,c,h,_⟩,_⟩:=hst
    exact ⟨_,_,_,h⟩
   have HB4:=Hh (HB3.out.trans (hb4.mono HB3.out.size)); clear hb4 hst
   go_wp2_with fail
   have hal:Below w4.heap.size w4 (w4.alloc (.cells #[.string X.label,.string ⟨X.op.toArray⟩,.slice aa na ca,.slice ap np cp] 59)):=(Below.refl _ _).alloc (Nat.le_refl _) _
   have HB4b:=Hh (HB4.out.trans (hal.mono HB4.out.size)); clear hal
   (with_reducible refine (HAL.out _ HB4b.out).mono ?_)
   rintro e w5 ⟨rfl,hb5⟩
   have HB5:=Hh (HB4b.out.trans (hb5.mono HB4b.out.size)); clear hb5
   cases OK with
   | true =>
     exact t185_0
   | false =>
     exact t185_0
end Go.Proofs.YtkldoojonnkfgaaGreatDoor
