/- Joined texts: ShownA, RUpper. -/
import Derived.Test.YtkldoojonnkfgaaGreatDoorB38
namespace Go.Proofs.YtkldoojonnkfgaaGreatDoor
open Go.RowKit Go.Sort
theorem shown_args (i:Ins2) (h:(findI i).2=0):0<(showP i).size∧∃ (e:Ent) (l:List Tok) (t:Tok),findI i=(some e,0)∧toksP (showP i)=.ok (⟨1,⟨i.1.toArray⟩,0,0⟩::(l++[t]))∧upper ⟨i.1.toArray⟩=⟨i.1.toArray⟩∧(argsP l).2=0 ∧
 ∃ x d,chooseP i.1 (argsP l).1=(x,0)∧x.1=e.mn∧x.2.length=e.args.length∧findI x=(some d,0)∧(d.page=e.page∨x.2.length=0)∧d.extra=e.extra∧x.2.length≤4∧(argsP l).1.length≤4∧∀ a∈(argsP l).1,a.text.size≤10:=by
 obtain ⟨hc,p,op,e,hp,ho,he,hfe,hal,hsh,hfit⟩:=findI_zero h
 obtain ⟨⟨r,hr,_⟩,hgood⟩:=cover_of hp ho he hal
 have hog:=ops_good hgood hsh hfit
 obtain ⟨_,h3,_⟩:=check_parts hc
 have hcl:=canonP_len i
 unfold shapedP at hsh
 simp only [Bool.and_eq_true,decide_eq_true_eq] at hsh
 have hmn:e.mn=i.1:=hsh.1
 obtain ⟨hmo,hup,hw,hml⟩:=mn_of hr
 rw [hmn] at hup hw hml
 have hS:showP i=⟨(Lib.trimSuffix ((⟨i.1.toArray⟩:ByteArray)++⟨#[32]⟩++listS (canonP i).2).data.toList [32]).toArray⟩:=by
  unfold showP
  rw [if_pos h]
 obtain ⟨h0,l,t,h1,h2,hk⟩:=show_toks i.1 (canonP i).2 hw hog hml (by omega) _ hS
 have hkt:(argsP l).1.map kt=e.args.map arKT:=by
  rw [hk]
  have e1:∀ m:List Op3,m.map arKT=(shapeOf m).map fun x=>arKT (x.1,x.2,0):=fun m=>by unfold shapeOf; rw [List.map_map]; rfl
  rw [e1,e1,hsh.2]
 obtain ⟨x,g1,g2,g3,d,g4,g5,g6⟩:=zed_choose hp ho he hal (argsP l).1 hkt
 rw [hmn] at g1
 have hlen:(argsP l).1.length=(canonP i).2.length:=by have:=congrArg List.length hk; simpa using this
 have hel:=shape_len hsh.2
 refine ⟨h0,e,l,t,hfe,h1,hup,h2,x,d,g1,g2,g3,g4,g5,g6,by omega,by omega,fun a ha=>?_⟩
 have hm:kt a∈(canonP i).2.map arKT:=by rw [←hk]; exact List.mem_map_of_mem ha
 obtain ⟨o,_,ho2⟩:=List.mem_map.1 hm
 have:a.text=(arKT o).2:=by rw [ho2]; rfl
 rw [this]
 unfold arKT
 repeat' split
 all_goals first | exact nm_len _ _ | exact Nat.zero_le _
theorem Tryz.infoByte:(Tryz.prog.info? 5).map (fun i=>(i.zero,i.size,i.bytes))=some (some (.int .u8 0),1,1):=by kernel_rfl
def bytc (l:List UInt8):List Value:=l.map fun c=>.int .u8 (c.toNat:Int)
theorem bytc_len (l:List UInt8):(bytc l).length=l.length:=by simp [bytc]
theorem bytc_append (l m:List UInt8):bytc (l++m)=bytc l++bytc m:=by simp [bytc]
set_option maxHeartbeats 1000000 in
set_option maxRecDepth 100000 in
theorem rupper_any (s:ByteArray) (w:World) (hs:s.size≤1000000) :
 Calls Tryz.prog 13 #[.string s] w fun e w'=>e=.returned (.string (upper s))∧Below w.heap.size w w':=by
 obtain ⟨i0,hi,hz0,hz1,hz2⟩:=info_parts Tryz.infoByte
 obtain ⟨B,hB⟩:∃ B,w.heap.size=B:=⟨_,rfl⟩
 obtain ⟨U,hU⟩:∃ U,s.data.toList.map up=U:=⟨_,rfl⟩
 have HU:=Hh hU; clear hU
 have HB:=Hh hB; clear hB
 go_enter Tryz.func13,Tryz.ntmps13
 go_wp2_with fail
 go_loopw [3,4,5] (fun v i _ wr=>∃ k:Nat,k≤s.size∧i=.int .i64 k∧wr.ownsRow B 5 1 v k (bytc (U.take k))∧Below B w wr) (fun _ i _ _=>s.size - (intOf i).toNat)
 case atStart=>exact ⟨0,Nat.zero_le _,rfl,World.ownsRow_nil _ _ _ _,Below.refl _ _⟩
 case round =>
  obtain ⟨k,hk,rfl,hown,hbel⟩:=hrel
  have HOWN:=Hh hown; clear hown
  have HBEL:=Hh hbel; clear hbel
  by_cases hlt:k<s.size
  · have hi0:(0:Int)≤(k:Int):=by omega
    have hi1:(k:Int)<(s.size:Int):=by omega
    have hup:=up_toNat s[k]
    have hc1:(s[k].toNat:Int)≤255:=by have:=s[k].toNat_lt; omega
    have hsucc:bytc (U.take (k+1))=bytc (U.take k)++[.int .u8 ((up s[k]).toNat:Int)]:=by
     rw [List.take_add_one,←HU.out,bytc_append]
     congr 1
     simp [bytc,hlt]
     rfl
    by_cases h1:97≤(s[k].toNat:Int)
    · by_cases h2:(s[k].toNat:Int)≤122
      · rw [if_pos ⟨h1,h2⟩,show (s[k].toNat:Int) - 97+65=(s[k].toNat:Int) - 32 by omega] at hup
        rw [hup] at hsucc
        clear hup
        have Hk:=Hh hsucc; clear hsucc
        go_wp2_with (at_builtin; refine wpList_append_own _ rfl _ _ 79 rfl B 5 i0 (.int .u8 0) 1 1 Tryz.underlying79 hi hz0 hz1 hz2 rfl (by decide) _ _ _ rfl (owns_below' HOWN.out (bl)) _ 1 1 [.int .u8 ((s[k].toNat:Int) - 32)] rfl rfl ?c1 ?c2 ?c3 ?c4 ?c5 ?_)
        try case c1 =>
         intro q u hq
         rw [addr_add]
         match q,hq with
         | 0,hq=>simp at hq; subst hq; simp [go_sem]
        case c2=>first | (intro u hu; simp at hu; subst hu; rfl) | rfl
        case c3=>unfold maxLen; omega
        case c4=>omega
        case c5=>have:=HBEL.out.size; have:=HB.out; simp [go_sem]; omega
        intro v' w1 hown' hgrow _
        have hsz:B≤wr.heap.size:=by have:=HBEL.out.size; have:=HB.out; omega
        have hb':Below B w w1:=(HBEL.out.trans (Below.mono (show Below wr.heap.size wr _ from bl) hsz)).grown hgrow (by simp [go_sem]; omega) (by
         intro q hq
         have:=HOWN.out.2
         rcases this with ⟨h,_⟩ | ⟨g,cap,cur,h,hg,_⟩
         · rw [h] at hq; cases hq
         · rw [h] at hq; cases hq; exact hg)
        have HOWN3:=Hh hown'; clear hown'
        have HB':=Hh hb'; clear hb' hgrow
        go_wp2_with fail
        go_roundw
        case rel=>exact ⟨k+1,by omega,by go_num,by rw [Hk.out]; exact HOWN3.out,HB'.out⟩
        case measure=>simp [intOf]; omega
      · rw [if_neg (fun h=>h2 h.2)] at hup
        rw [hup] at hsucc
        clear hup
        have Hk:=Hh hsucc; clear hsucc
        go_wp2_with (at_builtin; refine wpList_append_own _ rfl _ _ 79 rfl B 5 i0 (.int .u8 0) 1 1 Tryz.underlying79 hi hz0 hz1 hz2 rfl (by decide) _ _ _ rfl (owns_below' HOWN.out (bl)) _ 1 1 [.int .u8 ((s[k].toNat:Int))] rfl rfl ?c1 ?c2 ?c3 ?c4 ?c5 ?_)
        try case c1 =>
         intro q u hq
         rw [addr_add]
         match q,hq with
         | 0,hq=>simp at hq; subst hq; simp [go_sem]
        case c2=>first | (intro u hu; simp at hu; subst hu; rfl) | rfl
        case c3=>unfold maxLen; omega
        case c4=>omega
        case c5=>have:=HBEL.out.size; have:=HB.out; simp [go_sem]; omega
        intro v' w1 hown' hgrow _
        have hsz:B≤wr.heap.size:=by have:=HBEL.out.size; have:=HB.out; omega
        have hb':Below B w w1:=(HBEL.out.trans (Below.mono (show Below wr.heap.size wr _ from bl) hsz)).grown hgrow (by simp [go_sem]; omega) (by
         intro q hq
         have:=HOWN.out.2
         rcases this with ⟨h,_⟩ | ⟨g,cap,cur,h,hg,_⟩
         · rw [h] at hq; cases hq
         · rw [h] at hq; cases hq; exact hg)
        have HOWN3:=Hh hown'; clear hown'
        have HB':=Hh hb'; clear hb' hgrow
        go_wp2_with fail
        go_roundw
        case rel=>exact ⟨k+1,by omega,by go_num,by rw [Hk.out]; exact HOWN3.out,HB'.out⟩
        case measure=>simp [intOf]; omega
    · rw [if_neg (fun h=>h1 h.1)] at hup
      rw [hup] at hsucc
      clear hup
      have Hk:=Hh hsucc; clear hsucc
      go_wp2_with (at_builtin; refine wpList_append_own _ rfl _ _ 79 rfl B 5 i0 (.int .u8 0) 1 1 Tryz.underlying79 hi hz0 hz1 hz2 rfl (by decide) _ _ _ rfl (owns_below' HOWN.out (bl)) _ 1 1 [.int .u8 ((s[k].toNat:Int))] rfl rfl ?c1 ?c2 ?c3 ?c4 ?c5 ?_)
      try case c1 =>
       intro q u hq
       rw [addr_add]
       match q,hq with
       | 0,hq=>simp at hq; subst hq; simp [go_sem]
      case c2=>first | (intro u hu; simp at hu; subst hu; rfl) | rfl
      case c3=>unfold maxLen; omega
      case c4=>omega
      case c5=>have:=HBEL.out.size; have:=HB.out; simp [go_sem]; omega
      intro v' w1 hown' hgrow _
      have hsz:B≤wr.heap.size:=by have:=HBEL.out.size; have:=HB.out; omega
      have hb':Below B w w1:=(HBEL.out.trans (Below.mono (show Below wr.heap.size wr _ from bl) hsz)).grown hgrow (by simp [go_sem]; omega) (by
       intro q hq
       have:=HOWN.out.2
       rcases this with ⟨h,_⟩ | ⟨g,cap,cur,h,hg,_⟩
       · rw [h] at hq; cases hq
       · rw [h] at hq; cases hq; exact hg)
      have HOWN3:=Hh hown'; clear hown'
      have HB':=Hh hb'; clear hb' hgrow
      go_wp2_with fail
      go_roundw
      case rel=>exact ⟨k+1,by omega,by go_num,by rw [Hk.out]; exact HOWN3.out,HB'.out⟩
      case measure=>simp [intOf]; omega
  · obtain rfl:k=s.size:=by omega
    have hlen:U.length=s.size:=by rw [←HU.out]; simp
    have hrow:=Row.of_owns HOWN.out
    rw [List.take_of_length_le (by omega)] at hrow
    obtain ⟨a2,c2,rfl,hc2,hr⟩:=hrow
    have hconv:(convert 79 9 (.slice a2 s.size c2)).run Tryz.prog wr=.ok (.string (upper s)) wr:=by
     have hU:upper s=⟨U.toArray⟩:=by unfold upper; rw [HU.out]
     rw [hU]
     by_cases hnil:U=[]
     · have h0:s.size=0:=by rw [←hlen,hnil]; rfl
       rw [h0,hnil,run_convert_bytes_string (P:=Tryz.prog) wr 79 9 5 a2 0 c2 Tryz.underlying79 Tryz.underlying5 Tryz.underlying9]
       cases a2 with
       | none=>rfl
       | some a=>rfl
     · obtain ⟨g,o,rfl,hg,hcs⟩:=hr (by intro e; have h2:=bytc_len U; rw [e] at h2; exact hnil (List.eq_nil_of_length_eq_zero h2.symm))
       have:=run_convert_bytes_back (P:=Tryz.prog) wr 79 9 5 ⟨g,o,none⟩ c2 U Tryz.underlying79 Tryz.underlying5 Tryz.underlying9 (fun j hj=>by
        rw [addr_add,hcs j (by rw [bytc_len]; exact hj)]
        simp [bytc,hj])
       rw [hlen] at this
       exact this
    clear hr
    go_wp2_with fail
    go_ret
    exact ⟨rfl,by rw [HB.out]; exact HBEL.out⟩
end Go.Proofs.YtkldoojonnkfgaaGreatDoor
