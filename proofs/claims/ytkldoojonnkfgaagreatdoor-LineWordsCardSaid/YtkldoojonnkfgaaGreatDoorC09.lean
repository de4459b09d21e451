/- Joined texts: Uniq, Cells, SortC, Reserved. -/
import Derived.Test.YtkldoojonnkfgaaGreatDoorC06
import Derived.Test.YtkldoojonnkfgaaGreatDoorCX1
import Derived.Sort.KeysCollected
import Derived.Sort.OwnSorted
namespace Go.Proofs.YtkldoojonnkfgaaGreatDoor
open Go.RowKit Go.Sort
theorem nil_or_snoc {α:Type} (l:List α):l=[]∨∃ ys y,l=ys++[y]:=by
 rcases List.eq_nil_or_concat l with h | ⟨ys,y,h⟩
 · exact .inl h
 · exact .inr ⟨ys,y,by rw [h,List.concat_eq_append]⟩
theorem get_snoc (zs:List (List UInt8)) (x:List UInt8) (j:Nat) (hj:j<zs.length):(zs++[x]).toArray[j]! = zs.toArray[j]! := by
 simp [List.getElem?_append_left hj]
theorem get_snoc_last (zs:List (List UInt8)) (x:List UInt8):(zs++[x]).toArray[zs.length]! = x:=by simp
theorem compact_snoc (zs:List (List UInt8)) (x:List UInt8):Lib.compact (zs++[x])=Lib.compact zs++(if zs.getLast? = some x then [] else [x]):=by
 unfold Lib.compact
 rw [List.length_append,show [x].length=1 from rfl,Lib.compactUpTo_succ,get_snoc_last]
 have hk:∀ j,j<zs.length→Lib.keeps (zs++[x]).toArray j=Lib.keeps zs.toArray j:=fun j hj=>by
  unfold Lib.keeps
  rw [get_snoc zs x j hj,get_snoc zs x (j - 1) (by omega)]
 have h1:Lib.compactUpTo (zs++[x]).toArray zs.length=Lib.compactUpTo zs.toArray zs.length:=by
  unfold Lib.compactUpTo
  rw [List.filter_congr (fun j hj=>hk j (List.mem_range.1 hj))]
  apply List.map_congr_left
  intro j hj
  exact get_snoc zs x j (List.mem_range.1 (List.mem_filter.1 hj).1)
 rw [h1]
 congr 1
 rcases nil_or_snoc zs with rfl | ⟨ys,y,rfl⟩
 · simp [Lib.keeps]
 · have hl:(ys++[y]).length=ys.length+1:=by simp
   unfold Lib.keeps
   rw [get_snoc_last,hl,show ys.length+1 - 1=ys.length by omega,get_snoc (ys++[y]) x ys.length (by omega),get_snoc_last]
   simp only [List.getLast?_append,List.getLast?_singleton,Option.some_or,Option.some.injEq]
   by_cases h:y=x
   · subst h; simp
   · simp [h,Ne.symm h]
theorem mem_compact (zs:List (List UInt8)) (x:List UInt8):x∈Lib.compact zs↔x∈zs:=by
 rcases nil_or_snoc zs with rfl | ⟨ys,y,rfl⟩
 · simp [Lib.compact,Lib.compactUpTo]
 · have ih:=mem_compact ys x
   rw [compact_snoc,List.mem_append,List.mem_append,ih]
   split
   · rename_i h
     have:=List.mem_of_getLast? h
     constructor
     · rintro (h | h)
       · exact .inl h
       · cases h
     · rintro (h | h)
       · exact .inl h
       · rw [List.mem_singleton] at h; subst h; exact .inl this
   · rfl
termination_by zs.length
decreasing_by simp_all
theorem pair_compact (zs:List (List UInt8)) (h:zs.Pairwise (·≤·)):(Lib.compact zs).Pairwise (·<·):=by
 rcases nil_or_snoc zs with rfl | ⟨ys,y,rfl⟩
 · simp [Lib.compact,Lib.compactUpTo]
 · rw [List.pairwise_append] at h
   obtain ⟨h1,_,h2⟩:=h
   have ih:=pair_compact ys h1
   rw [compact_snoc]
   split
   · simpa using ih
   · rename_i hne
     rw [List.pairwise_append]
     refine ⟨ih,List.pairwise_singleton _ _,fun a ha b hb=>?_⟩
     rw [List.mem_singleton] at hb; subst hb
     have hay:a≤b:=h2 a ((mem_compact ys a).1 ha) b (List.mem_singleton.2 rfl)
     rcases nil_or_snoc ys with rfl | ⟨us,u,rfl⟩
     · simp [Lib.compact,Lib.compactUpTo] at ha
     · have hub:u≤b:=h2 u (by simp) b (List.mem_singleton.2 rfl)
       have hune:u≠b:=by intro e; apply hne; simp [e]
       have hau:a≤u:=by
        have hm:=(mem_compact (us++[u]) a).1 ha
        rw [List.mem_append] at hm
        rcases hm with hm | hm
        · rw [List.pairwise_append] at h1
          exact h1.2.2 a hm u (List.mem_singleton.2 rfl)
        · rw [List.mem_singleton] at hm; subst hm; exact List.le_refl _
       have hub2:u<b:=by
        rcases Decidable.em (u<b) with h | h
        · exact h
        · exact absurd (List.le_antisymm hub (List.not_lt.1 h)) hune
       exact List.lt_of_le_of_lt hau hub2
termination_by zs.length
decreasing_by simp_all
def uniq (l:List (List UInt8)):List (List UInt8):=Lib.compact (l.mergeSort fun x y=>decide (x≤y))
theorem mem_uniq (l:List (List UInt8)) (x:List UInt8):x∈uniq l↔x∈l:=by
 unfold uniq
 rw [mem_compact,List.mem_mergeSort]
theorem pair_uniq (l:List (List UInt8)):(uniq l).Pairwise (·<·):=by
 unfold uniq
 apply pair_compact
 have:=List.pairwise_mergeSort (le:=fun x y:List UInt8=>decide (x≤y)) (fun a b c h1 h2=>by simp only [decide_eq_true_eq] at *; exact List.le_trans h1 h2) (fun a b=>by simp only [Bool.or_eq_true,decide_eq_true_eq]; exact List.le_total a b) l
 exact this.imp (fun h=>by simpa using h)
theorem pair_ext {l m:List (List UInt8)} (h1:l.Pairwise (·<·)) (h2:m.Pairwise (·<·)) (h:∀ x,x∈l↔x∈m):l=m:=by
 have hp:l.Perm m:=(List.perm_ext_iff_of_nodup (h1.imp fun {a b} hab e=>by subst e; exact List.lt_irrefl _ hab) (h2.imp fun {a b} hab e=>by subst e; exact List.lt_irrefl _ hab)).2 h
 refine List.Perm.eq_of_pairwise (le:=fun a b=>a<b) (fun a b _ _ hab hba=>?_) h1 h2 hp
 exact absurd (List.lt_trans hab hba) (List.lt_irrefl _)
theorem uniq_ext {l m:List (List UInt8)} (h:∀ x,x∈l↔x∈m):uniq l=uniq m :=
 pair_ext (pair_uniq l) (pair_uniq m) fun x=>by rw [mem_uniq,mem_uniq,h]
theorem Tryz.infoString:(Tryz.prog.info? 9).map (fun i=>(i.zero,i.size,i.bytes))=some (some (.string ⟨#[]⟩),1,16):=by kernel_rfl
theorem owns_below' {w w':World} {base:Nat} {e:TypeId} {size:Nat} {v:Value} {n:Nat} {xs:List Value} (h:w.ownsRow base e size v n xs) (hb:Below w.heap.size w w'):w'.ownsRow base e size v n xs:=by
 obtain ⟨h1,h2⟩:=h
 refine ⟨h1,?_⟩
 rcases h2 with h2 | ⟨g,cap,cur,hv,hg,hh,r⟩
 · exact Or.inl h2
 · exact Or.inr ⟨g,cap,cur,hv,hg,by rw [hb.block g (lt_of_block hh)]; exact hh,r⟩
def strc (l:List ByteArray):List Value:=l.map Value.string
theorem strc_len (l:List ByteArray):(strc l).length=l.length:=by simp [strc]
theorem compactUpTo_len (d:Array (List UInt8)):∀ n,(Lib.compactUpTo d n).length≤n:=fun n=>by
 unfold Lib.compactUpTo
 rw [List.length_map]
 exact Nat.le_trans (List.length_filter_le _ _) (by simp)
theorem compact_len (l:List (List UInt8)):(Lib.compact l).length≤l.length:=compactUpTo_len _ _
theorem uniq_len (l:List (List UInt8)):(uniq l).length≤l.length:=by
 unfold uniq
 exact Nat.le_trans (compact_len _) (by simp)
theorem sort_any (base:Nat) (v:Value) (L:List (List UInt8)) (w:World) (hown:w.ownsRow base 9 1 v L.length (L.map Proofs.encStr)) (hnil:L=[]→v=.slice none 0 0) (hlen:L.length≤1000000) (hb:base≤w.heap.size) :
 Calls Tryz.prog 33 #[v] w fun e w'=>e=.returned (.tuple #[])∧w'.ownsRow base 9 1 v L.length ((L.mergeSort fun x y=>decide (x≤y)).map Proofs.encStr)∧Below base w w':=by
 rcases hL:L with _ | ⟨x,l⟩
 · rw [hnil hL]
   refine (Tryz.slices_Sort_string_none none 0 w).mono ?_
   rintro e w' ⟨rfl,rfl⟩
   exact ⟨rfl,by rw [List.mergeSort_nil]; exact World.ownsRow_nil _ _ _ _,Below.refl _ _⟩
 · rw [←hL]
   have hpos:0<L.length:=by rw [hL]; simp
   clear hL
   rcases hown.2 with ⟨_,h0⟩ | ⟨g,cap,cur,rfl,hg,hbk,hn,hcap,hcur,htk⟩
   · omega
   have hgw:g<w.heap.size:=lt_of_block hbk
   refine (Tryz.slices_Sort_string g 0 cap L w (holds_of_block hbk (by simpa using htk)) hgw (by omega)).mono ?_
   rintro e w2 ⟨rfl,n,os,hw2⟩
   refine ⟨rfl,?_,?_⟩
   · rw [hw2]
     exact ownsRow_sorted (n:=n) (os:=os) (ss:=L) (ts:=L.mergeSort fun x y=>decide (x≤y)) (by simp) hg hbk hn hcap hcur
   · exact (Below.refl base w).grown (by rw [hw2]; exact grownBy_sorted _) hb (by intro q hq; cases hq; exact hg)
theorem compact_any (base:Nat) (v:Value) (L:List (List UInt8)) (w:World) (hown:w.ownsRow base 9 1 v L.length (L.map Proofs.encStr)) (hnil:L=[]→v=.slice none 0 0) (hlen:L.length≤1000000) (hb:base≤w.heap.size) :
 Calls Tryz.prog 36 #[v] w fun e w'=>∃ v',e=.returned v'∧Row w' v' (Lib.compact L).length ((Lib.compact L).map Proofs.encStr)∧(Lib.compact L=[]→v'=.slice none 0 0)∧Below base w w':=by
 rcases hL:L with _ | ⟨x,l⟩
 · rw [hnil hL]
   refine (Tryz.slices_Compact_string_empty none 0 w).mono ?_
   rintro e w' ⟨rfl,rfl⟩
   exact ⟨_,rfl,Row.nil _,fun _=>rfl,Below.refl _ _⟩
 · rw [←hL]
   have hpos:0<L.length:=by rw [hL]; simp
   have hne:Lib.compact L≠[]:=fun h=>by
    have:x∈Lib.compact L:=(mem_compact L x).2 (by rw [hL]; simp)
    rw [h] at this; cases this
   clear hL
   rcases hown.2 with ⟨_,h0⟩ | ⟨g,cap,cur,rfl,hg,hbk,hn,hcap,hcur,htk⟩
   · omega
   refine (Tryz.slices_Compact_string g 0 cap L w (holds_of_block hbk (by simpa using htk)) (by omega) hn).mono ?_
   rintro e w3 ⟨rfl,q,hw3⟩
   have hcl:=compact_len L
   have hw3':w3=grow (putRow Proofs.encStr (Sort.ahead w q) g 0 (Lib.compact L++List.replicate (L.length - (Lib.compact L).length) []).toArray) #[]:=by rw [hw3,grow_empty]
   have hown3:w3.ownsRow base 9 1 (.slice (some ⟨g,0,none⟩) L.length cap) L.length ((Lib.compact L++List.replicate (L.length - (Lib.compact L).length) []).map Proofs.encStr):=by
    rw [hw3']
    exact ownsRow_sorted (n:=q) (os:=#[]) (ss:=L) (ts:=Lib.compact L++List.replicate (L.length - (Lib.compact L).length) []) (by rw [List.length_append,List.length_replicate]; omega) hg hbk hn hcap hcur
   refine ⟨_,rfl,⟨_,_,rfl,by omega,fun _=>?_⟩,fun h=>absurd h hne,?_⟩
   · obtain ⟨a4,c4,hv4,hc4,hr4⟩:=Row.of_owns hown3
     cases hv4
     obtain ⟨g5,o5,he5,hg5,hcs⟩:=hr4 (by
      rw [List.map_append]
      intro h
      have:=List.append_eq_nil_iff.1 h
      exact hne (List.map_eq_nil_iff.1 this.1))
     cases he5
     refine ⟨g,0,rfl,hg5,fun j hj=>?_⟩
     rw [List.length_map] at hj
     rw [hcs j (by rw [List.length_map,List.length_append]; omega),List.map_append,List.getElem?_append_left (by rw [List.length_map]; exact hj)]
   · exact (Below.refl base w).grown (by rw [hw3']; exact grownBy_sorted _) hb (by intro q hq; cases hq; exact hg)
def resv (y:List UInt8):Bool:=decide (0<(namedL ⟨y.toArray⟩).length)
set_option maxHeartbeats 1000000 in
theorem indexFunc_any (v1:Value) (L:List (List UInt8)) (w:World) (h1:Row w v1 L.length (L.map Proofs.encStr)) (hl:L.length≤1000000) (hs:∀ y∈L,y.length≤maxLen) :
 Calls Tryz.prog 140 #[v1,.func (.func 76) #[] #[]] w fun e w'=>(∃ i:Int,e=.returned (.int .i64 i)∧decide (0≤i)=L.any resv)∧Below w.heap.size w w':=by
 obtain ⟨a1,c1,rfl,hc1,h1⟩:=h1
 have H1:=Hh h1; clear h1
 have HS:=Hh hs; clear hs
 go_enter Tryz.func140,Tryz.ntmps140
 go_wp2_with fail
 go_loopw [5,8] (fun _ i wr=>∃ j:Nat,j≤L.length∧i=.int .i64 j∧Below w.heap.size w wr∧Hid ((L.take j).any resv=false)) (fun _ i _=>L.length - (intOf i).toNat)
 case atStart=>exact ⟨0,Nat.zero_le _,rfl,Below.refl _ _,Hh (by simp)⟩
 case round =>
  obtain ⟨j,hj,rfl,hbel,Hno⟩:=hrel
  have HBEL:=Hh hbel; clear hbel
  by_cases hlt:j<L.length
  · obtain ⟨y,hy⟩:∃ y,L[j]? = some y:=⟨_,List.getElem?_eq_getElem hlt⟩
    obtain ⟨g,o,rfl,hg,hc⟩:=H1.out (by intro e; rw [List.map_eq_nil_iff] at e; rw [e] at hlt; exact absurd hlt (Nat.not_lt_zero _))
    have hcy:wr.cell? ⟨g,o+j,none⟩=some (.string ⟨y.toArray⟩):=by
     rw [HBEL.out.cell (p:=⟨g,o+j,none⟩) hg,hc j (by rw [List.length_map]; exact hlt),List.getElem?_map,hy]; rfl
    clear hc
    have hi0:(0:Int)≤(j:Int):=by omega
    have hi1:(j:Int)<(L.length:Int):=by omega
    have hsz:w.heap.size≤wr.heap.size:=HBEL.out.size
    have hgw:g<wr.heap.size:=by omega
    have hmem:y∈L:=List.mem_of_getElem? hy
    have hcall:=reserved_any ⟨y.toArray⟩ wr (by have:=HS.out y hmem; show y.toArray.size≤maxLen; simpa using this)
    obtain ⟨r,hr⟩:∃ r,resv y=r:=⟨_,rfl⟩
    have hr':decide (0<(namedL ⟨y.toArray⟩).length)=r:=hr
    rw [hr'] at hcall
    have HCALL:=Hh hcall; clear hcall
    have HR:=Hh hr; clear hr hr'
    have HY:=Hh hy; clear hy
    have HM:=Hh hmem; clear hmem
    go_wp2_with fail
    refine HCALL.out.mono ?_
    rintro e w1 ⟨rfl,hb⟩
    have HB:=Hh (HBEL.out.trans (hb.mono hsz)); clear hb
    cases r with
    | true =>
      go_wp2_with fail
      go_ret
      exact ⟨⟨j,rfl,by rw [decide_eq_true hi0]; exact (List.any_eq_true.2 ⟨y,HM.out,HR.out⟩).symm⟩,HB.out⟩
    | false =>
      go_wp2_with fail
      go_roundw
      case rel=>exact ⟨j+1,by omega,by go_num,HB.out,Hh (by rw [List.take_add_one,HY.out]; simp [Hno.out,HR.out])⟩
      case measure=>simp [intOf]; omega
  · obtain rfl:j=L.length:=by omega
    have hno:L.any resv=false:=by have:=Hno.out; rwa [List.take_length] at this
    have HNO:=Hh hno; clear hno
    go_wp2_with fail
    go_ret
    exact ⟨⟨-1,rfl,by rw [HNO.out]; rfl⟩,HBEL.out⟩
theorem containsFunc_any (v1:Value) (L:List (List UInt8)) (w:World) (h1:Row w v1 L.length (L.map Proofs.encStr)) (hl:L.length≤1000000) (hs:∀ y∈L,y.length≤maxLen) :
 Calls Tryz.prog 188 #[v1,.func (.func 76) #[] #[]] w fun e w'=>e=.returned (.bool (L.any resv))∧Below w.heap.size w w':=by
 have hc:=indexFunc_any v1 L w h1 hl hs
 have HC:=Hh hc; clear hc h1 hs
 go_enter Tryz.func188,Tryz.ntmps188
 go_wp2_with fail
 refine HC.out.mono ?_
 rintro e w1 ⟨⟨i,rfl,hi⟩,hb⟩
 have HI:=Hh hi; clear hi
 have HB:=Hh hb; clear hb
 go_wp2_with fail
 go_ret
 exact ⟨by rw [←HI.out]; rfl,HB.out⟩
end Go.Proofs.YtkldoojonnkfgaaGreatDoor
