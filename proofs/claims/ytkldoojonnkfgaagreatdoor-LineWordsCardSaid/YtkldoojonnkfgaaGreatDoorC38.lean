/- Joined texts: PlainT, ShapedT, LastT, DispT, NumbT, Fits1T. -/
import Derived.Test.YtkldoojonnkfgaaGreatDoorC31
import Derived.Lib.IndexAny
namespace Go.Proofs.YtkldoojonnkfgaaGreatDoor
open Go.RowKit Go.Sort
def z3 (o:Op3):Op3:=(o.1,o.2.1,0)
set_option maxRecDepth 100000 in
set_option maxHeartbeats 4000000 in
theorem plain_any (m:List UInt8) (v:Value) (l:List Op3) (w:World) (hr:Row w v l.length (opc l)) (hl:l.length≤1000) (hm:m.length≤1000) :
 Calls Tryz.prog 118 #[insV m v] w fun e w'=>∃ v',e=.returned (insV m v')∧WRow w' w.heap.size v' l.length (opc (l.map z3))∧Below w.heap.size w w':=by
 have hms:(⟨m.toArray⟩:ByteArray).size≤maxLen:=by show m.toArray.size≤maxLen; rw [List.size_toArray]; unfold maxLen; omega
 have HR:=Hh hr
 have HM:=Hh hms; clear hms
 obtain ⟨a,c,rfl,_,_⟩:=hr
 go_enter Tryz.func118,Tryz.ntmps118
 go_wp2_with fail
 obtain ⟨W,hW⟩:∃ W,((w.alloc (.cells #[.string ⟨m.toArray⟩,.slice a l.length c] 24)).alloc (.cells #[.string ⟨#[]⟩,.slice none 0 0] 24))=W:=⟨_,rfl⟩
 have hbW:Below w.heap.size w W:=by rw [←hW]; exact ((Below.refl _ _).alloc (Nat.le_refl _) _).alloc (by simp) _
 have hsz:W.heap.size=w.heap.size+1+1:=by rw [←hW]; simp
 have h0:W.heap[w.heap.size]? = some (.cells #[.string ⟨m.toArray⟩,.slice a l.length c] 24 (0,0)):=by rw [←hW]; exact blk_alloc (blk_new _ _)
 have h1:W.heap[w.heap.size+1]? = some (.cells #[.string ⟨#[]⟩,.slice none 0 0] 24 (0,0)):=by rw [←hW]; have:=blk_new (w.alloc (.cells #[.string ⟨m.toArray⟩,.slice a l.length c] 24)) (.cells #[.string ⟨#[]⟩,.slice none 0 0] 24); rwa [World.size_alloc] at this
 rw [hW]
 clear hW
 refine (make_any ⟨m.toArray⟩ _ l _ HM.out (HR.out.below hbW) (by omega)).mono ?_
 rintro e W1 ⟨v1,rfl,hown,hb1⟩
 obtain ⟨a1,c1,rfl⟩:=owns_slice hown
 have hsz1:W.heap.size≤W1.heap.size:=hb1.size
 have hl0:w.heap.size<W1.heap.size:=by omega
 have hl1:w.heap.size+1<W1.heap.size:=by omega
 have h01:=blk_below h0 hb1 (by omega)
 have h11:=blk_below h1 hb1 (by omega)
 obtain ⟨t0,t1,s0,s1⟩:=cells2 h01
 obtain ⟨r0,r1,q0,q1⟩:=cells2 h11
 have hbW1:Below w.heap.size w W1:=hbW.trans (hb1.mono hbW.size)
 have HROW:=Hh ((WRow.of_owns hown).mono (b':=w.heap.size+1+1) (by omega))
 have HB1:=Hh hbW1
 have H11:=Hh h11
 have hgo:l≠[]→∃ g o,a1=some ⟨g,o,none⟩∧w.heap.size+1+1≤g∧g<W1.heap.size:=by
  intro hne
  obtain ⟨_,_,he,_,hh⟩:=(HROW.out).op
  cases he
  obtain ⟨g,o,e,h2,h3,_⟩:=hh hne
  exact ⟨g,o,e,h2,h3⟩
 have HGO:=Hh hgo
 clear hown hb1 h01 h11 hbW1 hbW h0 h1 hsz hsz1 hgo
 go_wp2_with fail
 go_loopw [16] (fun i wr=>∃ j:Nat,j≤l.length∧i=.int .i64 j∧Below w.heap.size w wr∧W1.heap.size<wr.heap.size∧Hid (WRow wr (w.heap.size+1+1) (.slice a1 l.length c1) l.length (opc (lkL z3 l j))∧wr.heap[W1.heap.size]? = some (.cells #[.string ⟨m.toArray⟩,.slice a1 l.length c1] 24 (0,0))∧wr.heap[w.heap.size+1]? = some (.cells #[.string ⟨#[]⟩,.slice none 0 0] 24 (0,0)))) (fun i _=>l.length - (intOf i).toNat)
 case atStart=>exact ⟨0,Nat.zero_le _,rfl,HB1.out.alloc (by omega) _,by simp,Hh ⟨HROW.out.below ((Below.refl _ _).alloc (Nat.le_refl _) _),blk_new _ _,blk_alloc H11.out⟩⟩
 case round =>
  obtain ⟨j,hj,rfl,hbel,hszr,HV⟩:=hrel
  have HB:=Hh hbel; clear hbel
  obtain ⟨z0,z1,y0,y1⟩:=cells2 HV.out.2.1
  obtain ⟨r0,r1,q0,q1⟩:=cells2 HV.out.2.2
  by_cases hlt:j<l.length
  · obtain ⟨g,o,rfl,hg1,hg2⟩:=HGO.out (by rintro rfl; exact absurd hlt (Nat.not_lt_zero _))
    obtain ⟨x,hx⟩:∃ x,l[j]? = some x:=⟨_,List.getElem?_eq_getElem hlt⟩
    have hlk:=lkL_at (f:=z3) hx
    have hset:=lkL_set (f:=z3) hx (y:=(x.1,x.2.1,0)) rfl
    have hrow:=HV.out.1
    have hlen:=lkL_len z3 l j
    rw [←hlen] at hrow
    have hsetN:=WRow.setN (m:=0) hrow hlk
    rw [hset,hlen] at hsetN
    obtain ⟨_,_,he,_,hh⟩:=hrow.op
    cases he
    obtain ⟨g',o',he,_,hg3,hh⟩:=hh (by intro e; rw [e] at hlen; simp at hlen; omega)
    cases he
    obtain ⟨k0,k1,k2,f0,f1,f2⟩:=hh j x hlk
    have hi0:(0:Int)≤(j:Int):=by omega
    have hi1:(j:Int)<(l.length:Int):=by omega
    have HS:=Hh hsetN
    have HX:=Hh hx
    clear hsetN hrow hh hset hlk hx HROW
    go_wp2_with fail
    go_roundw
    case rel =>
     exact ⟨j+1,by omega,by go_num,HB.out.setCell (p:=⟨g,o+j * 3+2,none⟩) (by show w.heap.size≤g; omega) _,by rw [setCell_size]; exact hszr,Hh ⟨HS.out,blk_other HV.out.2.1 (by omega),blk_other HV.out.2.2 (by omega)⟩⟩
    case measure=>simp [intOf]; omega
  · obtain rfl:j=l.length:=by omega
    have hrow:=HV.out.1
    rw [show lkL z3 l l.length=l.map z3 by unfold lkL; simp] at hrow
    have HROW2:=Hh hrow; clear hrow
    have hlw:w.heap.size+1<wr.heap.size:=by omega
    go_wp2_with fail
    refine bodyPost_ret (v:=.agg #[.string ⟨m.toArray⟩,.slice a1 l.length c1]) (by simp [results,Tryz.results118,go_sem,r0,r1]) rfl ⟨_,rfl,?_,(HB.out.setCell (p:=⟨w.heap.size+1,0,none⟩) (by show w.heap.size≤w.heap.size+1; omega) _).setCell (p:=⟨w.heap.size+1,1,none⟩) (by show w.heap.size≤w.heap.size+1; omega) _⟩
    exact ((HROW2.out.kb ((Kb.refl (w.heap.size+1) wr).setCell 0 _) (by omega)).kb ((Kb.refl (w.heap.size+1) _).setCell 1 _) (by omega)).mono (by omega)
theorem z3_shape {a b:List Op3}:decide (a.map z3=b.map z3)=decide (shapeOf a=shapeOf b):=by
 rw [decide_eq_decide]
 have hinj:∀ (x y:List Op3),x.map z3=y.map z3↔x.map (fun o=>(o.1,o.2.1))=y.map (fun o=>(o.1,o.2.1)):=by
  intro x
  induction x with
  | nil=>intro y; cases y<;>simp
  | cons p x ih =>
    intro y
    cases y with
    | nil=>simp
    | cons q y=>simp [z3,ih y,Prod.ext_iff]
 exact hinj a b
set_option maxRecDepth 100000 in
set_option maxHeartbeats 4000000 in
theorem shaped_any (E:Ent) (ve:Value) (m:List UInt8) (v:Value) (l:List Op3) (w:World) (he:Row w ve E.args.length (opc E.args)) (hr:Row w v l.length (opc l)) (hel:E.args.length≤1000) (hem:E.mn.length≤1000) (hl:l.length≤1000) (hm:m.length≤1000) :
 Calls Tryz.prog 53 #[entV E ve,insV m v] w fun e w'=>e=.returned (.bool (shapedP E (m,l)))∧Below w.heap.size w w':=by
 obtain ⟨page,op,mn,args,ex,al⟩:=E
 dsimp only at he hel hem
 have hR:shapedP ⟨page,op,mn,args,ex,al⟩ (m,l)=decide (mn=m∧args.map z3=l.map z3):=by
  unfold shapedP
  dsimp only
  rw [←z3_shape]
  by_cases h:mn=m<;>simp [h]
 rw [hR]
 clear hR
 have hA:=fun X (hb:Below w.heap.size w X)=>plain_any mn ve args X (he.below hb) hel hem
 have hB:=fun X (hb:Below w.heap.size w X)=>plain_any m v l X (hr.below hb) hl hm
 have hS:=fun X v1 v2 (h1:Row X v1 args.length (opc (args.map z3))) (h2:Row X v2 l.length (opc (l.map z3)))=>same7_any mn m v1 v2 (args.map z3) (l.map z3) X (by rw [List.length_map]; exact h1) (by rw [List.length_map]; exact h2) (by rw [List.length_map]; omega) (by rw [List.length_map]; omega)
 obtain ⟨R,hR⟩:∃ R,decide (mn=m∧args.map z3=l.map z3)=R:=⟨_,rfl⟩
 rw [hR] at hS ⊢
 clear hR
 have HA:=Hh hA; clear hA
 have HB:=Hh hB; clear hB
 have HS:=Hh hS; clear hS
 obtain ⟨a,c,rfl,_,_⟩:=hr
 obtain ⟨ae,ce,rfl,_,_⟩:=he
 show Calls Tryz.prog 53 #[.agg #[.int .i64 page,.int .u8 op,.string ⟨mn.toArray⟩,.slice ae args.length ce,.string ⟨ex.toArray⟩,.bool al],.agg #[.string ⟨m.toArray⟩,.slice a l.length c]] w _
 go_enter Tryz.func53,Tryz.ntmps53
 go_wp2_with fail
 obtain ⟨W,hW⟩:∃ W,((w.alloc (.cells #[.int .i64 page,.int .u8 op,.string ⟨mn.toArray⟩,.slice ae args.length ce,.string ⟨ex.toArray⟩,.bool al] 41)).alloc (.cells #[.string ⟨m.toArray⟩,.slice a l.length c] 24))=W:=⟨_,rfl⟩
 have hbW:Below w.heap.size w W:=by rw [←hW]; exact ((Below.refl _ _).alloc (Nat.le_refl _) _).alloc (by simp) _
 have hsz:W.heap.size=w.heap.size+1+1:=by rw [←hW]; simp
 have h0:W.heap[w.heap.size]? = some (.cells #[.int .i64 page,.int .u8 op,.string ⟨mn.toArray⟩,.slice ae args.length ce,.string ⟨ex.toArray⟩,.bool al] 41 (0,0)):=by rw [←hW]; exact blk_alloc (blk_new _ _)
 have h1:W.heap[w.heap.size+1]? = some (.cells #[.string ⟨m.toArray⟩,.slice a l.length c] 24 (0,0)):=by rw [←hW]; have:=blk_new (w.alloc (.cells #[.int .i64 page,.int .u8 op,.string ⟨mn.toArray⟩,.slice ae args.length ce,.string ⟨ex.toArray⟩,.bool al] 41)) (.cells #[.string ⟨m.toArray⟩,.slice a l.length c] 24); rwa [World.size_alloc] at this
 rw [hW]
 clear hW
 obtain ⟨⟨_,_,t2,t3,_,_⟩,_⟩:=cells6 h0
 obtain ⟨r0,r1,_,_⟩:=cells2 h1
 have hl0:w.heap.size<W.heap.size:=by omega
 have hl1:w.heap.size+1<W.heap.size:=by omega
 have HSZ:=Hh hsz; clear hsz h0 h1
 have hK:∀ X,Below W.heap.size W X→X.cell? ⟨w.heap.size,2,none⟩=some (.string ⟨mn.toArray⟩)∧X.cell? ⟨w.heap.size,3,none⟩=some (.slice ae args.length ce)∧X.cell? ⟨w.heap.size+1,0,none⟩=some (.string ⟨m.toArray⟩)∧X.cell? ⟨w.heap.size+1,1,none⟩=some (.slice a l.length c):=fun X hb =>
  ⟨(hb.cell (p:=⟨w.heap.size,2,none⟩) hl0).trans t2,(hb.cell (p:=⟨w.heap.size,3,none⟩) hl0).trans t3,(hb.cell (p:=⟨w.heap.size+1,0,none⟩) hl1).trans r0,(hb.cell (p:=⟨w.heap.size+1,1,none⟩) hl1).trans r1⟩
 have HBW:=Hh hbW; clear hbW
 have hd:Below W.heap.size W W.drew:=bl
 have hd2:Below w.heap.size w W.drew:=HBW.out.trans (hd.mono HBW.out.size)
 go_region_held3 (fun w'=>w'.cell? ⟨w.heap.size,2,none⟩=some (.string ⟨mn.toArray⟩)∧w'.cell? ⟨w.heap.size,3,none⟩=some (.slice ae args.length ce)∧w'.cell? ⟨w.heap.size+1,0,none⟩=some (.string ⟨m.toArray⟩)∧w'.cell? ⟨w.heap.size+1,1,none⟩=some (.slice a l.length c)) (first | exact ⟨t2,t3,r0,r1⟩ | exact K4 | exact K5 | exact K6) (first | ((with_reducible refine (HA.out _ hd2).mono ?_); rintro e w4 ⟨v4,rfl,ho4,hb4⟩; have hbw4:Below W.heap.size W w4:=hd.trans hb4; have K4:=hK w4 hbw4) | ((with_reducible refine (HB.out _ (HBW.out.trans (hbw4.mono HBW.out.size))).mono ?_); rintro e w5 ⟨v5,rfl,ho5,hb5⟩; have hbw5:Below W.heap.size W w5:=hbw4.trans (hb5.mono hbw4.size); have K5:=hK w5 hbw5) | ((with_reducible refine (HS.out _ _ _ (ho4.below hb5).row ho5.row).mono ?_); rintro e w6 ⟨rfl,hb6⟩; have hbw6:Below W.heap.size W w6:=hbw5.trans (hb6.mono hbw5.size); have K6:=hK w6 hbw6))
 have HB6:=Hh (HBW.out.trans (hbw6.mono HBW.out.size))
 clear hd hd2 hbw4 hbw5 hbw6 hb4 hb5 hb6 ho4 ho5 K4 K5 K6 hK
 go_wp2_with fail
 go_ret
 exact ⟨rfl,HB6.out⟩
theorem rfind_some (p:Nat→Bool):∀ (n k:Nat),k<n→p k=true→(∀ j,k<j→j<n→p j=false)→(List.range n).reverse.find? p=some k
 | 0,k,h,_,_=>absurd h (Nat.not_lt_zero _)
 | n+1,k,h,hp,hno=>by
   rw [List.range_succ,List.reverse_append]
   show (n::(List.range n).reverse).find? p=_
   rw [List.find?_cons]
   rcases Nat.lt_or_ge k n with hk | hk
   · rw [hno n hk (by omega)]
     exact rfind_some p n k hk hp fun j h1 h2=>hno j h1 (by omega)
   · obtain rfl:k=n:=by omega
     rw [hp]
theorem rfind_none (p:Nat→Bool) (n:Nat) (hno:∀ j,j<n→p j=false):(List.range n).reverse.find? p=none:=by
 rw [List.find?_eq_none]
 intro x hx
 rw [hno x (by simpa using hx)]
 decide
def lastI (ks:List Int) (l:List Op3):Int:=match lastK ks l with | some k=>(k:Int) | none=>-1
theorem contInt_any (ks:List Int) (v:Value) (x:Int) (w:World) (hr:Row w v ks.length (ks.map fun k=>Value.int .i64 k)) (hne:ks≠[]) (hl:ks.length≤1000) :
 Calls Tryz.prog 260 #[v,.int .i64 x] w fun e w'=>e=.returned (.bool (decide (x∈ks)))∧w'=w:=by
 obtain ⟨a,cap,rfl,_,hc⟩:=hr
 obtain ⟨g,o,rfl,hg,hcc⟩:=hc (by simpa using hne)
 refine (Tryz.slices_Contains_int g o ks.length cap ks x w (Nat.le_refl _) (by omega) (fun j hj=>(hcc j (by rw [List.length_map]; exact hj)).trans ?_)).mono ?_
 · simp [List.getD,List.getElem?_eq_getElem hj]
 · rintro e w' ⟨he,rfl⟩
   refine ⟨?_,rfl⟩
   rw [he,List.take_of_length_le (Nat.le_refl _),List.contains_eq_mem]
set_option maxRecDepth 100000 in
set_option maxHeartbeats 4000000 in
theorem last_any (m:List UInt8) (v vk:Value) (l:List Op3) (ks:List Int) (w:World) (hr:Row w v l.length (opc l)) (hl:l.length≤1000) (hk:Row w vk ks.length (ks.map fun k=>Value.int .i64 k)) (hne:ks≠[]) (hkl:ks.length≤1000) :
 Calls Tryz.prog 195 #[insV m v,vk] w fun e w'=>e=.returned (.int .i64 (lastI ks l))∧Below w.heap.size w w':=by
 have HR:=Hh hr
 have hco:=fun X x (hb:Below w.heap.size w X)=>contInt_any ks vk x X (hk.below hb) hne hkl
 have HC:=Hh hco; clear hco hk
 obtain ⟨a,c,rfl,_,_⟩:=hr
 have ws:IntKind.i64.wrap ((l.length:Int) - 1)=(l.length:Int) - 1:=IntWalk.i64_in _ (by omega)
 obtain ⟨R,hR⟩:∃ R,lastI ks l=R:=⟨_,rfl⟩
 rw [hR]
 have HRR:=Hh hR; clear hR
 go_enter Tryz.func195,Tryz.ntmps195
 go_wp2_with fail
 go_loopw [5] (fun i wr=>∃ j:Nat,j≤l.length∧i=.int .i64 ((j:Int) - 1)∧Below w.heap.size w wr∧wr.cell? ⟨w.heap.size,1,none⟩=some (.slice a l.length c)∧w.heap.size<wr.heap.size∧Hid (∀ k,j≤k→k<l.length→decide ((l.getD k (0,0,0)).1∈ks)=false)) (fun i _=>(intOf i+1).toNat)
 case atStart=>exact ⟨l.length,Nat.le_refl _,rfl,bl,by simp [go_sem],by simp,Hh fun k h1 h2=>by omega⟩
 case round =>
  obtain ⟨j,hj,rfl,hbel,hbx,hlw,HN⟩:=hrel
  have HB:=Hh hbel; clear hbel
  by_cases hlt:0<j
  · obtain ⟨q,rfl⟩:∃ q,j=q+1:=⟨j - 1,by omega⟩
    have eq1:((q+1:Nat):Int) - 1=(q:Int):=by omega
    rw [eq1]
    obtain ⟨x,hx⟩:∃ x,l[q]? = some x:=⟨_,List.getElem?_eq_getElem (by omega)⟩
    have hrw:=(HR.out.below HB.out).op
    obtain ⟨a',c',hv,_,hc⟩:=hrw
    cases hv
    obtain ⟨g,off,rfl,hg,hc⟩:=hc (by rintro rfl; exact absurd hj (by simp))
    obtain ⟨k0,k1,k2⟩:=hc q x hx
    have hi0:(0:Int)≤(q:Int):=by omega
    have hi1:(q:Int)<(l.length:Int):=by omega
    have hd:(l.getD q (0,0,0)).1=x.1:=by simp [List.getD,hx]
    have hcall:=HC.out wr x.1 HB.out
    have ws2:IntKind.i64.wrap ((q:Int) - 1)=(q:Int) - 1:=IntWalk.i64_in _ (by omega)
    clear hc
    cases hm:decide (x.1∈ks) with
    | true =>
      have hres:lastI ks l=(q:Int):=by
       unfold lastI lastK
       rw [rfind_some _ l.length q (by omega) (by rw [hd]; exact hm) (fun k h1 h2=>HN.out k (by omega) h2)]
      obtain rfl:R=(q:Int):=HRR.out.symm.trans hres
      rw [hm] at hcall
      have HCA:=Hh hcall; clear hcall hm hres hd
      go_wp2_with fail
      refine HCA.out.mono ?_
      rintro e w2 ⟨rfl,rfl⟩
      go_wp2_with fail
      go_ret
      exact ⟨rfl,HB.out⟩
    | false =>
      have hno:∀ k,q≤k→k<l.length→decide ((l.getD k (0,0,0)).1∈ks)=false:=fun k h1 h2=>by
       rcases Nat.eq_or_lt_of_le h1 with rfl | h3
       · rw [hd]; exact hm
       · exact HN.out k h3 h2
      have HNO:=Hh hno; clear hno
      rw [hm] at hcall
      have HCA:=Hh hcall; clear hcall hm hd
      go_wp2_with fail
      refine HCA.out.mono ?_
      rintro e w2 ⟨rfl,rfl⟩
      go_wp2_with fail
      go_roundw
      case rel=>exact ⟨q,by omega,rfl,HB.out,hbx,hlw,HNO⟩
      case measure=>simp [intOf]
  · obtain rfl:j=0:=by omega
    have hres:lastI ks l=-1:=by
     unfold lastI lastK
     rw [rfind_none _ l.length (fun k h2=>HN.out k (by omega) h2)]
    obtain rfl:R=-1:=HRR.out.symm.trans hres
    clear hres
    go_wp2_with fail
    go_ret
    exact ⟨rfl,HB.out⟩
theorem in_any (lo hi:Int) (w:World):Calls Tryz.prog 196 #[.int .i64 lo,.int .i64 hi] w fun e w'=>e=.returned (.func (.func 261) #[] #[.pointer (some ⟨w.heap.size,0,none⟩),.pointer (some ⟨w.heap.size+1,0,none⟩)])∧w'=(w.alloc (.cells #[.int .i64 lo] 3)).alloc (.cells #[.int .i64 hi] 3):=by
 go_enter Tryz.func196,Tryz.ntmps196
 go_wp2_with fail
 go_ret
 exact ⟨rfl,rfl⟩
theorem in1_any (n lo hi:Int) (b1 b2:Nat) (w:World) (h1:w.cell? ⟨b1,0,none⟩=some (.int .i64 lo)) (h2:w.cell? ⟨b2,0,none⟩=some (.int .i64 hi)) :
 Calls Tryz.prog 261 #[.int .i64 n,.pointer (some ⟨b1,0,none⟩),.pointer (some ⟨b2,0,none⟩)] w fun e w'=>e=.returned (.bool (decide (lo≤n) && decide (n≤hi)))∧Below w.heap.size w w':=by
 go_enter Tryz.func261,Tryz.ntmps261
 go_wp2_with fail
 refine (numFits1 lo hi n _ _ ?hc).mono ?_
 case hc=>simp [go_sem]
 rintro e w2 ⟨rfl,rfl⟩
 go_wp2_with fail
 go_ret
 exact ⟨rfl,bl⟩
def InF (w:World) (base:Nat) (lo hi:Int) (f:Value):Prop:=∃ b1 b2,f=.func (.func 261) #[] #[.pointer (some ⟨b1,0,none⟩),.pointer (some ⟨b2,0,none⟩)]∧base≤b1∧base≤b2∧b1<w.heap.size∧b2<w.heap.size∧w.cell? ⟨b1,0,none⟩=some (.int .i64 lo)∧w.cell? ⟨b2,0,none⟩=some (.int .i64 hi)
theorem contains1_any (l:List UInt8) (c:UInt8) (w:World):Calls Tryz.prog 197 #[.string ⟨l.toArray⟩,.string ⟨#[c]⟩] w fun e w'=>e=.returned (.bool (decide (c∈l)))∧w'=w:=by
 refine (Tryz.strings_Contains_one ⟨l.toArray⟩ c w).mono ?_
 rintro e w' ⟨he,hw⟩
 refine ⟨?_,hw⟩
 rw [he]
 rw [←Lib.contains_iff_indexByte,List.contains_eq_mem]
set_option maxRecDepth 100000 in
set_option maxHeartbeats 4000000 in
theorem displaced_any (E:Ent) (ve:Value) (w:World) (he:Row w ve E.args.length (opc E.args)) (hel:E.args.length≤1000) :
 Calls Tryz.prog 120 #[entV E ve] w fun e w'=>∃ f,e=.returned (.tuple #[.agg #[.int .i64 (lastI [5] E.args),f],.bool (decide (100∈E.extra) && decide (0≤lastI [5] E.args))])∧InF w' w.heap.size (-128) 127 f∧Below w.heap.size w w':=by
 obtain ⟨page,op,mn,args,ex,al⟩:=E
 dsimp only at he hel ⊢
 have HR:=Hh he
 obtain ⟨ae,ce,rfl,_,_⟩:=he
 show Calls Tryz.prog 120 #[.agg #[.int .i64 page,.int .u8 op,.string ⟨mn.toArray⟩,.slice ae args.length ce,.string ⟨ex.toArray⟩,.bool al]] w _
 obtain ⟨R,hR⟩:∃ R,lastI [5] args=R:=⟨_,rfl⟩
 have hlast:=fun X vk (hb:Below w.heap.size w X) (hk:Row X vk 1 [Value.int .i64 5])=>last_any mn (.slice ae args.length ce) vk args [5] X (HR.out.below hb) hel hk (by decide) (by decide)
 rw [hR] at hlast ⊢
 have HL:=Hh hlast; clear hlast hR
 obtain ⟨D,hD⟩:∃ D,decide ((100:UInt8)∈ex)=D:=⟨_,rfl⟩
 have hcon:=fun X=>contains1_any ex 100 X
 rw [hD] at hcon ⊢
 have HCON:=Hh hcon; clear hcon hD
 go_enter Tryz.func120,Tryz.ntmps120
 go_wp2_with fail
 obtain ⟨W,hW⟩:∃ W,((w.alloc (.cells #[.int .i64 page,.int .u8 op,.string ⟨mn.toArray⟩,.slice ae args.length ce,.string ⟨ex.toArray⟩,.bool al] 41)).alloc (.cells #[.int .i64 0,.nilFunc] 203))=W:=⟨_,rfl⟩
 have hbW:Below w.heap.size w W:=by rw [←hW]; exact ((Below.refl _ _).alloc (Nat.le_refl _) _).alloc (by simp) _
 have hsz:W.heap.size=w.heap.size+1+1:=by rw [←hW]; simp
 have h0:W.heap[w.heap.size]? = some (.cells #[.int .i64 page,.int .u8 op,.string ⟨mn.toArray⟩,.slice ae args.length ce,.string ⟨ex.toArray⟩,.bool al] 41 (0,0)):=by rw [←hW]; exact blk_alloc (blk_new _ _)
 have h1:W.heap[w.heap.size+1]? = some (.cells #[.int .i64 0,.nilFunc] 203 (0,0)):=by rw [←hW]; have:=blk_new (w.alloc (.cells #[.int .i64 page,.int .u8 op,.string ⟨mn.toArray⟩,.slice ae args.length ce,.string ⟨ex.toArray⟩,.bool al] 41)) (.cells #[.int .i64 0,.nilFunc] 203); rwa [World.size_alloc] at this
 rw [hW]
 clear hW
 have hb5:Below W.heap.size W (W.alloc (.cells #[.int .i64 5] 3)):=(Below.refl _ _).alloc (Nat.le_refl _) _
 refine (HL.out _ _ (hbW.trans (hb5.mono hbW.size)) (by have:=row_lit W [Value.int .i64 5] 3; rw [hsz] at this; exact this)).mono ?_
 rintro e w3 ⟨rfl,hb3⟩
 have hb3':Below W.heap.size W w3:=hb5.trans (hb3.mono hb5.size)
 have hlt:w.heap.size+1+1≤w3.heap.size:=by have:=hb3'.size; omega
 have h03:=blk_below h0 hb3' (by omega)
 have h13:=blk_below h1 hb3' (by omega)
 have HB3:=Hh (hbW.trans (hb3'.mono hbW.size))
 clear hb5 hb3 hb3' h0 h1 hbW hsz
 go_wp2_with fail
 refine (in_any (-128) 127 _).mono ?_
 rintro e w4 ⟨rfl,rfl⟩
 go_wp2_with fail
 obtain ⟨V,hV⟩:∃ V,(((w3.alloc (.cells #[.int .i64 (-128)] 3)).alloc (.cells #[.int .i64 127] 3)).alloc (.cells #[.int .i64 R,.func (.func 261) #[] #[.pointer (some ⟨w3.heap.size,0,none⟩),.pointer (some ⟨w3.heap.size+1,0,none⟩)]] 203))=V:=⟨_,rfl⟩
 have hbV:Below w3.heap.size w3 V:=by rw [←hV]; exact (((Below.refl _ _).alloc (Nat.le_refl _) _).alloc (by simp) _).alloc (by simp; omega) _
 have hszV:V.heap.size=w3.heap.size+1+1+1:=by rw [←hV]; simp
 have v4:V.heap[w3.heap.size+1+1]? = some (.cells #[.int .i64 R,.func (.func 261) #[] #[.pointer (some ⟨w3.heap.size,0,none⟩),.pointer (some ⟨w3.heap.size+1,0,none⟩)]] 203 (0,0)):=by
  rw [←hV]; have:=blk_new ((w3.alloc (.cells #[.int .i64 (-128)] 3)).alloc (.cells #[.int .i64 127] 3)) (.cells #[.int .i64 R,.func (.func 261) #[] #[.pointer (some ⟨w3.heap.size,0,none⟩),.pointer (some ⟨w3.heap.size+1,0,none⟩)]] 203); rwa [World.size_alloc,World.size_alloc] at this
 have v1:V.heap[w3.heap.size]? = some (.cells #[.int .i64 (-128)] 3 (0,0)):=by rw [←hV]; exact blk_alloc (blk_alloc (blk_new _ _))
 have v2:V.heap[w3.heap.size+1]? = some (.cells #[.int .i64 127] 3 (0,0)):=by
  rw [←hV]; have:=blk_new (w3.alloc (.cells #[.int .i64 (-128)] 3)) (.cells #[.int .i64 127] 3); rw [World.size_alloc] at this; exact blk_alloc this
 have v0:=blk_below h03 hbV (by omega)
 have v3:=blk_below h13 hbV (by omega)
 rw [hV]
 clear hV h03 h13
 obtain ⟨⟨_,_,_,_,t4,_⟩,_⟩:=cells6 v0
 obtain ⟨r0,r1,q0,q1⟩:=cells2 v3
 obtain ⟨s0,s1,_,_⟩:=cells2 v4
 have hfin:∀ X,X=(V.setCell ⟨w.heap.size+1,0,none⟩ (.int .i64 R)).setCell ⟨w.heap.size+1,1,none⟩ (.func (.func 261) #[] #[.pointer (some ⟨w3.heap.size,0,none⟩),.pointer (some ⟨w3.heap.size+1,0,none⟩)])→InF X w.heap.size (-128) 127 (.func (.func 261) #[] #[.pointer (some ⟨w3.heap.size,0,none⟩),.pointer (some ⟨w3.heap.size+1,0,none⟩)])∧Below w.heap.size w X:=by
  intro X hX
  rw [hX]
  have hbw:=HB3.out.trans (hbV.mono (by omega))
  refine ⟨⟨w3.heap.size,w3.heap.size+1,rfl,by omega,by omega,by rw [setCell_size,setCell_size]; omega,by rw [setCell_size,setCell_size]; omega,?_,?_⟩,(hbw.setCell (p:=⟨w.heap.size+1,0,none⟩) (by show w.heap.size≤w.heap.size+1; omega) _).setCell (p:=⟨w.heap.size+1,1,none⟩) (by show w.heap.size≤w.heap.size+1; omega) _⟩
  · exact blk_cell (blk_other (blk_other v1 (by omega)) (by omega)) 0
  · exact blk_cell (blk_other (blk_other v2 (by omega)) (by omega)) 0
 have HFIN:=Hh hfin
 have hl1:w.heap.size+1<V.heap.size:=by omega
 have hne:w3.heap.size+1+1≠w.heap.size+1:=by omega
 have hkeep:∀ x y,((V.setCell ⟨w.heap.size+1,0,none⟩ x).setCell ⟨w.heap.size+1,1,none⟩ y).cell? ⟨w3.heap.size+1+1,0,none⟩=some (.int .i64 R)∧((V.setCell ⟨w.heap.size+1,0,none⟩ x).setCell ⟨w.heap.size+1,1,none⟩ y).cell? ⟨w3.heap.size+1+1,1,none⟩=some (.func (.func 261) #[] #[.pointer (some ⟨w3.heap.size,0,none⟩),.pointer (some ⟨w3.heap.size+1,0,none⟩)])∧((V.setCell ⟨w.heap.size+1,0,none⟩ x).setCell ⟨w.heap.size+1,1,none⟩ y).cell? ⟨w.heap.size,4,none⟩=some (.string ⟨ex.toArray⟩):=fun x y =>
  ⟨blk_cell (blk_other (blk_other v4 (by omega)) (by omega)) 0,blk_cell (blk_other (blk_other v4 (by omega)) (by omega)) 1,blk_cell (blk_other (blk_other v0 (by omega)) (by omega)) 4⟩
 clear hfin v0 v1 v2 v3 v4 hbV hszV HL HR HB3
 cases D with
 | false =>
   first
   | (go_region_law (first | (go_simp; go_at_call 197; refine (HCON.out _).mono ?_; rintro e w' ⟨rfl,rfl⟩)))
   | fail "no way"
   all_goals
    obtain ⟨hin,hbe⟩:=HFIN.out _ rfl
    have HIN:=Hh hin
    have HBE:=Hh hbe
    clear hin hbe
    go_wp2_with fail
    refine bodyPost_ret (v:=.tuple #[.agg #[.int .i64 R,.func (.func 261) #[] #[.pointer (some ⟨w3.heap.size,0,none⟩),.pointer (some ⟨w3.heap.size+1,0,none⟩)]],.bool false]) (by simp [results,Tryz.results120,go_sem,r0,r1]) rfl ⟨_,rfl,HIN.out,HBE.out.trans ⟨rfl,rfl,rfl,Nat.le_refl _,fun _ _=>rfl⟩⟩
 | true =>
   first
   | (go_region_law (first | (go_simp; go_at_call 197; refine (HCON.out _).mono ?_; rintro e w' ⟨rfl,rfl⟩)))
   | fail "no way"
   all_goals
    obtain ⟨hin,hbe⟩:=HFIN.out _ rfl
    have HIN:=Hh hin
    have HBE:=Hh hbe
    clear hin hbe
    go_wp2_with fail
    refine bodyPost_ret (v:=.tuple #[.agg #[.int .i64 R,.func (.func 261) #[] #[.pointer (some ⟨w3.heap.size,0,none⟩),.pointer (some ⟨w3.heap.size+1,0,none⟩)]],.bool (decide (0≤R))]) (by simp [results,Tryz.results120,go_sem,r0,r1]) rfl ⟨_,rfl,HIN.out,HBE.out.trans ⟨rfl,rfl,rfl,Nat.le_refl _,fun _ _=>rfl⟩⟩
def numSpec (ex:List UInt8) (args:List Op3):Int × Option (Int × Int) :=
 if 101∈ex then (lastI [10] args,some (-128,127)) else if 110∈ex then (lastI [6,7] args,some (0,255)) else if 119∈ex then (lastI [6,7] args,some (0,65535)) else (lastI [6,7] args,none)
def NumRes (x:Int × Option (Int × Int)) (w:World) (e:Ending) (w':World):Prop :=
 ∃ f,e=.returned (.tuple #[.agg #[.int .i64 x.1,f],.bool (x.2.isSome && decide (0≤x.1))])∧(∀ lo hi,x.2=some (lo,hi)→InF w' w.heap.size lo hi f)∧(x.2=none→f=.nilFunc)∧Below w.heap.size w w'
theorem row_two (W:World) (x y:Value) (T:TypeId):Row (W.alloc (.cells #[x,y] T)) (.slice (some ⟨W.heap.size,0,none⟩) 2 2) 2 [x,y]:=row_lit W [x,y] T
theorem row_one (W:World) (x:Value) (T:TypeId):Row (W.alloc (.cells #[x] T)) (.slice (some ⟨W.heap.size,0,none⟩) 1 1) 1 [x]:=row_lit W [x] T
theorem num_fin (w:World) (b:Nat) (R lo hi:Int) (w5:World) (v0 v1:Value) (hb:Below w.heap.size w w5) (h1:w.heap.size+1<b) (h2:b<w5.heap.size) (h4:w5.heap[b]? = some (.cells #[v0,v1] 203 (0,0)))
 (h5:w5.heap[w.heap.size+1]? = some (.cells #[.int .i64 0,.nilFunc] 203 (0,0))) :
 ((((w5.setCell ⟨b,0,none⟩ (.int .i64 R)).setCell ⟨b,1,none⟩ (.func (.func 261) #[] #[.pointer (some ⟨w5.heap.size,0,none⟩),.pointer (some ⟨w5.heap.size+1,0,none⟩)])).alloc (.cells #[.int .i64 lo] 3)).alloc (.cells #[.int .i64 hi] 3)).heap[b]? = some (.cells #[.int .i64 R,(.func (.func 261) #[] #[.pointer (some ⟨w5.heap.size,0,none⟩),.pointer (some ⟨w5.heap.size+1,0,none⟩)])] 203 (0,0)) ∧
 ((((w5.setCell ⟨b,0,none⟩ (.int .i64 R)).setCell ⟨b,1,none⟩ (.func (.func 261) #[] #[.pointer (some ⟨w5.heap.size,0,none⟩),.pointer (some ⟨w5.heap.size+1,0,none⟩)])).alloc (.cells #[.int .i64 lo] 3)).alloc (.cells #[.int .i64 hi] 3)).heap[w.heap.size+1]? = some (.cells #[.int .i64 0,.nilFunc] 203 (0,0)) ∧
 ∀ X,X=(((((w5.setCell ⟨b,0,none⟩ (.int .i64 R)).setCell ⟨b,1,none⟩ (.func (.func 261) #[] #[.pointer (some ⟨w5.heap.size,0,none⟩),.pointer (some ⟨w5.heap.size+1,0,none⟩)])).alloc (.cells #[.int .i64 lo] 3)).alloc (.cells #[.int .i64 hi] 3)).setCell ⟨w.heap.size+1,0,none⟩ (.int .i64 R)).setCell ⟨w.heap.size+1,1,none⟩ (.func (.func 261) #[] #[.pointer (some ⟨w5.heap.size,0,none⟩),.pointer (some ⟨w5.heap.size+1,0,none⟩)])→InF X w.heap.size lo hi (.func (.func 261) #[] #[.pointer (some ⟨w5.heap.size,0,none⟩),.pointer (some ⟨w5.heap.size+1,0,none⟩)])∧Below w.heap.size w X:=by
 obtain ⟨W,hW⟩:∃ W,(w5.setCell ⟨b,0,none⟩ (.int .i64 R)).setCell ⟨b,1,none⟩ (.func (.func 261) #[] #[.pointer (some ⟨w5.heap.size,0,none⟩),.pointer (some ⟨w5.heap.size+1,0,none⟩)])=W:=⟨_,rfl⟩
 have hs:W.heap.size=w5.heap.size:=by rw [←hW,setCell_size,setCell_size]
 have hbw:Below w.heap.size w W:=by rw [←hW]; exact (hb.setCell (p:=⟨b,0,none⟩) (by show w.heap.size≤b; omega) _).setCell (p:=⟨b,1,none⟩) (by show w.heap.size≤b; omega) _
 have k4:W.heap[b]? = some (.cells #[.int .i64 R,(.func (.func 261) #[] #[.pointer (some ⟨w5.heap.size,0,none⟩),.pointer (some ⟨w5.heap.size+1,0,none⟩)])] 203 (0,0)):=by rw [←hW]; exact blk_set (blk_set h4)
 have k5:W.heap[w.heap.size+1]? = some (.cells #[.int .i64 0,.nilFunc] 203 (0,0)):=by rw [←hW]; exact blk_other (blk_other h5 (by omega)) (by omega)
 rw [hW]
 clear hW
 have m1:((W.alloc (.cells #[.int .i64 lo] 3)).alloc (.cells #[.int .i64 hi] 3)).heap[w5.heap.size]? = some (.cells #[.int .i64 lo] 3 (0,0)):=by rw [←hs]; exact blk_alloc (blk_new _ _)
 have m2:((W.alloc (.cells #[.int .i64 lo] 3)).alloc (.cells #[.int .i64 hi] 3)).heap[w5.heap.size+1]? = some (.cells #[.int .i64 hi] 3 (0,0)):=by
  have:=blk_new (W.alloc (.cells #[.int .i64 lo] 3)) (.cells #[.int .i64 hi] 3)
  rwa [World.size_alloc,hs] at this
 have hb2:Below w.heap.size w ((W.alloc (.cells #[.int .i64 lo] 3)).alloc (.cells #[.int .i64 hi] 3)):=(hbw.alloc hbw.size _).alloc (by rw [World.size_alloc]; have:=hbw.size; omega) _
 have hs2:((W.alloc (.cells #[.int .i64 lo] 3)).alloc (.cells #[.int .i64 hi] 3)).heap.size=w5.heap.size+1+1:=by rw [World.size_alloc,World.size_alloc,hs]
 refine ⟨blk_alloc (blk_alloc k4),blk_alloc (blk_alloc k5),fun X hX=>?_⟩
 rw [hX]
 refine ⟨⟨w5.heap.size,w5.heap.size+1,rfl,by omega,by omega,by rw [setCell_size,setCell_size,hs2]; omega,by rw [setCell_size,setCell_size,hs2]; omega,?_,?_⟩,(hb2.setCell (p:=⟨w.heap.size+1,0,none⟩) (by show w.heap.size≤w.heap.size+1; omega) _).setCell (p:=⟨w.heap.size+1,1,none⟩) (by show w.heap.size≤w.heap.size+1; omega) _⟩
 · exact blk_cell (blk_other (blk_other m1 (by omega)) (by omega)) 0
 · exact blk_cell (blk_other (blk_other m2 (by omega)) (by omega)) 0
theorem num_fin2 (w:World) (R lo hi:Int) (w3:World) (hb:Below w.heap.size w w3) (h1:w.heap.size+1<w3.heap.size)
 (h5:w3.heap[w.heap.size+1]? = some (.cells #[.int .i64 0,.nilFunc] 203 (0,0))) :
 (((w3.alloc (.cells #[.int .i64 R,(.func (.func 261) #[] #[.pointer (some ⟨w3.heap.size+1,0,none⟩),.pointer (some ⟨w3.heap.size+1+1,0,none⟩)])] 203)).alloc (.cells #[.int .i64 lo] 3)).alloc (.cells #[.int .i64 hi] 3)).heap[w3.heap.size]? = some (.cells #[.int .i64 R,(.func (.func 261) #[] #[.pointer (some ⟨w3.heap.size+1,0,none⟩),.pointer (some ⟨w3.heap.size+1+1,0,none⟩)])] 203 (0,0)) ∧
 (((w3.alloc (.cells #[.int .i64 R,(.func (.func 261) #[] #[.pointer (some ⟨w3.heap.size+1,0,none⟩),.pointer (some ⟨w3.heap.size+1+1,0,none⟩)])] 203)).alloc (.cells #[.int .i64 lo] 3)).alloc (.cells #[.int .i64 hi] 3)).heap[w.heap.size+1]? = some (.cells #[.int .i64 0,.nilFunc] 203 (0,0))∧w.heap.size+1<(((w3.alloc (.cells #[.int .i64 R,(.func (.func 261) #[] #[.pointer (some ⟨w3.heap.size+1,0,none⟩),.pointer (some ⟨w3.heap.size+1+1,0,none⟩)])] 203)).alloc (.cells #[.int .i64 lo] 3)).alloc (.cells #[.int .i64 hi] 3)).heap.size ∧
 ∀ X,X=((((w3.alloc (.cells #[.int .i64 R,(.func (.func 261) #[] #[.pointer (some ⟨w3.heap.size+1,0,none⟩),.pointer (some ⟨w3.heap.size+1+1,0,none⟩)])] 203)).alloc (.cells #[.int .i64 lo] 3)).alloc (.cells #[.int .i64 hi] 3)).setCell ⟨w.heap.size+1,0,none⟩ (.int .i64 R)).setCell ⟨w.heap.size+1,1,none⟩ (.func (.func 261) #[] #[.pointer (some ⟨w3.heap.size+1,0,none⟩),.pointer (some ⟨w3.heap.size+1+1,0,none⟩)])→InF X w.heap.size lo hi (.func (.func 261) #[] #[.pointer (some ⟨w3.heap.size+1,0,none⟩),.pointer (some ⟨w3.heap.size+1+1,0,none⟩)])∧Below w.heap.size w X:=by
 have m1:(((w3.alloc (.cells #[.int .i64 R,(.func (.func 261) #[] #[.pointer (some ⟨w3.heap.size+1,0,none⟩),.pointer (some ⟨w3.heap.size+1+1,0,none⟩)])] 203)).alloc (.cells #[.int .i64 lo] 3)).alloc (.cells #[.int .i64 hi] 3)).heap[w3.heap.size+1]? = some (.cells #[.int .i64 lo] 3 (0,0)):=by
  have:=blk_new (w3.alloc (.cells #[.int .i64 R,(.func (.func 261) #[] #[.pointer (some ⟨w3.heap.size+1,0,none⟩),.pointer (some ⟨w3.heap.size+1+1,0,none⟩)])] 203)) (.cells #[.int .i64 lo] 3)
  rw [World.size_alloc] at this
  exact blk_alloc this
 have m2:(((w3.alloc (.cells #[.int .i64 R,(.func (.func 261) #[] #[.pointer (some ⟨w3.heap.size+1,0,none⟩),.pointer (some ⟨w3.heap.size+1+1,0,none⟩)])] 203)).alloc (.cells #[.int .i64 lo] 3)).alloc (.cells #[.int .i64 hi] 3)).heap[w3.heap.size+1+1]? = some (.cells #[.int .i64 hi] 3 (0,0)):=by
  have:=blk_new ((w3.alloc (.cells #[.int .i64 R,(.func (.func 261) #[] #[.pointer (some ⟨w3.heap.size+1,0,none⟩),.pointer (some ⟨w3.heap.size+1+1,0,none⟩)])] 203)).alloc (.cells #[.int .i64 lo] 3)) (.cells #[.int .i64 hi] 3)
  rwa [World.size_alloc,World.size_alloc] at this
 have hs:=hb.size
 have hb2:Below w.heap.size w (((w3.alloc (.cells #[.int .i64 R,(.func (.func 261) #[] #[.pointer (some ⟨w3.heap.size+1,0,none⟩),.pointer (some ⟨w3.heap.size+1+1,0,none⟩)])] 203)).alloc (.cells #[.int .i64 lo] 3)).alloc (.cells #[.int .i64 hi] 3)):=((hb.alloc hb.size _).alloc (by rw [World.size_alloc]; omega) _).alloc (by rw [World.size_alloc,World.size_alloc]; omega) _
 have hs2:(((w3.alloc (.cells #[.int .i64 R,(.func (.func 261) #[] #[.pointer (some ⟨w3.heap.size+1,0,none⟩),.pointer (some ⟨w3.heap.size+1+1,0,none⟩)])] 203)).alloc (.cells #[.int .i64 lo] 3)).alloc (.cells #[.int .i64 hi] 3)).heap.size=w3.heap.size+1+1+1:=by rw [World.size_alloc,World.size_alloc,World.size_alloc]
 refine ⟨blk_alloc (blk_alloc (blk_new _ _)),blk_alloc (blk_alloc (blk_alloc h5)),by omega,fun X hX=>?_⟩
 rw [hX]
 refine ⟨⟨w3.heap.size+1,w3.heap.size+1+1,rfl,by omega,by omega,by rw [setCell_size,setCell_size,hs2]; omega,by rw [setCell_size,setCell_size,hs2]; omega,?_,?_⟩,(hb2.setCell (p:=⟨w.heap.size+1,0,none⟩) (by show w.heap.size≤w.heap.size+1; omega) _).setCell (p:=⟨w.heap.size+1,1,none⟩) (by show w.heap.size≤w.heap.size+1; omega) _⟩
 · exact blk_cell (blk_other (blk_other m1 (by omega)) (by omega)) 0
 · exact blk_cell (blk_other (blk_other m2 (by omega)) (by omega)) 0
set_option maxRecDepth 100000 in
set_option maxHeartbeats 8000000 in
theorem numbered_any (E:Ent) (ve:Value) (w:World) (he:Row w ve E.args.length (opc E.args)) (hel:E.args.length≤1000) :
 Calls Tryz.prog 121 #[entV E ve] w (NumRes (numSpec E.extra E.args) w):=by
 obtain ⟨page,op,mn,args,ex,al⟩:=E
 dsimp only at he hel ⊢
 have HR:=Hh he
 obtain ⟨ae,ce,rfl,_,_⟩:=he
 show Calls Tryz.prog 121 #[.agg #[.int .i64 page,.int .u8 op,.string ⟨mn.toArray⟩,.slice ae args.length ce,.string ⟨ex.toArray⟩,.bool al]] w _
 have hlast:=fun X vk (hb:Below w.heap.size w X) (hk:Row X vk 2 [Value.int .i64 6,Value.int .i64 7])=>last_any mn (.slice ae args.length ce) vk args [6,7] X (HR.out.below hb) hel hk (by decide) (by decide)
 have hlast2:=fun X vk (hb:Below w.heap.size w X) (hk:Row X vk 1 [Value.int .i64 10])=>last_any mn (.slice ae args.length ce) vk args [10] X (HR.out.below hb) hel hk (by decide) (by decide)
 obtain ⟨R,hR⟩:∃ R,lastI [6,7] args=R:=⟨_,rfl⟩
 obtain ⟨R2,hR2⟩:∃ R,lastI [10] args=R:=⟨_,rfl⟩
 have hspec:numSpec ex args=if 101∈ex then (R2,some (-128,127)) else if 110∈ex then (R,some (0,255)) else if 119∈ex then (R,some (0,65535)) else (R,none):=by rw [←hR,←hR2]; rfl
 rw [hspec]
 clear hspec
 rw [hR] at hlast
 rw [hR2] at hlast2
 have HL:=Hh hlast; clear hlast hR
 have HL2:=Hh hlast2; clear hlast2 hR2
 have hce:=fun X=>contains1_any ex 101 X
 have hcn:=fun X=>contains1_any ex 110 X
 have hcw:=fun X=>contains1_any ex 119 X
 have hb5:Below w.heap.size w (((w.alloc (.cells #[.int .i64 page,.int .u8 op,.string ⟨mn.toArray⟩,.slice ae args.length ce,.string ⟨ex.toArray⟩,.bool al] 41)).alloc (.cells #[.int .i64 0,.nilFunc] 203)).alloc (.cells #[.int .i64 6,.int .i64 7] 3)):=(((Below.refl _ _).alloc (Nat.le_refl _) _).alloc (by simp) _).alloc (by simp; omega) _
 have hsz5:(((w.alloc (.cells #[.int .i64 page,.int .u8 op,.string ⟨mn.toArray⟩,.slice ae args.length ce,.string ⟨ex.toArray⟩,.bool al] 41)).alloc (.cells #[.int .i64 0,.nilFunc] 203)).alloc (.cells #[.int .i64 6,.int .i64 7] 3)).heap.size=w.heap.size+1+1+1:=by simp
 have hrow5:=row_two ((w.alloc (.cells #[.int .i64 page,.int .u8 op,.string ⟨mn.toArray⟩,.slice ae args.length ce,.string ⟨ex.toArray⟩,.bool al] 41)).alloc (.cells #[.int .i64 0,.nilFunc] 203)) (.int .i64 6) (.int .i64 7) 3
 rw [World.size_alloc,World.size_alloc] at hrow5
 have h0:(((w.alloc (.cells #[.int .i64 page,.int .u8 op,.string ⟨mn.toArray⟩,.slice ae args.length ce,.string ⟨ex.toArray⟩,.bool al] 41)).alloc (.cells #[.int .i64 0,.nilFunc] 203)).alloc (.cells #[.int .i64 6,.int .i64 7] 3)).heap[w.heap.size]? = some (.cells #[.int .i64 page,.int .u8 op,.string ⟨mn.toArray⟩,.slice ae args.length ce,.string ⟨ex.toArray⟩,.bool al] 41 (0,0)):=blk_alloc (blk_alloc (blk_new _ _))
 have h1:(((w.alloc (.cells #[.int .i64 page,.int .u8 op,.string ⟨mn.toArray⟩,.slice ae args.length ce,.string ⟨ex.toArray⟩,.bool al] 41)).alloc (.cells #[.int .i64 0,.nilFunc] 203)).alloc (.cells #[.int .i64 6,.int .i64 7] 3)).heap[w.heap.size+1]? = some (.cells #[.int .i64 0,.nilFunc] 203 (0,0)):=by
  have:=blk_new (w.alloc (.cells #[.int .i64 page,.int .u8 op,.string ⟨mn.toArray⟩,.slice ae args.length ce,.string ⟨ex.toArray⟩,.bool al] 41)) (.cells #[.int .i64 0,.nilFunc] 203)
  rw [World.size_alloc] at this
  exact blk_alloc this
 have HPRE:=Hh (And.intro hb5 (And.intro hsz5 (And.intro hrow5 (And.intro h0 h1))))
 clear hb5 hsz5 hrow5 h0 h1
 have hstart:∀ (K:World→Prop),(∀ w3,w.heap.size+1+1≤w3.heap.size→w3.heap[w.heap.size]? = some (.cells #[.int .i64 page,.int .u8 op,.string ⟨mn.toArray⟩,.slice ae args.length ce,.string ⟨ex.toArray⟩,.bool al] 41 (0,0))→w3.heap[w.heap.size+1]? = some (.cells #[.int .i64 0,.nilFunc] 203 (0,0))→Below w.heap.size w w3→K w3)→True:=fun _ _=>trivial
 clear hstart
 by_cases d1:101∈ex
 · rw [if_pos d1]
   rw [decide_eq_true d1] at hce
   have HCE:=Hh hce; clear hce hcn hcw d1
   go_enter Tryz.func121,Tryz.ntmps121
   go_wp2_with fail
   obtain ⟨p1,p2,p3,p4,p5⟩:=HPRE.out
   refine (HL.out _ _ p1 p3).mono ?_
   rintro e w3 ⟨rfl,hb3⟩
   have hs3:=hb3.size
   have hlt:w.heap.size+1+1<w3.heap.size:=by omega
   have h03:=blk_below p4 hb3 (by omega)
   have h13:=blk_below p5 hb3 (by omega)
   have HB3:=Hh (p1.trans (hb3.mono p1.size))
   obtain ⟨⟨_,_,t2,t3,t4,_⟩,_⟩:=cells6 h03
   have H13:=Hh h13
   clear p1 p2 p3 p4 p5 hb3 hs3 h03 h13
   have hl0:w.heap.size<w3.heap.size:=by omega
   have hl1:w.heap.size+1<w3.heap.size:=by omega
   go_wp2_with fail
   refine (HCE.out _).mono ?_
   rintro e w4 ⟨rfl,rfl⟩
   go_wp2_with fail
   have q1:Below w3.heap.size w3 ((w3.alloc (.cells #[.int .i64 R,.nilFunc] 203)).alloc (.cells #[.int .i64 10] 3)):=((Below.refl _ _).alloc (Nat.le_refl _) _).alloc (by simp) _
   have q2:=row_one (w3.alloc (.cells #[.int .i64 R,.nilFunc] 203)) (.int .i64 10) 3
   rw [World.size_alloc] at q2
   have q3:((w3.alloc (.cells #[.int .i64 R,.nilFunc] 203)).alloc (.cells #[.int .i64 10] 3)).heap[w3.heap.size]? = some (.cells #[.int .i64 R,.nilFunc] 203 (0,0)):=blk_alloc (blk_new _ _)
   refine (HL2.out _ _ (HB3.out.trans (q1.mono HB3.out.size)) q2).mono ?_
   rintro e w5 ⟨rfl,hb5⟩
   have hs5:w3.heap.size+1+1≤w5.heap.size:=by have:=hb5.size; simp at this; omega
   have h35:Below w3.heap.size w3 w5:=q1.trans (hb5.mono q1.size)
   have h45:=blk_below q3 hb5 (by simp; omega)
   have h15:=blk_below H13.out h35 hl1
   have HB5:=Hh (HB3.out.trans (h35.mono HB3.out.size))
   clear q1 q2 q3 hb5 h35
   have H45:=Hh h45
   have H15:=Hh h15
   obtain ⟨a0,a1,a2,a3⟩:=cells2 h45
   clear h45 h15
   have hl4:w3.heap.size<w5.heap.size:=by omega
   go_wp2_with fail
   refine (in_any (-128) 127 _).mono ?_
   rintro e w6 ⟨rfl,rfl⟩
   go_wp2_with fail
   have HF:=num_fin w w3.heap.size R2 (-128) 127 w5 _ _ HB5.out (by omega) hl4 H45.out H15.out
   obtain ⟨V,hV⟩:∃ V,((((w5.setCell ⟨w3.heap.size,0,none⟩ (.int .i64 R2)).setCell ⟨w3.heap.size,1,none⟩ (.func (.func 261) #[] #[.pointer (some ⟨w5.heap.size,0,none⟩),.pointer (some ⟨w5.heap.size+1,0,none⟩)])).alloc (.cells #[.int .i64 (-128)] 3)).alloc (.cells #[.int .i64 127] 3))=V:=⟨_,rfl⟩
   rw [hV] at HF ⊢
   obtain ⟨v4,v2,hfin⟩:=HF
   obtain ⟨z0,z1,y0,y1⟩:=cells2 v4
   obtain ⟨r0,r1,x0,x1⟩:=cells2 v2
   have HFIN:=Hh hfin
   have hne:w3.heap.size≠w.heap.size+1:=by omega
   clear hfin hV v4 v2 a0 a1 a2 a3
   go_region
   all_goals
    obtain ⟨hin,hbe⟩:=HFIN.out _ rfl
    have HIN:=Hh hin
    have HBE:=Hh hbe
    clear hin hbe
    go_wp2_with fail
    refine bodyPost_ret (v:=.tuple #[.agg #[.int .i64 R2,(.func (.func 261) #[] #[.pointer (some ⟨w5.heap.size,0,none⟩),.pointer (some ⟨w5.heap.size+1,0,none⟩)])],.bool (decide (0≤R2))]) (by simp [results,Tryz.results121,go_sem,r0,r1]) rfl ⟨_,rfl,fun lo hi e=>?_,fun e=>(by cases e),HBE.out.trans ⟨rfl,rfl,rfl,Nat.le_refl _,fun _ _=>rfl⟩⟩
    cases e
    exact HIN.out
 · rw [if_neg d1]
   rw [decide_eq_false d1] at hce
   have HCE:=Hh hce; clear hce d1
   by_cases d2:110∈ex
   · rw [if_pos d2]
     rw [decide_eq_true d2] at hcn
     have HCN:=Hh hcn; clear hcn hcw d2
     go_enter Tryz.func121,Tryz.ntmps121
     go_wp2_with fail
     obtain ⟨p1,p2,p3,p4,p5⟩:=HPRE.out
     refine (HL.out _ _ p1 p3).mono ?_
     rintro e w3 ⟨rfl,hb3⟩
     have hs3:=hb3.size
     have hlt:w.heap.size+1+1<w3.heap.size:=by omega
     have h03:=blk_below p4 hb3 (by omega)
     have h13:=blk_below p5 hb3 (by omega)
     have HB3:=Hh (p1.trans (hb3.mono p1.size))
     obtain ⟨⟨_,_,t2,t3,t4,_⟩,_⟩:=cells6 h03
     have H13:=Hh h13
     clear p1 p2 p3 p4 p5 hb3 hs3 h03 h13
     have hl0:w.heap.size<w3.heap.size:=by omega
     have hl1:w.heap.size+1<w3.heap.size:=by omega
     go_wp2_with fail
     refine (HCE.out _).mono ?_
     rintro e w4 ⟨rfl,rfl⟩
     go_wp2_with fail
     refine (HCN.out _).mono ?_
     rintro e w4 ⟨rfl,rfl⟩
     go_wp2_with fail
     refine (in_any 0 255 _).mono ?_
     rintro e w6 ⟨rfl,rfl⟩
     go_wp2_with fail
     have HF:=num_fin2 w R 0 255 w3 HB3.out hl1 H13.out
     obtain ⟨V,hV⟩:∃ V,(((w3.alloc (.cells #[.int .i64 R,(.func (.func 261) #[] #[.pointer (some ⟨w3.heap.size+1,0,none⟩),.pointer (some ⟨w3.heap.size+1+1,0,none⟩)])] 203)).alloc (.cells #[.int .i64 0] 3)).alloc (.cells #[.int .i64 255] 3))=V:=⟨_,rfl⟩
     rw [hV] at HF ⊢
     obtain ⟨v4,v2,hlV,hfin⟩:=HF
     obtain ⟨z0,z1,y0,y1⟩:=cells2 v4
     obtain ⟨r0,r1,x0,x1⟩:=cells2 v2
     have HFIN:=Hh hfin
     have hne:w3.heap.size≠w.heap.size+1:=by omega
     clear hfin hV v4 v2
     go_region
     all_goals
      obtain ⟨hin,hbe⟩:=HFIN.out _ rfl
      have HIN:=Hh hin
      have HBE:=Hh hbe
      clear hin hbe
      go_wp2_with fail
      refine bodyPost_ret (v:=.tuple #[.agg #[.int .i64 R,(.func (.func 261) #[] #[.pointer (some ⟨w3.heap.size+1,0,none⟩),.pointer (some ⟨w3.heap.size+1+1,0,none⟩)])],.bool (decide (0≤R))]) (by simp [results,Tryz.results121,go_sem,r0,r1]) rfl ⟨_,rfl,fun lo hi e=>?_,fun e=>(by cases e),HBE.out.trans ⟨rfl,rfl,rfl,Nat.le_refl _,fun _ _=>rfl⟩⟩
      cases e
      exact HIN.out
   · rw [if_neg d2]
     rw [decide_eq_false d2] at hcn
     have HCN:=Hh hcn; clear hcn d2
     by_cases d3:119∈ex
     · rw [if_pos d3]
       rw [decide_eq_true d3] at hcw
       have HCW:=Hh hcw; clear hcw d3
       go_enter Tryz.func121,Tryz.ntmps121
       go_wp2_with fail
       obtain ⟨p1,p2,p3,p4,p5⟩:=HPRE.out
       refine (HL.out _ _ p1 p3).mono ?_
       rintro e w3 ⟨rfl,hb3⟩
       have hs3:=hb3.size
       have hlt:w.heap.size+1+1<w3.heap.size:=by omega
       have h03:=blk_below p4 hb3 (by omega)
       have h13:=blk_below p5 hb3 (by omega)
       have HB3:=Hh (p1.trans (hb3.mono p1.size))
       obtain ⟨⟨_,_,t2,t3,t4,_⟩,_⟩:=cells6 h03
       have H13:=Hh h13
       clear p1 p2 p3 p4 p5 hb3 hs3 h03 h13
       have hl0:w.heap.size<w3.heap.size:=by omega
       have hl1:w.heap.size+1<w3.heap.size:=by omega
       go_wp2_with fail
       refine (HCE.out _).mono ?_
       rintro e w4 ⟨rfl,rfl⟩
       go_wp2_with fail
       refine (HCN.out _).mono ?_
       rintro e w4 ⟨rfl,rfl⟩
       go_wp2_with fail
       refine (HCW.out _).mono ?_
       rintro e w4 ⟨rfl,rfl⟩
       go_wp2_with fail
       refine (in_any 0 65535 _).mono ?_
       rintro e w6 ⟨rfl,rfl⟩
       go_wp2_with fail
       have HF:=num_fin2 w R 0 65535 w3 HB3.out hl1 H13.out
       obtain ⟨V,hV⟩:∃ V,(((w3.alloc (.cells #[.int .i64 R,(.func (.func 261) #[] #[.pointer (some ⟨w3.heap.size+1,0,none⟩),.pointer (some ⟨w3.heap.size+1+1,0,none⟩)])] 203)).alloc (.cells #[.int .i64 0] 3)).alloc (.cells #[.int .i64 65535] 3))=V:=⟨_,rfl⟩
       rw [hV] at HF ⊢
       obtain ⟨v4,v2,hlV,hfin⟩:=HF
       obtain ⟨z0,z1,y0,y1⟩:=cells2 v4
       obtain ⟨r0,r1,x0,x1⟩:=cells2 v2
       have HFIN:=Hh hfin
       have hne:w3.heap.size≠w.heap.size+1:=by omega
       clear hfin hV v4 v2
       go_region
       all_goals
        obtain ⟨hin,hbe⟩:=HFIN.out _ rfl
        have HIN:=Hh hin
        have HBE:=Hh hbe
        clear hin hbe
        go_wp2_with fail
        refine bodyPost_ret (v:=.tuple #[.agg #[.int .i64 R,(.func (.func 261) #[] #[.pointer (some ⟨w3.heap.size+1,0,none⟩),.pointer (some ⟨w3.heap.size+1+1,0,none⟩)])],.bool (decide (0≤R))]) (by simp [results,Tryz.results121,go_sem,r0,r1]) rfl ⟨_,rfl,fun lo hi e=>?_,fun e=>(by cases e),HBE.out.trans ⟨rfl,rfl,rfl,Nat.le_refl _,fun _ _=>rfl⟩⟩
        cases e
        exact HIN.out
     · rw [if_neg d3]
       rw [decide_eq_false d3] at hcw
       have HCW:=Hh hcw; clear hcw d3
       go_enter Tryz.func121,Tryz.ntmps121
       go_wp2_with fail
       obtain ⟨p1,p2,p3,p4,p5⟩:=HPRE.out
       refine (HL.out _ _ p1 p3).mono ?_
       rintro e w3 ⟨rfl,hb3⟩
       have hs3:=hb3.size
       have hlt:w.heap.size+1+1<w3.heap.size:=by omega
       have h03:=blk_below p4 hb3 (by omega)
       have h13:=blk_below p5 hb3 (by omega)
       have HB3:=Hh (p1.trans (hb3.mono p1.size))
       obtain ⟨⟨_,_,t2,t3,t4,_⟩,_⟩:=cells6 h03
       have H13:=Hh h13
       clear p1 p2 p3 p4 p5 hb3 hs3 h03 h13
       have hl0:w.heap.size<w3.heap.size:=by omega
       have hl1:w.heap.size+1<w3.heap.size:=by omega
       go_wp2_with fail
       refine (HCE.out _).mono ?_
       rintro e w4 ⟨rfl,rfl⟩
       go_wp2_with fail
       refine (HCN.out _).mono ?_
       rintro e w4 ⟨rfl,rfl⟩
       go_wp2_with fail
       obtain ⟨r0,r1,x0,x1⟩:=cells2 H13.out
       refine (HCW.out _).mono ?_
       rintro e w4 ⟨rfl,rfl⟩
       go_wp2_with fail
       have h9:(((w3.setCell ⟨w.heap.size+1,0,none⟩ (.int .i64 R)).setCell ⟨w.heap.size+1,1,none⟩ .nilFunc).alloc (.cells #[.int .i64 R,.nilFunc] 203)).heap[w.heap.size+1]? = some (.cells #[.int .i64 R,.nilFunc] 203 (0,0)):=blk_alloc (blk_set (blk_set H13.out))
       obtain ⟨n0,n1,_,_⟩:=cells2 h9
       refine bodyPost_ret (v:=.tuple #[.agg #[.int .i64 R,.nilFunc],.bool false]) (by simp [results,Tryz.results121,go_sem,n0,n1]) rfl ⟨_,rfl,fun lo hi e=>(by cases e),fun _=>rfl,?_⟩
       exact ((HB3.out.setCell (p:=⟨w.heap.size+1,0,none⟩) (by show w.heap.size≤w.heap.size+1; omega) _).setCell (p:=⟨w.heap.size+1,1,none⟩) (by show w.heap.size≤w.heap.size+1; omega) _).alloc (by rw [setCell_size,setCell_size]; exact HB3.out.size) _
set_option maxRecDepth 100000 in
set_option maxHeartbeats 4000000 in
theorem fitsC_no (v f:Value) (p:Int) (b:Nat) (w:World) (hv:v=.agg #[.int .i64 p,f]) (hf:f=.nilFunc∨∃ fn b1 b2,f=.func (.func fn) #[] #[.pointer (some ⟨b1,0,none⟩),.pointer (some ⟨b2,0,none⟩)]) :
 Calls Tryz.prog 119 #[v,.bool false,.pointer (some ⟨b,0,none⟩)] w fun e w'=>e=.returned (.int .i64 0)∧Below w.heap.size w w':=by
 subst hv
 rcases hf with rfl | ⟨fn,b1,b2,rfl⟩
 · go_enter Tryz.func119,Tryz.ntmps119
   go_wp2_with fail
   go_ret
   exact ⟨rfl,bl⟩
 · go_enter Tryz.func119,Tryz.ntmps119
   go_wp2_with fail
   go_ret
   exact ⟨rfl,bl⟩
set_option maxRecDepth 100000 in
set_option maxHeartbeats 4000000 in
theorem fitsC_in (lo hi:Int) (f:Value) (k b base:Nat) (m:List UInt8) (v:Value) (l:List Op3) (o:Op3) (w:World) (hf:InF w 0 lo hi f) (hb:w.heap[b]? = some (.cells #[.string ⟨m.toArray⟩,v] 24 (0,0))) (hr:WRow w base v l.length (opc l)) (hbb:v.ownBlock≠some b) (hl:l.length≤1000) (ho:l[k]? = some o) (hin:(decide (lo≤o.2.2) && decide (o.2.2≤hi))=true) :
 Calls Tryz.prog 119 #[.agg #[.int .i64 k,f],.bool true,.pointer (some ⟨b,0,none⟩)] w fun e w'=>e=.returned (.int .i64 o.2.2)∧w'.heap[b]? = some (.cells #[.string ⟨m.toArray⟩,v] 24 (0,0))∧WRow w' base v l.length (opc (l.set k (o.1,o.2.1,0)))∧Below (min b base) w w':=by
 obtain ⟨b1,b2,rfl,_,_,hl1,hl2,c1,c2⟩:=hf
 have hlt:k<l.length:=(List.getElem?_eq_some_iff.1 ho).1
 have hset:=hr
 obtain ⟨a,c,rfl,_,hh⟩:=hr.op
 obtain ⟨g,off,rfl,hg0,hg1,hh⟩:=hh (by rintro rfl; exact absurd hlt (Nat.not_lt_zero _))
 have HGB:=Hh (fun e:b=g=>hbb (congrArg some e.symm)); clear hbb
 obtain ⟨k0,k1,k2,f0,f1,f2⟩:=hh k o ho
 have hsetN:=WRow.setN (m:=0) hset ho
 obtain ⟨t0,t1,s0,s1⟩:=cells2 hb
 have hbl:=blk_lt hb
 have hi0:(0:Int)≤(k:Int):=by omega
 have hi1:(k:Int)<(l.length:Int):=by omega
 have HC1:=Hh c1
 have HC2:=Hh c2
 have hin1:=fun W (hB:Below w.heap.size w W)=>in1_any o.2.2 lo hi b1 b2 W ((hB.cell (p:=⟨b1,0,none⟩) hl1).trans HC1.out) ((hB.cell (p:=⟨b2,0,none⟩) hl2).trans HC2.out)
 rw [hin] at hin1
 have HIN:=Hh hin1
 clear hh hin1 hin c1 c2
 go_enter Tryz.func119,Tryz.ntmps119
 go_wp2_with fail
 refine (HIN.out _ (bl)).mono ?_
 rintro e w2 ⟨rfl,hb2⟩
 have hbx:=box_kept hb2
 have hbw:=below_of_alloc hb2
 obtain ⟨n0,n1,_,_⟩:=cells2 hbx
 have hb9:=blk_below hb hbw hbl
 obtain ⟨t0',t1',s0',s1'⟩:=cells2 hb9
 have hrow2:=(WRow.below hset hbw).op
 obtain ⟨_,_,he,_,hh⟩:=hrow2
 cases he
 obtain ⟨_,_,he,_,hg2,hh⟩:=hh (by rintro rfl; exact absurd hlt (Nat.not_lt_zero _))
 cases he
 obtain ⟨k0',k1',k2',f0',f1',f2'⟩:=hh k o ho
 have hset2:=WRow.setN (m:=0) (WRow.below hset hbw) ho
 have HS2:=Hh hset2
 have HB9:=Hh hb9
 have HBW:=Hh hbw
 have hbl2:=blk_lt hb9
 clear hh hset2 hset hsetN hbx hbw hb9 hb2 hb hr t0 t1 s0 s1 k0 k1 k2 f0 f1 f2
 go_wp2_with fail
 go_ret
 exact ⟨rfl,blk_other HB9.out HGB.out,HS2.out,(HBW.out.mono (by omega)).setCell (p:=⟨g,off+k * 3+2,none⟩) (by show min b base≤g; omega) _⟩
set_option maxRecDepth 100000 in
set_option maxHeartbeats 4000000 in
theorem fitsC_out (lo hi:Int) (f:Value) (k b base:Nat) (m:List UInt8) (v:Value) (l:List Op3) (o:Op3) (w:World) (hf:InF w 0 lo hi f) (hb:w.heap[b]? = some (.cells #[.string ⟨m.toArray⟩,v] 24 (0,0))) (hr:WRow w base v l.length (opc l)) (hbb:v.ownBlock≠some b) (hl:l.length≤1000) (ho:l[k]? = some o) (hin:(decide (lo≤o.2.2) && decide (o.2.2≤hi))=false) :
 Calls Tryz.prog 119 #[.agg #[.int .i64 k,f],.bool true,.pointer (some ⟨b,0,none⟩)] w fun e w'=>e=.returned (.int .i64 o.2.2)∧w'.heap[b]? = some (.cells #[.string ⟨#[]⟩,v] 24 (0,0))∧WRow w' base v l.length (opc l)∧Below (min b base) w w':=by
 obtain ⟨b1,b2,rfl,_,_,hl1,hl2,c1,c2⟩:=hf
 have hlt:k<l.length:=(List.getElem?_eq_some_iff.1 ho).1
 have hset:=hr
 obtain ⟨a,c,rfl,_,hh⟩:=hr.op
 obtain ⟨g,off,rfl,hg0,hg1,hh⟩:=hh (by rintro rfl; exact absurd hlt (Nat.not_lt_zero _))
 have HBB:=Hh hbb; clear hbb
 obtain ⟨k0,k1,k2,f0,f1,f2⟩:=hh k o ho
 obtain ⟨t0,t1,s0,s1⟩:=cells2 hb
 have hbl:=blk_lt hb
 have hi0:(0:Int)≤(k:Int):=by omega
 have hi1:(k:Int)<(l.length:Int):=by omega
 have HC1:=Hh c1
 have HC2:=Hh c2
 have hin1:=fun W (hB:Below w.heap.size w W)=>in1_any o.2.2 lo hi b1 b2 W ((hB.cell (p:=⟨b1,0,none⟩) hl1).trans HC1.out) ((hB.cell (p:=⟨b2,0,none⟩) hl2).trans HC2.out)
 rw [hin] at hin1
 have HIN:=Hh hin1
 clear hh hin1 hin c1 c2
 go_enter Tryz.func119,Tryz.ntmps119
 go_wp2_with fail
 refine (HIN.out _ (bl)).mono ?_
 rintro e w2 ⟨rfl,hb2⟩
 have hbx:=box_kept hb2
 have hbw:=below_of_alloc hb2
 obtain ⟨n0,n1,_,_⟩:=cells2 hbx
 have hb9:=blk_below hb hbw hbl
 obtain ⟨t0',t1',s0',s1'⟩:=cells2 hb9
 have hrow2:=(WRow.below hset hbw).op
 obtain ⟨_,_,he,_,hh⟩:=hrow2
 cases he
 obtain ⟨_,_,he,_,hg2,hh⟩:=hh (by rintro rfl; exact absurd hlt (Nat.not_lt_zero _))
 cases he
 obtain ⟨k0',k1',k2',f0',f1',f2'⟩:=hh k o ho
 have hset2:=WRow.below hset hbw
 have HS2:=Hh hset2
 have HB9:=Hh hb9
 have HBW:=Hh hbw
 have hbl2:=blk_lt hb9
 clear hh hset2 hset hbx hbw hb9 hb2 hb hr t0 t1 s0 s1 k0 k1 k2 f0 f1 f2
 go_wp2_with fail
 go_ret
 exact ⟨rfl,blk_set HB9.out,WRow.kb_ne HS2.out ((Kb.refl b w2).setCell 0 _) (fun _=>HBB.out),(HBW.out.mono (by omega)).setCell (p:=⟨b,0,none⟩) (by show min b base≤b; omega) _⟩
end Go.Proofs.YtkldoojonnkfgaaGreatDoor
