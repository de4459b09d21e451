/- Joined texts: FitsC, FitsS. -/
import Derived.Test.YtkldoojonnkfgaaGreatDoorB32
namespace Go.Proofs.YtkldoojonnkfgaaGreatDoor
open Go.RowKit Go.Sort
def TakeF (t:Option (Nat × Int × Int)) (w:World) (k:Int) (f:Value) (there:Bool) (n:Nat):Prop :=
 match t with
 | none=>there=false∧(f=.nilFunc∨∃ fn b1 b2,f=.func (.func fn) #[] #[.pointer (some ⟨b1,0,none⟩),.pointer (some ⟨b2,0,none⟩)])
 | some (k',lo,hi)=>there=true∧k=k'∧InF w 0 lo hi f∧k'<n
theorem fitsC_take (t:Option (Nat × Int × Int)) (k:Int) (f:Value) (there:Bool) (b base:Nat) (m:List UInt8) (v:Value) (l:List Op3) (w:World) (ht:TakeF t w k f there l.length) (hb:w.heap[b]? = some (.cells #[.string ⟨m.toArray⟩,v] 24 (0,0))) (hr:WRow w base v l.length (opc l)) (hbb:v.ownBlock≠some b) (hl:l.length≤1000) :
 Calls Tryz.prog 119 #[.agg #[.int .i64 k,f],.bool there,.pointer (some ⟨b,0,none⟩)] w fun e w'=>e=.returned (.int .i64 (takeV t (m,l)).1)∧w'.heap[b]? = some (.cells #[.string ⟨(takeV t (m,l)).2.1.toArray⟩,v] 24 (0,0))∧WRow w' base v l.length (opc (takeV t (m,l)).2.2)∧Below (min b base) w w':=by
 cases t with
 | none =>
   obtain ⟨rfl,hf⟩:=ht
   refine (fitsC_no _ f k b w rfl hf).mono ?_
   rintro e w' ⟨rfl,hbel⟩
   exact ⟨rfl,blk_below hb hbel (blk_lt hb),hr.below hbel,hbel.mono (by have:=blk_lt hb; omega)⟩
 | some x =>
   obtain ⟨k',lo,hi⟩:=x
   obtain ⟨rfl,rfl,hin,hk⟩:=ht
   obtain ⟨o,ho⟩:∃ o,l[k']? = some o:=⟨_,List.getElem?_eq_getElem hk⟩
   have hn:numAt l k'=o.2.2:=by unfold numAt; simp [List.getD,ho]
   have hz:zeroAt l k'=l.set k' (o.1,o.2.1,0):=by unfold zeroAt; rw [ho]
   cases hc:(decide (lo≤o.2.2) && decide (o.2.2≤hi)) with
   | true =>
     have hT:takeV (some (k',lo,hi)) (m,l)=(o.2.2,m,l.set k' (o.1,o.2.1,0)):=by unfold takeV; dsimp only; rw [hn,hc,hz]; rfl
     rw [hT]
     exact fitsC_in lo hi f k' b base m v l o w hin hb hr hbb hl ho hc
   | false =>
     have hT:takeV (some (k',lo,hi)) (m,l)=(o.2.2,[],l):=by unfold takeV; dsimp only; rw [hn,hc]; rfl
     rw [hT]
     exact fitsC_out lo hi f k' b base m v l o w hin hb hr hbb hl ho hc
theorem disp_take (e:Ent) (w:World) (f:Value) (h:InF w 0 (-128) 127 f):TakeF (dT e) w (lastI [5] e.args) f (decide (100∈e.extra) && decide (0≤lastI [5] e.args)) e.args.length:=by
 rw [disp_ok]
 unfold dT
 cases hd:dIdx e with
 | none =>
   obtain ⟨b1,b2,rfl,_⟩:=h
   exact ⟨rfl,.inr ⟨_,_,_,rfl⟩⟩
 | some k =>
   obtain ⟨h1,h2⟩:=disp_at hd
   exact ⟨rfl,h1,h,h2⟩
theorem numb_take (e:Ent) (w:World) (f:Value) (h1:∀ lo hi,(numSpec e.extra e.args).2=some (lo,hi)→InF w 0 lo hi f) (h2:(numSpec e.extra e.args).2=none→f=.nilFunc):TakeF (nT e) w (numSpec e.extra e.args).1 f ((numSpec e.extra e.args).2.isSome && decide (0≤(numSpec e.extra e.args).1)) e.args.length:=by
 rw [numb_ok]
 unfold nT
 cases hd:nIdx e with
 | none =>
   refine ⟨rfl,?_⟩
   cases hs:(numSpec e.extra e.args).2 with
   | none=>exact .inl (h2 hs)
   | some x =>
     obtain ⟨b1,b2,rfl,_⟩:=h1 x.1 x.2 hs
     exact .inr ⟨_,_,_,rfl⟩
 | some x =>
   obtain ⟨k,c⟩:=x
   obtain ⟨h3,h4,h5⟩:=numb_at hd
   exact ⟨rfl,h3,h1 _ _ h4,h5⟩
def fitV (o:Option (Int × Int)):Value:=match o with | some (d,n)=>.tuple #[.int .i64 d,.int .i64 n,.bool true] | none=>.tuple #[.int .i64 0,.int .i64 0,.bool false]
theorem InF.mono {w:World} {b b':Nat} {lo hi:Int} {f:Value} (h:InF w b lo hi f) (hb:b'≤b):InF w b' lo hi f:=by
 obtain ⟨b1,b2,h1,h2,h3,h4⟩:=h
 exact ⟨b1,b2,h1,by omega,by omega,h4⟩
theorem shaped_len {E:Ent} {m:List UInt8} {l:List Op3} (h:shapedP E (m,l)=true):E.args.length=l.length∧E.mn=m:=by
 unfold shapedP at h
 simp only [Bool.and_eq_true,decide_eq_true_eq] at h
 exact ⟨shape_len h.2,h.1⟩
theorem own_ne2 {w:World} {base n size:Nat} {e:TypeId} {v:Value} {xs:List Value} (h:w.ownsRow base e size v n xs):v.ownBlock≠some w.heap.size:=fun e=>by
 have:=(h.lt _ e).2
 omega
set_option maxRecDepth 100000 in
set_option maxHeartbeats 4000000 in
theorem sfits_no (E:Ent) (ve:Value) (m:List UInt8) (v:Value) (l:List Op3) (w:World) (he:Row w ve E.args.length (opc E.args)) (hr:Row w v l.length (opc l)) (hel:E.args.length≤1000) (hem:E.mn.length≤1000) (hl:l.length≤1000) (hm:m.length≤1000) (hs:shapedP E (m,l)=false) :
 Calls Tryz.prog 54 #[entV E ve,insV m v] w fun e w'=>e=.returned (fitV none)∧Below w.heap.size w w':=by
 have hsh:=fun X (hb:Below w.heap.size w X)=>shaped_any E ve m v l X (he.below hb) (hr.below hb) hel hem hl hm
 rw [hs] at hsh
 obtain ⟨page,op,mn,args,ex,al⟩:=E
 dsimp only at he hel hem hsh
 obtain ⟨a,c,rfl,_,_⟩:=hr
 obtain ⟨ae,ce,rfl,_,_⟩:=he
 have HS:=Hh hsh; clear hsh hs
 show Calls Tryz.prog 54 #[.agg #[.int .i64 page,.int .u8 op,.string ⟨mn.toArray⟩,.slice ae args.length ce,.string ⟨ex.toArray⟩,.bool al],.agg #[.string ⟨m.toArray⟩,.slice a l.length c]] w _
 go_enter Tryz.func54,Tryz.ntmps54
 go_wp2_with fail
 have hbW:Below w.heap.size w ((w.alloc (.cells #[.int .i64 page,.int .u8 op,.string ⟨mn.toArray⟩,.slice ae args.length ce,.string ⟨ex.toArray⟩,.bool al] 41)).alloc (.cells #[.string ⟨m.toArray⟩,.slice a l.length c] 24)):=((Below.refl _ _).alloc (Nat.le_refl _) _).alloc (by simp) _
 refine (HS.out _ hbW).mono ?_
 rintro e w1 ⟨rfl,hb1⟩
 have HB:=Hh (hbW.trans (hb1.mono hbW.size)); clear hbW hb1
 go_wp2_with fail
 refine bodyPost_ret (v:=fitV none) (by simp [results,Tryz.results54,go_sem,fitV]) rfl ⟨rfl,HB.out⟩
set_option maxRecDepth 100000 in
set_option maxHeartbeats 8000000 in
theorem sfits_yes (E:Ent) (ve:Value) (m:List UInt8) (v:Value) (l:List Op3) (w:World) (he:Row w ve E.args.length (opc E.args)) (hr:Row w v l.length (opc l)) (hel:E.args.length≤1000) (hem:E.mn.length≤1000) (hl:l.length≤1000) (hm:m.length≤1000) (hup:upper ⟨m.toArray⟩=⟨m.toArray⟩) (hs:shapedP E (m,l)=true)
 (dn nn:Int) (m1 m2:List UInt8) (l1 l2:List Op3) (hd:takeV (dT E) (m,l)=(dn,m1,l1)) (hn:takeV (nT E) (m1,l1)=(nn,m2,l2)) (r:Bool) (hres:decide (m2=E.mn∧l2=E.args)=r) :
 Calls Tryz.prog 54 #[entV E ve,insV m v] w fun e w'=>e=.returned (fitV (if r=true then some (dn,nn) else none))∧Below w.heap.size w w':=by
 have hsh:=fun X (hb:Below w.heap.size w X)=>shaped_any E ve m v l X (he.below hb) (hr.below hb) hel hem hl hm
 rw [hs] at hsh
 have hlen:=(shaped_len hs).1
 have hl1:l1.length=l.length:=by have:=take_len (dT E) (m,l); rw [hd] at this; exact this
 have hl2:l2.length=l.length:=by have:=take_len (nT E) (m1,l1); rw [hn] at this; exact this.trans hl1
 have hdis:=fun X (hb:Below w.heap.size w X)=>displaced_any E ve X (he.below hb) hel
 have hnum:=fun X (hb:Below w.heap.size w X)=>numbered_any E ve X (he.below hb) hel
 unfold NumRes at hnum
 have hdt:=fun X f h=>disp_take E X f h
 have hnt:=fun X f h1 h2=>numb_take E X f h1 h2
 have hmk:=fun X (hb:Below w.heap.size w X)=>make_any ⟨m.toArray⟩ v l X (by show m.toArray.size≤maxLen; rw [List.size_toArray]; unfold maxLen; omega) (hr.below hb) (by omega)
 rw [hup] at hmk
 have hcd:=fun X k f t b base v'=>fitsC_take (dT E) k f t b base m v' l X
 rw [hd] at hcd
 have hcn:=fun X k f t b base v'=>fitsC_take (nT E) k f t b base m1 v' l1 X
 rw [hn] at hcn
 have hsame:=fun X v' (hb:Below w.heap.size w X) h=>same7_any m2 E.mn v' ve l2 E.args X h (he.below hb) (by omega) (by omega)
 rw [hres] at hsame
 rw [hlen] at hdt hnt
 rw [hl1] at hcn
 rw [hl2] at hsame
 dsimp only at hcd hcn
 generalize lastI [5] E.args=kd at *
 generalize (decide ((100:UInt8)∈E.extra) && decide (0≤kd))=td at *
 generalize (numSpec E.extra E.args)=ns at *
 generalize (ns.2.isSome && decide (0≤ns.1))=tn at *
 generalize ns.1=kn at *
 generalize dT E=DT at *
 generalize nT E=NT at *
 obtain ⟨page,op,mn,args,ex,al⟩:=E
 dsimp only at he hel hem hsh hlen hsame
 obtain ⟨a,c,rfl,_,_⟩:=hr
 obtain ⟨ae,ce,rfl,_,_⟩:=he
 have HS:=Hh hsh; clear hsh hs
 have HDIS:=Hh hdis; clear hdis
 have HNUM:=Hh hnum; clear hnum
 have HDT:=Hh hdt; clear hdt
 have HNT:=Hh hnt; clear hnt
 have HMK:=Hh hmk; clear hmk
 have HCD:=Hh hcd; clear hcd
 have HCN:=Hh hcn; clear hcn
 have HSAME:=Hh hsame; clear hsame
 have HL1:=Hh hl1; have HL2:=Hh hl2; have HLEN:=Hh hlen
 clear hl1 hl2 hlen hd hn hres hup
 show Calls Tryz.prog 54 #[.agg #[.int .i64 page,.int .u8 op,.string ⟨mn.toArray⟩,.slice ae args.length ce,.string ⟨ex.toArray⟩,.bool al],.agg #[.string ⟨m.toArray⟩,.slice a l.length c]] w _
 go_enter Tryz.func54,Tryz.ntmps54
 go_wp2_with fail
 have hbW:Below w.heap.size w ((w.alloc (.cells #[.int .i64 page,.int .u8 op,.string ⟨mn.toArray⟩,.slice ae args.length ce,.string ⟨ex.toArray⟩,.bool al] 41)).alloc (.cells #[.string ⟨m.toArray⟩,.slice a l.length c] 24)):=((Below.refl _ _).alloc (Nat.le_refl _) _).alloc (by simp) _
 have h0:((w.alloc (.cells #[.int .i64 page,.int .u8 op,.string ⟨mn.toArray⟩,.slice ae args.length ce,.string ⟨ex.toArray⟩,.bool al] 41)).alloc (.cells #[.string ⟨m.toArray⟩,.slice a l.length c] 24)).heap[w.heap.size]? = some (.cells #[.int .i64 page,.int .u8 op,.string ⟨mn.toArray⟩,.slice ae args.length ce,.string ⟨ex.toArray⟩,.bool al] 41 (0,0)):=blk_alloc (blk_new _ _)
 have h1:=blk_new (w.alloc (.cells #[.int .i64 page,.int .u8 op,.string ⟨mn.toArray⟩,.slice ae args.length ce,.string ⟨ex.toArray⟩,.bool al] 41)) (.cells #[.string ⟨m.toArray⟩,.slice a l.length c] 24)
 rw [World.size_alloc] at h1
 refine (HS.out _ hbW).mono ?_
 rintro e w1 ⟨rfl,hb1⟩
 have h01:=blk_below h0 hb1 (by simp; omega)
 have h11:=blk_below h1 hb1 (by simp)
 have hbw1:=hbW.trans (hb1.mono hbW.size)
 have hl11:=blk_lt h11
 obtain ⟨r0,r1,_,_⟩:=cells2 h11
 have H01:=Hh h01
 have HB1:=Hh hbw1
 clear hbW h0 h1 hb1 h01 hbw1
 go_wp2_with fail
 refine (HMK.out _ HB1.out).mono ?_
 rintro e w2 ⟨v2,rfl,hown2,hb2⟩
 obtain ⟨a2,c2,rfl⟩:=owns_slice hown2
 have h02:=blk_below H01.out hb2 (by omega)
 have hbw2:=HB1.out.trans (hb2.mono HB1.out.size)
 have hs12:=hb2.size
 have hne:=own_ne2 hown2
 have hrow2:=(WRow.of_owns hown2).mono (b':=w.heap.size+1+1) (by omega)
 clear r0 r1 h11 H01 HB1 hown2 hb2
 have h03:=blk_alloc (o':=.cells #[.string ⟨m.toArray⟩,.slice a2 l.length c2] 24) h02
 have hr3:=blk_new w2 (.cells #[.string ⟨m.toArray⟩,.slice a2 l.length c2] 24)
 have hal:=(Below.refl w2.heap.size w2).alloc (Nat.le_refl _) (.cells #[.string ⟨m.toArray⟩,.slice a2 l.length c2] 24)
 have hbw3:=hbw2.trans (hal.mono hbw2.size)
 have hrow3:=hrow2.below hal
 have hwb:w.heap.size+1+1≤w2.heap.size:=by omega
 have hsz3:w2.heap.size<(w2.alloc (.cells #[.string ⟨m.toArray⟩,.slice a2 l.length c2] 24)).heap.size:=by rw [World.size_alloc]; omega
 obtain ⟨b,hbe⟩:∃ b,w2.heap.size=b:=⟨_,rfl⟩
 have HBE:=Hh hbe
 have HWB:=Hh hwb
 have HNE:=Hh hne
 obtain ⟨⟨x0,x1,x2,x3,x4,x5⟩,_⟩:=cells6 h02
 have hl2:w.heap.size<b:=by omega
 have hl2n:¬ w.heap.size=b:=by omega
 clear h02 hbw2 hne hrow2 hs12 hl11 hwb hal
 go_wp2_with fail
 obtain ⟨W3,hW3⟩:∃ W3,(w2.alloc (.cells #[.string ⟨m.toArray⟩,.slice a2 l.length c2] 24))=W3:=⟨_,rfl⟩
 rw [hW3] at h03 hr3 hbw3 hrow3 hsz3 ⊢
 rw [hbe] at hr3 hsz3 HWB HNE
 have hww:=HWB.out
 clear hW3 hbe x0 x1 x2 x3 x4 x5 hl2 hl2n
 have hl0:w.heap.size<W3.heap.size:=by omega
 have H03:=Hh h03; have HR3:=Hh hr3; have HBW3:=Hh hbw3; have HROW3:=Hh hrow3
 clear h03 hr3 hbw3 hrow3
 (with_reducible refine (HDIS.out _ HBW3.out).mono ?_)
 rintro e w4 ⟨f,rfl,hin,hb4⟩
 have hin4:=HDT.out w4 f (hin.mono (Nat.zero_le _))
 have h04:=blk_below H03.out hb4 hl0
 have hr4:=blk_below HR3.out hb4 hsz3
 have hrow4:=HROW3.out.below hb4
 have hbw4:=HBW3.out.trans (hb4.mono HBW3.out.size)
 have hcd4:=HCD.out w4 _ f _ b (w.heap.size+1+1) (.slice a2 l.length c2) hin4 hr4 hrow4 HNE.out hl
 have HCD4:=Hh hcd4
 have H04:=Hh h04; have HBW4:=Hh hbw4
 clear hin hin4 h04 hr4 hrow4 hbw4 hb4 hcd4
 go_wp2_with fail
 (with_reducible refine HCD4.out.mono ?_)
 rintro e w5 ⟨rfl,hr5,hrow5,hb5⟩
 have h05:=blk_below H04.out hb5 (by have:=HWB.out; omega)
 have hbw5:=HBW4.out.trans (hb5.mono (by have:=HWB.out; omega))
 obtain ⟨⟨x0,x1,x2,x3,x4,x5⟩,_⟩:=cells6 h05
 have hl5:=blk_lt h05
 have hlb5:=blk_lt hr5
 have H05:=Hh h05; have HR5:=Hh hr5; have HROW5:=Hh hrow5; have HBW5:=Hh hbw5
 clear h05 hr5 hrow5 hbw5 hb5
 go_wp2_with fail
 (with_reducible refine (HNUM.out _ HBW5.out).mono ?_)
 rintro e w6 ⟨f2,rfl,hf1,hf2,hb6⟩
 have hin6:=HNT.out w6 f2 (fun lo hi q=>(hf1 lo hi q).mono (Nat.zero_le _)) hf2
 have h06:=blk_below H05.out hb6 hl5
 have hr6:=blk_below HR5.out hb6 hlb5
 have hrow6:=HROW5.out.below hb6
 have hbw6:=HBW5.out.trans (hb6.mono HBW5.out.size)
 have hcn6:=HCN.out w6 _ f2 _ b (w.heap.size+1+1) (.slice a2 l.length c2) hin6 hr6 hrow6 HNE.out hl
 have HCN6:=Hh hcn6
 have H06:=Hh h06; have HBW6:=Hh hbw6
 clear hf1 hf2 hin6 h06 hr6 hrow6 hbw6 hb6 hcn6 x0 x1 x2 x3 x4 x5
 go_wp2_with fail
 (with_reducible refine HCN6.out.mono ?_)
 rintro e w7 ⟨rfl,hr7,hrow7,hb7⟩
 have h07:=blk_below H06.out hb7 (by have:=HWB.out; omega)
 have hbw7:=HBW6.out.trans (hb7.mono (by have:=HWB.out; omega))
 obtain ⟨⟨x0,x1,x2,x3,x4,x5⟩,_⟩:=cells6 h07
 obtain ⟨y0,y1,_,_⟩:=cells2 hr7
 have HBW7:=Hh hbw7
 have hsm7:=HSAME.out w7 _ hbw7 hrow7.row
 have HSM7:=Hh hsm7
 clear h07 hr7 hrow7 hbw7 hb7 hsm7
 go_wp2_with fail
 (with_reducible refine HSM7.out.mono ?_)
 rintro e w8 ⟨rfl,hb8⟩
 have HB8:=Hh (HBW7.out.trans (hb8.mono HBW7.out.size))
 clear hb8
 cases r with
 | false =>
   go_wp2_with fail
   refine bodyPost_ret (v:=fitV none) (by simp [results,Tryz.results54,go_sem,fitV]) rfl ⟨rfl,HB8.out⟩
 | true =>
   go_wp2_with fail
   refine bodyPost_ret (v:=fitV (some (dn,nn))) (by simp [results,Tryz.results54,go_sem,fitV]) rfl ⟨rfl,HB8.out⟩
theorem sfits_any (E:Ent) (ve:Value) (m:List UInt8) (v:Value) (l:List Op3) (w:World) (he:Row w ve E.args.length (opc E.args)) (hr:Row w v l.length (opc l)) (hel:E.args.length≤1000) (hem:E.mn.length≤1000) (hl:l.length≤1000) (hm:m.length≤1000) (hup:upper ⟨m.toArray⟩=⟨m.toArray⟩) (hne:m≠[]) :
 Calls Tryz.prog 54 #[entV E ve,insV m v] w fun e w'=>e=.returned (fitV (fitsV E (m,l)))∧Below w.heap.size w w':=by
 cases hs:shapedP E (m,l) with
 | false =>
   have:fitsV E (m,l)=none:=by unfold fitsV; rw [if_pos hs]
   rw [this]
   exact sfits_no E ve m v l w he hr hel hem hl hm hs
 | true =>
   rw [fits_take E m l hs hne]
   obtain ⟨d,hd⟩:∃ d,takeV (dT E) (m,l)=d:=⟨_,rfl⟩
   obtain ⟨dn,m1,l1⟩:=d
   obtain ⟨n,hn⟩:∃ n,takeV (nT E) (m1,l1)=n:=⟨_,rfl⟩
   obtain ⟨nn,m2,l2⟩:=n
   rw [hd]
   dsimp only
   rw [hn]
   dsimp only
   have h:=sfits_yes E ve m v l w he hr hel hem hl hm hup hs dn nn m1 m2 l1 l2 hd hn _ rfl
   simpa only [decide_eq_true_eq] using h
end Go.Proofs.YtkldoojonnkfgaaGreatDoor
