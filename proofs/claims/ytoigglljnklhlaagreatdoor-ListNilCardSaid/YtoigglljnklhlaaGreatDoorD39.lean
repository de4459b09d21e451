/- Joined. -/
import Derived.Test.YtoigglljnklhlaaGreatDoorD38
set_option maxHeartbeats 8000000
set_option maxRecDepth 100000
namespace Go.Proofs.YtoigglljnklhlaaGreatDoor
open Go.RowKit Go.Sort
open Go.Proofs.Tryz
def c0D (i:Nat):Tmp:=match i with
 | 0=>14
 | 1=>15
 | 2=>16
 | 3=>17
 | 4=>18
 | 5=>19
 | 6=>20
 | _=>40
def c0K (k:Nat):Bool:=([14,15,16,17,18,19,20]:List Nat).contains k
theorem Wi:∀ i,i<8→i≠7→c0K (c0D i)=true∧c0D i<40:=dc
theorem Zj:∀ i,i<8→∀ j,j<8→i≠7→j≠7→c0D i=c0D j→i=j:=dc
def c0P (r:Nat) (y:Int) (nm:List UInt8) (o0 o1 o2:Int) (i:Nat):D9:=match i with
 | 0=>.strs [[82,76,67],[82,82,67],[82,76],[82,82],[83,76,65],[83,82,65],[83,76,76],[83,82,76]]
 | 1=>.val (.int .i64 y)
 | 2=>.strAt [[82,76,67],[82,82,67],[82,76],[82,82],[83,76,65],[83,82,65],[83,76,76],[83,82,76]] y.toNat
 | 3=>.val (.string ⟨nm.toArray⟩)
 | 4=>.val (opV (o0,o1,o2))
 | 5=>.row [(o0,o1,o2)]
 | 6=>.ins (nm,[(o0,o1,o2)])
 | 7=>.stored r (nm,[(o0,o1,o2)])
 | _=>.val undef
theorem Qd (r:Nat) (y:Int) (nm:List UInt8) (o0 o1 o2:Int):∀ i,i≠7→(c0P r y nm o0 o1 o2 i).plain=true:=by
 intro i h;unfold c0P;split<;>first|rfl|exact absurd rfl h
def c1D (i:Nat):Tmp:=match i with
 | 0=>23
 | 1=>24
 | 2=>25
 | 3=>26
 | 4=>27
 | _=>40
def c1K (k:Nat):Bool:=([23,24,25,26,27]:List Nat).contains k
theorem Wh:∀ i,i<6→i≠5→c1K (c1D i)=true∧c1D i<40:=dc
theorem Zi:∀ i,i<6→∀ j,j<6→i≠5→j≠5→c1D i=c1D j→i=j:=dc
def c1P (r:Nat) (y:Int) (o0 o1 o2:Int) (i:Nat):D9:=match i with
 | 0=>.val (.int .i64 y)
 | 1=>.val (opV (6,0,y))
 | 2=>.val (opV (o0,o1,o2))
 | 3=>.row [(6,0,y),(o0,o1,o2)]
 | 4=>.ins ([66,73,84],[(6,0,y),(o0,o1,o2)])
 | 5=>.stored r ([66,73,84],[(6,0,y),(o0,o1,o2)])
 | _=>.val undef
theorem Qc (r:Nat) (y:Int) (o0 o1 o2:Int):∀ i,i≠5→(c1P r y o0 o1 o2 i).plain=true:=by
 intro i h;unfold c1P;split<;>first|rfl|exact absurd rfl h
def c2D (i:Nat):Tmp:=match i with
 | 0=>30
 | 1=>31
 | 2=>32
 | 3=>33
 | 4=>34
 | _=>40
def c2K (k:Nat):Bool:=([30,31,32,33,34]:List Nat).contains k
theorem Wg:∀ i,i<6→i≠5→c2K (c2D i)=true∧c2D i<40:=dc
theorem Zh:∀ i,i<6→∀ j,j<6→i≠5→j≠5→c2D i=c2D j→i=j:=dc
def c2P (r:Nat) (y:Int) (o0 o1 o2:Int) (i:Nat):D9:=match i with
 | 0=>.val (.int .i64 y)
 | 1=>.val (opV (6,0,y))
 | 2=>.val (opV (o0,o1,o2))
 | 3=>.row [(6,0,y),(o0,o1,o2)]
 | 4=>.ins ([82,69,83],[(6,0,y),(o0,o1,o2)])
 | 5=>.stored r ([82,69,83],[(6,0,y),(o0,o1,o2)])
 | _=>.val undef
theorem Qb (r:Nat) (y:Int) (o0 o1 o2:Int):∀ i,i≠5→(c2P r y o0 o1 o2 i).plain=true:=by
 intro i h;unfold c2P;split<;>first|rfl|exact absurd rfl h
def c3D (i:Nat):Tmp:=match i with
 | 0=>35
 | 1=>36
 | 2=>37
 | 3=>38
 | 4=>39
 | _=>40
def c3K (k:Nat):Bool:=([35,36,37,38,39]:List Nat).contains k
theorem Wf:∀ i,i<6→i≠5→c3K (c3D i)=true∧c3D i<40:=dc
theorem Zg:∀ i,i<6→∀ j,j<6→i≠5→j≠5→c3D i=c3D j→i=j:=dc
def c3P (r:Nat) (y:Int) (o0 o1 o2:Int) (i:Nat):D9:=match i with
 | 0=>.val (.int .i64 y)
 | 1=>.val (opV (6,0,y))
 | 2=>.val (opV (o0,o1,o2))
 | 3=>.row [(6,0,y),(o0,o1,o2)]
 | 4=>.ins ([83,69,84],[(6,0,y),(o0,o1,o2)])
 | 5=>.stored r ([83,69,84],[(6,0,y),(o0,o1,o2)])
 | _=>.val undef
theorem Qa (r:Nat) (y:Int) (o0 o1 o2:Int):∀ i,i≠5→(c3P r y o0 o1 o2 i).plain=true:=by
 intro i h;unfold c3P;split<;>first|rfl|exact absurd rfl h
theorem vV {p:Prop} (h:p:=by
 refine⟨_,[],rfl,rfl,(fun j hj=>by cases hj),?_⟩;intro R a W hA hk hbw hd hv hs;have e6:=hA.get (k:=3) (by rfl) (by rfl);have hbk:=(hk.block _ (aA H1.out) HN1.out).trans H1.out;have c0:=aC hbk 0;have c1:=aC hbk 1;have c2:=aC hbk 2;go_simp;exact hv dc _ _ br rfl):p:=h
theorem vU {p:Prop} (h:p:=by
 refine⟨_,[],rfl,rfl,(fun j hj=>by cases hj),?_⟩;intro R a W hA hk hbw hd hv hs;have e6:=hA.get (k:=5) (by rfl) (by rfl);go_simp;exact hv dc _ _ br rfl):p:=h
theorem Fg (op X y o0 o1 o2:Int) (R:aY) (hb0:0≤op) (hb1:op≤255) (hx:op/64=X) (hy:op/8%8=y) (hy0:0≤y) (hy7:y≤7)
 (hD:(∃ (nm:List UInt8),X=0∧Hid (y=0∧nm=[82,76,67]∨y=1∧nm=[82,82,67]∨y=2∧nm=[82,76]∨y=3∧nm=[82,82]∨y=4∧nm=[83,76,65]∨y=5∧nm=[83,82,65]∨y=6∧nm=[83,76,76]∨y=7∧nm=[83,82,76])∧R=(nm,[(o0,o1,o2)]))
  ∨ (X=1∧R=([66,73,84],[(6,0,y),(o0,o1,o2)]))
  ∨ (X=2∧R=([82,69,83],[(6,0,y),(o0,o1,o2)]))
  ∨ (X=3∧R=([83,69,84],[(6,0,y),(o0,o1,o2)])))
 (w:World):Calls prog 85 #[.int .u8 op,opV (o0,o1,o2)] w (dU R w):=by
 rcases hD with⟨nm,rfl,HJ,rfl⟩|⟨rfl,rfl⟩|⟨rfl,rfl⟩|⟨rfl,rfl⟩;all_goals
  go_enter func85,ntmps85
  go_wp2_with fail
  obtain⟨W0,hW0⟩:∃ W0,(w.alloc (.cells #[.int .i64 o0,.int .i64 o1,.int .i64 o2] 144)).alloc (.cells #[.string ⟨#[]⟩,.slice none 0 0] 53)=W0:=⟨_,rfl⟩;have h1:W0.heap[w.heap.size]? = some (.cells #[.int .i64 o0,.int .i64 o1,.int .i64 o2] 144 (0,0)):=by rw[←hW0];exact aE (aF _ _)
  have h0:W0.heap[w.heap.size+1]? = some (.cells #[.string ⟨#[]⟩,.slice none 0 0] 53 (0,0)):=by
   rw[←hW0]
   have:=aF (w.alloc (.cells #[.int .i64 o0,.int .i64 o1,.int .i64 o2] 144)) (.cells #[.string ⟨#[]⟩,.slice none 0 0] 53)
   rwa [World.size_alloc] at this
  have HBW:=Hh (show Below w.heap.size w W0 by rw[←hW0];exact bl);have HB0:=Hh h0;have H1:=Hh h1;have HRB:=Hh (aA h0);have HN1:=Hh (show w.heap.size≠w.heap.size+1 by omega);rw[hW0];clear hW0 h0 h1
 · refine bN kr (w.heap.size+1) 7 c0D (fun i v W=>(c0P (w.heap.size+1) y nm o0 o1 o2 i).holds W0.heap.size v W) (Out c0K _) (fun i v v1 v2 hi h hk=>D9.kb (Qd (w.heap.size+1) y nm o0 o1 o2 i hi) h HRB.out hk) (fun v v1 v2 h hb=>D9.stored_below (B:=W0.heap.size) (r:=(w.heap.size+1)) (i:=(nm,[(o0,o1,o2)])) h hb) (Out.refl _ _) (fun i v a hi hne hA=>hA.put _ v (Wi i hi hne).1 (Wi i hi hne).2) (fun i j hi hj=>Zj i hi j hj) ?_ (gQ kr) ?_
   · intro i hi;have hi:i<8:=hi;rcases (by omega:i=0∨i=1∨i=2∨i=3∨i=4∨i=5∨i=6∨i=7) with rfl|rfl|rfl|rfl|rfl|rfl|rfl|rfl
     · refine⟨_,[],rfl,rfl,(fun j hj=>by cases hj),?_⟩;intro R a W hA hk hbw hd hv hs;have ha:=fun o=>(Below.refl W.heap.size W).alloc lr o;go_simp;exact hv dc _ _ (ha _) ⟨_,rfl,hk.size,aF _ _⟩
     · exact vU
     · refine⟨_,[0,1],rfl,rfl,(fun j hj=>by simp only[List.mem_cons,List.not_mem_nil,or_false] at hj;rcases hj with rfl|rfl;exact⟨dc,⟨0,.data⟩,by simp,rfl,rfl⟩;exact⟨dc,⟨1,.data⟩,by simp,rfl,rfl⟩),?_⟩;intro R a W hA hk hbw hd hv hs;obtain⟨u1,hu1⟩:∃ u,a.tmps.getD 14 undef=u:=⟨_,rfl⟩;have q1:(D9.strs [[82,76,67],[82,82,67],[82,76],[82,82],[83,76,65],[83,82,65],[83,76,76],[83,82,76]]).holds W0.heap.size u1 W:=hu1 ▸ hd 0 sm;have e1:=(aJ a 14).symm.trans hu1;have e2:a.tmps[15]?.getD undef=_:=(aJ a 15).symm.trans (hd 1 sm);obtain⟨g,hg,q1⟩:=q1;subst hg;rcases HJ.out with⟨rfl,rfl⟩|⟨rfl,rfl⟩|⟨rfl,rfl⟩|⟨rfl,rfl⟩|⟨rfl,rfl⟩|⟨rfl,rfl⟩|⟨rfl,rfl⟩|⟨rfl,rfl⟩;all_goals
        go_simp;exact hv dc _ _ br ⟨_,rfl,q1⟩
     · refine⟨_,[2],rfl,rfl,(fun j hj=>by obtain rfl:=List.mem_singleton.1 hj;exact⟨dc,⟨2,.data⟩,by simp,rfl,rfl⟩),?_⟩;intro R a W hA hk hbw hd hv hs;obtain⟨u1,hu1⟩:∃ u,a.tmps.getD 16 undef=u:=⟨_,rfl⟩;have q1:(D9.strAt [[82,76,67],[82,82,67],[82,76],[82,82],[83,76,65],[83,82,65],[83,76,76],[83,82,76]] y.toNat).holds W0.heap.size u1 W:=hu1 ▸ hd 2 sm;have e1:=(aJ a 16).symm.trans hu1;obtain⟨g,hg,q1,q3⟩:=q1;subst hg;rcases HJ.out with⟨rfl,rfl⟩|⟨rfl,rfl⟩|⟨rfl,rfl⟩|⟨rfl,rfl⟩|⟨rfl,rfl⟩|⟨rfl,rfl⟩|⟨rfl,rfl⟩|⟨rfl,rfl⟩;all_goals
        have m0:=aC q3 0;have m1:=aC q3 1;have m2:=aC q3 2;have m3:=aC q3 3;have m4:=aC q3 4;have m5:=aC q3 5;have m6:=aC q3 6;have m7:=aC q3 7;simp only[List.map_cons,List.map_nil,List.getElem?_toArray,List.getElem?_cons_succ,List.getElem?_cons_zero] at m0 m1 m2 m3 m4 m5 m6 m7;go_simp;exact hv dc _ _ br rfl
     · exact vV
     · refine⟨_,[4],rfl,rfl,(fun j hj=>by obtain rfl:=List.mem_singleton.1 hj;exact⟨dc,⟨4,.data⟩,by simp,rfl,rfl⟩),?_⟩;intro R a W hA hk hbw hd hv hs;have e1:a.tmps[18]?.getD undef=_:=(aJ a 18).symm.trans (hd 4 sm);go_simp;(with_reducible refine (Er (o0,o1,o2) _ W0.heap.size hk.size).mono ?_);rintro e w' ⟨v,rfl,hr,hb⟩;exact hv dc _ _ hb hr
     · refine⟨_,[3,5],rfl,rfl,(fun j hj=>by simp only[List.mem_cons,List.not_mem_nil,or_false] at hj;rcases hj with rfl|rfl;exact⟨dc,⟨3,.data⟩,by simp,rfl,rfl⟩;exact⟨dc,⟨5,.data⟩,by simp,rfl,rfl⟩),?_⟩;intro R a W hA hk hbw hd hv hs;have e2:a.tmps[17]?.getD undef=_:=(aJ a 17).symm.trans (hd 3 sm);obtain⟨u1,hu1⟩:∃ u,a.tmps.getD 19 undef=u:=⟨_,rfl⟩;have q1:RowV W0.heap.size [(o0,o1,o2)] u1 W:=hu1 ▸ hd 5 sm;have e1:=(aJ a 19).symm.trans hu1;go_simp;(with_reducible refine (dX nm [(o0,o1,o2)] u1 W0.heap.size _ (RowN.of q1)).mono ?_);rintro e w' ⟨v,rfl,hr,hb⟩;exact hv dc _ _ hb hr
     · refine⟨_,[6],rfl,rfl,(fun j hj=>by obtain rfl:=List.mem_singleton.1 hj;exact⟨dc,⟨6,.data⟩,by simp,rfl,rfl⟩),?_⟩;intro R a W hA hk hbw hd hv hs;obtain⟨u1,hu1⟩:∃ u,a.tmps.getD 20 undef=u:=⟨_,rfl⟩;have q1:(D9.ins (nm,[(o0,o1,o2)])).holds W0.heap.size u1 W:=hu1 ▸ hd 6 sm;have e1:=(aJ a 20).symm.trans hu1;obtain⟨z,hz,q1⟩:=q1;subst hz;obtain⟨z1,z2,z3,rfl⟩:=q1.slice;have hr:=aB HB0.out (hbw rfl) (aA HB0.out);have c0:=aC hr 0;have c1:=aC hr 1;have f0:=aH hr 0;have f1:=aH hr 1;have hlt:=aA hr;have e4:=hA.get (k:=4) (by rfl) (by rfl);go_simp;have hkk:=fun x y=>Kb.setCell (Kb.setCell (Kb.refl (w.heap.size+1) W) 0 x) 1 y;exact hs rfl _ (hkk _ _) ⟨_,aG (aG hr),q1.kb HRB.out (hkk _ _)⟩
   · intro a W1 hA hkb _ hd hst;obtain⟨u,hr,hz⟩:(D9.stored (w.heap.size+1) (nm,[(o0,o1,o2)])).holds W0.heap.size undef W1:=hst dc;obtain⟨z1,z2,z3,rfl⟩:=hz.slice;have e4:=hA.get (k:=4) (by rfl) (by rfl);have c0:=aC hr 0;have c1:=aC hr 1;obtain⟨ts,df⟩:=a;obtain rfl:df=[]:=hA.defers;clear hA hst hd;have HZ:=Hh hz;have HKB:=Hh hkb;clear hz hkb hr;go_wp2_with fail
     refine bodyPost_ret (v:=.agg #[.string ⟨((nm,[(o0,o1,o2)])).1.toArray⟩,.slice z1 z2 z3]) (by simp[results,results85,go_sem, *]) rfl ?_;exact⟨_,rfl,iF (i:=(nm,[(o0,o1,o2)])) om HZ.out HBW.out sm HKB.out⟩
 · refine bN kr (w.heap.size+1) 5 c1D (fun i v W=>(c1P (w.heap.size+1) y o0 o1 o2 i).holds W0.heap.size v W) (Out c1K _) (fun i v v1 v2 hi h hk=>D9.kb (Qc (w.heap.size+1) y o0 o1 o2 i hi) h HRB.out hk) (fun v v1 v2 h hb=>D9.stored_below (B:=W0.heap.size) (r:=(w.heap.size+1)) (i:=([66,73,84],[(6,0,y),(o0,o1,o2)])) h hb) (Out.refl _ _) (fun i v a hi hne hA=>hA.put _ v (Wh i hi hne).1 (Wh i hi hne).2) (fun i j hi hj=>Zi i hi j hj) ?_ (gQ kr) ?_
   · intro i hi;have hi:i<6:=hi;rcases (by omega:i=0∨i=1∨i=2∨i=3∨i=4∨i=5) with rfl|rfl|rfl|rfl|rfl|rfl
     · exact vU
     · refine⟨_,[0],rfl,rfl,(fun j hj=>by obtain rfl:=List.mem_singleton.1 hj;exact⟨dc,⟨0,.data⟩,by simp,rfl,rfl⟩),?_⟩;intro R a W hA hk hbw hd hv hs;have e1:a.tmps[23]?.getD undef=_:=(aJ a 23).symm.trans (hd 0 sm);go_simp;(with_reducible refine (fF y _).mono ?_);rintro e w' ⟨rfl,hb⟩;exact hv dc _ _ hb rfl
     · exact vV
     · refine⟨_,[1,2],rfl,rfl,(fun j hj=>by simp only[List.mem_cons,List.not_mem_nil,or_false] at hj;rcases hj with rfl|rfl;exact⟨dc,⟨1,.data⟩,by simp,rfl,rfl⟩;exact⟨dc,⟨2,.data⟩,by simp,rfl,rfl⟩),?_⟩;intro R a W hA hk hbw hd hv hs;have e1:a.tmps[24]?.getD undef=_:=(aJ a 24).symm.trans (hd 1 sm);have e2:a.tmps[25]?.getD undef=_:=(aJ a 25).symm.trans (hd 2 sm);go_simp;(with_reducible refine (iE (6,0,y) (o0,o1,o2) _ W0.heap.size hk.size).mono ?_);rintro e w' ⟨v,rfl,hr,hb⟩;exact hv dc _ _ hb hr
     · refine⟨_,[3],rfl,rfl,(fun j hj=>by obtain rfl:=List.mem_singleton.1 hj;exact⟨dc,⟨3,.data⟩,by simp,rfl,rfl⟩),?_⟩;intro R a W hA hk hbw hd hv hs;obtain⟨u1,hu1⟩:∃ u,a.tmps.getD 26 undef=u:=⟨_,rfl⟩;have q1:RowV W0.heap.size [(6,0,y),(o0,o1,o2)] u1 W:=hu1 ▸ hd 3 sm;have e1:=(aJ a 26).symm.trans hu1;go_simp;(with_reducible refine (dX [66,73,84] [(6,0,y),(o0,o1,o2)] u1 W0.heap.size _ (RowN.of q1)).mono ?_);rintro e w' ⟨v,rfl,hr,hb⟩;exact hv dc _ _ hb hr
     · refine⟨_,[4],rfl,rfl,(fun j hj=>by obtain rfl:=List.mem_singleton.1 hj;exact⟨dc,⟨4,.data⟩,by simp,rfl,rfl⟩),?_⟩;intro R a W hA hk hbw hd hv hs;obtain⟨u1,hu1⟩:∃ u,a.tmps.getD 27 undef=u:=⟨_,rfl⟩;have q1:(D9.ins ([66,73,84],[(6,0,y),(o0,o1,o2)])).holds W0.heap.size u1 W:=hu1 ▸ hd 4 sm;have e1:=(aJ a 27).symm.trans hu1;obtain⟨z,hz,q1⟩:=q1;subst hz;obtain⟨z1,z2,z3,rfl⟩:=q1.slice;have hr:=aB HB0.out (hbw rfl) (aA HB0.out);have c0:=aC hr 0;have c1:=aC hr 1;have f0:=aH hr 0;have f1:=aH hr 1;have hlt:=aA hr;have e4:=hA.get (k:=4) (by rfl) (by rfl);go_simp;have hkk:=fun x y=>Kb.setCell (Kb.setCell (Kb.refl (w.heap.size+1) W) 0 x) 1 y;exact hs rfl _ (hkk _ _) ⟨_,aG (aG hr),q1.kb HRB.out (hkk _ _)⟩
   · intro a W1 hA hkb _ hd hst;obtain⟨u,hr,hz⟩:(D9.stored (w.heap.size+1) ([66,73,84],[(6,0,y),(o0,o1,o2)])).holds W0.heap.size undef W1:=hst dc;obtain⟨z1,z2,z3,rfl⟩:=hz.slice;have e4:=hA.get (k:=4) (by rfl) (by rfl);have c0:=aC hr 0;have c1:=aC hr 1;obtain⟨ts,df⟩:=a;obtain rfl:df=[]:=hA.defers;clear hA hst hd;have HZ:=Hh hz;have HKB:=Hh hkb;clear hz hkb hr;go_wp2_with fail
     refine bodyPost_ret (v:=.agg #[.string ⟨(([66,73,84],[(6,0,y),(o0,o1,o2)])).1.toArray⟩,.slice z1 z2 z3]) (by simp[results,results85,go_sem, *]) rfl ?_;exact⟨_,rfl,iF (i:=([66,73,84],[(6,0,y),(o0,o1,o2)])) om HZ.out HBW.out sm HKB.out⟩
 · refine bN kr (w.heap.size+1) 5 c2D (fun i v W=>(c2P (w.heap.size+1) y o0 o1 o2 i).holds W0.heap.size v W) (Out c2K _) (fun i v v1 v2 hi h hk=>D9.kb (Qb (w.heap.size+1) y o0 o1 o2 i hi) h HRB.out hk) (fun v v1 v2 h hb=>D9.stored_below (B:=W0.heap.size) (r:=(w.heap.size+1)) (i:=([82,69,83],[(6,0,y),(o0,o1,o2)])) h hb) (Out.refl _ _) (fun i v a hi hne hA=>hA.put _ v (Wg i hi hne).1 (Wg i hi hne).2) (fun i j hi hj=>Zh i hi j hj) ?_ (gQ kr) ?_
   · intro i hi;have hi:i<6:=hi;rcases (by omega:i=0∨i=1∨i=2∨i=3∨i=4∨i=5) with rfl|rfl|rfl|rfl|rfl|rfl
     · exact vU
     · refine⟨_,[0],rfl,rfl,(fun j hj=>by obtain rfl:=List.mem_singleton.1 hj;exact⟨dc,⟨0,.data⟩,by simp,rfl,rfl⟩),?_⟩;intro R a W hA hk hbw hd hv hs;have e1:a.tmps[30]?.getD undef=_:=(aJ a 30).symm.trans (hd 0 sm);go_simp;(with_reducible refine (fF y _).mono ?_);rintro e w' ⟨rfl,hb⟩;exact hv dc _ _ hb rfl
     · exact vV
     · refine⟨_,[1,2],rfl,rfl,(fun j hj=>by simp only[List.mem_cons,List.not_mem_nil,or_false] at hj;rcases hj with rfl|rfl;exact⟨dc,⟨1,.data⟩,by simp,rfl,rfl⟩;exact⟨dc,⟨2,.data⟩,by simp,rfl,rfl⟩),?_⟩;intro R a W hA hk hbw hd hv hs;have e1:a.tmps[31]?.getD undef=_:=(aJ a 31).symm.trans (hd 1 sm);have e2:a.tmps[32]?.getD undef=_:=(aJ a 32).symm.trans (hd 2 sm);go_simp;(with_reducible refine (iE (6,0,y) (o0,o1,o2) _ W0.heap.size hk.size).mono ?_);rintro e w' ⟨v,rfl,hr,hb⟩;exact hv dc _ _ hb hr
     · refine⟨_,[3],rfl,rfl,(fun j hj=>by obtain rfl:=List.mem_singleton.1 hj;exact⟨dc,⟨3,.data⟩,by simp,rfl,rfl⟩),?_⟩;intro R a W hA hk hbw hd hv hs;obtain⟨u1,hu1⟩:∃ u,a.tmps.getD 33 undef=u:=⟨_,rfl⟩;have q1:RowV W0.heap.size [(6,0,y),(o0,o1,o2)] u1 W:=hu1 ▸ hd 3 sm;have e1:=(aJ a 33).symm.trans hu1;go_simp;(with_reducible refine (dX [82,69,83] [(6,0,y),(o0,o1,o2)] u1 W0.heap.size _ (RowN.of q1)).mono ?_);rintro e w' ⟨v,rfl,hr,hb⟩;exact hv dc _ _ hb hr
     · refine⟨_,[4],rfl,rfl,(fun j hj=>by obtain rfl:=List.mem_singleton.1 hj;exact⟨dc,⟨4,.data⟩,by simp,rfl,rfl⟩),?_⟩;intro R a W hA hk hbw hd hv hs;obtain⟨u1,hu1⟩:∃ u,a.tmps.getD 34 undef=u:=⟨_,rfl⟩;have q1:(D9.ins ([82,69,83],[(6,0,y),(o0,o1,o2)])).holds W0.heap.size u1 W:=hu1 ▸ hd 4 sm;have e1:=(aJ a 34).symm.trans hu1;obtain⟨z,hz,q1⟩:=q1;subst hz;obtain⟨z1,z2,z3,rfl⟩:=q1.slice;have hr:=aB HB0.out (hbw rfl) (aA HB0.out);have c0:=aC hr 0;have c1:=aC hr 1;have f0:=aH hr 0;have f1:=aH hr 1;have hlt:=aA hr;have e4:=hA.get (k:=4) (by rfl) (by rfl);go_simp;have hkk:=fun x y=>Kb.setCell (Kb.setCell (Kb.refl (w.heap.size+1) W) 0 x) 1 y;exact hs rfl _ (hkk _ _) ⟨_,aG (aG hr),q1.kb HRB.out (hkk _ _)⟩
   · intro a W1 hA hkb _ hd hst;obtain⟨u,hr,hz⟩:(D9.stored (w.heap.size+1) ([82,69,83],[(6,0,y),(o0,o1,o2)])).holds W0.heap.size undef W1:=hst dc;obtain⟨z1,z2,z3,rfl⟩:=hz.slice;have e4:=hA.get (k:=4) (by rfl) (by rfl);have c0:=aC hr 0;have c1:=aC hr 1;obtain⟨ts,df⟩:=a;obtain rfl:df=[]:=hA.defers;clear hA hst hd;have HZ:=Hh hz;have HKB:=Hh hkb;clear hz hkb hr;go_wp2_with fail
     refine bodyPost_ret (v:=.agg #[.string ⟨(([82,69,83],[(6,0,y),(o0,o1,o2)])).1.toArray⟩,.slice z1 z2 z3]) (by simp[results,results85,go_sem, *]) rfl ?_;exact⟨_,rfl,iF (i:=([82,69,83],[(6,0,y),(o0,o1,o2)])) om HZ.out HBW.out sm HKB.out⟩
 · refine bN kr (w.heap.size+1) 5 c3D (fun i v W=>(c3P (w.heap.size+1) y o0 o1 o2 i).holds W0.heap.size v W) (Out c3K _) (fun i v v1 v2 hi h hk=>D9.kb (Qa (w.heap.size+1) y o0 o1 o2 i hi) h HRB.out hk) (fun v v1 v2 h hb=>D9.stored_below (B:=W0.heap.size) (r:=(w.heap.size+1)) (i:=([83,69,84],[(6,0,y),(o0,o1,o2)])) h hb) (Out.refl _ _) (fun i v a hi hne hA=>hA.put _ v (Wf i hi hne).1 (Wf i hi hne).2) (fun i j hi hj=>Zg i hi j hj) ?_ (gQ kr) ?_
   · intro i hi;have hi:i<6:=hi;rcases (by omega:i=0∨i=1∨i=2∨i=3∨i=4∨i=5) with rfl|rfl|rfl|rfl|rfl|rfl
     · exact vU
     · refine⟨_,[0],rfl,rfl,(fun j hj=>by obtain rfl:=List.mem_singleton.1 hj;exact⟨dc,⟨0,.data⟩,by simp,rfl,rfl⟩),?_⟩;intro R a W hA hk hbw hd hv hs;have e1:a.tmps[35]?.getD undef=_:=(aJ a 35).symm.trans (hd 0 sm);go_simp;(with_reducible refine (fF y _).mono ?_);rintro e w' ⟨rfl,hb⟩;exact hv dc _ _ hb rfl
     · exact vV
     · refine⟨_,[1,2],rfl,rfl,(fun j hj=>by simp only[List.mem_cons,List.not_mem_nil,or_false] at hj;rcases hj with rfl|rfl;exact⟨dc,⟨1,.data⟩,by simp,rfl,rfl⟩;exact⟨dc,⟨2,.data⟩,by simp,rfl,rfl⟩),?_⟩;intro R a W hA hk hbw hd hv hs;have e1:a.tmps[36]?.getD undef=_:=(aJ a 36).symm.trans (hd 1 sm);have e2:a.tmps[37]?.getD undef=_:=(aJ a 37).symm.trans (hd 2 sm);go_simp;(with_reducible refine (iE (6,0,y) (o0,o1,o2) _ W0.heap.size hk.size).mono ?_);rintro e w' ⟨v,rfl,hr,hb⟩;exact hv dc _ _ hb hr
     · refine⟨_,[3],rfl,rfl,(fun j hj=>by obtain rfl:=List.mem_singleton.1 hj;exact⟨dc,⟨3,.data⟩,by simp,rfl,rfl⟩),?_⟩;intro R a W hA hk hbw hd hv hs;obtain⟨u1,hu1⟩:∃ u,a.tmps.getD 38 undef=u:=⟨_,rfl⟩;have q1:RowV W0.heap.size [(6,0,y),(o0,o1,o2)] u1 W:=hu1 ▸ hd 3 sm;have e1:=(aJ a 38).symm.trans hu1;go_simp;(with_reducible refine (dX [83,69,84] [(6,0,y),(o0,o1,o2)] u1 W0.heap.size _ (RowN.of q1)).mono ?_);rintro e w' ⟨v,rfl,hr,hb⟩;exact hv dc _ _ hb hr
     · refine⟨_,[4],rfl,rfl,(fun j hj=>by obtain rfl:=List.mem_singleton.1 hj;exact⟨dc,⟨4,.data⟩,by simp,rfl,rfl⟩),?_⟩;intro R a W hA hk hbw hd hv hs;obtain⟨u1,hu1⟩:∃ u,a.tmps.getD 39 undef=u:=⟨_,rfl⟩;have q1:(D9.ins ([83,69,84],[(6,0,y),(o0,o1,o2)])).holds W0.heap.size u1 W:=hu1 ▸ hd 4 sm;have e1:=(aJ a 39).symm.trans hu1;obtain⟨z,hz,q1⟩:=q1;subst hz;obtain⟨z1,z2,z3,rfl⟩:=q1.slice;have hr:=aB HB0.out (hbw rfl) (aA HB0.out);have c0:=aC hr 0;have c1:=aC hr 1;have f0:=aH hr 0;have f1:=aH hr 1;have hlt:=aA hr;have e4:=hA.get (k:=4) (by rfl) (by rfl);go_simp;have hkk:=fun x y=>Kb.setCell (Kb.setCell (Kb.refl (w.heap.size+1) W) 0 x) 1 y;exact hs rfl _ (hkk _ _) ⟨_,aG (aG hr),q1.kb HRB.out (hkk _ _)⟩
   · intro a W1 hA hkb _ hd hst;obtain⟨u,hr,hz⟩:(D9.stored (w.heap.size+1) ([83,69,84],[(6,0,y),(o0,o1,o2)])).holds W0.heap.size undef W1:=hst dc;obtain⟨z1,z2,z3,rfl⟩:=hz.slice;have e4:=hA.get (k:=4) (by rfl) (by rfl);have c0:=aC hr 0;have c1:=aC hr 1;obtain⟨ts,df⟩:=a;obtain rfl:df=[]:=hA.defers;clear hA hst hd;have HZ:=Hh hz;have HKB:=Hh hkb;clear hz hkb hr;go_wp2_with fail
     refine bodyPost_ret (v:=.agg #[.string ⟨(([83,69,84],[(6,0,y),(o0,o1,o2)])).1.toArray⟩,.slice z1 z2 z3]) (by simp[results,results85,go_sem, *]) rfl ?_;exact⟨_,rfl,iF (i:=([83,69,84],[(6,0,y),(o0,o1,o2)])) om HZ.out HBW.out sm HKB.out⟩
theorem aAO (op y o0 o1 o2:Int) (nm:List UInt8) (hj:y=0∧nm=[82,76,67]∨y=1∧nm=[82,82,67]∨y=2∧nm=[82,76]∨y=3∧nm=[82,82]∨y=4∧nm=[83,76,65]∨y=5∧nm=[83,82,65]∨y=6∧nm=[83,76,76]∨y=7∧nm=[83,82,76]) (hb0:0≤op) (hb1:op≤255) (hx:op/64=0) (hy:op/8%8=y) (hy0:0≤y) (hy7:y≤7) (w:World):Calls prog 85 #[.int .u8 op,opV (o0,o1,o2)] w (dU (nm,[(o0,o1,o2)]) w) :=
 Fg op 0 y o0 o1 o2 _ hb0 hb1 hx hy hy0 hy7 (.inl ⟨nm,rfl,Hh hj,rfl⟩) w
theorem aAN (op y o0 o1 o2:Int) (hb0:0≤op) (hb1:op≤255) (hx:op/64=1) (hy:op/8%8=y) (hy0:0≤y) (hy7:y≤7) (w:World):Calls prog 85 #[.int .u8 op,opV (o0,o1,o2)] w (dU ([66,73,84],[(6,0,y),(o0,o1,o2)]) w) :=
 Fg op 1 y o0 o1 o2 _ hb0 hb1 hx hy hy0 hy7 (.inr (.inl ⟨rfl,rfl⟩)) w
theorem aAM (op y o0 o1 o2:Int) (hb0:0≤op) (hb1:op≤255) (hx:op/64=2) (hy:op/8%8=y) (hy0:0≤y) (hy7:y≤7) (w:World):Calls prog 85 #[.int .u8 op,opV (o0,o1,o2)] w (dU ([82,69,83],[(6,0,y),(o0,o1,o2)]) w) :=
 Fg op 2 y o0 o1 o2 _ hb0 hb1 hx hy hy0 hy7 (.inr (.inr (.inl ⟨rfl,rfl⟩))) w
theorem aAL (op y o0 o1 o2:Int) (hb0:0≤op) (hb1:op≤255) (hx:op/64=3) (hy:op/8%8=y) (hy0:0≤y) (hy7:y≤7) (w:World):Calls prog 85 #[.int .u8 op,opV (o0,o1,o2)] w (dU ([83,69,84],[(6,0,y),(o0,o1,o2)]) w) :=
 Fg op 3 y o0 o1 o2 _ hb0 hb1 hx hy hy0 hy7 (.inr (.inr (.inr ⟨rfl,rfl⟩))) w
theorem qW (n:Nat):dO n=cV n:=by
 unfold dO cV;split
 · rename_i h;obtain rfl:n=6:=om
   rfl
 · rename_i h;split
   · exact absurd rfl h
   · rfl
theorem Fh (op:Nat) (hop:op<256) (o:Op3) (w:World):Calls prog 85 #[.int .u8 op,opV o] w (dU (wC op o) w):=by
 obtain⟨o0,o1,o2⟩:=o;have hy:(op:Int)/8%8=((op/8%8:Nat):Int):=om
 unfold wC;dsimp only;by_cases h0:op/64=0
 · rw[if_pos h0];have hx:(op:Int)/64=0:=om
   have hy7:op/8%8<8:=Nat.mod_lt _ dc;generalize op/8%8=y at hy hy7;rcases (by omega:y=0∨y=1∨y=2∨y=3∨y=4∨y=5∨y=6∨y=7) with rfl|rfl|rfl|rfl|rfl|rfl|rfl|rfl;all_goals exact aAO op _ o0 o1 o2 _ dc om om hx hy dc dc w
 · rw[if_neg h0];by_cases h1:op/64=1
   · rw[if_pos h1];exact aAN op _ o0 o1 o2 om om om hy om om w
   · rw[if_neg h1];by_cases h2:op/64=2
     · rw[if_pos h2];exact aAM op _ o0 o1 o2 om om om hy om om w
     · rw[if_neg h2];exact aAL op _ o0 o1 o2 om om om hy om om w
theorem Ry {r B base:Nat} {T:TypeId} {sz:Nat} {v:Value} {n:Nat} {xs:List Value} {w w':World} (h:w.ownsRow B T sz v n xs) (hr:r<B) (hb:base≤B) (hk:Kb r w w'):w'.ownsRow base T sz v n xs:=by
 obtain⟨h1,h2⟩:=h;refine⟨h1,?_⟩;rcases h2 with h2|⟨g,cap,cur,hv,hg,hh,q⟩
 · exact .inl h2
 · exact .inr ⟨g,cap,cur,hv,om,(hk.block g (aA hh) om).trans hh,q⟩
theorem bZ {B b i:Nat} {T:TypeId} {sz:Nat} {v u:Value} {n:Nat} {xs:List Value} {w:World} (h:w.ownsRow B T sz v n xs) (hb:b<B):(w.setCell ⟨b,i,none⟩ u).ownsRow B T sz v n xs:=Ry h hb lr ((Kb.refl b w).setCell i u)
theorem dF {B base:Nat} {T:TypeId} {sz:Nat} {v:Value} {n:Nat} {xs:List Value} {w:World} (h:w.ownsRow B T sz v n xs) (hb:base≤B):w.ownsRow base T sz v n xs:=by
 obtain⟨h1,h2⟩:=h;refine⟨h1,?_⟩;rcases h2 with h2|⟨g,cap,cur,hv,hg,hh,q⟩
 · exact .inl h2
 · exact .inr ⟨g,cap,cur,hv,om,hh,q⟩
theorem bB {W:World} {b:Nat} {x0 x1 x2 x3 x4 x5:Value} {T:TypeId} (h:W.heap[b]? = some (.cells #[x0,x1,x2,x3,x4,x5] T (0,0))) :
 (W.cell? ⟨b,0,none⟩=some x0∧W.cell? ⟨b,1,none⟩=some x1∧W.cell? ⟨b,2,none⟩=some x2∧W.cell? ⟨b,3,none⟩=some x3∧W.cell? ⟨b,4,none⟩=some x4∧W.cell? ⟨b,5,none⟩=some x5) ∧
 (W.frozen? ⟨b,0,none⟩=false∧W.frozen? ⟨b,1,none⟩=false∧W.frozen? ⟨b,2,none⟩=false∧W.frozen? ⟨b,3,none⟩=false∧W.frozen? ⟨b,4,none⟩=false∧W.frozen? ⟨b,5,none⟩=false) :=
 ⟨⟨aC h 0,aC h 1,aC h 2,aC h 3,aC h 4,aC h 5⟩,⟨aH h 0,aH h 1,aH h 2,aH h 3,aH h 4,aH h 5⟩⟩
theorem Kq {p:Prop} (h:p:=by
 rw[←hW0]
 have:=aF (w.alloc (.cells #[.int .i64 0,.int .u8 0,.string ⟨#[]⟩,.slice none 0 0,.string ⟨#[]⟩,.bool false] 107)) (.cells #[.int .i64 page,.int .u8 op,.string ⟨#[]⟩,.slice none 0 0,.string ⟨#[100]⟩,.bool false] 107)
 rwa [World.size_alloc] at this):p:=h
theorem Ko {p:Prop} (h:p:=by
 have hr:=HR1.out;refine dF (B:=W0.heap.size) ?_ om;with_reducible repeat (refine bZ ?_ (by first|exact hr|(show w.heap.size<W0.heap.size;omega)))
 exact HO.out):p:=h
theorem Kn {p:Prop} (h:p:=by
 have hb9:=HB3.out;with_reducible repeat (refine Below.setCell ?_ (by first|exact Nat.le_refl _|exact Nat.le_succ _) _)
 exact hb9):p:=h
theorem Ug (page op X z:Int) (i:aY) (hcb:∀ W,Calls prog 85 #[.int .u8 op,opV (5,page,0)] W (dU i W)) (hb0:0≤op) (hb1:op≤255) (_hx:op/64=X) (hz:op%8=z) (e1:(z == 6)=true) (w:World):Calls prog 89 #[.int .i64 page,.int .u8 op] w (fun e w'=>∃ v,e=.returned (.agg #[.int .i64 page,.int .u8 op,.string ⟨i.1.toArray⟩,v,.string ⟨#[100]⟩,.bool false])∧w'.ownsRow w.heap.size 144 3 v (i.2).length (opc (i.2))∧Below w.heap.size w w'):=by
 have HCB:=Hh hcb;clear hcb;go_enter func89,ntmps89
 go_wp2_with fail
 generalize hW0:((w.alloc _).alloc _)=W0;have h0:W0.heap[w.heap.size]? = some (.cells #[.int .i64 0,.int .u8 0,.string ⟨#[]⟩,.slice none 0 0,.string ⟨#[]⟩,.bool false] 107 (0,0)):=by rw[←hW0];exact aE (aF _ _)
 have h1:W0.heap[w.heap.size+1]? = some (.cells #[.int .i64 page,.int .u8 op,.string ⟨#[]⟩,.slice none 0 0,.string ⟨#[100]⟩,.bool false] 107 (0,0)):=by
  exact Kq
 have HBW:=Hh (show Below w.heap.size w W0 by rw[←hW0];exact aQ (aQ br))
 have H0:=Hh h0;have H1:=Hh h1;clear hW0 h0 h1;(with_reducible refine (HCB.out _).mono ?_);rintro e w3 ⟨v,rfl,ho⟩;obtain⟨a,n,c,rfl⟩:=ho.slice;have h0:=aB H0.out ho.2.2 (aA H0.out);have h1:=aB H1.out ho.2.2 (aA H1.out);have HO:=Hh ho.1;have HB3:=Hh (HBW.out.trans (ho.2.2.mono HBW.out.size));obtain⟨⟨p0,p1,p2,p3,p4,p5⟩,f0,f1,f2,f3,f4,f5⟩:=bB h0;obtain⟨⟨q0,q1,q2,q3,q4,q5⟩,g0,g1,g2,g3,g4,g5⟩:=bB h1;have hl0:=aA h0;have hl1:=aA h1;have HR1:=Hh (aA H1.out);clear ho h0 h1;go_wp2_with fail
 refine bodyPost_ret (v:=.agg #[.int .i64 page,.int .u8 op,.string ⟨i.1.toArray⟩,.slice a n c,.string ⟨#[100]⟩,.bool false]) (by simp[results,results89,go_sem,p0,p1,p2,p3,p4,p5]) rfl ⟨_,rfl,?_,?_⟩
 · exact Ko
 · exact Kn
theorem Uf (page op X z:Int) (i:aY) (hcb:∀ W,Calls prog 85 #[.int .u8 op,opV (5,page,0)] W (dU i W)) (hb0:0≤op) (hb1:op≤255) (hx:op/64=X) (hz:op%8=z) (e1:(z == 6)=false) (e2:(X == 1)=true) (w:World):Calls prog 89 #[.int .i64 page,.int .u8 op] w (fun e w'=>∃ v,e=.returned (.agg #[.int .i64 page,.int .u8 op,.string ⟨i.1.toArray⟩,v,.string ⟨#[100]⟩,.bool true])∧w'.ownsRow w.heap.size 144 3 v (i.2).length (opc (i.2))∧Below w.heap.size w w'):=by
 have HCB:=Hh hcb;clear hcb;go_enter func89,ntmps89
 go_wp2_with fail
 generalize hW0:((w.alloc _).alloc _)=W0;have h0:W0.heap[w.heap.size]? = some (.cells #[.int .i64 0,.int .u8 0,.string ⟨#[]⟩,.slice none 0 0,.string ⟨#[]⟩,.bool false] 107 (0,0)):=by rw[←hW0];exact aE (aF _ _)
 have h1:W0.heap[w.heap.size+1]? = some (.cells #[.int .i64 page,.int .u8 op,.string ⟨#[]⟩,.slice none 0 0,.string ⟨#[100]⟩,.bool false] 107 (0,0)):=by
  exact Kq
 have HBW:=Hh (show Below w.heap.size w W0 by rw[←hW0];exact aQ (aQ br))
 have H0:=Hh h0;have H1:=Hh h1;clear hW0 h0 h1;(with_reducible refine (HCB.out _).mono ?_);rintro e w3 ⟨v,rfl,ho⟩;obtain⟨a,n,c,rfl⟩:=ho.slice;have h0:=aB H0.out ho.2.2 (aA H0.out);have h1:=aB H1.out ho.2.2 (aA H1.out);have HO:=Hh ho.1;have HB3:=Hh (HBW.out.trans (ho.2.2.mono HBW.out.size));obtain⟨⟨p0,p1,p2,p3,p4,p5⟩,f0,f1,f2,f3,f4,f5⟩:=bB h0;obtain⟨⟨q0,q1,q2,q3,q4,q5⟩,g0,g1,g2,g3,g4,g5⟩:=bB h1;have hl0:=aA h0;have hl1:=aA h1;have HR1:=Hh (aA H1.out);clear ho h0 h1;go_wp2_with fail
 refine bodyPost_ret (v:=.agg #[.int .i64 page,.int .u8 op,.string ⟨i.1.toArray⟩,.slice a n c,.string ⟨#[100]⟩,.bool true]) (by simp[results,results89,go_sem,p0,p1,p2,p3,p4,p5]) rfl ⟨_,rfl,?_,?_⟩
 · exact Ko
 · exact Kn
theorem Rz {w:World} {B:Nat} {T:TypeId} {sz:Nat} {v:Value} {n:Nat} {xs:List Value} (h:w.ownsRow B T sz v n xs) (x:Obj):((w.alloc x).drew).ownsRow B T sz v n xs:=by
 obtain⟨h1,h2⟩:=h;refine⟨h1,?_⟩;rcases h2 with h2|⟨g,cap,cur,hv,hg,hh,q⟩
 · exact .inl h2
 · exact .inr ⟨g,cap,cur,hv,hg,aE hh,q⟩
theorem dG {w w':World} {B:Nat} {T:TypeId} {sz:Nat} {v:Value} {n:Nat} {xs:List Value} (h:w.ownsRow B T sz v n xs) (hb:Below w.heap.size w w'):w'.ownsRow B T sz v n xs:=by
 obtain⟨h1,h2⟩:=h;refine⟨h1,?_⟩;rcases h2 with h2|⟨g,cap,cur,hv,hg,hh,q⟩
 · exact .inl h2
 · exact .inr ⟨g,cap,cur,hv,hg,aB hh hb (aA hh),q⟩
theorem Wy {w:World} {g:Nat} {o:Op3} {T:TypeId} (h:w.heap[g]? = some (.cells (opc [o]).toArray T (0,0))):∀ (j:Nat) (u:Value),(opc [o])[j]? = some u→w.cell? ((⟨g,0,none⟩:Addr).add j)=some u:=fun j u hu=>Xa (x:=.int .i64 o.1) (y:=.int .i64 o.2.1) (z:=.int .i64 o.2.2) h j u hu
theorem Zk {w W0 W1 w4:World} {v:Value} {n:Nat} {l:List Op3} {o:Op3} {C0 C1:Array Value} {T:TypeId} (how:W1.ownsRow W0.heap.size 144 3 v n (opc l)) (hsz:W0.heap.size≤W1.heap.size) (hq0:W1.heap[w.heap.size]? = some (.cells C0 T (0,0))) (hq1:W1.heap[w.heap.size+1]? = some (.cells C1 T (0,0))) (hbw:Below w.heap.size w W1) (hb4:Below W1.drew.heap.size W1.drew w4) (WA:World) (hWA:w4.alloc (opO o)=WA) :
 WA.ownsRow W0.heap.size 144 3 v n (opc l)∧(∀ (j:Nat) (u:Value),(opc [o])[j]? = some u→WA.cell? ((⟨w4.heap.size,0,none⟩:Addr).add j)=some u)∧W0.heap.size≤WA.heap.size∧WA.heap[w.heap.size+1]? = some (.cells C1 T (0,0))∧WA.heap[w.heap.size]? = some (.cells C0 T (0,0))∧Below w.heap.size w WA∧(∀ k,v.ownBlock=some k→W0.heap.size≤k)∧w4.heap[w.heap.size+1]? = some (.cells C1 T (0,0)):=by
 have hb:=aAP hb4;have ho4:=dG how hb;have h1:=aB hq1 hb (aA hq1);have h0:=aB hq0 hb (aA hq0);have hs:=hb.size;subst hWA;refine⟨Rz ho4 _,Wy (T:=144) (aF w4 (opO o)),?_,aE h1,aE h0,aQ (hbw.trans (hb.mono hbw.size)),fun k hk=>(how.lt k hk).1,h1⟩;show W0.heap.size≤(w4.alloc _).heap.size
 rw[World.size_alloc];omega
theorem Zl {w W0 WA w5:World} {own:Option Nat} {C0 C1:Array Value} {T:TypeId} (hg:WA.grownBy w5 own) (hq1:WA.heap[w.heap.size+1]? = some (.cells C1 T (0,0))) (hq0:WA.heap[w.heap.size]? = some (.cells C0 T (0,0))) (hb:Below w.heap.size w WA) (hob:∀ k,own=some k→W0.heap.size≤k) (hr:w.heap.size+1<W0.heap.size) :
 w5.heap[w.heap.size+1]? = some (.cells C1 T (0,0))∧w5.heap[w.heap.size]? = some (.cells C0 T (0,0))∧Below w.heap.size w w5:=by
 refine⟨(hg.block _ (aA hq1) (fun e=>?_)).trans hq1,(hg.block _ (aA hq0) (fun e=>?_)).trans hq0,Below.grown hb hg (Nat.le_of_lt (aA hq0)) fun q hq=>?_⟩
 · have:=hob _ e.symm;omega
 · have:=hob _ e.symm;omega
 · have:=hob _ hq;omega
theorem Ue (page op X z:Int) (i:aY) (hcb:∀ W,Calls prog 85 #[.int .u8 op,opV (5,page,0)] W (dU i W)) (hb0:0≤op) (hb1:op≤255) (hx:op/64=X) (hz:op%8=z) (e1:(z == 6)=false) (e2:(X == 1)=false) (_hz0:0≤z) (_hz7:z≤7) (hil:i.2.length≤10) (w:World):Calls prog 89 #[.int .i64 page,.int .u8 op] w (fun e w'=>∃ v,e=.returned (.agg #[.int .i64 page,.int .u8 op,.string ⟨i.1.toArray⟩,v,.string ⟨#[100]⟩,.bool false])∧w'.ownsRow w.heap.size 144 3 v (i.2++[dO z]).length (opc (i.2++[dO z]))∧Below w.heap.size w w'):=by
 obtain⟨i0,hi,hzz0,hzz1,hzz2⟩:=info_parts Tryz.infoOperand;have HCB:=Hh hcb;clear hcb;go_enter func89,ntmps89
 go_wp2_with fail
 generalize hW0:((w.alloc _).alloc _)=W0;have h0:W0.heap[w.heap.size]? = some (.cells #[.int .i64 0,.int .u8 0,.string ⟨#[]⟩,.slice none 0 0,.string ⟨#[]⟩,.bool false] 107 (0,0)):=by rw[←hW0];exact aE (aF _ _)
 have h1:W0.heap[w.heap.size+1]? = some (.cells #[.int .i64 page,.int .u8 op,.string ⟨#[]⟩,.slice none 0 0,.string ⟨#[100]⟩,.bool false] 107 (0,0)):=by
  rw[←hW0]
  have:=aF (w.alloc (.cells #[.int .i64 0,.int .u8 0,.string ⟨#[]⟩,.slice none 0 0,.string ⟨#[]⟩,.bool false] 107)) (.cells #[.int .i64 page,.int .u8 op,.string ⟨#[]⟩,.slice none 0 0,.string ⟨#[100]⟩,.bool false] 107)
  rwa [World.size_alloc] at this
 have HBW:=Hh (show Below w.heap.size w W0 by rw[←hW0];exact aQ (aQ br))
 have H0:=Hh h0;have H1:=Hh h1;clear hW0 h0 h1;(with_reducible refine (HCB.out _).mono ?_);rintro e w3 ⟨v,rfl,ho⟩;obtain⟨a,n,c,rfl⟩:=ho.slice;have h0:=aB H0.out ho.2.2 (aA H0.out);have h1:=aB H1.out ho.2.2 (aA H1.out);have HO:=Hh ho.1;have HB3:=Hh (HBW.out.trans (ho.2.2.mono HBW.out.size));obtain⟨⟨p0,p1,p2,p3,p4,p5⟩,f0,f1,f2,f3,f4,f5⟩:=bB h0;obtain⟨⟨q0,q1,q2,q3,q4,q5⟩,g0,g1,g2,g3,g4,g5⟩:=bB h1;have hl0:=aA h0;have hl1:=aA h1;have HR1:=Hh (aA H1.out);have HSW:=Hh ho.2.2.size;have HQ0:=Hh h0;have HQ1:=Hh h1;clear ho h0 h1;go_wp2_with fail
 clear p0 p1 p2 p3 p4 p5 q0 q1 q2 q3 q4 q5 f0 f1 f2 f3 f4 f5 g0 g1 g2 g3 g4 g5 hl0 hl1;generalize hW1:((w3.setCell _ _).setCell _ _)=W1;have hs1:W1.heap[w.heap.size+1]? = some (.cells #[.int .i64 page,.int .u8 op,.string ⟨i.1.toArray⟩,.slice a n c,.string ⟨#[100]⟩,.bool false] 107 (0,0)):=by rw[←hW1];exact aG (aG HQ1.out)
 have hs0:W1.heap[w.heap.size]? = some (.cells #[.int .i64 0,.int .u8 0,.string ⟨#[]⟩,.slice none 0 0,.string ⟨#[]⟩,.bool false] 107 (0,0)):=by rw[←hW1];exact aD (aD HQ0.out om) om
 have HOW:=Hh (show W1.ownsRow W0.heap.size 144 3 (.slice a n c) i.2.length (opc i.2) by rw[←hW1];exact bZ (bZ HO.out HR1.out) HR1.out)
 have HBW1:=Hh (show Below w.heap.size w W1 by rw[←hW1];exact (HB3.out.setCell (Nat.le_succ _) _).setCell (Nat.le_succ _) _)
 have HSZ:=Hh (show W0.heap.size≤W1.heap.size by rw[←hW1,setCell_size,setCell_size];exact HSW.out);have hn:n=i.2.length:=by
  rcases HOW.out.2 with⟨h1,h2⟩|⟨g,cap,cur,hv,_⟩
  · cases h1;exact h2.symm
  · cases hv;rfl
 clear hW1 HQ0 HQ1 HO HB3;have q3:=aC hs1 3;have hl1:=aA hs1;have HQ1:=Hh hs1;have HQ0:=Hh hs0;clear hs1 hs0;have HONE:=Hh (show ∀ u∈opc [dO z],u.oneCell'=true from fun u hu=>by simp[opc] at hu;rcases hu with rfl|rfl|rfl<;>rfl);have HN:=Hh hn;clear hn;have hwz:IntKind.i64.wrap (op.tmod 8)=z:=by rw[Int.tmod_eq_emod_of_nonneg hb0,hz];exact IntWalk.i64_in z om
 go_region_law (first
  | (go_simp;go_at_call 86;((with_reducible refine (r9i _ z (by first|exact hwz|omega) _).mono ?_);rintro e w4 ⟨rfl,hb4⟩;obtain⟨x1,x2,x3,x4,x5,x6,x7,x8⟩:=Zk (o:=dO z) HOW.out HSZ.out HQ0.out HQ1.out HBW1.out hb4 _ rfl;have q34:=aC x8 3;have hl4:=aA x8;have HOA:=Hh x1;have HSA:=Hh x2;have HZA:=Hh x3;have HQA:=Hh x4;have HQA0:=Hh x5;have HBA:=Hh x6;have HOB:=Hh x7;clear hb4 x1 x2 x3 x4 x5 x6 x7 x8))
  | (refine aR (by rfl) _ _ 51 (by rfl) W0.heap.size 144 i0 (.agg #[.int .i64 0,.int .i64 0,.int .i64 0]) 3 24 underlying51 hi hzz0 hzz1 hzz2 rfl dc _ i.2.length (opc i.2) (by rfl) HOA.out _ 1 (opc [dO z]) (by rfl) (.inr ⟨_,1,rfl,HSA.out⟩) (by rfl) HONE.out (by unfold maxLen;omega) om HZA.out ?_;intro v5 w5 hown5 hgrow5 hnil5;obtain⟨a5,c5,rfl⟩:=aI hown5;obtain⟨hq5,hq05,hb5⟩:=Zl hgrow5 HQA.out HQA0.out HBA.out HOB.out HR1.out;have q35:=aC hq5 3;have g35:=aH hq5 3;have hl5:=aA hq5;have HQ5:=Hh hq5;have HQ05:=Hh hq05;have HO5:=Hh hown5;have HB5:=Hh hb5;clear hown5 hgrow5 hnil5 hq5 hq05 hb5))
 all_goals
  generalize hW6:(w5.setCell _ _)=W6;have hs1:=aG (i:=3) (v:=.slice a5 (i.2.length+1) c5) HQ5.out;have hs0:=aD (b:=w.heap.size+1) (i:=3) (v:=.slice a5 (i.2.length+1) c5) HQ05.out om;rw[hW6] at hs1 hs0;have HO6:=Hh (show W6.ownsRow W0.heap.size 144 3 (.slice a5 (i.2.length+1) c5) (i.2.length+1) (opc i.2++opc [dO z]) by rw[←hW6];exact bZ HO5.out HR1.out)
  have HB6:=Hh (show Below w.heap.size w W6 by rw[←hW6];exact HB5.out.setCell (Nat.le_succ _) _)
  obtain⟨⟨p0,p1,p2,p3,p4,p5⟩,f0,f1,f2,f3,f4,f5⟩:=bB hs0;obtain⟨⟨r0,r1,r2,r3,r4,r5⟩,g0,g1,g2,g3,g4,g5⟩:=bB (show W6.heap[w.heap.size+1]? = some (.cells #[.int .i64 page,.int .u8 op,.string ⟨i.1.toArray⟩,.slice a5 (i.2.length+1) c5,.string ⟨#[100]⟩,.bool false] 107 (0,0)) from hs1)
  have hl0:=aA hs0;have hl6:=aA hs1;clear hW6 hs0 hs1 q3 q34 q35 g35 hl1 hl4 hl5;go_wp2_with fail
  refine bodyPost_ret (v:=.agg #[.int .i64 page,.int .u8 op,.string ⟨i.1.toArray⟩,.slice a5 (i.2.length+1) c5,.string ⟨#[100]⟩,.bool false]) (by simp[results,results89,go_sem,p0,p1,p2,p3,p4,p5]) rfl ⟨_,rfl,?_,?_⟩
  · have hr:=HR1.out;refine dF (B:=W0.heap.size) ?_ om;with_reducible repeat (refine bZ ?_ (by first|exact hr|(show w.heap.size<W0.heap.size;omega)))
    have h6:=HO6.out;have e:opc (i.2++[dO z])=opc i.2++opc [dO z]:=by simp[opc]
    rw[e,List.length_append];exact h6
  · have hb9:=HB6.out;with_reducible repeat (refine Below.setCell ?_ (by first|exact Nat.le_refl _|exact Nat.le_succ _) _)
    exact hb9
theorem iB (op:Nat) (hop:op<256) (w:World):Calls prog 84 #[.int .u8 op] w (aU (aZ op) w):=by
 have hy:(op:Int)/8%8=((op/8%8:Nat):Int):=om
 have hz:(op:Int)%8=((op%8:Nat):Int):=om
 have hy7:op/8%8<8:=Nat.mod_lt _ dc;have hz7:op%8<8:=Nat.mod_lt _ dc;unfold aZ;dsimp only;by_cases h0:op/64=0
 · rw[if_pos h0];exact So op _ _ om om om hy hz om om om om w
 · rw[if_neg h0];by_cases h1:op/64=1
   · rw[if_pos h1];by_cases h6:op/8%8=6∧op%8=6
     · rw[if_pos h6];exact Nk op _ _ om om om hy hz om om om om (by rw[h6.1];rfl) (by rw[h6.2];rfl) w
     · rw[if_neg h6,←qW,←qW];by_cases hy6:op/8%8=6
       · exact Nl op _ _ om om om hy hz om om om om (by rw[hy6];rfl) (by rw[beq_eq_false_iff_ne];omega) w
       · exact Nm op _ _ om om om hy hz om om om om (by rw[beq_eq_false_iff_ne];omega) w
   · rw[if_neg h1];by_cases h2:op/64=2
     · rw[if_pos h2,←qW];exact Sn op _ _ om om om hy hz om om om om w
     · rw[if_neg h2];exact Sm op _ _ om om om hy hz om om om om w
theorem Fd (op:Nat) (hop:op<256) (w:World):Calls prog 87 #[.int .u8 op] w (cQ (nB op) w):=by
 have hy:(op:Int)/8%8=((op/8%8:Nat):Int):=om
 have hz:(op:Int)%8=((op%8:Nat):Int):=om
 have hx:(op:Int)/64=((op/64:Nat):Int):=om
 have hy7:op/8%8<8:=Nat.mod_lt _ dc;have hz7:op%8<8:=Nat.mod_lt _ dc;have hb0:(0:Int)≤(op:Int):=om
 have hb1:(op:Int)≤255:=om
 unfold nB;dsimp only;generalize op/8%8=y at hy hy7;generalize op%8=z at hz hz7;generalize op/64=x at hx;by_cases hA:x=2∧z<4∧4≤y
 · rw[if_pos hA];obtain⟨rfl,h1,h2⟩:=hA;rcases (by omega:y=4∨y=5∨y=6∨y=7) with rfl|rfl|rfl|rfl <;>
   rcases (by omega:z=0∨z=1∨z=2∨z=3) with rfl|rfl|rfl|rfl;all_goals exact aAI op _ _ _ hb0 hb1 hx hy hz dc w
 · rw[if_neg hA];by_cases h1:x≠1
   · rw[if_pos h1];by_cases h2:x=2
     · subst h2;by_cases h3:z<4
       · exact Yl op _ _ hb0 hb1 hx hy hz om om w
       · exact Ym op _ _ hb0 hb1 hx hy hz om w
     · exact aAH op _ _ _ hb0 hb1 hx hy hz (by rw[beq_eq_false_iff_ne];omega) (by rw[bne_iff_ne];omega) w
   · rw[if_neg h1];obtain rfl:x=1:=Decidable.of_not_not h1;rcases (by omega:z=0∨z=1∨z=2∨z=3∨z=4∨z=5∨z=6∨z=7) with rfl|rfl|rfl|rfl|rfl|rfl|rfl|rfl <;>
     rcases (by omega:y=0∨y=1∨y=2∨y=3∨y=4∨y=5∨y=6∨y=7) with rfl|rfl|rfl|rfl|rfl|rfl|rfl|rfl
     · exact tA op 0 0 hb0 hb1 hx hy hz dc dc dc dc dc dc w
     · exact tA op 1 0 hb0 hb1 hx hy hz dc dc dc dc dc dc w
     · exact tA op 2 1 hb0 hb1 hx hy hz dc dc dc dc dc dc w
     · exact tA op 3 1 hb0 hb1 hx hy hz dc dc dc dc dc dc w
     · exact tA op 4 2 hb0 hb1 hx hy hz dc dc dc dc dc dc w
     · exact tA op 5 2 hb0 hb1 hx hy hz dc dc dc dc dc dc w
     · exact Yz op 6 3 hb0 hb1 hx hy hz dc dc dc dc dc dc w
     · exact tA op 7 3 hb0 hb1 hx hy hz dc dc dc dc dc dc w
     · exact sZ op 0 0 hb0 hb1 hx hy hz dc dc dc dc dc dc w
     · exact sZ op 1 0 hb0 hb1 hx hy hz dc dc dc dc dc dc w
     · exact sZ op 2 1 hb0 hb1 hx hy hz dc dc dc dc dc dc w
     · exact sZ op 3 1 hb0 hb1 hx hy hz dc dc dc dc dc dc w
     · exact sZ op 4 2 hb0 hb1 hx hy hz dc dc dc dc dc dc w
     · exact sZ op 5 2 hb0 hb1 hx hy hz dc dc dc dc dc dc w
     · exact Yy op 6 3 hb0 hb1 hx hy hz dc dc dc dc dc dc w
     · exact sZ op 7 3 hb0 hb1 hx hy hz dc dc dc dc dc dc w
     · exact qJ op 0 0 0 [83,66,67] dc hb0 hb1 hx hy hz dc dc dc dc dc dc w
     · exact qJ op 1 0 1 [65,68,67] dc hb0 hb1 hx hy hz dc dc dc dc dc dc w
     · exact qJ op 2 1 0 [83,66,67] dc hb0 hb1 hx hy hz dc dc dc dc dc dc w
     · exact qJ op 3 1 1 [65,68,67] dc hb0 hb1 hx hy hz dc dc dc dc dc dc w
     · exact qJ op 4 2 0 [83,66,67] dc hb0 hb1 hx hy hz dc dc dc dc dc dc w
     · exact qJ op 5 2 1 [65,68,67] dc hb0 hb1 hx hy hz dc dc dc dc dc dc w
     · exact qJ op 6 3 0 [83,66,67] dc hb0 hb1 hx hy hz dc dc dc dc dc dc w
     · exact qJ op 7 3 1 [65,68,67] dc hb0 hb1 hx hy hz dc dc dc dc dc dc w
     · exact wY op 0 0 false hb0 hb1 hx hy hz dc dc dc dc dc dc dc w
     · exact wX op 1 0 false hb0 hb1 hx hy hz dc dc dc dc dc dc dc w
     · exact wY op 2 1 false hb0 hb1 hx hy hz dc dc dc dc dc dc dc w
     · exact wX op 3 1 false hb0 hb1 hx hy hz dc dc dc dc dc dc dc w
     · exact wY op 4 2 true hb0 hb1 hx hy hz dc dc dc dc dc dc dc w
     · exact wX op 5 2 true hb0 hb1 hx hy hz dc dc dc dc dc dc dc w
     · exact wY op 6 3 false hb0 hb1 hx hy hz dc dc dc dc dc dc dc w
     · exact wX op 7 3 false hb0 hb1 hx hy hz dc dc dc dc dc dc dc w
     · exact Yx op 0 0 hb0 hb1 hx hy hz dc dc dc dc dc dc w
     · exact nI op 1 0 hb0 hb1 hx hy hz dc dc dc dc dc dc w
     · exact nI op 2 1 hb0 hb1 hx hy hz dc dc dc dc dc dc w
     · exact nI op 3 1 hb0 hb1 hx hy hz dc dc dc dc dc dc w
     · exact nI op 4 2 hb0 hb1 hx hy hz dc dc dc dc dc dc w
     · exact nI op 5 2 hb0 hb1 hx hy hz dc dc dc dc dc dc w
     · exact nI op 6 3 hb0 hb1 hx hy hz dc dc dc dc dc dc w
     · exact nI op 7 3 hb0 hb1 hx hy hz dc dc dc dc dc dc w
     · exact Yw op 0 0 hb0 hb1 hx hy hz dc dc dc dc dc dc dc w
     · exact Yv op 1 0 hb0 hb1 hx hy hz dc dc dc dc dc dc w
     · exact pP op 2 1 hb0 hb1 hx hy hz dc dc dc dc dc dc dc w
     · exact pP op 3 1 hb0 hb1 hx hy hz dc dc dc dc dc dc dc w
     · exact pP op 4 2 hb0 hb1 hx hy hz dc dc dc dc dc dc dc w
     · exact pP op 5 2 hb0 hb1 hx hy hz dc dc dc dc dc dc dc w
     · exact pP op 6 3 hb0 hb1 hx hy hz dc dc dc dc dc dc dc w
     · exact pP op 7 3 hb0 hb1 hx hy hz dc dc dc dc dc dc dc w
     · exact Yu op hb0 hb1 hx hy hz w
     · exact Yt op hb0 hb1 hx hy hz w
     · exact Ys op hb0 hb1 hx hy hz w
     · exact Yr op hb0 hb1 hx hy hz w
     · exact Yq op hb0 hb1 hx hy hz w
     · exact Yp op hb0 hb1 hx hy hz w
     · exact Yo op hb0 hb1 hx hy hz w
     · exact Yn op hb0 hb1 hx hy hz w
     · exact qI op 0 0 hb0 hb1 hx hy hz dc dc dc dc dc dc w
     · exact qI op 1 0 hb0 hb1 hx hy hz dc dc dc dc dc dc w
     · exact qI op 2 1 hb0 hb1 hx hy hz dc dc dc dc dc dc w
     · exact qI op 3 1 hb0 hb1 hx hy hz dc dc dc dc dc dc w
     · exact qI op 4 2 hb0 hb1 hx hy hz dc dc dc dc dc dc w
     · exact qI op 5 2 hb0 hb1 hx hy hz dc dc dc dc dc dc w
     · exact qI op 6 3 hb0 hb1 hx hy hz dc dc dc dc dc dc w
     · exact qI op 7 3 hb0 hb1 hx hy hz dc dc dc dc dc dc w
theorem vP (page op:Nat) (hop:op<256) (w:World):Calls prog 89 #[.int .i64 page,.int .u8 op] w fun e w'=>∃ v,e=.returned (cP (nC page op) v)∧w'.ownsRow w.heap.size 144 3 v (nC page op).args.length (opc (nC page op).args)∧Below w.heap.size w w':=by
 have hcb:=fun W=>Fh op hop (5,page,0) W;have hz:(op:Int)%8=((op%8:Nat):Int):=om
 have hx:(op:Int)/64=((op/64:Nat):Int):=om
 have hz7:op%8<8:=Nat.mod_lt _ dc;have hil:(wC op (5,page,0)).2.length≤10:=by
  unfold wC;dsimp only
  repeat' split
  all_goals simp
 unfold nC;dsimp only;by_cases h6:op%8=6
 · rw[if_pos h6];exact Ug page op _ _ _ hcb om om hx hz (by rw[h6];rfl) w
 · rw[if_neg h6];by_cases h1:op/64=1
   · rw[if_pos h1];exact Uf page op _ _ _ hcb om om hx hz (by rw[beq_eq_false_iff_ne];omega) (by rw[h1];rfl) w
   · rw[if_neg h1,←qW];exact Ue page op _ _ _ hcb om om hx hz (by rw[beq_eq_false_iff_ne];omega) (by rw[beq_eq_false_iff_ne];omega) om om hil w
def pY (x:Option Ent × Nat) (w:World) (e:Ending) (w':World):Prop:=∃ v,e=.returned (.tuple #[cP (x.1.getD ent0) v,.int .i64 x.2])∧w'.ownsRow w.heap.size 144 3 v (x.1.getD ent0).args.length (opc (x.1.getD ent0).args)∧Below w.heap.size w w'
theorem kV {p:Prop} (h:p:=by
 have hb9:=HB3.out;with_reducible repeat (refine Below.setCell ?_ (by first|exact Nat.le_refl _|exact Nat.le_succ _) _)
 exact hb9):p:=h
theorem rQ {p:Prop} (h:p:=by
 have hr:=HR1.out;refine dF (B:=W0.heap.size) ?_ om;with_reducible repeat (refine bZ ?_ (by first|exact hr|(show w.heap.size<W0.heap.size;omega)))
 exact HO.out):p:=h
theorem Km {p:Prop} (h:p:=by
 rw[←hW0]
 have:=aF (w.alloc (.cells #[.int .i64 0,.int .u8 0,.string ⟨#[]⟩,.slice none 0 0,.string ⟨#[]⟩,.bool false] 107)) (.cells #[.int .i64 0,.int .u8 op,.string ⟨#[]⟩,.slice none 0 0,.string ⟨#[]⟩,.bool false] 107)
 rwa [World.size_alloc] at this):p:=h
theorem aAc (op:Int) (i:aY) (ex:List UInt8) (hc:∀ W,Calls prog 84 #[.int .u8 op] W (aU (i,ex) W)) (_hb0:0≤op) (_hb1:op≤255) (he:i.1.isEmpty=false) (w:World):Calls prog 53 #[.int .i64 0,.int .u8 op] w (fun e w'=>∃ v,e=.returned (.tuple #[.agg #[.int .i64 0,.int .u8 op,.string ⟨i.1.toArray⟩,v,.string ⟨(ex).toArray⟩,.bool false],.int .i64 1])∧w'.ownsRow w.heap.size 144 3 v (i.2).length (opc (i.2))∧Below w.heap.size w w'):=by
 have HC:=Hh hc;clear hc;go_enter func53,ntmps53
 go_wp2_with fail
 generalize hW0:((w.alloc _).alloc _)=W0;have h0:W0.heap[w.heap.size]? = some (.cells #[.int .i64 0,.int .u8 0,.string ⟨#[]⟩,.slice none 0 0,.string ⟨#[]⟩,.bool false] 107 (0,0)):=by rw[←hW0];exact aE (aF _ _)
 have h1:W0.heap[w.heap.size+1]? = some (.cells #[.int .i64 0,.int .u8 op,.string ⟨#[]⟩,.slice none 0 0,.string ⟨#[]⟩,.bool false] 107 (0,0)):=by
  exact Km
 have HBW:=Hh (show Below w.heap.size w W0 by rw[←hW0];exact aQ (aQ br))
 have H0:=Hh h0;have H1:=Hh h1;clear hW0 h0 h1;(with_reducible refine (HC.out _).mono ?_);rintro e w3 ⟨v,rfl,ho⟩;obtain⟨a,n,c,rfl⟩:=ho.slice;have hb3:Below W0.heap.size W0 w3:=ho.2.2;have h0:=aB H0.out hb3 (aA H0.out);have h1:=aB H1.out hb3 (aA H1.out);have HO:=Hh (ho.1);have HB3:=Hh (HBW.out.trans (hb3.mono HBW.out.size));obtain⟨⟨p0,p1,p2,p3,p4,p5⟩,f0,f1,f2,f3,f4,f5⟩:=bB h0;obtain⟨⟨q0,q1,q2,q3,q4,q5⟩,g0,g1,g2,g3,g4,g5⟩:=bB h1;have hl0:=aA h0;have hl1:=aA h1;have HR1:=Hh (aA H1.out);clear ho h0 h1 hb3;go_wp2_with fail
 refine bodyPost_ret (v:=.tuple #[.agg #[.int .i64 0,.int .u8 op,.string ⟨i.1.toArray⟩,.slice a n c,.string ⟨(ex).toArray⟩,.bool false],.int .i64 1]) (by simp[results,results53,go_sem,p0,p1,p2,p3,p4,p5]) rfl ⟨_,rfl,?_,?_⟩
 · exact rQ
 · exact kV
theorem aAb (op:Int) (i:aY) (ex:List UInt8) (hc:∀ W,Calls prog 84 #[.int .u8 op] W (aU (i,ex) W)) (_hb0:0≤op) (_hb1:op≤255) (he:i.1.isEmpty=true) (w:World):Calls prog 53 #[.int .i64 0,.int .u8 op] w (fun e w'=>∃ v,e=.returned (.tuple #[.agg #[.int .i64 0,.int .u8 0,.string ⟨#[]⟩,v,.string ⟨#[]⟩,.bool false],.int .i64 2])∧w'.ownsRow w.heap.size 144 3 v (([]:List Op3)).length (opc (([]:List Op3)))∧Below w.heap.size w w'):=by
 have HC:=Hh hc;clear hc;go_enter func53,ntmps53
 go_wp2_with fail
 generalize hW0:((w.alloc _).alloc _)=W0;have h0:W0.heap[w.heap.size]? = some (.cells #[.int .i64 0,.int .u8 0,.string ⟨#[]⟩,.slice none 0 0,.string ⟨#[]⟩,.bool false] 107 (0,0)):=by rw[←hW0];exact aE (aF _ _)
 have h1:W0.heap[w.heap.size+1]? = some (.cells #[.int .i64 0,.int .u8 op,.string ⟨#[]⟩,.slice none 0 0,.string ⟨#[]⟩,.bool false] 107 (0,0)):=by
  exact Km
 have HBW:=Hh (show Below w.heap.size w W0 by rw[←hW0];exact aQ (aQ br))
 have H0:=Hh h0;have H1:=Hh h1;clear hW0 h0 h1;(with_reducible refine (HC.out _).mono ?_);rintro e w3 ⟨v,rfl,ho⟩;obtain⟨a,n,c,rfl⟩:=ho.slice;have hb3:Below W0.heap.size W0 w3:=ho.2.2;have h0:=aB H0.out hb3 (aA H0.out);have h1:=aB H1.out hb3 (aA H1.out);have HO:=Hh (ho.1);have HB3:=Hh (HBW.out.trans (hb3.mono HBW.out.size));obtain⟨⟨p0,p1,p2,p3,p4,p5⟩,f0,f1,f2,f3,f4,f5⟩:=bB h0;obtain⟨⟨q0,q1,q2,q3,q4,q5⟩,g0,g1,g2,g3,g4,g5⟩:=bB h1;have hl0:=aA h0;have hl1:=aA h1;have HR1:=Hh (aA H1.out);clear ho h0 h1 hb3;go_wp2_with fail
 refine bodyPost_ret (v:=.tuple #[.agg #[.int .i64 0,.int .u8 0,.string ⟨#[]⟩,.slice none 0 0,.string ⟨#[]⟩,.bool false],.int .i64 2]) (by simp[results,results53,go_sem,p0,p1,p2,p3,p4,p5]) rfl ⟨_,rfl,?_,?_⟩
 · exact World.ownsRow_nil _ _ _ _
 · exact kV
theorem Kl {p:Prop} (h:p:=by
 rw[←hW0]
 have:=aF (w.alloc (.cells #[.int .i64 0,.int .u8 0,.string ⟨#[]⟩,.slice none 0 0,.string ⟨#[]⟩,.bool false] 107)) (.cells #[.int .i64 1,.int .u8 op,.string ⟨#[]⟩,.slice none 0 0,.string ⟨#[]⟩,.bool false] 107)
 rwa [World.size_alloc] at this):p:=h
theorem aAa (op:Int) (i:aY) (z:Int) (hc:∀ W,Calls prog 85 #[.int .u8 op,opV (dO z)] W (dU i W)) (hz:op%8=z) (_hz0:0≤z) (_hz7:z≤7) (hb0:0≤op) (hb1:op≤255) (he:i.1.isEmpty=false) (w:World):Calls prog 53 #[.int .i64 1,.int .u8 op] w (fun e w'=>∃ v,e=.returned (.tuple #[.agg #[.int .i64 1,.int .u8 op,.string ⟨i.1.toArray⟩,v,.string ⟨(([]:List UInt8)).toArray⟩,.bool false],.int .i64 1])∧w'.ownsRow w.heap.size 144 3 v (i.2).length (opc (i.2))∧Below w.heap.size w w'):=by
 have HC:=Hh hc;clear hc;go_enter func53,ntmps53
 go_wp2_with fail
 generalize hW0:((w.alloc _).alloc _)=W0;have h0:W0.heap[w.heap.size]? = some (.cells #[.int .i64 0,.int .u8 0,.string ⟨#[]⟩,.slice none 0 0,.string ⟨#[]⟩,.bool false] 107 (0,0)):=by rw[←hW0];exact aE (aF _ _)
 have h1:W0.heap[w.heap.size+1]? = some (.cells #[.int .i64 1,.int .u8 op,.string ⟨#[]⟩,.slice none 0 0,.string ⟨#[]⟩,.bool false] 107 (0,0)):=by
  exact Kl
 have HBW:=Hh (show Below w.heap.size w W0 by rw[←hW0];exact aQ (aQ br))
 have H0:=Hh h0;have H1:=Hh h1;clear hW0 h0 h1;have hwz:IntKind.i64.wrap (op.tmod 8)=z:=by rw[Int.tmod_eq_emod_of_nonneg hb0,hz];exact IntWalk.i64_in z om
 (with_reducible refine (r9i _ z (by first|exact hwz|omega) _).mono ?_);rintro e w2 ⟨rfl,hb2⟩;have HB2:=Hh hb2;clear hb2;go_wp2_with fail
 (with_reducible refine (HC.out _).mono ?_);rintro e w3 ⟨v,rfl,ho⟩;obtain⟨a,n,c,rfl⟩:=ho.slice;have hb3:Below W0.heap.size W0 w3:=HB2.out.trans (ho.2.2.mono HB2.out.size);have h0:=aB H0.out hb3 (aA H0.out);have h1:=aB H1.out hb3 (aA H1.out);have HO:=Hh (dF ho.1 HB2.out.size);have HB3:=Hh (HBW.out.trans (hb3.mono HBW.out.size));obtain⟨⟨p0,p1,p2,p3,p4,p5⟩,f0,f1,f2,f3,f4,f5⟩:=bB h0;obtain⟨⟨q0,q1,q2,q3,q4,q5⟩,g0,g1,g2,g3,g4,g5⟩:=bB h1;have hl0:=aA h0;have hl1:=aA h1;have HR1:=Hh (aA H1.out);clear ho h0 h1 hb3;go_wp2_with fail
 refine bodyPost_ret (v:=.tuple #[.agg #[.int .i64 1,.int .u8 op,.string ⟨i.1.toArray⟩,.slice a n c,.string ⟨(([]:List UInt8)).toArray⟩,.bool false],.int .i64 1]) (by simp[results,results53,go_sem,p0,p1,p2,p3,p4,p5]) rfl ⟨_,rfl,?_,?_⟩
 · exact rQ
 · exact kV
theorem Zz (op:Int) (i:aY) (z:Int) (hc:∀ W,Calls prog 85 #[.int .u8 op,opV (dO z)] W (dU i W)) (hz:op%8=z) (_hz0:0≤z) (_hz7:z≤7) (hb0:0≤op) (hb1:op≤255) (he:i.1.isEmpty=true) (w:World):Calls prog 53 #[.int .i64 1,.int .u8 op] w (fun e w'=>∃ v,e=.returned (.tuple #[.agg #[.int .i64 0,.int .u8 0,.string ⟨#[]⟩,v,.string ⟨#[]⟩,.bool false],.int .i64 0])∧w'.ownsRow w.heap.size 144 3 v (([]:List Op3)).length (opc (([]:List Op3)))∧Below w.heap.size w w'):=by
 have HC:=Hh hc;clear hc;go_enter func53,ntmps53
 go_wp2_with fail
 generalize hW0:((w.alloc _).alloc _)=W0;have h0:W0.heap[w.heap.size]? = some (.cells #[.int .i64 0,.int .u8 0,.string ⟨#[]⟩,.slice none 0 0,.string ⟨#[]⟩,.bool false] 107 (0,0)):=by rw[←hW0];exact aE (aF _ _)
 have h1:W0.heap[w.heap.size+1]? = some (.cells #[.int .i64 1,.int .u8 op,.string ⟨#[]⟩,.slice none 0 0,.string ⟨#[]⟩,.bool false] 107 (0,0)):=by
  exact Kl
 have HBW:=Hh (show Below w.heap.size w W0 by rw[←hW0];exact aQ (aQ br))
 have H0:=Hh h0;have H1:=Hh h1;clear hW0 h0 h1;have hwz:IntKind.i64.wrap (op.tmod 8)=z:=by rw[Int.tmod_eq_emod_of_nonneg hb0,hz];exact IntWalk.i64_in z om
 (with_reducible refine (r9i _ z (by first|exact hwz|omega) _).mono ?_);rintro e w2 ⟨rfl,hb2⟩;have HB2:=Hh hb2;clear hb2;go_wp2_with fail
 (with_reducible refine (HC.out _).mono ?_);rintro e w3 ⟨v,rfl,ho⟩;obtain⟨a,n,c,rfl⟩:=ho.slice;have hb3:Below W0.heap.size W0 w3:=HB2.out.trans (ho.2.2.mono HB2.out.size);have h0:=aB H0.out hb3 (aA H0.out);have h1:=aB H1.out hb3 (aA H1.out);have HO:=Hh (dF ho.1 HB2.out.size);have HB3:=Hh (HBW.out.trans (hb3.mono HBW.out.size));obtain⟨⟨p0,p1,p2,p3,p4,p5⟩,f0,f1,f2,f3,f4,f5⟩:=bB h0;obtain⟨⟨q0,q1,q2,q3,q4,q5⟩,g0,g1,g2,g3,g4,g5⟩:=bB h1;have hl0:=aA h0;have hl1:=aA h1;have HR1:=Hh (aA H1.out);clear ho h0 h1 hb3;go_wp2_with fail
 refine bodyPost_ret (v:=.tuple #[.agg #[.int .i64 0,.int .u8 0,.string ⟨#[]⟩,.slice none 0 0,.string ⟨#[]⟩,.bool false],.int .i64 0]) (by simp[results,results53,go_sem,p0,p1,p2,p3,p4,p5]) rfl ⟨_,rfl,?_,?_⟩
 · exact World.ownsRow_nil _ _ _ _
 · exact kV
theorem Kk {p:Prop} (h:p:=by
 rw[←hW0]
 have:=aF (w.alloc (.cells #[.int .i64 0,.int .u8 0,.string ⟨#[]⟩,.slice none 0 0,.string ⟨#[]⟩,.bool false] 107)) (.cells #[.int .i64 2,.int .u8 op,.string ⟨#[]⟩,.slice none 0 0,.string ⟨#[]⟩,.bool false] 107)
 rwa [World.size_alloc] at this):p:=h
theorem Zy (op:Int) (i:aY) (ex:List UInt8) (al:Bool) (hc:∀ W,Calls prog 87 #[.int .u8 op] W (cQ (i,ex,al) W)) (_hb0:0≤op) (_hb1:op≤255) (he:i.1.isEmpty=false) (w:World):Calls prog 53 #[.int .i64 2,.int .u8 op] w (fun e w'=>∃ v,e=.returned (.tuple #[.agg #[.int .i64 2,.int .u8 op,.string ⟨i.1.toArray⟩,v,.string ⟨(ex).toArray⟩,.bool al],.int .i64 1])∧w'.ownsRow w.heap.size 144 3 v (i.2).length (opc (i.2))∧Below w.heap.size w w'):=by
 have HC:=Hh hc;clear hc;go_enter func53,ntmps53
 go_wp2_with fail
 generalize hW0:((w.alloc _).alloc _)=W0;have h0:W0.heap[w.heap.size]? = some (.cells #[.int .i64 0,.int .u8 0,.string ⟨#[]⟩,.slice none 0 0,.string ⟨#[]⟩,.bool false] 107 (0,0)):=by rw[←hW0];exact aE (aF _ _)
 have h1:W0.heap[w.heap.size+1]? = some (.cells #[.int .i64 2,.int .u8 op,.string ⟨#[]⟩,.slice none 0 0,.string ⟨#[]⟩,.bool false] 107 (0,0)):=by
  exact Kk
 have HBW:=Hh (show Below w.heap.size w W0 by rw[←hW0];exact aQ (aQ br))
 have H0:=Hh h0;have H1:=Hh h1;clear hW0 h0 h1;(with_reducible refine (HC.out _).mono ?_);rintro e w3 ⟨v,rfl,ho⟩;obtain⟨a,n,c,rfl⟩:=ho.slice;have hb3:Below W0.heap.size W0 w3:=ho.2.2;have h0:=aB H0.out hb3 (aA H0.out);have h1:=aB H1.out hb3 (aA H1.out);have HO:=Hh (ho.1);have HB3:=Hh (HBW.out.trans (hb3.mono HBW.out.size));obtain⟨⟨p0,p1,p2,p3,p4,p5⟩,f0,f1,f2,f3,f4,f5⟩:=bB h0;obtain⟨⟨q0,q1,q2,q3,q4,q5⟩,g0,g1,g2,g3,g4,g5⟩:=bB h1;have hl0:=aA h0;have hl1:=aA h1;have HR1:=Hh (aA H1.out);clear ho h0 h1 hb3;go_wp2_with fail
 refine bodyPost_ret (v:=.tuple #[.agg #[.int .i64 2,.int .u8 op,.string ⟨i.1.toArray⟩,.slice a n c,.string ⟨(ex).toArray⟩,.bool al],.int .i64 1]) (by simp[results,results53,go_sem,p0,p1,p2,p3,p4,p5]) rfl ⟨_,rfl,?_,?_⟩
 · exact rQ
 · exact kV
theorem Zx (op:Int) (i:aY) (ex:List UInt8) (al:Bool) (hc:∀ W,Calls prog 87 #[.int .u8 op] W (cQ (i,ex,al) W)) (_hb0:0≤op) (_hb1:op≤255) (he:i.1.isEmpty=true) (w:World):Calls prog 53 #[.int .i64 2,.int .u8 op] w (fun e w'=>∃ v,e=.returned (.tuple #[.agg #[.int .i64 0,.int .u8 0,.string ⟨#[]⟩,v,.string ⟨#[]⟩,.bool false],.int .i64 3])∧w'.ownsRow w.heap.size 144 3 v (([]:List Op3)).length (opc (([]:List Op3)))∧Below w.heap.size w w'):=by
 have HC:=Hh hc;clear hc;go_enter func53,ntmps53
 go_wp2_with fail
 generalize hW0:((w.alloc _).alloc _)=W0;have h0:W0.heap[w.heap.size]? = some (.cells #[.int .i64 0,.int .u8 0,.string ⟨#[]⟩,.slice none 0 0,.string ⟨#[]⟩,.bool false] 107 (0,0)):=by rw[←hW0];exact aE (aF _ _)
 have h1:W0.heap[w.heap.size+1]? = some (.cells #[.int .i64 2,.int .u8 op,.string ⟨#[]⟩,.slice none 0 0,.string ⟨#[]⟩,.bool false] 107 (0,0)):=by
  exact Kk
 have HBW:=Hh (show Below w.heap.size w W0 by rw[←hW0];exact aQ (aQ br))
 have H0:=Hh h0;have H1:=Hh h1;clear hW0 h0 h1;(with_reducible refine (HC.out _).mono ?_);rintro e w3 ⟨v,rfl,ho⟩;obtain⟨a,n,c,rfl⟩:=ho.slice;have hb3:Below W0.heap.size W0 w3:=ho.2.2;have h0:=aB H0.out hb3 (aA H0.out);have h1:=aB H1.out hb3 (aA H1.out);have HO:=Hh (ho.1);have HB3:=Hh (HBW.out.trans (hb3.mono HBW.out.size));obtain⟨⟨p0,p1,p2,p3,p4,p5⟩,f0,f1,f2,f3,f4,f5⟩:=bB h0;obtain⟨⟨q0,q1,q2,q3,q4,q5⟩,g0,g1,g2,g3,g4,g5⟩:=bB h1;have hl0:=aA h0;have hl1:=aA h1;have HR1:=Hh (aA H1.out);clear ho h0 h1 hb3;go_wp2_with fail
 refine bodyPost_ret (v:=.tuple #[.agg #[.int .i64 0,.int .u8 0,.string ⟨#[]⟩,.slice none 0 0,.string ⟨#[]⟩,.bool false],.int .i64 3]) (by simp[results,results53,go_sem,p0,p1,p2,p3,p4,p5]) rfl ⟨_,rfl,?_,?_⟩
 · exact World.ownsRow_nil _ _ _ _
 · exact kV
theorem aAU (op:Int) (E:Ent) (hc:∀ W,Calls prog 89 #[.int .i64 5,.int .u8 op] W fun e w'=>∃ v,e=.returned (cP E v)∧w'.ownsRow W.heap.size 144 3 v E.args.length (opc E.args)∧Below W.heap.size W w') (_hb0:0≤op) (_hb1:op≤255) (w:World):Calls prog 53 #[.int .i64 5,.int .u8 op] w (fun e w'=>∃ v,e=.returned (.tuple #[cP E v,.int .i64 1])∧w'.ownsRow w.heap.size 144 3 v E.args.length (opc E.args)∧Below w.heap.size w w'):=by
 have HC:=Hh hc;clear hc;go_enter func53,ntmps53
 go_wp2_with fail
 generalize hW0:((w.alloc _).alloc _)=W0;have h0:W0.heap[w.heap.size]? = some (.cells #[.int .i64 0,.int .u8 0,.string ⟨#[]⟩,.slice none 0 0,.string ⟨#[]⟩,.bool false] 107 (0,0)):=by rw[←hW0];exact aE (aF _ _)
 have h1:W0.heap[w.heap.size+1]? = some (.cells #[.int .i64 5,.int .u8 op,.string ⟨#[]⟩,.slice none 0 0,.string ⟨#[]⟩,.bool false] 107 (0,0)):=by
  rw[←hW0]
  have:=aF (w.alloc (.cells #[.int .i64 0,.int .u8 0,.string ⟨#[]⟩,.slice none 0 0,.string ⟨#[]⟩,.bool false] 107)) (.cells #[.int .i64 5,.int .u8 op,.string ⟨#[]⟩,.slice none 0 0,.string ⟨#[]⟩,.bool false] 107)
  rwa [World.size_alloc] at this
 have HBW:=Hh (show Below w.heap.size w W0 by rw[←hW0];exact aQ (aQ br))
 have H0:=Hh h0;have H1:=Hh h1;clear hW0 h0 h1;(with_reducible refine (HC.out _).mono ?_);rintro e w3 ⟨v,rfl,ho,hb3⟩;obtain⟨a,c,rfl⟩:=aI ho;have h0:=aB H0.out hb3 (aA H0.out);have h1:=aB H1.out hb3 (aA H1.out);have HO:=Hh (ho);have HB3:=Hh (HBW.out.trans (hb3.mono HBW.out.size));obtain⟨⟨p0,p1,p2,p3,p4,p5⟩,f0,f1,f2,f3,f4,f5⟩:=bB h0;obtain⟨⟨q0,q1,q2,q3,q4,q5⟩,g0,g1,g2,g3,g4,g5⟩:=bB h1;have hl0:=aA h0;have hl1:=aA h1;have HR1:=Hh (aA H1.out);clear ho h0 h1 hb3;go_wp2_with fail
 refine bodyPost_ret (v:=.tuple #[cP E (.slice a E.args.length c),.int .i64 1]) (by simp[results,results53,go_sem,p0,p1,p2,p3,p4,p5]) rfl ⟨_,rfl,?_,?_⟩
 · exact rQ
 · exact kV
theorem aAT (op:Int) (E:Ent) (hc:∀ W,Calls prog 89 #[.int .i64 6,.int .u8 op] W fun e w'=>∃ v,e=.returned (cP E v)∧w'.ownsRow W.heap.size 144 3 v E.args.length (opc E.args)∧Below W.heap.size W w') (_hb0:0≤op) (_hb1:op≤255) (w:World):Calls prog 53 #[.int .i64 6,.int .u8 op] w (fun e w'=>∃ v,e=.returned (.tuple #[cP E v,.int .i64 1])∧w'.ownsRow w.heap.size 144 3 v E.args.length (opc E.args)∧Below w.heap.size w w'):=by
 have HC:=Hh hc;clear hc;go_enter func53,ntmps53
 go_wp2_with fail
 generalize hW0:((w.alloc _).alloc _)=W0;have h0:W0.heap[w.heap.size]? = some (.cells #[.int .i64 0,.int .u8 0,.string ⟨#[]⟩,.slice none 0 0,.string ⟨#[]⟩,.bool false] 107 (0,0)):=by rw[←hW0];exact aE (aF _ _)
 have h1:W0.heap[w.heap.size+1]? = some (.cells #[.int .i64 6,.int .u8 op,.string ⟨#[]⟩,.slice none 0 0,.string ⟨#[]⟩,.bool false] 107 (0,0)):=by
  rw[←hW0]
  have:=aF (w.alloc (.cells #[.int .i64 0,.int .u8 0,.string ⟨#[]⟩,.slice none 0 0,.string ⟨#[]⟩,.bool false] 107)) (.cells #[.int .i64 6,.int .u8 op,.string ⟨#[]⟩,.slice none 0 0,.string ⟨#[]⟩,.bool false] 107)
  rwa [World.size_alloc] at this
 have HBW:=Hh (show Below w.heap.size w W0 by rw[←hW0];exact aQ (aQ br))
 have H0:=Hh h0;have H1:=Hh h1;clear hW0 h0 h1;(with_reducible refine (HC.out _).mono ?_);rintro e w3 ⟨v,rfl,ho,hb3⟩;obtain⟨a,c,rfl⟩:=aI ho;have h0:=aB H0.out hb3 (aA H0.out);have h1:=aB H1.out hb3 (aA H1.out);have HO:=Hh (ho);have HB3:=Hh (HBW.out.trans (hb3.mono HBW.out.size));obtain⟨⟨p0,p1,p2,p3,p4,p5⟩,f0,f1,f2,f3,f4,f5⟩:=bB h0;obtain⟨⟨q0,q1,q2,q3,q4,q5⟩,g0,g1,g2,g3,g4,g5⟩:=bB h1;have hl0:=aA h0;have hl1:=aA h1;have HR1:=Hh (aA H1.out);clear ho h0 h1 hb3;go_wp2_with fail
 refine bodyPost_ret (v:=.tuple #[cP E (.slice a E.args.length c),.int .i64 1]) (by simp[results,results53,go_sem,p0,p1,p2,p3,p4,p5]) rfl ⟨_,rfl,?_,?_⟩
 · exact rQ
 · exact kV
end Go.Proofs.YtoigglljnklhlaaGreatDoor
