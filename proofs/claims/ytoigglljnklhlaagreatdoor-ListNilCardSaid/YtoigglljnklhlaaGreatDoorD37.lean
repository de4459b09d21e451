/- Joined. -/
import Derived.Test.YtoigglljnklhlaaGreatDoorD36
set_option maxHeartbeats 8000000
set_option maxRecDepth 100000
namespace Go.Proofs.YtoigglljnklhlaaGreatDoor
open Go.RowKit Go.Sort
open Go.Proofs.Tryz
theorem us8 {us:List (aY × Value)} {i0 i1 i2 i3 i4 i5 i6 i7:aY} (h:us.map (·.1)=[i0,i1,i2,i3,i4,i5,i6,i7]):∃ y0 y1 y2 y3 y4 y5 y6 y7,us=[(i0,y0),(i1,y1),(i2,y2),(i3,y3),(i4,y4),(i5,y5),(i6,y6),(i7,y7)]:=by
 match us,h with
 | [(_,y0),(_,y1),(_,y2),(_,y3),(_,y4),(_,y5),(_,y6),(_,y7)],h =>
   simp only[List.map_cons,List.map_nil,List.cons.injEq,and_true] at h;obtain⟨rfl,rfl,rfl,rfl,rfl,rfl,rfl,rfl⟩:=h;exact⟨_,_,_,_,_,_,_,_,rfl⟩
def h3L:List aY:=[([74,80],[(6,0,0)]),([],[]),([79,85,84],[(7,0,0),(1,7,0)]),([73,78],[(1,7,0),(7,0,0)]),([69,88],[(4,3,0),(3,2,0)]),([69,88],[(3,1,0),(3,2,0)]),([68,73],[]),([69,73],[])]
def h3D (i:Nat):Tmp:=match i with
 | 0=>51
 | 1=>52
 | 2=>53
 | 3=>54
 | 4=>55
 | 5=>56
 | 6=>57
 | 7=>58
 | 8=>59
 | 9=>60
 | 10=>61
 | 11=>62
 | 12=>63
 | 13=>64
 | 14=>65
 | 15=>66
 | 16=>67
 | 17=>68
 | 18=>69
 | 19=>70
 | 20=>71
 | 21=>72
 | 22=>73
 | 23=>8
 | _=>114
def h3K (k:Nat):Bool:=([51,52,53,54,55,56,57,58,59,60,61,62,63,64,65,66,67,68,69,70,71,72,73,8]:List Nat).contains k
theorem Vz:∀ i,i<24→i≠24→h3K (h3D i)=true∧h3D i<114:=dc
theorem Xz:∀ i,i<24→∀ j,j<24→i≠24→j≠24→h3D i=h3D j→i=j:=dc
def h3P (i:Nat):D9:=match i with
 | 0=>.val (opV (6,0,0))
 | 1=>.row [(6,0,0)]
 | 2=>.ins ([74,80],[(6,0,0)])
 | 3=>.ins ([],[])
 | 4=>.val (opV (7,0,0))
 | 5=>.val (opV (1,7,0))
 | 6=>.row [(7,0,0),(1,7,0)]
 | 7=>.ins ([79,85,84],[(7,0,0),(1,7,0)])
 | 8=>.val (opV (1,7,0))
 | 9=>.val (opV (7,0,0))
 | 10=>.row [(1,7,0),(7,0,0)]
 | 11=>.ins ([73,78],[(1,7,0),(7,0,0)])
 | 12=>.val (opV (4,3,0))
 | 13=>.val (opV (3,2,0))
 | 14=>.row [(4,3,0),(3,2,0)]
 | 15=>.ins ([69,88],[(4,3,0),(3,2,0)])
 | 16=>.val (opV (3,1,0))
 | 17=>.val (opV (3,2,0))
 | 18=>.row [(3,1,0),(3,2,0)]
 | 19=>.ins ([69,88],[(3,1,0),(3,2,0)])
 | 20=>.ins ([68,73],[])
 | 21=>.ins ([69,73],[])
 | 22=>.inss h3L
 | 23=>.inss h3L
 | _=>.val undef
theorem Oo:∀ i,i≠24→(h3P i).plain=true:=by
 intro i h;unfold h3P;split<;>first|rfl|exact absurd rfl h
theorem Kz {p:Prop} (h:p:=by
 refine⟨_,[],rfl,rfl,(fun j hj=>by cases hj),?_⟩;intro R a W hA hk hbw hd hv hs;have e6:=hA.get (k:=6) (by rfl) (by rfl);have hbk:=(hk.block _ (aA H1.out) HN1.out).trans H1.out;have c0:=aC hbk 0;have c1:=aC hbk 1;have c2:=aC hbk 2;go_simp;exact hv dc _ _ br rfl):p:=h
theorem Ky {p:Prop} (h:p:=by
 refine⟨_,[],rfl,rfl,(fun j hj=>by cases hj),?_⟩;intro R a W hA hk hbw hd hv hs;go_simp;(with_reducible refine (uT _).mono ?_);rintro e w' ⟨rfl,hb⟩;exact hv dc _ _ hb rfl):p:=h
theorem Kx {p:Prop} (h:p:=by
 refine⟨_,[],rfl,rfl,(fun j hj=>by cases hj),?_⟩;intro R a W hA hk hbw hd hv hs;go_simp;(with_reducible refine (oV _).mono ?_);rintro e w' ⟨rfl,hb⟩;exact hv dc _ _ hb rfl):p:=h
theorem jE (y:Int) (h:y=0∨y=1∨y=2∨y=3∨y=4∨y=5∨y=6∨y=7) (w:World):Calls prog 125 #[.int .i64 y,.int .i64 3] w (aU (vD y.toNat 3) w):=by
 have HY:=Hh h;clear h;go_enter func125,ntmps125
 go_wp2_with fail
 (with_reducible refine (pE _ 2 rfl _).mono ?_);rintro e w1 ⟨rfl,hb1⟩;have h0:=bQ hb1;have hw1:=cL hb1;clear hb1;have H0:=Hh h0;have HW1:=Hh hw1;have HL0:=Hh (aA h0);clear h0 hw1;go_wp2_with fail
 obtain⟨W0,hW0⟩:∃ W0,w1.alloc (.cells #[.int .i64 3,.int .i64 2,.int .i64 0] 144)=W0:=⟨_,rfl⟩;have h1:W0.heap[w1.heap.size]? = some (.cells #[.int .i64 3,.int .i64 2,.int .i64 0] 144 (0,0)):=by rw[←hW0];exact aF _ _
 have h0:W0.heap[w.heap.size]? = some (.cells #[.string ⟨#[]⟩,.slice none 0 0] 53 (0,0)):=by rw[←hW0];exact aE H0.out
 have HBW:=Hh (show Below w.heap.size w W0 by rw[←hW0];exact HW1.out.trans (Below.mono (br.alloc lr _) HW1.out.size))
 have HB0:=Hh h0;have H1:=Hh h1;have HRB:=Hh (aA h0);have HN1:=Hh (Nat.ne_of_gt HL0.out);rw[hW0];clear hW0 h0 h1;refine bN kr w.heap.size 24 h3D (fun i v W=>(h3P i).holds W0.heap.size v W) (Out h3K _) (fun i v w w' hi h hk=>D9.kb (Oo i hi) h HRB.out hk) (fun v w w' h _=>h) (Out.refl _ _) (fun i v a hi hne hA=>hA.put _ v (Vz i hi hne).1 (Vz i hi hne).2) (fun i j hi hj=>Xz i hi j hj) ?_ (gQ kr) ?_
 · intro i hi;have hi:i<24:=hi;rcases (by omega:i=0∨i=1∨i=2∨i=3∨i=4∨i=5∨i=6∨i=7∨i=8∨i=9∨i=10∨i=11∨i=12∨i=13∨i=14∨i=15∨i=16∨i=17∨i=18∨i=19∨i=20∨i=21∨i=22∨i=23) with rfl|rfl|rfl|rfl|rfl|rfl|rfl|rfl|rfl|rfl|rfl|rfl|rfl|rfl|rfl|rfl|rfl|rfl|rfl|rfl|rfl|rfl|rfl|rfl
   · refine⟨_,[],rfl,rfl,(fun j hj=>by cases hj),?_⟩;intro R a W hA hk hbw hd hv hs;go_simp;(with_reducible refine (fF 0 _).mono ?_);rintro e w' ⟨rfl,hb⟩;exact hv dc _ _ hb rfl
   · refine⟨_,[0],rfl,rfl,(fun j hj=>by obtain rfl:=List.mem_singleton.1 hj;exact⟨dc,⟨0,.data⟩,by simp,rfl,rfl⟩),?_⟩;intro R a W hA hk hbw hd hv hs;have e1:a.tmps[51]?.getD undef=_:=(aJ a 51).symm.trans (hd 0 sm);go_simp;(with_reducible refine (Er (6,0,0) _ W0.heap.size hk.size).mono ?_);rintro e w' ⟨v,rfl,hr,hb⟩;exact hv dc _ _ hb hr
   · refine⟨_,[1],rfl,rfl,(fun j hj=>by obtain rfl:=List.mem_singleton.1 hj;exact⟨dc,⟨1,.data⟩,by simp,rfl,rfl⟩),?_⟩;intro R a W hA hk hbw hd hv hs;obtain⟨u1,hu1⟩:∃ u,a.tmps.getD 52 undef=u:=⟨_,rfl⟩;have q1:RowV W0.heap.size [(6,0,0)] u1 W:=hu1 ▸ hd 1 sm;have e1:=(aJ a 52).symm.trans hu1;go_simp;(with_reducible refine (dX [74,80] [(6,0,0)] u1 W0.heap.size _ (RowN.of q1)).mono ?_);rintro e w' ⟨v,rfl,hr,hb⟩;exact hv dc _ _ hb hr
   · refine⟨_,[],rfl,rfl,(fun j hj=>by cases hj),?_⟩;intro R a W hA hk hbw hd hv hs;go_simp;exact hv dc _ _ br ⟨_,rfl,Or.inl ⟨rfl,rfl⟩⟩
   · exact Ky
   · exact Kx
   · refine⟨_,[4,5],rfl,rfl,(fun j hj=>by simp only[List.mem_cons,List.not_mem_nil,or_false] at hj;rcases hj with rfl|rfl;exact⟨dc,⟨4,.data⟩,by simp,rfl,rfl⟩;exact⟨dc,⟨5,.data⟩,by simp,rfl,rfl⟩),?_⟩;intro R a W hA hk hbw hd hv hs;have e1:a.tmps[55]?.getD undef=_:=(aJ a 55).symm.trans (hd 4 sm);have e2:a.tmps[56]?.getD undef=_:=(aJ a 56).symm.trans (hd 5 sm);go_simp;(with_reducible refine (iE (7,0,0) (1,7,0) _ W0.heap.size hk.size).mono ?_);rintro e w' ⟨v,rfl,hr,hb⟩;exact hv dc _ _ hb hr
   · refine⟨_,[6],rfl,rfl,(fun j hj=>by obtain rfl:=List.mem_singleton.1 hj;exact⟨dc,⟨6,.data⟩,by simp,rfl,rfl⟩),?_⟩;intro R a W hA hk hbw hd hv hs;obtain⟨u1,hu1⟩:∃ u,a.tmps.getD 57 undef=u:=⟨_,rfl⟩;have q1:RowV W0.heap.size [(7,0,0),(1,7,0)] u1 W:=hu1 ▸ hd 6 sm;have e1:=(aJ a 57).symm.trans hu1;go_simp;(with_reducible refine (dX [79,85,84] [(7,0,0),(1,7,0)] u1 W0.heap.size _ (RowN.of q1)).mono ?_);rintro e w' ⟨v,rfl,hr,hb⟩;exact hv dc _ _ hb hr
   · exact Kx
   · exact Ky
   · refine⟨_,[8,9],rfl,rfl,(fun j hj=>by simp only[List.mem_cons,List.not_mem_nil,or_false] at hj;rcases hj with rfl|rfl;exact⟨dc,⟨8,.data⟩,by simp,rfl,rfl⟩;exact⟨dc,⟨9,.data⟩,by simp,rfl,rfl⟩),?_⟩;intro R a W hA hk hbw hd hv hs;have e1:a.tmps[59]?.getD undef=_:=(aJ a 59).symm.trans (hd 8 sm);have e2:a.tmps[60]?.getD undef=_:=(aJ a 60).symm.trans (hd 9 sm);go_simp;(with_reducible refine (iE (1,7,0) (7,0,0) _ W0.heap.size hk.size).mono ?_);rintro e w' ⟨v,rfl,hr,hb⟩;exact hv dc _ _ hb hr
   · refine⟨_,[10],rfl,rfl,(fun j hj=>by obtain rfl:=List.mem_singleton.1 hj;exact⟨dc,⟨10,.data⟩,by simp,rfl,rfl⟩),?_⟩;intro R a W hA hk hbw hd hv hs;obtain⟨u1,hu1⟩:∃ u,a.tmps.getD 61 undef=u:=⟨_,rfl⟩;have q1:RowV W0.heap.size [(1,7,0),(7,0,0)] u1 W:=hu1 ▸ hd 10 sm;have e1:=(aJ a 61).symm.trans hu1;go_simp;(with_reducible refine (dX [73,78] [(1,7,0),(7,0,0)] u1 W0.heap.size _ (RowN.of q1)).mono ?_);rintro e w' ⟨v,rfl,hr,hb⟩;exact hv dc _ _ hb hr
   · refine⟨_,[],rfl,rfl,(fun j hj=>by cases hj),?_⟩;intro R a W hA hk hbw hd hv hs;go_simp;(with_reducible refine (lQ 3 _).mono ?_);rintro e w' ⟨rfl,hb⟩;exact hv dc _ _ hb rfl
   · exact Kz
   · refine⟨_,[12,13],rfl,rfl,(fun j hj=>by simp only[List.mem_cons,List.not_mem_nil,or_false] at hj;rcases hj with rfl|rfl;exact⟨dc,⟨12,.data⟩,by simp,rfl,rfl⟩;exact⟨dc,⟨13,.data⟩,by simp,rfl,rfl⟩),?_⟩;intro R a W hA hk hbw hd hv hs;have e1:a.tmps[63]?.getD undef=_:=(aJ a 63).symm.trans (hd 12 sm);have e2:a.tmps[64]?.getD undef=_:=(aJ a 64).symm.trans (hd 13 sm);go_simp;(with_reducible refine (iE (4,3,0) (3,2,0) _ W0.heap.size hk.size).mono ?_);rintro e w' ⟨v,rfl,hr,hb⟩;exact hv dc _ _ hb hr
   · refine⟨_,[14],rfl,rfl,(fun j hj=>by obtain rfl:=List.mem_singleton.1 hj;exact⟨dc,⟨14,.data⟩,by simp,rfl,rfl⟩),?_⟩;intro R a W hA hk hbw hd hv hs;obtain⟨u1,hu1⟩:∃ u,a.tmps.getD 65 undef=u:=⟨_,rfl⟩;have q1:RowV W0.heap.size [(4,3,0),(3,2,0)] u1 W:=hu1 ▸ hd 14 sm;have e1:=(aJ a 65).symm.trans hu1;go_simp;(with_reducible refine (dX [69,88] [(4,3,0),(3,2,0)] u1 W0.heap.size _ (RowN.of q1)).mono ?_);rintro e w' ⟨v,rfl,hr,hb⟩;exact hv dc _ _ hb hr
   · refine⟨_,[],rfl,rfl,(fun j hj=>by cases hj),?_⟩;intro R a W hA hk hbw hd hv hs;go_simp;(with_reducible refine (Bj 1 3 (3,1,0) dc _).mono ?_);rintro e w' ⟨rfl,hb⟩;exact hv dc _ _ hb rfl
   · exact Kz
   · refine⟨_,[16,17],rfl,rfl,(fun j hj=>by simp only[List.mem_cons,List.not_mem_nil,or_false] at hj;rcases hj with rfl|rfl;exact⟨dc,⟨16,.data⟩,by simp,rfl,rfl⟩;exact⟨dc,⟨17,.data⟩,by simp,rfl,rfl⟩),?_⟩;intro R a W hA hk hbw hd hv hs;have e1:a.tmps[67]?.getD undef=_:=(aJ a 67).symm.trans (hd 16 sm);have e2:a.tmps[68]?.getD undef=_:=(aJ a 68).symm.trans (hd 17 sm);go_simp;(with_reducible refine (iE (3,1,0) (3,2,0) _ W0.heap.size hk.size).mono ?_);rintro e w' ⟨v,rfl,hr,hb⟩;exact hv dc _ _ hb hr
   · refine⟨_,[18],rfl,rfl,(fun j hj=>by obtain rfl:=List.mem_singleton.1 hj;exact⟨dc,⟨18,.data⟩,by simp,rfl,rfl⟩),?_⟩;intro R a W hA hk hbw hd hv hs;obtain⟨u1,hu1⟩:∃ u,a.tmps.getD 69 undef=u:=⟨_,rfl⟩;have q1:RowV W0.heap.size [(3,1,0),(3,2,0)] u1 W:=hu1 ▸ hd 18 sm;have e1:=(aJ a 69).symm.trans hu1;go_simp;(with_reducible refine (dX [69,88] [(3,1,0),(3,2,0)] u1 W0.heap.size _ (RowN.of q1)).mono ?_);rintro e w' ⟨v,rfl,hr,hb⟩;exact hv dc _ _ hb hr
   · refine⟨_,[],rfl,rfl,(fun j hj=>by cases hj),?_⟩;intro R a W hA hk hbw hd hv hs;go_simp;(with_reducible refine (dX [68,73] [] _ W0.heap.size _ (RowN.nil _ _)).mono ?_);rintro e w' ⟨v,rfl,hr,hb⟩;exact hv dc _ _ hb hr
   · refine⟨_,[],rfl,rfl,(fun j hj=>by cases hj),?_⟩;intro R a W hA hk hbw hd hv hs;go_simp;(with_reducible refine (dX [69,73] [] _ W0.heap.size _ (RowN.nil _ _)).mono ?_);rintro e w' ⟨v,rfl,hr,hb⟩;exact hv dc _ _ hb hr
   · refine⟨_,[2,3,7,11,15,19,20,21],rfl,rfl,(fun j hj=>by simp only[List.mem_cons,List.not_mem_nil,or_false] at hj;rcases hj with rfl|rfl|rfl|rfl|rfl|rfl|rfl|rfl;exact⟨dc,⟨2,.data⟩,by simp,rfl,rfl⟩;exact⟨dc,⟨3,.data⟩,by simp,rfl,rfl⟩;exact⟨dc,⟨7,.data⟩,by simp,rfl,rfl⟩;exact⟨dc,⟨11,.data⟩,by simp,rfl,rfl⟩;exact⟨dc,⟨15,.data⟩,by simp,rfl,rfl⟩;exact⟨dc,⟨19,.data⟩,by simp,rfl,rfl⟩;exact⟨dc,⟨20,.data⟩,by simp,rfl,rfl⟩;exact⟨dc,⟨21,.data⟩,by simp,rfl,rfl⟩),?_⟩;intro R a W hA hk hbw hd hv hs;obtain⟨u0,hu0⟩:∃ u,a.tmps.getD 53 undef=u:=⟨_,rfl⟩;have q0:(D9.ins ([74,80],[(6,0,0)])).holds W0.heap.size u0 W:=hu0 ▸ hd 2 sm;have e0:=(aJ a 53).symm.trans hu0;obtain⟨y0,hy0,z0⟩:=q0;subst hy0;obtain⟨u1,hu1⟩:∃ u,a.tmps.getD 54 undef=u:=⟨_,rfl⟩;have q1:(D9.ins ([],[])).holds W0.heap.size u1 W:=hu1 ▸ hd 3 sm;have e1:=(aJ a 54).symm.trans hu1;obtain⟨y1,hy1,z1⟩:=q1;subst hy1;obtain⟨u2,hu2⟩:∃ u,a.tmps.getD 58 undef=u:=⟨_,rfl⟩;have q2:(D9.ins ([79,85,84],[(7,0,0),(1,7,0)])).holds W0.heap.size u2 W:=hu2 ▸ hd 7 sm;have e2:=(aJ a 58).symm.trans hu2;obtain⟨y2,hy2,z2⟩:=q2;subst hy2;obtain⟨u3,hu3⟩:∃ u,a.tmps.getD 62 undef=u:=⟨_,rfl⟩;have q3:(D9.ins ([73,78],[(1,7,0),(7,0,0)])).holds W0.heap.size u3 W:=hu3 ▸ hd 11 sm;have e3:=(aJ a 62).symm.trans hu3;obtain⟨y3,hy3,z3⟩:=q3;subst hy3;obtain⟨u4,hu4⟩:∃ u,a.tmps.getD 66 undef=u:=⟨_,rfl⟩;have q4:(D9.ins ([69,88],[(4,3,0),(3,2,0)])).holds W0.heap.size u4 W:=hu4 ▸ hd 15 sm;have e4:=(aJ a 66).symm.trans hu4;obtain⟨y4,hy4,z4⟩:=q4;subst hy4;obtain⟨u5,hu5⟩:∃ u,a.tmps.getD 70 undef=u:=⟨_,rfl⟩;have q5:(D9.ins ([69,88],[(3,1,0),(3,2,0)])).holds W0.heap.size u5 W:=hu5 ▸ hd 19 sm;have e5:=(aJ a 70).symm.trans hu5;obtain⟨y5,hy5,z5⟩:=q5;subst hy5;obtain⟨u6,hu6⟩:∃ u,a.tmps.getD 71 undef=u:=⟨_,rfl⟩;have q6:(D9.ins ([68,73],[])).holds W0.heap.size u6 W:=hu6 ▸ hd 20 sm;have e6:=(aJ a 71).symm.trans hu6;obtain⟨y6,hy6,z6⟩:=q6;subst hy6;obtain⟨u7,hu7⟩:∃ u,a.tmps.getD 72 undef=u:=⟨_,rfl⟩;have q7:(D9.ins ([69,73],[])).holds W0.heap.size u7 W:=hu7 ▸ hd 21 sm;have e7:=(aJ a 72).symm.trans hu7;obtain⟨y7,hy7,z7⟩:=q7;subst hy7;go_simp;have ha:=fun o=>(Below.refl W.heap.size W).alloc lr o;refine hv dc _ _ (ha _) ⟨_,rfl,[(([74,80],[(6,0,0)]),y0),(([],[]),y1),(([79,85,84],[(7,0,0),(1,7,0)]),y2),(([73,78],[(1,7,0),(7,0,0)]),y3),(([69,88],[(4,3,0),(3,2,0)]),y4),(([69,88],[(3,1,0),(3,2,0)]),y5),(([68,73],[]),y6),(([69,73],[]),y7)],rfl,hk.size,aF _ _,?_⟩;intro x hx;simp only[List.mem_cons,List.not_mem_nil,or_false] at hx;rcases hx with rfl|rfl|rfl|rfl|rfl|rfl|rfl|rfl
     · exact z0.kb HRB.out (.of_below (ha _))
     · exact z1.kb HRB.out (.of_below (ha _))
     · exact z2.kb HRB.out (.of_below (ha _))
     · exact z3.kb HRB.out (.of_below (ha _))
     · exact z4.kb HRB.out (.of_below (ha _))
     · exact z5.kb HRB.out (.of_below (ha _))
     · exact z6.kb HRB.out (.of_below (ha _))
     · exact z7.kb HRB.out (.of_below (ha _))
   · refine⟨_,[22],rfl,rfl,(fun j hj=>by obtain rfl:=List.mem_singleton.1 hj;exact⟨dc,⟨22,.data⟩,by simp,rfl,rfl⟩),?_⟩;intro R a W hA hk hbw hd hv hs;obtain⟨u1,hu1⟩:∃ u,a.tmps.getD 73 undef=u:=⟨_,rfl⟩;have q1:(D9.inss h3L).holds W0.heap.size u1 W:=hu1 ▸ hd 22 sm;have e1:=(aJ a 73).symm.trans hu1;go_simp;exact hv dc _ _ br q1
 · intro a W1 hA hk hbl hd _;have hb1:=hbl dc;have h8:(D9.inss h3L).holds W0.heap.size (a.tmps.getD 8 undef) W1:=hd 23 dc dc;have e0:=hA.get (k:=0) (by rfl) (by rfl);have e4:=hA.get (k:=4) (by rfl) (by rfl);have hsz:a.tmps.size=114:=hA.size;obtain⟨ts,df⟩:=a;obtain rfl:df=[]:=hA.defers;obtain⟨g,h8,us,hus,hg,hbk,hrow⟩:=h8;have e8:ts[8]?.getD undef=.slice (some ⟨g,0,none⟩) 8 8:=(aJ ⟨ts,[]⟩ 8).symm.trans h8;have hr:=aB HB0.out hb1 (aA HB0.out);have c0:=aC hr 0;have c1:=aC hr 1;have f0:=aH hr 0;have f1:=aH hr 1;have hlt:=aA hr;obtain⟨y0,y1,y2,y3,y4,y5,y6,y7,rfl⟩:=us8 hus;clear hA hk hbl hd h8 hus;obtain⟨v,rfl,hv⟩:=Dx ts 114 hsz;replace e0:=(hv 0).symm.trans e0;replace e4:=(hv 4).symm.trans e4;replace e8:=(hv 8).symm.trans e8;clear hv hsz;simp only[List.range,List.range.loop,List.map_cons,List.map_nil,e0,e4,e8];clear e0 e4 e8;have HW1B:=Hh hb1;have HROW:=Hh hrow;have HG:=Hh hg;have HBK:=Hh hbk;have hgl:=aA hbk;clear hb1 hrow hg hbk hr;have m0:W1.cell? ⟨g,0,none⟩=some (.string ⟨#[74,80]⟩):=aC HBK.out 0;have m1:W1.cell? ⟨g,1,none⟩=some y0:=aC HBK.out 1;have m2:W1.cell? ⟨g,2,none⟩=some (.string ⟨#[]⟩):=aC HBK.out 2;have m3:W1.cell? ⟨g,3,none⟩=some y1:=aC HBK.out 3;have m4:W1.cell? ⟨g,4,none⟩=some (.string ⟨#[79,85,84]⟩):=aC HBK.out 4;have m5:W1.cell? ⟨g,5,none⟩=some y2:=aC HBK.out 5;have m6:W1.cell? ⟨g,6,none⟩=some (.string ⟨#[73,78]⟩):=aC HBK.out 6;have m7:W1.cell? ⟨g,7,none⟩=some y3:=aC HBK.out 7;have m8:W1.cell? ⟨g,8,none⟩=some (.string ⟨#[69,88]⟩):=aC HBK.out 8;have m9:W1.cell? ⟨g,9,none⟩=some y4:=aC HBK.out 9;have m10:W1.cell? ⟨g,10,none⟩=some (.string ⟨#[69,88]⟩):=aC HBK.out 10;have m11:W1.cell? ⟨g,11,none⟩=some y5:=aC HBK.out 11;have m12:W1.cell? ⟨g,12,none⟩=some (.string ⟨#[68,73]⟩):=aC HBK.out 12;have m13:W1.cell? ⟨g,13,none⟩=some y6:=aC HBK.out 13;have m14:W1.cell? ⟨g,14,none⟩=some (.string ⟨#[69,73]⟩):=aC HBK.out 14;have m15:W1.cell? ⟨g,15,none⟩=some y7:=aC HBK.out 15;rcases HY.out with rfl|rfl|rfl|rfl|rfl|rfl|rfl|rfl
   · clear m2 m3 m4 m5 m6 m7 m8 m9 m10 m11 m12 m13 m14 m15;have z:RowN W0.heap.size _ y0 W1:=HROW.out (([74,80],[(6,0,0)]),y0) sm;obtain⟨a,n,c,rfl⟩:=z.slice;have HZ:=Hh z;clear z;go_wp2_with fail
     go_region
     all_goals
      go_wp2_with fail
      refine bodyPost_ret (v:=.tuple #[.agg #[.string ⟨#[74,80]⟩,.slice a n c],.string ⟨#[119]⟩]) (by simp[results,results125,go_sem, *]) rfl ?_;exact zO (i:=([74,80],[(6,0,0)])) (ex:=[119]) HZ.out HW1B.out HBW.out HRB.out dc (by repeat (first|exact Kb.refl _ _|refine Kb.setCell ?_ _ _|refine Kb.alloc ?_ _|refine Kb.drew ?_))
   · clear m0 m1 m4 m5 m6 m7 m8 m9 m10 m11 m12 m13 m14 m15;have z:RowN W0.heap.size _ y1 W1:=HROW.out (([],[]),y1) sm;obtain⟨a,n,c,rfl⟩:=z.slice;have HZ:=Hh z;clear z;go_wp2_with fail
     go_region
     all_goals
      go_wp2_with fail
      refine bodyPost_ret (v:=.tuple #[.agg #[.string ⟨#[]⟩,.slice a n c],.string ⟨#[]⟩]) (by simp[results,results125,go_sem, *]) rfl ?_;exact zO (i:=([],[])) (ex:=[]) HZ.out HW1B.out HBW.out HRB.out dc (by repeat (first|exact Kb.refl _ _|refine Kb.setCell ?_ _ _|refine Kb.alloc ?_ _|refine Kb.drew ?_))
   · clear m0 m1 m2 m3 m6 m7 m8 m9 m10 m11 m12 m13 m14 m15;have z:RowN W0.heap.size _ y2 W1:=HROW.out (([79,85,84],[(7,0,0),(1,7,0)]),y2) sm;obtain⟨a,n,c,rfl⟩:=z.slice;have HZ:=Hh z;clear z;go_wp2_with fail
     go_region
     all_goals
      go_wp2_with fail
      refine bodyPost_ret (v:=.tuple #[.agg #[.string ⟨#[79,85,84]⟩,.slice a n c],.string ⟨#[110]⟩]) (by simp[results,results125,go_sem, *]) rfl ?_;exact zO (i:=([79,85,84],[(7,0,0),(1,7,0)])) (ex:=[110]) HZ.out HW1B.out HBW.out HRB.out dc (by repeat (first|exact Kb.refl _ _|refine Kb.setCell ?_ _ _|refine Kb.alloc ?_ _|refine Kb.drew ?_))
   · clear m0 m1 m2 m3 m4 m5 m8 m9 m10 m11 m12 m13 m14 m15;have z:RowN W0.heap.size _ y3 W1:=HROW.out (([73,78],[(1,7,0),(7,0,0)]),y3) sm;obtain⟨a,n,c,rfl⟩:=z.slice;have HZ:=Hh z;clear z;go_wp2_with fail
     go_region
     all_goals
      go_wp2_with fail
      refine bodyPost_ret (v:=.tuple #[.agg #[.string ⟨#[73,78]⟩,.slice a n c],.string ⟨#[110]⟩]) (by simp[results,results125,go_sem, *]) rfl ?_;exact zO (i:=([73,78],[(1,7,0),(7,0,0)])) (ex:=[110]) HZ.out HW1B.out HBW.out HRB.out dc (by repeat (first|exact Kb.refl _ _|refine Kb.setCell ?_ _ _|refine Kb.alloc ?_ _|refine Kb.drew ?_))
   · clear m0 m1 m2 m3 m4 m5 m6 m7 m10 m11 m12 m13 m14 m15;have z:RowN W0.heap.size _ y4 W1:=HROW.out (([69,88],[(4,3,0),(3,2,0)]),y4) sm;obtain⟨a,n,c,rfl⟩:=z.slice;have HZ:=Hh z;clear z;go_wp2_with fail
     go_region
     all_goals
      go_wp2_with fail
      refine bodyPost_ret (v:=.tuple #[.agg #[.string ⟨#[69,88]⟩,.slice a n c],.string ⟨#[]⟩]) (by simp[results,results125,go_sem, *]) rfl ?_;exact zO (i:=([69,88],[(4,3,0),(3,2,0)])) (ex:=[]) HZ.out HW1B.out HBW.out HRB.out dc (by repeat (first|exact Kb.refl _ _|refine Kb.setCell ?_ _ _|refine Kb.alloc ?_ _|refine Kb.drew ?_))
   · clear m0 m1 m2 m3 m4 m5 m6 m7 m8 m9 m12 m13 m14 m15;have z:RowN W0.heap.size _ y5 W1:=HROW.out (([69,88],[(3,1,0),(3,2,0)]),y5) sm;obtain⟨a,n,c,rfl⟩:=z.slice;have HZ:=Hh z;clear z;go_wp2_with fail
     go_region
     all_goals
      go_wp2_with fail
      refine bodyPost_ret (v:=.tuple #[.agg #[.string ⟨#[69,88]⟩,.slice a n c],.string ⟨#[]⟩]) (by simp[results,results125,go_sem, *]) rfl ?_;exact zO (i:=([69,88],[(3,1,0),(3,2,0)])) (ex:=[]) HZ.out HW1B.out HBW.out HRB.out dc (by repeat (first|exact Kb.refl _ _|refine Kb.setCell ?_ _ _|refine Kb.alloc ?_ _|refine Kb.drew ?_))
   · clear m0 m1 m2 m3 m4 m5 m6 m7 m8 m9 m10 m11 m14 m15;have z:RowN W0.heap.size _ y6 W1:=HROW.out (([68,73],[]),y6) sm;obtain⟨a,n,c,rfl⟩:=z.slice;have HZ:=Hh z;clear z;go_wp2_with fail
     go_region
     all_goals
      go_wp2_with fail
      refine bodyPost_ret (v:=.tuple #[.agg #[.string ⟨#[68,73]⟩,.slice a n c],.string ⟨#[]⟩]) (by simp[results,results125,go_sem, *]) rfl ?_;exact zO (i:=([68,73],[])) (ex:=[]) HZ.out HW1B.out HBW.out HRB.out dc (by repeat (first|exact Kb.refl _ _|refine Kb.setCell ?_ _ _|refine Kb.alloc ?_ _|refine Kb.drew ?_))
   · clear m0 m1 m2 m3 m4 m5 m6 m7 m8 m9 m10 m11 m12 m13;have z:RowN W0.heap.size _ y7 W1:=HROW.out (([69,73],[]),y7) sm;obtain⟨a,n,c,rfl⟩:=z.slice;have HZ:=Hh z;clear z;go_wp2_with fail
     go_region
     all_goals
      go_wp2_with fail
      refine bodyPost_ret (v:=.tuple #[.agg #[.string ⟨#[69,73]⟩,.slice a n c],.string ⟨#[]⟩]) (by simp[results,results125,go_sem, *]) rfl ?_;exact zO (i:=([69,73],[])) (ex:=[]) HZ.out HW1B.out HBW.out HRB.out dc (by repeat (first|exact Kb.refl _ _|refine Kb.setCell ?_ _ _|refine Kb.alloc ?_ _|refine Kb.drew ?_))
theorem Nr (y z:Int) (hy0:0≤y) (hy7:y≤7) (hz0:0≤z) (hz7:z≤7) (w:World):Calls prog 121 #[.int .i64 y,.int .i64 z] w (aU (Nq y.toNat z.toNat) w):=by
 by_cases h3:z=3
 · subst h3;rcases (by omega:y=0∨y=1∨y=2∨y=3∨y=4∨y=5∨y=6∨y=7) with rfl|rfl|rfl|rfl|rfl|rfl|rfl|rfl
   · exact lL 0 0 0 [73,78,67] dc dc dc dc dc dc dc w
   · exact lL 1 0 1 [68,69,67] dc dc dc dc dc dc dc w
   · exact lL 2 1 0 [73,78,67] dc dc dc dc dc dc dc w
   · exact lL 3 1 1 [68,69,67] dc dc dc dc dc dc dc w
   · exact lL 4 2 0 [73,78,67] dc dc dc dc dc dc dc w
   · exact lL 5 2 1 [68,69,67] dc dc dc dc dc dc dc w
   · exact lL 6 3 0 [73,78,67] dc dc dc dc dc dc dc w
   · exact lL 7 3 1 [68,69,67] dc dc dc dc dc dc dc w
 · by_cases h7:z=7
   · subst h7;rcases (by omega:y=0∨y=1∨y=2∨y=3∨y=4∨y=5∨y=6∨y=7) with rfl|rfl|rfl|rfl|rfl|rfl|rfl|rfl
     · exact lH 0 0 0 [82,76,67,65] dc w
     · exact lH 1 0 0 [82,82,67,65] dc w
     · exact lH 2 1 0 [82,76,65] dc w
     · exact lH 3 1 0 [82,82,65] dc w
     · exact lH 4 2 0 [68,65,65] dc w
     · exact lH 5 2 0 [67,80,76] dc w
     · exact lH 6 3 0 [83,67,70] dc w
     · exact lH 7 3 0 [67,67,70] dc w
   · rcases (by omega:z=0∨z=1∨z=2∨z=3∨z=4∨z=5∨z=6∨z=7) with rfl|rfl|rfl|rfl|rfl|rfl|rfl|rfl;all_goals first|exact absurd rfl h3|exact absurd rfl h7|skip
     all_goals rcases (by omega:y=0∨y=1∨y=2∨y=3∨y=4∨y=5∨y=6∨y=7) with rfl|rfl|rfl|rfl|rfl|rfl|rfl|rfl
     all_goals exact eM _ _ _ _ _ rfl rfl dc dc dc dc (by repeat (first|exact .inl dc|refine .inr ?_|decide)) w
theorem Ib (y z:Int) (hy0:0≤y) (hy7:y≤7) (hz0:0≤z) (hz7:z≤7) (w:World):Calls prog 125 #[.int .i64 y,.int .i64 z] w (aU (vD y.toNat z.toNat) w):=by
 rcases (by omega:z=0∨z=1∨z=2∨z=3∨z=4∨z=5∨z=6∨z=7) with rfl|rfl|rfl|rfl|rfl|rfl|rfl|rfl <;>
 rcases (by omega:y=0∨y=1∨y=2∨y=3∨y=4∨y=5∨y=6∨y=7) with rfl|rfl|rfl|rfl|rfl|rfl|rfl|rfl
 · exact jG 0 dc dc w
 · exact jG 1 dc dc w
 · exact jG 2 dc dc w
 · exact jG 3 dc dc w
 · exact jG 4 dc dc w
 · exact jG 5 dc dc w
 · exact jG 6 dc dc w
 · exact jG 7 dc dc w
 · exact oH 0 0 (3,0,0) dc dc dc dc dc dc dc w
 · exact oG 1 0 ([82,69,84],[]) dc dc dc dc dc dc dc w
 · exact oH 2 1 (3,1,0) dc dc dc dc dc dc dc w
 · exact oG 3 1 ([69,88,88],[]) dc dc dc dc dc dc dc w
 · exact oH 4 2 (3,2,0) dc dc dc dc dc dc dc w
 · exact oG 5 2 ([74,80],[(4,2,0)]) dc dc dc dc dc dc dc w
 · exact oH 6 3 (3,4,0) dc dc dc dc dc dc dc w
 · exact oG 7 3 ([76,68],[(3,3,0),(3,2,0)]) dc dc dc dc dc dc dc w
 · exact jF 0 dc dc w
 · exact jF 1 dc dc w
 · exact jF 2 dc dc w
 · exact jF 3 dc dc w
 · exact jF 4 dc dc w
 · exact jF 5 dc dc w
 · exact jF 6 dc dc w
 · exact jF 7 dc dc w
 · exact jE 0 dc w
 · exact jE 1 dc w
 · exact jE 2 dc w
 · exact jE 3 dc w
 · exact jE 4 dc w
 · exact jE 5 dc w
 · exact jE 6 dc w
 · exact jE 7 dc w
 · exact jD 0 dc dc w
 · exact jD 1 dc dc w
 · exact jD 2 dc dc w
 · exact jD 3 dc dc w
 · exact jD 4 dc dc w
 · exact jD 5 dc dc w
 · exact jD 6 dc dc w
 · exact jD 7 dc dc w
 · exact oF 0 0 (3,0,0) dc dc dc dc dc dc dc w
 · exact Om 1 rfl w
 · exact oF 2 1 (3,1,0) dc dc dc dc dc dc dc w
 · exact sR 3 dc dc w
 · exact oF 4 2 (3,2,0) dc dc dc dc dc dc dc w
 · exact sR 5 dc dc w
 · exact oF 6 3 (3,4,0) dc dc dc dc dc dc dc w
 · exact sR 7 dc dc w
 · exact jC 0 dc dc w
 · exact jC 1 dc dc w
 · exact jC 2 dc dc w
 · exact jC 3 dc dc w
 · exact jC 4 dc dc w
 · exact jC 5 dc dc w
 · exact jC 6 dc dc w
 · exact jC 7 dc dc w
 · exact jB 0 dc dc w
 · exact jB 1 dc dc w
 · exact jB 2 dc dc w
 · exact jB 3 dc dc w
 · exact jB 4 dc dc w
 · exact jB 5 dc dc w
 · exact jB 6 dc dc w
 · exact jB 7 dc dc w
theorem So (op y z:Int) (_hb0:0≤op) (_hb1:op≤255) (hx:op/64=0) (hy:op/8%8=y) (hz:op%8=z) (hy0:0≤y) (hy7:y≤7) (hz0:0≤z) (hz7:z≤7) (w:World):Calls prog 84 #[.int .u8 op] w (aU (Nq y.toNat z.toNat) w):=by
 go_enter func84,ntmps84
 go_wp2_with fail
 have H0:=Hh (aF w (.cells #[.string ⟨#[]⟩,.slice none 0 0] 53));obtain⟨W0,hW0⟩:∃ W0,w.alloc (.cells #[.string ⟨#[]⟩,.slice none 0 0] 53)=W0:=⟨_,rfl⟩;have h0:W0.heap[w.heap.size]? = some (.cells #[.string ⟨#[]⟩,.slice none 0 0] 53 (0,0)):=by rw[←hW0];exact aF _ _
 have HBW:=Hh (show Below w.heap.size w W0 by rw[←hW0];exact br.alloc lr _)
 have HK:=Hh (fun W (hb:Below W0.heap.size W0 W)=>k2 h0 hb);have HW0:=Hh (aA h0);rw[hW0];clear hW0 h0 H0;(with_reducible refine (Nr y z hy0 hy7 hz0 hz7 _).mono ?_);rintro e w4 ⟨v,rfl,ho⟩;obtain⟨a,n,c,rfl⟩:=ho.slice;have HB4:=Hh ho.2.2;have HO:=Hh ho;clear ho;obtain⟨k0,k1,f0,f1⟩:=HK.out _ HB4.out;have hlt:=Nat.lt_of_lt_of_le HW0.out HB4.out.size;go_wp2_with fail
 refine bodyPost_ret (v:=.tuple #[.agg #[.string ⟨((Nq y.toNat z.toNat).1).1.toArray⟩,.slice a n c],.string ⟨((Nq y.toNat z.toNat).2).toArray⟩]) (by simp[results,results84,go_sem, *]) rfl ?_;exact⟨_,rfl,HO.out.kb HBW.out HW0.out (Kb.setCell (Kb.setCell (Kb.refl _ _) 0 _) 1 _)⟩
theorem Sm (op y z:Int) (_hb0:0≤op) (_hb1:op≤255) (hx:op/64=3) (hy:op/8%8=y) (hz:op%8=z) (hy0:0≤y) (hy7:y≤7) (hz0:0≤z) (hz7:z≤7) (w:World):Calls prog 84 #[.int .u8 op] w (aU (vD y.toNat z.toNat) w):=by
 go_enter func84,ntmps84
 go_wp2_with fail
 have H0:=Hh (aF w (.cells #[.string ⟨#[]⟩,.slice none 0 0] 53));obtain⟨W0,hW0⟩:∃ W0,w.alloc (.cells #[.string ⟨#[]⟩,.slice none 0 0] 53)=W0:=⟨_,rfl⟩;have h0:W0.heap[w.heap.size]? = some (.cells #[.string ⟨#[]⟩,.slice none 0 0] 53 (0,0)):=by rw[←hW0];exact aF _ _
 have HBW:=Hh (show Below w.heap.size w W0 by rw[←hW0];exact br.alloc lr _)
 have HK:=Hh (fun W (hb:Below W0.heap.size W0 W)=>k2 h0 hb);have HW0:=Hh (aA h0);rw[hW0];clear hW0 h0 H0;(with_reducible refine (Ib y z hy0 hy7 hz0 hz7 _).mono ?_);rintro e w4 ⟨v,rfl,ho⟩;obtain⟨a,n,c,rfl⟩:=ho.slice;have HB4:=Hh ho.2.2;have HO:=Hh ho;clear ho;obtain⟨k0,k1,f0,f1⟩:=HK.out _ HB4.out;have hlt:=Nat.lt_of_lt_of_le HW0.out HB4.out.size;go_wp2_with fail
 refine bodyPost_ret (v:=.tuple #[.agg #[.string ⟨((vD y.toNat z.toNat).1).1.toArray⟩,.slice a n c],.string ⟨((vD y.toNat z.toNat).2).toArray⟩]) (by simp[results,results84,go_sem, *]) rfl ?_;exact⟨_,rfl,HO.out.kb HBW.out HW0.out (Kb.setCell (Kb.setCell (Kb.refl _ _) 0 _) 1 _)⟩
theorem Nk (op y z:Int) (_hb0:0≤op) (_hb1:op≤255) (hx:op/64=1) (hy:op/8%8=y) (hz:op%8=z) (_hy0:0≤y) (_hy7:y≤7) (_hz0:0≤z) (_hz7:z≤7) (e1:(y == 6)=true) (e2:(z == 6)=true) (w:World):Calls prog 84 #[.int .u8 op] w (aU (([72,65,76,84],[]),[]) w):=by
 go_enter func84,ntmps84
 go_wp2_with fail
 have H0:=Hh (aF w (.cells #[.string ⟨#[]⟩,.slice none 0 0] 53));obtain⟨W0,hW0⟩:∃ W0,w.alloc (.cells #[.string ⟨#[]⟩,.slice none 0 0] 53)=W0:=⟨_,rfl⟩;have h0:W0.heap[w.heap.size]? = some (.cells #[.string ⟨#[]⟩,.slice none 0 0] 53 (0,0)):=by rw[←hW0];exact aF _ _
 have HBW:=Hh (show Below w.heap.size w W0 by rw[←hW0];exact br.alloc lr _)
 have HK:=Hh (fun W (hb:Below W0.heap.size W0 W)=>k2 h0 hb);have HW0:=Hh (aA h0);rw[hW0];clear hW0 h0 H0;(with_reducible refine (bH _ _ (.inl rfl) _).mono ?_);rintro e w3 ⟨rfl,hb3⟩;have HB3:=Hh (hb3);clear hb3;obtain⟨k0,k1,f0,f1⟩:=HK.out _ HB3.out;have hlt:=Nat.lt_of_lt_of_le HW0.out HB3.out.size;go_wp2_with fail
 refine bodyPost_ret (v:=.tuple #[.agg #[.string ⟨#[72,65,76,84]⟩,.slice none 0 0],.string ⟨#[]⟩]) (by simp[results,results84,go_sem, *]) rfl ?_;exact⟨_,rfl,gZ rfl HBW.out HB3.out⟩
theorem Kw {p:Prop} (h:p:=by
 go_enter func84,ntmps84
 go_wp2_with fail
 have H0:=Hh (aF w (.cells #[.string ⟨#[]⟩,.slice none 0 0] 53));obtain⟨W0,hW0⟩:∃ W0,w.alloc (.cells #[.string ⟨#[]⟩,.slice none 0 0] 53)=W0:=⟨_,rfl⟩;have h0:W0.heap[w.heap.size]? = some (.cells #[.string ⟨#[]⟩,.slice none 0 0] 53 (0,0)):=by rw[←hW0];exact aF _ _
 have HBW:=Hh (show Below w.heap.size w W0 by rw[←hW0];exact br.alloc lr _)
 have HK:=Hh (fun W (hb:Below W0.heap.size W0 W)=>k2 h0 hb);have HW0:=Hh (aA h0);rw[hW0];clear hW0 h0 H0;(with_reducible refine (r9i _ y om _).mono ?_);rintro e w3 ⟨rfl,hb3⟩;have HB3:=Hh (hb3);clear hb3;obtain⟨k0,k1,f0,f1⟩:=HK.out _ HB3.out;go_wp2_with fail
 (with_reducible refine (r9i _ z om _).mono ?_);rintro e w4 ⟨rfl,hb4⟩;have HB4:=Hh (HB3.out.trans (hb4.mono HB3.out.size));clear hb4;obtain⟨k0,k1,f0,f1⟩:=HK.out _ HB4.out;go_wp2_with fail
 (with_reducible refine (eY (dO y) (dO z) _).mono ?_);rintro e w5 ⟨g,rfl,hgg,hgb,hb5⟩;have HB5:=Hh (HB4.out.trans (hb5.mono HB4.out.size));have HG:=Hh hgb;have HGG:=Hh (Nat.le_trans HB4.out.size hgg);clear hb5 hgb hgg;go_wp2_with fail
 (with_reducible refine (bH _ _ (.inr ⟨_,_,_,rfl⟩) _).mono ?_);rintro e w6 ⟨rfl,hb6⟩;have HG9:=Hh (aB HG.out hb6 (aA HG.out));have HB6:=Hh (HB5.out.trans (hb6.mono HB5.out.size));clear hb6;obtain⟨k0,k1,f0,f1⟩:=HK.out _ HB6.out;have hlt:=Nat.lt_of_lt_of_le HW0.out HB6.out.size;go_wp2_with fail
 refine bodyPost_ret (v:=.tuple #[.agg #[.string ⟨#[76,68]⟩,.slice (some ⟨g,0,none⟩) 2 2],.string ⟨#[]⟩]) (by simp[results,results84,go_sem, *]) rfl ?_;exact⟨_,rfl,bA rfl HBW.out HW0.out HB6.out HGG.out HG9.out rfl om⟩):p:=h
theorem Nm (op y z:Int) (_hb0:0≤op) (_hb1:op≤255) (hx:op/64=1) (hy:op/8%8=y) (hz:op%8=z) (_hy0:0≤y) (_hy7:y≤7) (_hz0:0≤z) (_hz7:z≤7) (e1:(y == 6)=false) (w:World):Calls prog 84 #[.int .u8 op] w (aU (([76,68],[(dO y),(dO z)]),[]) w):=by
 exact Kw
theorem Nl (op y z:Int) (_hb0:0≤op) (_hb1:op≤255) (hx:op/64=1) (hy:op/8%8=y) (hz:op%8=z) (_hy0:0≤y) (_hy7:y≤7) (_hz0:0≤z) (_hz7:z≤7) (e1:(y == 6)=true) (e2:(z == 6)=false) (w:World):Calls prog 84 #[.int .u8 op] w (aU (([76,68],[(dO y),(dO z)]),[]) w):=by
 exact Kw
theorem Sn (op y z:Int) (_hb0:0≤op) (_hb1:op≤255) (hx:op/64=2) (hy:op/8%8=y) (hz:op%8=z) (hy0:0≤y) (hy7:y≤7) (_hz0:0≤z) (_hz7:z≤7) (w:World):Calls prog 84 #[.int .u8 op] w (aU (Ai y.toNat (dO z),[]) w):=by
 go_enter func84,ntmps84
 go_wp2_with fail
 have H0:=Hh (aF w (.cells #[.string ⟨#[]⟩,.slice none 0 0] 53));obtain⟨W0,hW0⟩:∃ W0,w.alloc (.cells #[.string ⟨#[]⟩,.slice none 0 0] 53)=W0:=⟨_,rfl⟩;have h0:W0.heap[w.heap.size]? = some (.cells #[.string ⟨#[]⟩,.slice none 0 0] 53 (0,0)):=by rw[←hW0];exact aF _ _
 have HBW:=Hh (show Below w.heap.size w W0 by rw[←hW0];exact br.alloc lr _)
 have HK:=Hh (fun W (hb:Below W0.heap.size W0 W)=>k2 h0 hb);have HW0:=Hh (aA h0);rw[hW0];clear hW0 h0 H0;(with_reducible refine (r9i _ z om _).mono ?_);rintro e w3 ⟨rfl,hb3⟩;have HB3:=Hh hb3;clear hb3;obtain⟨k0,k1,f0,f1⟩:=HK.out _ HB3.out;go_wp2_with fail
 (with_reducible refine (Aj y hy0 hy7 (dO z) _).mono ?_);rintro e w4 ⟨v,rfl,ho⟩;obtain⟨a,n,c,rfl⟩:=ho.slice;have HB4:=Hh (HB3.out.trans (ho.2.2.mono HB3.out.size));have HO:=Hh ho;clear ho;obtain⟨k0,k1,f0,f1⟩:=HK.out _ HB4.out;have hlt:=Nat.lt_of_lt_of_le HW0.out HB4.out.size;go_wp2_with fail
 refine bodyPost_ret (v:=.tuple #[.agg #[.string ⟨(Ai y.toNat (dO z)).1.toArray⟩,.slice a n c],.string ⟨(([]:List UInt8)).toArray⟩]) (by simp[results,results84,go_sem, *]) rfl ?_;exact⟨_,rfl,HO.out.kb (HBW.out.trans (HB3.out.mono HBW.out.size)) (Nat.lt_of_lt_of_le HW0.out HB3.out.size) (Kb.setCell (Kb.setCell (Kb.refl _ _) 0 _) 1 _)⟩
end Go.Proofs.YtoigglljnklhlaaGreatDoor
