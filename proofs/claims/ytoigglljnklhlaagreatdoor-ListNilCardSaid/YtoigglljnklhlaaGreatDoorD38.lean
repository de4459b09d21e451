/- Joined. -/
import Derived.Test.YtoigglljnklhlaaGreatDoorD37
set_option maxHeartbeats 8000000
set_option maxRecDepth 100000
namespace Go.Proofs.YtoigglljnklhlaaGreatDoor
open Go.RowKit Go.Sort
open Go.Proofs.Tryz
def cQ (x:aY × List UInt8 × Bool) (w:World) (e:Ending) (w':World):Prop:=∃ v,e=.returned (.tuple #[.agg #[.string ⟨x.1.1.toArray⟩,v],.string ⟨x.2.1.toArray⟩,.bool x.2.2])∧InsOwn x.1 w v w'
def e2D (i:Nat):Tmp:=match i with
 | 0=>87
 | 1=>88
 | 2=>89
 | 3=>90
 | 4=>91
 | 5=>92
 | 6=>93
 | 7=>94
 | 9=>3
 | 10=>4
 | _=>168
def e2K (k:Nat):Bool:=([87,88,89,90,91,92,93,94,3,4]:List Nat).contains k
theorem Wd:∀ i,i<11→i≠8→e2K (e2D i)=true∧e2D i<168:=dc
theorem Zd:∀ i,i<11→∀ j,j<11→i≠8→j≠8→e2D i=e2D j→i=j:=dc
def e2P (r:Nat) (k q:Int) (nm:List UInt8) (i:Nat):D9:=match i with
 | 0=>.strs [[83,66,67],[65,68,67]]
 | 1=>.val (.int .i64 q)
 | 2=>.strAt [[83,66,67],[65,68,67]] q.toNat
 | 3=>.val (.string ⟨nm.toArray⟩)
 | 4=>.val (opV (3,2,0))
 | 5=>.val (opV (3,k,0))
 | 6=>.row [(3,2,0),(3,k,0)]
 | 7=>.ins (nm,[(3,2,0),(3,k,0)])
 | 8=>.stored r (nm,[(3,2,0),(3,k,0)])
 | 9=>.val (.string ⟨#[]⟩)
 | 10=>.val (.bool false)
 | _=>.val undef
theorem Pt (r:Nat) (k q:Int) (nm:List UInt8):∀ i,i≠8→(e2P r k q nm i).plain=true:=by
 intro i h;unfold e2P;split<;>first|rfl|exact absurd rfl h
def Ps (i:Nat):Tmp:=match i with
 | 0=>99
 | 1=>100
 | 2=>101
 | 3=>102
 | 4=>103
 | 5=>104
 | 7=>3
 | 8=>4
 | _=>168
def aAK (k:Nat):Bool:=([99,100,101,102,103,104,3,4]:List Nat).contains k
theorem Pr:∀ i,i<9→i≠6→aAK (Ps i)=true∧Ps i<168:=dc
theorem Tt:∀ i,i<9→∀ j,j<9→i≠6→j≠6→Ps i=Ps j→i=j:=dc
def Zc (r:Nat) (y k:Int) (b:Bool) (i:Nat):D9:=match i with
 | 0=>.val (opV (7,0,0))
 | 1=>.val (opV (3,k,0))
 | 2=>.row [(7,0,0),(3,k,0)]
 | 3=>.ins ([76,68],[(7,0,0),(3,k,0)])
 | 4=>.val (.int .i64 y)
 | 5=>.val (.bool b)
 | 6=>.stored r ([76,68],[(7,0,0),(3,k,0)])
 | 7=>.val (.string ⟨#[119]⟩)
 | 8=>.val (.bool b)
 | _=>.val undef
theorem Iz (r:Nat) (y k:Int) (b:Bool):∀ i,i≠6→(Zc r y k b i).plain=true:=by
 intro i h;unfold Zc;split<;>first|rfl|exact absurd rfl h
def Pq (i:Nat):Tmp:=match i with
 | 0=>105
 | 1=>106
 | 2=>107
 | 3=>108
 | 4=>109
 | 5=>110
 | 7=>3
 | 8=>4
 | _=>168
def aAJ (k:Nat):Bool:=([105,106,107,108,109,110,3,4]:List Nat).contains k
theorem Pp:∀ i,i<9→i≠6→aAJ (Pq i)=true∧Pq i<168:=dc
theorem Ts:∀ i,i<9→∀ j,j<9→i≠6→j≠6→Pq i=Pq j→i=j:=dc
def Zb (r:Nat) (y k:Int) (b:Bool) (i:Nat):D9:=match i with
 | 0=>.val (opV (3,k,0))
 | 1=>.val (opV (7,0,0))
 | 2=>.row [(3,k,0),(7,0,0)]
 | 3=>.ins ([76,68],[(3,k,0),(7,0,0)])
 | 4=>.val (.int .i64 y)
 | 5=>.val (.bool b)
 | 6=>.stored r ([76,68],[(3,k,0),(7,0,0)])
 | 7=>.val (.string ⟨#[119]⟩)
 | 8=>.val (.bool b)
 | _=>.val undef
theorem Iy (r:Nat) (y k:Int) (b:Bool):∀ i,i≠6→(Zb r y k b i).plain=true:=by
 intro i h;unfold Zb;split<;>first|rfl|exact absurd rfl h
theorem Av {p:Prop} (h:p:=by
 refine⟨_,[],rfl,rfl,(fun j hj=>by cases hj),?_⟩;intro R a W hA hk hbw hd hv hs;have e6:=hA.get (k:=10) (by rfl) (by rfl);have hbk:=(hk.block _ (aA H2.out) HN2.out).trans H2.out;have c0:=aC hbk 0;have c1:=aC hbk 1;have c2:=aC hbk 2;go_simp;exact hv dc _ _ br rfl):p:=h
theorem vX {p:Prop} (h:p:=by
 refine⟨_,[],rfl,rfl,(fun j hj=>by cases hj),?_⟩;intro R a W hA hk hbw hd hv hs;go_simp;exact hv dc _ _ br rfl):p:=h
theorem Kv {p:Prop} (h:p:=by
 refine⟨_,[],rfl,rfl,(fun j hj=>by cases hj),?_⟩;intro R a W hA hk hbw hd hv hs;go_simp;(with_reducible refine (uT _).mono ?_);rintro e w' ⟨rfl,hb⟩;exact hv dc _ _ hb rfl):p:=h
theorem Ku {p:Prop} (h:p:=by
 refine⟨_,[],rfl,rfl,(fun j hj=>by cases hj),?_⟩;intro R a W hA hk hbw hd hv hs;have e6:=hA.get (k:=6) (by rfl) (by rfl);go_simp;exact hv dc _ _ br rfl):p:=h
theorem kT (op y k z:Int) (R:aY × List UInt8 × Bool) (_hb0:0≤op) (_hb1:op≤255) (hx:op/64=1) (hy:op/8%8=y) (hz:op%8=z) (_hy0:0≤y) (_hy7:y≤7) (hk:y.tdiv 2=k) (hk0:0≤k) (hk3:k≤3)
 (hD:(z=0∧(y == 6)=true∧R=(([73,78],[(4,8,0)]),[],false))
  ∨ (z=0∧(y == 6)=false∧R=(([73,78],[(dO y),(4,8,0)]),[],false))
  ∨ (z=1∧(y == 6)=true∧R=(([79,85,84],[(4,8,0),(6,0,0)]),[],false))
  ∨ (z=1∧(y == 6)=false∧R=(([79,85,84],[(4,8,0),(dO y)]),[],false))
  ∨ (z=4∧0<y∧R=(([78,69,71],[]),[],true))
  ∨ (z=4∧¬ 0<y∧R=(([78,69,71],[]),[],false))
  ∨ (z=5∧(y == 1)=true∧R=(([82,69,84,73],[]),[],false))
  ∨ (z=5∧(y == 1)=false∧0<y∧R=(([82,69,84,78],[]),[],true))
  ∨ (z=5∧(y == 1)=false∧¬ 0<y∧R=(([82,69,84,78],[]),[],false))
  ∨ (∃ (q:Int) (nm:List UInt8),z=2∧Hid (q=0∧nm=[83,66,67]∨q=1∧nm=[65,68,67])∧y.tmod 2=q∧R=((nm,[(3,2,0),(3,k,0)]),[],false))
  ∨ (∃ (b:Bool),z=3∧y.tmod 2=0∧(y == 4)=b∧R=(([76,68],[(7,0,0),(3,k,0)]),[119],b))
  ∨ (∃ (b:Bool),z=3∧y.tmod 2=1∧(y == 5)=b∧R=(([76,68],[(3,k,0),(7,0,0)]),[119],b)))
 (w:World):Calls prog 87 #[.int .u8 op] w (cQ R w):=by
 rcases hD with⟨rfl,e1,rfl⟩|⟨rfl,e1,rfl⟩|⟨rfl,e1,rfl⟩|⟨rfl,e1,rfl⟩|⟨rfl,e1,rfl⟩|⟨rfl,e1,rfl⟩|⟨rfl,e1,rfl⟩|⟨rfl,e1,e2,rfl⟩|⟨rfl,e1,e2,rfl⟩|⟨q,nm,rfl,HJ,hm,rfl⟩|⟨b,rfl,hm,e1,rfl⟩|⟨b,rfl,hm,e1,rfl⟩;all_goals
  go_enter func87,ntmps87
  go_wp2_with fail
  (with_reducible refine (pE _ 2 rfl _).mono ?_);rintro e w1 ⟨rfl,hb1⟩;have H0:=Hh (bQ hb1);have HW1:=Hh (cL hb1);have HL0:=Hh (aA (bQ hb1));clear hb1;go_wp2_with fail
  (with_reducible refine (pE _ k (by first|omega|(subst hy;decide)|(subst hk;decide)) _).mono ?_)
  rintro e w2 ⟨rfl,hb2⟩;have h1:=bQ hb2;have h0:=fT H0.out hb2;have hw2:=dC HW1.out hb2;clear hb2;have H0:=Hh h0;have H1:=Hh h1;have HW2:=Hh hw2;clear h0 h1 hw2;go_wp2_with fail
  obtain⟨W0,hW0⟩:∃ W0,w2.alloc (.cells #[.int .i64 3,.int .i64 k,.int .i64 0] 144)=W0:=⟨_,rfl⟩;have h2:W0.heap[w2.heap.size]? = some (.cells #[.int .i64 3,.int .i64 k,.int .i64 0] 144 (0,0)):=by rw[←hW0];exact aF _ _
  have h1:W0.heap[w1.heap.size]? = some (.cells #[.int .i64 3,.int .i64 2,.int .i64 0] 144 (0,0)):=by rw[←hW0];exact aE H1.out
  have h0:W0.heap[w.heap.size]? = some (.cells #[.string ⟨#[]⟩,.slice none 0 0] 53 (0,0)):=by rw[←hW0];exact aE H0.out
  have HBW:=Hh (show Below w.heap.size w W0 by rw[←hW0];exact HW2.out.trans (Below.mono (br.alloc lr _) HW2.out.size))
  have HK:=Hh (fun W (hb:Below W0.heap.size W0 W)=>And.intro (k3 h1 hb) (And.intro (k3 h2 hb) (k2 h0 hb)));have HW0:=Hh (aA h0);have HN1:=Hh (Nat.ne_of_gt HL0.out);have HN2:=Hh (Nat.ne_of_gt (Nat.lt_trans HL0.out (aA H1.out)));clear H0 H1;have HB0:=Hh h0;have H1:=Hh h1;have H2:=Hh h2;have HRB:=Hh (aA h0);rw[hW0];clear hW0 h0 h1 h2
 · (with_reducible refine (lQ 8 _).mono ?_);rintro e w3 ⟨rfl,hb3⟩;have HB3:=Hh (hb3);clear hb3;obtain⟨⟨_,_,_⟩,⟨_,_,_⟩,k0,k1,f0,f1⟩:=HK.out _ HB3.out;go_wp2_with fail
   (with_reducible refine (fB (4,8,0) _).mono ?_);rintro e w4 ⟨g,rfl,hgg,hgb,hb4⟩;have HB4:=Hh (HB3.out.trans (hb4.mono HB3.out.size));have HG:=Hh hgb;have HGG:=Hh (Nat.le_trans HB3.out.size hgg);clear hb4 hgb hgg;go_wp2_with fail
   (with_reducible refine (bH _ _ (.inr ⟨_,_,_,rfl⟩) _).mono ?_);rintro e w5 ⟨rfl,hb5⟩;have HG9:=Hh (aB HG.out hb5 (aA HG.out));have HB5:=Hh (HB4.out.trans (hb5.mono HB4.out.size));clear hb5;obtain⟨⟨_,_,_⟩,⟨_,_,_⟩,k0,k1,f0,f1⟩:=HK.out _ HB5.out;have hlt:=Nat.lt_of_lt_of_le HW0.out HB5.out.size;go_wp2_with fail
   refine bodyPost_ret (v:=.tuple #[.agg #[.string ⟨#[73,78]⟩,.slice (some ⟨g,0,none⟩) 1 1],.string ⟨#[]⟩,.bool false]) (by simp[results,results87,go_sem, *]) rfl ?_;exact⟨_,rfl,bA rfl HBW.out HW0.out HB5.out HGG.out HG9.out rfl om⟩
 · (with_reducible refine (r9i _ y om _).mono ?_);rintro e w3 ⟨rfl,hb3⟩;have HB3:=Hh (hb3);clear hb3;obtain⟨⟨_,_,_⟩,⟨_,_,_⟩,k0,k1,f0,f1⟩:=HK.out _ HB3.out;go_wp2_with fail
   (with_reducible refine (lQ 8 _).mono ?_);rintro e w4 ⟨rfl,hb4⟩;have HB4:=Hh (HB3.out.trans (hb4.mono HB3.out.size));clear hb4;obtain⟨⟨_,_,_⟩,⟨_,_,_⟩,k0,k1,f0,f1⟩:=HK.out _ HB4.out;go_wp2_with fail
   (with_reducible refine (eY (dO y) (4,8,0) _).mono ?_);rintro e w5 ⟨g,rfl,hgg,hgb,hb5⟩;have HB5:=Hh (HB4.out.trans (hb5.mono HB4.out.size));have HG:=Hh hgb;have HGG:=Hh (Nat.le_trans HB4.out.size hgg);clear hb5 hgb hgg;go_wp2_with fail
   (with_reducible refine (bH _ _ (.inr ⟨_,_,_,rfl⟩) _).mono ?_);rintro e w6 ⟨rfl,hb6⟩;have HG9:=Hh (aB HG.out hb6 (aA HG.out));have HB6:=Hh (HB5.out.trans (hb6.mono HB5.out.size));clear hb6;obtain⟨⟨_,_,_⟩,⟨_,_,_⟩,k0,k1,f0,f1⟩:=HK.out _ HB6.out;have hlt:=Nat.lt_of_lt_of_le HW0.out HB6.out.size;go_wp2_with fail
   refine bodyPost_ret (v:=.tuple #[.agg #[.string ⟨#[73,78]⟩,.slice (some ⟨g,0,none⟩) 2 2],.string ⟨#[]⟩,.bool false]) (by simp[results,results87,go_sem, *]) rfl ?_;exact⟨_,rfl,bA rfl HBW.out HW0.out HB6.out HGG.out HG9.out rfl om⟩
 · (with_reducible refine (lQ 8 _).mono ?_);rintro e w3 ⟨rfl,hb3⟩;have HB3:=Hh (hb3);clear hb3;obtain⟨⟨_,_,_⟩,⟨_,_,_⟩,k0,k1,f0,f1⟩:=HK.out _ HB3.out;go_wp2_with fail
   (with_reducible refine (fF 0 _).mono ?_);rintro e w4 ⟨rfl,hb4⟩;have HB4:=Hh (HB3.out.trans (hb4.mono HB3.out.size));clear hb4;obtain⟨⟨_,_,_⟩,⟨_,_,_⟩,k0,k1,f0,f1⟩:=HK.out _ HB4.out;go_wp2_with fail
   (with_reducible refine (eY (4,8,0) (6,0,0) _).mono ?_);rintro e w5 ⟨g,rfl,hgg,hgb,hb5⟩;have HB5:=Hh (HB4.out.trans (hb5.mono HB4.out.size));have HG:=Hh hgb;have HGG:=Hh (Nat.le_trans HB4.out.size hgg);clear hb5 hgb hgg;go_wp2_with fail
   (with_reducible refine (bH _ _ (.inr ⟨_,_,_,rfl⟩) _).mono ?_);rintro e w6 ⟨rfl,hb6⟩;have HG9:=Hh (aB HG.out hb6 (aA HG.out));have HB6:=Hh (HB5.out.trans (hb6.mono HB5.out.size));clear hb6;obtain⟨⟨_,_,_⟩,⟨_,_,_⟩,k0,k1,f0,f1⟩:=HK.out _ HB6.out;have hlt:=Nat.lt_of_lt_of_le HW0.out HB6.out.size;go_wp2_with fail
   refine bodyPost_ret (v:=.tuple #[.agg #[.string ⟨#[79,85,84]⟩,.slice (some ⟨g,0,none⟩) 2 2],.string ⟨#[]⟩,.bool false]) (by simp[results,results87,go_sem, *]) rfl ?_;exact⟨_,rfl,bA rfl HBW.out HW0.out HB6.out HGG.out HG9.out rfl om⟩
 · (with_reducible refine (lQ 8 _).mono ?_);rintro e w3 ⟨rfl,hb3⟩;have HB3:=Hh (hb3);clear hb3;obtain⟨⟨_,_,_⟩,⟨_,_,_⟩,k0,k1,f0,f1⟩:=HK.out _ HB3.out;go_wp2_with fail
   (with_reducible refine (r9i _ y om _).mono ?_);rintro e w4 ⟨rfl,hb4⟩;have HB4:=Hh (HB3.out.trans (hb4.mono HB3.out.size));clear hb4;obtain⟨⟨_,_,_⟩,⟨_,_,_⟩,k0,k1,f0,f1⟩:=HK.out _ HB4.out;go_wp2_with fail
   (with_reducible refine (eY (4,8,0) (dO y) _).mono ?_);rintro e w5 ⟨g,rfl,hgg,hgb,hb5⟩;have HB5:=Hh (HB4.out.trans (hb5.mono HB4.out.size));have HG:=Hh hgb;have HGG:=Hh (Nat.le_trans HB4.out.size hgg);clear hb5 hgb hgg;go_wp2_with fail
   (with_reducible refine (bH _ _ (.inr ⟨_,_,_,rfl⟩) _).mono ?_);rintro e w6 ⟨rfl,hb6⟩;have HG9:=Hh (aB HG.out hb6 (aA HG.out));have HB6:=Hh (HB5.out.trans (hb6.mono HB5.out.size));clear hb6;obtain⟨⟨_,_,_⟩,⟨_,_,_⟩,k0,k1,f0,f1⟩:=HK.out _ HB6.out;have hlt:=Nat.lt_of_lt_of_le HW0.out HB6.out.size;go_wp2_with fail
   refine bodyPost_ret (v:=.tuple #[.agg #[.string ⟨#[79,85,84]⟩,.slice (some ⟨g,0,none⟩) 2 2],.string ⟨#[]⟩,.bool false]) (by simp[results,results87,go_sem, *]) rfl ?_;exact⟨_,rfl,bA rfl HBW.out HW0.out HB6.out HGG.out HG9.out rfl om⟩
 · (with_reducible refine (bH _ _ (.inl rfl) _).mono ?_);rintro e w3 ⟨rfl,hb3⟩;have HB3:=Hh (hb3);clear hb3;obtain⟨⟨_,_,_⟩,⟨_,_,_⟩,k0,k1,f0,f1⟩:=HK.out _ HB3.out;have hlt:=Nat.lt_of_lt_of_le HW0.out HB3.out.size;go_wp2_with fail
   refine bodyPost_ret (v:=.tuple #[.agg #[.string ⟨#[78,69,71]⟩,.slice none 0 0],.string ⟨#[]⟩,.bool true]) (by simp[results,results87,go_sem, *]) rfl ?_;exact⟨_,rfl,gZ rfl HBW.out HB3.out⟩
 · (with_reducible refine (bH _ _ (.inl rfl) _).mono ?_);rintro e w3 ⟨rfl,hb3⟩;have HB3:=Hh (hb3);clear hb3;obtain⟨⟨_,_,_⟩,⟨_,_,_⟩,k0,k1,f0,f1⟩:=HK.out _ HB3.out;have hlt:=Nat.lt_of_lt_of_le HW0.out HB3.out.size;go_wp2_with fail
   refine bodyPost_ret (v:=.tuple #[.agg #[.string ⟨#[78,69,71]⟩,.slice none 0 0],.string ⟨#[]⟩,.bool false]) (by simp[results,results87,go_sem, *]) rfl ?_;exact⟨_,rfl,gZ rfl HBW.out HB3.out⟩
 · (with_reducible refine (bH _ _ (.inl rfl) _).mono ?_);rintro e w3 ⟨rfl,hb3⟩;have HB3:=Hh (hb3);clear hb3;obtain⟨⟨_,_,_⟩,⟨_,_,_⟩,k0,k1,f0,f1⟩:=HK.out _ HB3.out;have hlt:=Nat.lt_of_lt_of_le HW0.out HB3.out.size;go_wp2_with fail
   refine bodyPost_ret (v:=.tuple #[.agg #[.string ⟨#[82,69,84,73]⟩,.slice none 0 0],.string ⟨#[]⟩,.bool false]) (by simp[results,results87,go_sem, *]) rfl ?_;exact⟨_,rfl,gZ rfl HBW.out HB3.out⟩
 · (with_reducible refine (bH _ _ (.inl rfl) _).mono ?_);rintro e w3 ⟨rfl,hb3⟩;have HB3:=Hh (hb3);clear hb3;obtain⟨⟨_,_,_⟩,⟨_,_,_⟩,k0,k1,f0,f1⟩:=HK.out _ HB3.out;have hlt:=Nat.lt_of_lt_of_le HW0.out HB3.out.size;go_wp2_with fail
   refine bodyPost_ret (v:=.tuple #[.agg #[.string ⟨#[82,69,84,78]⟩,.slice none 0 0],.string ⟨#[]⟩,.bool true]) (by simp[results,results87,go_sem, *]) rfl ?_;exact⟨_,rfl,gZ rfl HBW.out HB3.out⟩
 · (with_reducible refine (bH _ _ (.inl rfl) _).mono ?_);rintro e w3 ⟨rfl,hb3⟩;have HB3:=Hh (hb3);clear hb3;obtain⟨⟨_,_,_⟩,⟨_,_,_⟩,k0,k1,f0,f1⟩:=HK.out _ HB3.out;have hlt:=Nat.lt_of_lt_of_le HW0.out HB3.out.size;go_wp2_with fail
   refine bodyPost_ret (v:=.tuple #[.agg #[.string ⟨#[82,69,84,78]⟩,.slice none 0 0],.string ⟨#[]⟩,.bool false]) (by simp[results,results87,go_sem, *]) rfl ?_;exact⟨_,rfl,gZ rfl HBW.out HB3.out⟩
 · refine bN kr w.heap.size 8 e2D (fun i v W=>(e2P w.heap.size k q nm i).holds W0.heap.size v W) (Out e2K _) (fun i v v1 v2 hi h hk=>D9.kb (Pt w.heap.size k q nm i hi) h HRB.out hk) (fun v v1 v2 h hb=>D9.stored_below (B:=W0.heap.size) (r:=w.heap.size) (i:=(nm,[(3,2,0),(3,k,0)])) h hb) (Out.refl _ _) (fun i v a hi hne hA=>hA.put _ v (Wd i hi hne).1 (Wd i hi hne).2) (fun i j hi hj=>Zd i hi j hj) ?_ (gQ kr) ?_
   · intro i hi;have hi:i<11:=hi;rcases (by omega:i=0∨i=1∨i=2∨i=3∨i=4∨i=5∨i=6∨i=7∨i=8∨i=9∨i=10) with rfl|rfl|rfl|rfl|rfl|rfl|rfl|rfl|rfl|rfl|rfl
     · refine⟨_,[],rfl,rfl,(fun j hj=>by cases hj),?_⟩;intro R a W hA hk hbw hd hv hs;have ha:=fun o=>(Below.refl W.heap.size W).alloc lr o;go_simp;exact hv dc _ _ (ha _) ⟨_,rfl,hk.size,aF _ _⟩
     · refine⟨_,[],rfl,rfl,(fun j hj=>by cases hj),?_⟩;intro R a W hA hk hbw hd hv hs;have e6:=hA.get (k:=11) (by rfl) (by rfl);go_simp;exact hv dc _ _ br rfl
     · refine⟨_,[0,1],rfl,rfl,(fun j hj=>by simp only[List.mem_cons,List.not_mem_nil,or_false] at hj;rcases hj with rfl|rfl;exact⟨dc,⟨0,.data⟩,by simp,rfl,rfl⟩;exact⟨dc,⟨1,.data⟩,by simp,rfl,rfl⟩),?_⟩;intro R a W hA hk hbw hd hv hs;obtain⟨u1,hu1⟩:∃ u,a.tmps.getD 87 undef=u:=⟨_,rfl⟩;have q1:(D9.strs [[83,66,67],[65,68,67]]).holds W0.heap.size u1 W:=hu1 ▸ hd 0 sm;have e1:=(aJ a 87).symm.trans hu1;have e2:a.tmps[88]?.getD undef=_:=(aJ a 88).symm.trans (hd 1 sm);obtain⟨g,hg,q1⟩:=q1;subst hg;rcases HJ.out with⟨rfl,rfl⟩|⟨rfl,rfl⟩;all_goals
        go_simp;exact hv dc _ _ br ⟨_,rfl,q1⟩
     · refine⟨_,[2],rfl,rfl,(fun j hj=>by obtain rfl:=List.mem_singleton.1 hj;exact⟨dc,⟨2,.data⟩,by simp,rfl,rfl⟩),?_⟩;intro R a W hA hk hbw hd hv hs;obtain⟨u1,hu1⟩:∃ u,a.tmps.getD 89 undef=u:=⟨_,rfl⟩;have q1:(D9.strAt [[83,66,67],[65,68,67]] q.toNat).holds W0.heap.size u1 W:=hu1 ▸ hd 2 sm;have e1:=(aJ a 89).symm.trans hu1;obtain⟨g,hg,q1,q3⟩:=q1;subst hg;rcases HJ.out with⟨rfl,rfl⟩|⟨rfl,rfl⟩;all_goals
        have m0:=aC q3 0;have m1:=aC q3 1;simp only[List.map_cons,List.map_nil,List.getElem?_toArray,List.getElem?_cons_succ,List.getElem?_cons_zero] at m0 m1;go_simp;exact hv dc _ _ br rfl
     · refine⟨_,[],rfl,rfl,(fun j hj=>by cases hj),?_⟩;intro R a W hA hk hbw hd hv hs;have e6:=hA.get (k:=9) (by rfl) (by rfl);have hbk:=(hk.block _ (aA H1.out) HN1.out).trans H1.out;have c0:=aC hbk 0;have c1:=aC hbk 1;have c2:=aC hbk 2;go_simp;exact hv dc _ _ br rfl
     · exact Av
     · refine⟨_,[4,5],rfl,rfl,(fun j hj=>by simp only[List.mem_cons,List.not_mem_nil,or_false] at hj;rcases hj with rfl|rfl;exact⟨dc,⟨4,.data⟩,by simp,rfl,rfl⟩;exact⟨dc,⟨5,.data⟩,by simp,rfl,rfl⟩),?_⟩;intro R a W hA hk hbw hd hv hs;have e1:a.tmps[91]?.getD undef=_:=(aJ a 91).symm.trans (hd 4 sm);have e2:a.tmps[92]?.getD undef=_:=(aJ a 92).symm.trans (hd 5 sm);go_simp;(with_reducible refine (iE (3,2,0) (3,k,0) _ W0.heap.size hk.size).mono ?_);rintro e w' ⟨v,rfl,hr,hb⟩;exact hv dc _ _ hb hr
     · refine⟨_,[3,6],rfl,rfl,(fun j hj=>by simp only[List.mem_cons,List.not_mem_nil,or_false] at hj;rcases hj with rfl|rfl;exact⟨dc,⟨3,.data⟩,by simp,rfl,rfl⟩;exact⟨dc,⟨6,.data⟩,by simp,rfl,rfl⟩),?_⟩;intro R a W hA hk hbw hd hv hs;have e2:a.tmps[90]?.getD undef=_:=(aJ a 90).symm.trans (hd 3 sm);obtain⟨u1,hu1⟩:∃ u,a.tmps.getD 93 undef=u:=⟨_,rfl⟩;have q1:RowV W0.heap.size [(3,2,0),(3,k,0)] u1 W:=hu1 ▸ hd 6 sm;have e1:=(aJ a 93).symm.trans hu1;go_simp;(with_reducible refine (dX nm [(3,2,0),(3,k,0)] u1 W0.heap.size _ (RowN.of q1)).mono ?_);rintro e w' ⟨v,rfl,hr,hb⟩;exact hv dc _ _ hb hr
     · refine⟨_,[7],rfl,rfl,(fun j hj=>by obtain rfl:=List.mem_singleton.1 hj;exact⟨dc,⟨7,.data⟩,by simp,rfl,rfl⟩),?_⟩;intro R a W hA hk hbw hd hv hs;obtain⟨u1,hu1⟩:∃ u,a.tmps.getD 94 undef=u:=⟨_,rfl⟩;have q1:(D9.ins (nm,[(3,2,0),(3,k,0)])).holds W0.heap.size u1 W:=hu1 ▸ hd 7 sm;have e1:=(aJ a 94).symm.trans hu1;obtain⟨z,hz,q1⟩:=q1;subst hz;obtain⟨z1,z2,z3,rfl⟩:=q1.slice;have hr:=aB HB0.out (hbw rfl) (aA HB0.out);have c0:=aC hr 0;have c1:=aC hr 1;have f0:=aH hr 0;have f1:=aH hr 1;have hlt:=aA hr;have e4:=hA.get (k:=2) (by rfl) (by rfl);go_simp;have hkk:=fun x y=>Kb.setCell (Kb.setCell (Kb.refl (w.heap.size) W) 0 x) 1 y;exact hs rfl _ (hkk _ _) ⟨_,aG (aG hr),q1.kb HRB.out (hkk _ _)⟩
     · exact vX
     · exact vX
   · intro a W1 hA hkb _ hd hst;obtain⟨u,hr,hz⟩:(D9.stored (w.heap.size) (nm,[(3,2,0),(3,k,0)])).holds W0.heap.size undef W1:=hst dc;obtain⟨z1,z2,z3,rfl⟩:=hz.slice;have e4:=hA.get (k:=2) (by rfl) (by rfl);have e5:a.tmps[3]?.getD undef=_:=(aJ a 3).symm.trans (hd 9 dc dc);have e6:a.tmps[4]?.getD undef=_:=(aJ a 4).symm.trans (hd 10 dc dc);have c0:=aC hr 0;have c1:=aC hr 1;obtain⟨ts,df⟩:=a;obtain rfl:df=[]:=hA.defers;clear hA hst hd;have HZ:=Hh hz;have HKB:=Hh hkb;clear hz hkb hr;go_wp2_with fail
     refine bodyPost_ret (v:=.tuple #[.agg #[.string ⟨((nm,[(3,2,0),(3,k,0)])).1.toArray⟩,.slice z1 z2 z3],.string ⟨([]).toArray⟩,.bool false]) (by simp[results,results87,go_sem, *]) rfl ?_;exact⟨_,rfl,iF (i:=(nm,[(3,2,0),(3,k,0)])) om HZ.out HBW.out sm HKB.out⟩
 · refine bN kr w.heap.size 6 Ps (fun i v W=>(Zc w.heap.size y k b i).holds W0.heap.size v W) (Out aAK _) (fun i v v1 v2 hi h hk=>D9.kb (Iz w.heap.size y k b i hi) h HRB.out hk) (fun v v1 v2 h hb=>D9.stored_below (B:=W0.heap.size) (r:=w.heap.size) (i:=([76,68],[(7,0,0),(3,k,0)])) h hb) (Out.refl _ _) (fun i v a hi hne hA=>hA.put _ v (Pr i hi hne).1 (Pr i hi hne).2) (fun i j hi hj=>Tt i hi j hj) ?_ (gQ kr) ?_
   · intro i hi;have hi:i<9:=hi;rcases (by omega:i=0∨i=1∨i=2∨i=3∨i=4∨i=5∨i=6∨i=7∨i=8) with rfl|rfl|rfl|rfl|rfl|rfl|rfl|rfl|rfl
     · exact Kv
     · exact Av
     · refine⟨_,[0,1],rfl,rfl,(fun j hj=>by simp only[List.mem_cons,List.not_mem_nil,or_false] at hj;rcases hj with rfl|rfl;exact⟨dc,⟨0,.data⟩,by simp,rfl,rfl⟩;exact⟨dc,⟨1,.data⟩,by simp,rfl,rfl⟩),?_⟩;intro R a W hA hk hbw hd hv hs;have e1:a.tmps[99]?.getD undef=_:=(aJ a 99).symm.trans (hd 0 sm);have e2:a.tmps[100]?.getD undef=_:=(aJ a 100).symm.trans (hd 1 sm);go_simp;(with_reducible refine (iE (7,0,0) (3,k,0) _ W0.heap.size hk.size).mono ?_);rintro e w' ⟨v,rfl,hr,hb⟩;exact hv dc _ _ hb hr
     · refine⟨_,[2],rfl,rfl,(fun j hj=>by obtain rfl:=List.mem_singleton.1 hj;exact⟨dc,⟨2,.data⟩,by simp,rfl,rfl⟩),?_⟩;intro R a W hA hk hbw hd hv hs;obtain⟨u1,hu1⟩:∃ u,a.tmps.getD 101 undef=u:=⟨_,rfl⟩;have q1:RowV W0.heap.size [(7,0,0),(3,k,0)] u1 W:=hu1 ▸ hd 2 sm;have e1:=(aJ a 101).symm.trans hu1;go_simp;(with_reducible refine (dX [76,68] [(7,0,0),(3,k,0)] u1 W0.heap.size _ (RowN.of q1)).mono ?_);rintro e w' ⟨v,rfl,hr,hb⟩;exact hv dc _ _ hb hr
     · exact Ku
     · refine⟨_,[4],rfl,rfl,(fun j hj=>by obtain rfl:=List.mem_singleton.1 hj;exact⟨dc,⟨4,.data⟩,by simp,rfl,rfl⟩),?_⟩;intro R a W hA hk hbw hd hv hs;have e1:a.tmps[103]?.getD undef=_:=(aJ a 103).symm.trans (hd 4 sm);go_simp;exact hv dc _ _ br rfl
     · refine⟨_,[3],rfl,rfl,(fun j hj=>by obtain rfl:=List.mem_singleton.1 hj;exact⟨dc,⟨3,.data⟩,by simp,rfl,rfl⟩),?_⟩;intro R a W hA hk hbw hd hv hs;obtain⟨u1,hu1⟩:∃ u,a.tmps.getD 102 undef=u:=⟨_,rfl⟩;have q1:(D9.ins ([76,68],[(7,0,0),(3,k,0)])).holds W0.heap.size u1 W:=hu1 ▸ hd 3 sm;have e1:=(aJ a 102).symm.trans hu1;obtain⟨z,hz,q1⟩:=q1;subst hz;obtain⟨z1,z2,z3,rfl⟩:=q1.slice;have hr:=aB HB0.out (hbw rfl) (aA HB0.out);have c0:=aC hr 0;have c1:=aC hr 1;have f0:=aH hr 0;have f1:=aH hr 1;have hlt:=aA hr;have e4:=hA.get (k:=2) (by rfl) (by rfl);go_simp;have hkk:=fun x y=>Kb.setCell (Kb.setCell (Kb.refl (w.heap.size) W) 0 x) 1 y;exact hs rfl _ (hkk _ _) ⟨_,aG (aG hr),q1.kb HRB.out (hkk _ _)⟩
     · exact vX
     · refine⟨_,[5],rfl,rfl,(fun j hj=>by obtain rfl:=List.mem_singleton.1 hj;exact⟨dc,⟨5,.data⟩,by simp,rfl,rfl⟩),?_⟩;intro R a W hA hk hbw hd hv hs;obtain⟨u1,hu1⟩:∃ u,a.tmps.getD 104 undef=u:=⟨_,rfl⟩;have q1:(D9.val (.bool b)).holds W0.heap.size u1 W:=hu1 ▸ hd 5 sm;have e1:=(aJ a 104).symm.trans hu1;go_simp;exact hv dc _ _ br q1
   · intro a W1 hA hkb _ hd hst;obtain⟨u,hr,hz⟩:(D9.stored (w.heap.size) ([76,68],[(7,0,0),(3,k,0)])).holds W0.heap.size undef W1:=hst dc;obtain⟨z1,z2,z3,rfl⟩:=hz.slice;have e4:=hA.get (k:=2) (by rfl) (by rfl);have e5:a.tmps[3]?.getD undef=_:=(aJ a 3).symm.trans (hd 7 dc dc);have e6:a.tmps[4]?.getD undef=_:=(aJ a 4).symm.trans (hd 8 dc dc);have c0:=aC hr 0;have c1:=aC hr 1;obtain⟨ts,df⟩:=a;obtain rfl:df=[]:=hA.defers;clear hA hst hd;have HZ:=Hh hz;have HKB:=Hh hkb;clear hz hkb hr;go_wp2_with fail
     refine bodyPost_ret (v:=.tuple #[.agg #[.string ⟨(([76,68],[(7,0,0),(3,k,0)])).1.toArray⟩,.slice z1 z2 z3],.string ⟨([119]).toArray⟩,.bool b]) (by simp[results,results87,go_sem, *]) rfl ?_;exact⟨_,rfl,iF (i:=([76,68],[(7,0,0),(3,k,0)])) om HZ.out HBW.out sm HKB.out⟩
 · refine bN kr w.heap.size 6 Pq (fun i v W=>(Zb w.heap.size y k b i).holds W0.heap.size v W) (Out aAJ _) (fun i v v1 v2 hi h hk=>D9.kb (Iy w.heap.size y k b i hi) h HRB.out hk) (fun v v1 v2 h hb=>D9.stored_below (B:=W0.heap.size) (r:=w.heap.size) (i:=([76,68],[(3,k,0),(7,0,0)])) h hb) (Out.refl _ _) (fun i v a hi hne hA=>hA.put _ v (Pp i hi hne).1 (Pp i hi hne).2) (fun i j hi hj=>Ts i hi j hj) ?_ (gQ kr) ?_
   · intro i hi;have hi:i<9:=hi;rcases (by omega:i=0∨i=1∨i=2∨i=3∨i=4∨i=5∨i=6∨i=7∨i=8) with rfl|rfl|rfl|rfl|rfl|rfl|rfl|rfl|rfl
     · exact Av
     · exact Kv
     · refine⟨_,[0,1],rfl,rfl,(fun j hj=>by simp only[List.mem_cons,List.not_mem_nil,or_false] at hj;rcases hj with rfl|rfl;exact⟨dc,⟨0,.data⟩,by simp,rfl,rfl⟩;exact⟨dc,⟨1,.data⟩,by simp,rfl,rfl⟩),?_⟩;intro R a W hA hk hbw hd hv hs;have e1:a.tmps[105]?.getD undef=_:=(aJ a 105).symm.trans (hd 0 sm);have e2:a.tmps[106]?.getD undef=_:=(aJ a 106).symm.trans (hd 1 sm);go_simp;(with_reducible refine (iE (3,k,0) (7,0,0) _ W0.heap.size hk.size).mono ?_);rintro e w' ⟨v,rfl,hr,hb⟩;exact hv dc _ _ hb hr
     · refine⟨_,[2],rfl,rfl,(fun j hj=>by obtain rfl:=List.mem_singleton.1 hj;exact⟨dc,⟨2,.data⟩,by simp,rfl,rfl⟩),?_⟩;intro R a W hA hk hbw hd hv hs;obtain⟨u1,hu1⟩:∃ u,a.tmps.getD 107 undef=u:=⟨_,rfl⟩;have q1:RowV W0.heap.size [(3,k,0),(7,0,0)] u1 W:=hu1 ▸ hd 2 sm;have e1:=(aJ a 107).symm.trans hu1;go_simp;(with_reducible refine (dX [76,68] [(3,k,0),(7,0,0)] u1 W0.heap.size _ (RowN.of q1)).mono ?_);rintro e w' ⟨v,rfl,hr,hb⟩;exact hv dc _ _ hb hr
     · exact Ku
     · refine⟨_,[4],rfl,rfl,(fun j hj=>by obtain rfl:=List.mem_singleton.1 hj;exact⟨dc,⟨4,.data⟩,by simp,rfl,rfl⟩),?_⟩;intro R a W hA hk hbw hd hv hs;have e1:a.tmps[109]?.getD undef=_:=(aJ a 109).symm.trans (hd 4 sm);go_simp;exact hv dc _ _ br rfl
     · refine⟨_,[3],rfl,rfl,(fun j hj=>by obtain rfl:=List.mem_singleton.1 hj;exact⟨dc,⟨3,.data⟩,by simp,rfl,rfl⟩),?_⟩;intro R a W hA hk hbw hd hv hs;obtain⟨u1,hu1⟩:∃ u,a.tmps.getD 108 undef=u:=⟨_,rfl⟩;have q1:(D9.ins ([76,68],[(3,k,0),(7,0,0)])).holds W0.heap.size u1 W:=hu1 ▸ hd 3 sm;have e1:=(aJ a 108).symm.trans hu1;obtain⟨z,hz,q1⟩:=q1;subst hz;obtain⟨z1,z2,z3,rfl⟩:=q1.slice;have hr:=aB HB0.out (hbw rfl) (aA HB0.out);have c0:=aC hr 0;have c1:=aC hr 1;have f0:=aH hr 0;have f1:=aH hr 1;have hlt:=aA hr;have e4:=hA.get (k:=2) (by rfl) (by rfl);go_simp;have hkk:=fun x y=>Kb.setCell (Kb.setCell (Kb.refl (w.heap.size) W) 0 x) 1 y;exact hs rfl _ (hkk _ _) ⟨_,aG (aG hr),q1.kb HRB.out (hkk _ _)⟩
     · exact vX
     · refine⟨_,[5],rfl,rfl,(fun j hj=>by obtain rfl:=List.mem_singleton.1 hj;exact⟨dc,⟨5,.data⟩,by simp,rfl,rfl⟩),?_⟩;intro R a W hA hk hbw hd hv hs;obtain⟨u1,hu1⟩:∃ u,a.tmps.getD 110 undef=u:=⟨_,rfl⟩;have q1:(D9.val (.bool b)).holds W0.heap.size u1 W:=hu1 ▸ hd 5 sm;have e1:=(aJ a 110).symm.trans hu1;go_simp;exact hv dc _ _ br q1
   · intro a W1 hA hkb _ hd hst;obtain⟨u,hr,hz⟩:(D9.stored (w.heap.size) ([76,68],[(3,k,0),(7,0,0)])).holds W0.heap.size undef W1:=hst dc;obtain⟨z1,z2,z3,rfl⟩:=hz.slice;have e4:=hA.get (k:=2) (by rfl) (by rfl);have e5:a.tmps[3]?.getD undef=_:=(aJ a 3).symm.trans (hd 7 dc dc);have e6:a.tmps[4]?.getD undef=_:=(aJ a 4).symm.trans (hd 8 dc dc);have c0:=aC hr 0;have c1:=aC hr 1;obtain⟨ts,df⟩:=a;obtain rfl:df=[]:=hA.defers;clear hA hst hd;have HZ:=Hh hz;have HKB:=Hh hkb;clear hz hkb hr;go_wp2_with fail
     refine bodyPost_ret (v:=.tuple #[.agg #[.string ⟨(([76,68],[(3,k,0),(7,0,0)])).1.toArray⟩,.slice z1 z2 z3],.string ⟨([119]).toArray⟩,.bool b]) (by simp[results,results87,go_sem, *]) rfl ?_;exact⟨_,rfl,iF (i:=([76,68],[(3,k,0),(7,0,0)])) om HZ.out HBW.out sm HKB.out⟩
theorem Yz (op y k:Int) (hb0:0≤op) (hb1:op≤255) (hx:op/64=1) (hy:op/8%8=y) (hz:op%8=0) (hy0:0≤y) (hy7:y≤7) (hk:y.tdiv 2=k) (hk0:0≤k) (hk3:k≤3) (e1:(y == 6)=true) (w:World):Calls prog 87 #[.int .u8 op] w (cQ (([73,78],[(4,8,0)]),[],false) w) :=
 kT op y k 0 _ hb0 hb1 hx hy hz hy0 hy7 hk hk0 hk3 (.inl ⟨rfl,e1,rfl⟩) w
theorem tA (op y k:Int) (hb0:0≤op) (hb1:op≤255) (hx:op/64=1) (hy:op/8%8=y) (hz:op%8=0) (hy0:0≤y) (hy7:y≤7) (hk:y.tdiv 2=k) (hk0:0≤k) (hk3:k≤3) (e1:(y == 6)=false) (w:World):Calls prog 87 #[.int .u8 op] w (cQ (([73,78],[(dO y),(4,8,0)]),[],false) w) :=
 kT op y k 0 _ hb0 hb1 hx hy hz hy0 hy7 hk hk0 hk3 (.inr (.inl ⟨rfl,e1,rfl⟩)) w
theorem Yy (op y k:Int) (hb0:0≤op) (hb1:op≤255) (hx:op/64=1) (hy:op/8%8=y) (hz:op%8=1) (hy0:0≤y) (hy7:y≤7) (hk:y.tdiv 2=k) (hk0:0≤k) (hk3:k≤3) (e1:(y == 6)=true) (w:World):Calls prog 87 #[.int .u8 op] w (cQ (([79,85,84],[(4,8,0),(6,0,0)]),[],false) w) :=
 kT op y k 1 _ hb0 hb1 hx hy hz hy0 hy7 hk hk0 hk3 (.inr (.inr (.inl ⟨rfl,e1,rfl⟩))) w
theorem sZ (op y k:Int) (hb0:0≤op) (hb1:op≤255) (hx:op/64=1) (hy:op/8%8=y) (hz:op%8=1) (hy0:0≤y) (hy7:y≤7) (hk:y.tdiv 2=k) (hk0:0≤k) (hk3:k≤3) (e1:(y == 6)=false) (w:World):Calls prog 87 #[.int .u8 op] w (cQ (([79,85,84],[(4,8,0),(dO y)]),[],false) w) :=
 kT op y k 1 _ hb0 hb1 hx hy hz hy0 hy7 hk hk0 hk3 (.inr (.inr (.inr (.inl ⟨rfl,e1,rfl⟩)))) w
theorem nI (op y k:Int) (hb0:0≤op) (hb1:op≤255) (hx:op/64=1) (hy:op/8%8=y) (hz:op%8=4) (hy0:0≤y) (hy7:y≤7) (hk:y.tdiv 2=k) (hk0:0≤k) (hk3:k≤3) (e1:0<y) (w:World):Calls prog 87 #[.int .u8 op] w (cQ (([78,69,71],[]),[],true) w) :=
 kT op y k 4 _ hb0 hb1 hx hy hz hy0 hy7 hk hk0 hk3 (.inr (.inr (.inr (.inr (.inl ⟨rfl,e1,rfl⟩))))) w
theorem Yx (op y k:Int) (hb0:0≤op) (hb1:op≤255) (hx:op/64=1) (hy:op/8%8=y) (hz:op%8=4) (hy0:0≤y) (hy7:y≤7) (hk:y.tdiv 2=k) (hk0:0≤k) (hk3:k≤3) (e1:¬ 0<y) (w:World):Calls prog 87 #[.int .u8 op] w (cQ (([78,69,71],[]),[],false) w) :=
 kT op y k 4 _ hb0 hb1 hx hy hz hy0 hy7 hk hk0 hk3 (.inr (.inr (.inr (.inr (.inr (.inl ⟨rfl,e1,rfl⟩)))))) w
theorem Yv (op y k:Int) (hb0:0≤op) (hb1:op≤255) (hx:op/64=1) (hy:op/8%8=y) (hz:op%8=5) (hy0:0≤y) (hy7:y≤7) (hk:y.tdiv 2=k) (hk0:0≤k) (hk3:k≤3) (e1:(y == 1)=true) (w:World):Calls prog 87 #[.int .u8 op] w (cQ (([82,69,84,73],[]),[],false) w) :=
 kT op y k 5 _ hb0 hb1 hx hy hz hy0 hy7 hk hk0 hk3 (.inr (.inr (.inr (.inr (.inr (.inr (.inl ⟨rfl,e1,rfl⟩))))))) w
theorem pP (op y k:Int) (hb0:0≤op) (hb1:op≤255) (hx:op/64=1) (hy:op/8%8=y) (hz:op%8=5) (hy0:0≤y) (hy7:y≤7) (hk:y.tdiv 2=k) (hk0:0≤k) (hk3:k≤3) (e1:(y == 1)=false) (e2:0<y) (w:World):Calls prog 87 #[.int .u8 op] w (cQ (([82,69,84,78],[]),[],true) w) :=
 kT op y k 5 _ hb0 hb1 hx hy hz hy0 hy7 hk hk0 hk3 (.inr (.inr (.inr (.inr (.inr (.inr (.inr (.inl ⟨rfl,e1,e2,rfl⟩)))))))) w
theorem Yw (op y k:Int) (hb0:0≤op) (hb1:op≤255) (hx:op/64=1) (hy:op/8%8=y) (hz:op%8=5) (hy0:0≤y) (hy7:y≤7) (hk:y.tdiv 2=k) (hk0:0≤k) (hk3:k≤3) (e1:(y == 1)=false) (e2:¬ 0<y) (w:World):Calls prog 87 #[.int .u8 op] w (cQ (([82,69,84,78],[]),[],false) w) :=
 kT op y k 5 _ hb0 hb1 hx hy hz hy0 hy7 hk hk0 hk3 (.inr (.inr (.inr (.inr (.inr (.inr (.inr (.inr (.inl ⟨rfl,e1,e2,rfl⟩))))))))) w
theorem qJ (op y k q:Int) (nm:List UInt8) (hj:q=0∧nm=[83,66,67]∨q=1∧nm=[65,68,67]) (hb0:0≤op) (hb1:op≤255) (hx:op/64=1) (hy:op/8%8=y) (hz:op%8=2) (hy0:0≤y) (hy7:y≤7) (hk:y.tdiv 2=k) (hk0:0≤k) (hk3:k≤3) (hm:y.tmod 2=q) (w:World):Calls prog 87 #[.int .u8 op] w (cQ ((nm,[(3,2,0),(3,k,0)]),[],false) w) :=
 kT op y k 2 _ hb0 hb1 hx hy hz hy0 hy7 hk hk0 hk3 (.inr (.inr (.inr (.inr (.inr (.inr (.inr (.inr (.inr (.inl ⟨q,nm,rfl,Hh hj,hm,rfl⟩)))))))))) w
theorem wY (op y k:Int) (b:Bool) (hb0:0≤op) (hb1:op≤255) (hx:op/64=1) (hy:op/8%8=y) (hz:op%8=3) (hy0:0≤y) (hy7:y≤7) (hk:y.tdiv 2=k) (hk0:0≤k) (hk3:k≤3) (hm:y.tmod 2=0) (e1:(y == 4)=b) (w:World):Calls prog 87 #[.int .u8 op] w (cQ (([76,68],[(7,0,0),(3,k,0)]),[119],b) w) :=
 kT op y k 3 _ hb0 hb1 hx hy hz hy0 hy7 hk hk0 hk3 (.inr (.inr (.inr (.inr (.inr (.inr (.inr (.inr (.inr (.inr (.inl ⟨b,rfl,hm,e1,rfl⟩))))))))))) w
theorem wX (op y k:Int) (b:Bool) (hb0:0≤op) (hb1:op≤255) (hx:op/64=1) (hy:op/8%8=y) (hz:op%8=3) (hy0:0≤y) (hy7:y≤7) (hk:y.tdiv 2=k) (hk0:0≤k) (hk3:k≤3) (hm:y.tmod 2=1) (e1:(y == 5)=b) (w:World):Calls prog 87 #[.int .u8 op] w (cQ (([76,68],[(3,k,0),(7,0,0)]),[119],b) w) :=
 kT op y k 3 _ hb0 hb1 hx hy hz hy0 hy7 hk hk0 hk3 (.inr (.inr (.inr (.inr (.inr (.inr (.inr (.inr (.inr (.inr (.inr ⟨b,rfl,hm,e1,rfl⟩))))))))))) w
theorem Au {p:Prop} (h:p:=by
 have k0:=aC (aF w (.cells #[.string ⟨#[]⟩,.slice none 0 0] 53)) 0;go_enter func87,ntmps87
 go_wp2_with fail
 refine bodyPost_ret (v:=.tuple #[.agg #[.string ⟨#[]⟩,.slice none 0 0],.string ⟨#[]⟩,.bool false]) (by simp[results,results87,go_sem, *]) rfl ?_;exact⟨_,rfl,iL (bl)⟩):p:=h
theorem aAH (op X y z:Int) (hb0:0≤op) (hb1:op≤255) (hx:op/64=X) (hy:op/8%8=y) (hz:op%8=z) (e1:(X == 2)=false) (e2:(X != 1)=true) (w:World):Calls prog 87 #[.int .u8 op] w (cQ (([],[]),[],false) w):=by
 exact Au
theorem Ym (op y z:Int) (_hb0:0≤op) (_hb1:op≤255) (hx:op/64=2) (hy:op/8%8=y) (hz:op%8=z) (e3:¬ z<4) (w:World):Calls prog 87 #[.int .u8 op] w (cQ (([],[]),[],false) w):=by
 exact Au
theorem Yl (op y z:Int) (_hb0:0≤op) (_hb1:op≤255) (hx:op/64=2) (hy:op/8%8=y) (hz:op%8=z) (e3:z<4) (e4:¬ 4≤y) (w:World):Calls prog 87 #[.int .u8 op] w (cQ (([],[]),[],false) w):=by
 exact Au
theorem aAI (op y z:Int) (nm:List UInt8) (_hb0:0≤op) (_hb1:op≤255) (hx:op/64=2) (hy:op/8%8=y) (hz:op%8=z) (hj:y=4∧z=0∧nm=[76,68,73]∨y=4∧z=1∧nm=[67,80,73]∨y=4∧z=2∧nm=[73,78,73]∨y=4∧z=3∧nm=[79,85,84,73]∨y=5∧z=0∧nm=[76,68,68]∨y=5∧z=1∧nm=[67,80,68]∨y=5∧z=2∧nm=[73,78,68]∨y=5∧z=3∧nm=[79,85,84,68]∨y=6∧z=0∧nm=[76,68,73,82]∨y=6∧z=1∧nm=[67,80,73,82]∨y=6∧z=2∧nm=[73,78,73,82]∨y=6∧z=3∧nm=[79,84,73,82]∨y=7∧z=0∧nm=[76,68,68,82]∨y=7∧z=1∧nm=[67,80,68,82]∨y=7∧z=2∧nm=[73,78,68,82]∨y=7∧z=3∧nm=[79,84,68,82]) (w:World):Calls prog 87 #[.int .u8 op] w (cQ ((nm,[]),[],false) w):=by
 rcases hj with⟨rfl,rfl,hn⟩|⟨rfl,rfl,hn⟩|⟨rfl,rfl,hn⟩|⟨rfl,rfl,hn⟩|⟨rfl,rfl,hn⟩|⟨rfl,rfl,hn⟩|⟨rfl,rfl,hn⟩|⟨rfl,rfl,hn⟩|⟨rfl,rfl,hn⟩|⟨rfl,rfl,hn⟩|⟨rfl,rfl,hn⟩|⟨rfl,rfl,hn⟩|⟨rfl,rfl,hn⟩|⟨rfl,rfl,hn⟩|⟨rfl,rfl,hn⟩|⟨rfl,rfl,hn⟩;all_goals
  have HJ:=Hh hn;clear hn;go_enter func87,ntmps87
  go_wp2_with fail
  generalize hW0:((((((w.alloc _).alloc _).alloc _).alloc _).alloc _).alloc _)=W0;have h0:W0.heap[w.heap.size]? = some (.cells #[.string ⟨#[]⟩,.slice none 0 0] 53 (0,0)):=by rw[←hW0];exact aE (aE (aE (aE (aE (aF _ _)))))
  have HBW:=Hh (show Below w.heap.size w W0 by rw[←hW0];exact bl);have HK:=Hh (fun W (hb:Below W0.heap.size W0 W)=>k2 h0 hb);have HW0:=Hh (aA h0);clear hW0 h0;(with_reducible refine (bH _ _ (.inl rfl) _).mono ?_);rintro e w9 ⟨rfl,hb9⟩;have HB9:=Hh hb9;clear hb9;obtain⟨k0,k1,f0,f1⟩:=HK.out _ HB9.out;have hlt:=Nat.lt_of_lt_of_le HW0.out HB9.out.size;go_wp2_with fail
  refine bodyPost_ret (v:=.tuple #[.agg #[.string ⟨nm.toArray⟩,.slice none 0 0],.string ⟨#[]⟩,.bool false]) (by rw[HJ.out];simp[results,results87,go_sem, *]) rfl ?_;exact⟨_,rfl,gZ rfl HBW.out HB9.out⟩
def e7L:List aY:=[([76,68],[(9,0,0),(1,7,0)]),([76,68],[(9,1,0),(1,7,0)]),([76,68],[(1,7,0),(9,0,0)]),([76,68],[(1,7,0),(9,1,0)]),([82,82,68],[]),([82,76,68],[]),([],[]),([],[])]
def e7D (i:Nat):Tmp:=match i with
 | 0=>143
 | 1=>144
 | 2=>145
 | 3=>146
 | 4=>147
 | 5=>148
 | 6=>149
 | 7=>150
 | 8=>151
 | 9=>152
 | 10=>153
 | 11=>154
 | 12=>155
 | 13=>156
 | 14=>157
 | 15=>158
 | 16=>159
 | 17=>160
 | 18=>161
 | 19=>162
 | 20=>163
 | 21=>15
 | _=>168
def e7K (k:Nat):Bool:=([143,144,145,146,147,148,149,150,151,152,153,154,155,156,157,158,159,160,161,162,163,15]:List Nat).contains k
theorem Wc:∀ i,i<22→i≠22→e7K (e7D i)=true∧e7D i<168:=dc
theorem Za:∀ i,i<22→∀ j,j<22→i≠22→j≠22→e7D i=e7D j→i=j:=dc
def e7P (i:Nat):D9:=match i with
 | 0=>.val (opV (9,0,0))
 | 1=>.val (opV (1,7,0))
 | 2=>.row [(9,0,0),(1,7,0)]
 | 3=>.ins ([76,68],[(9,0,0),(1,7,0)])
 | 4=>.val (opV (9,1,0))
 | 5=>.val (opV (1,7,0))
 | 6=>.row [(9,1,0),(1,7,0)]
 | 7=>.ins ([76,68],[(9,1,0),(1,7,0)])
 | 8=>.val (opV (1,7,0))
 | 9=>.val (opV (9,0,0))
 | 10=>.row [(1,7,0),(9,0,0)]
 | 11=>.ins ([76,68],[(1,7,0),(9,0,0)])
 | 12=>.val (opV (1,7,0))
 | 13=>.val (opV (9,1,0))
 | 14=>.row [(1,7,0),(9,1,0)]
 | 15=>.ins ([76,68],[(1,7,0),(9,1,0)])
 | 16=>.ins ([82,82,68],[])
 | 17=>.ins ([82,76,68],[])
 | 18=>.ins ([],[])
 | 19=>.ins ([],[])
 | 20=>.inss e7L
 | 21=>.inss e7L
 | _=>.val undef
theorem Po:∀ i,i≠22→(e7P i).plain=true:=by
 intro i h;unfold e7P;split<;>first|rfl|exact absurd rfl h
theorem vW {p:Prop} (h:p:=by
 refine⟨_,[],rfl,rfl,(fun j hj=>by cases hj),?_⟩;intro R a W hA hk hbw hd hv hs;have e6:=hA.get (k:=12) (by rfl) (by rfl);have hbk:=(hk.block _ (aA HA.out) HNA.out).trans HA.out;have c0:=aC hbk 0;have c1:=aC hbk 1;have c2:=aC hbk 2;go_simp;exact hv dc _ _ br rfl):p:=h
theorem Kt {p:Prop} (h:p:=by
 refine⟨_,[],rfl,rfl,(fun j hj=>by cases hj),?_⟩;intro R a W hA hk hbw hd hv hs;have e6:=hA.get (k:=13) (by rfl) (by rfl);have hbk:=(hk.block _ (aA HI.out) HNI.out).trans HI.out;have c0:=aC hbk 0;have c1:=aC hbk 1;have c2:=aC hbk 2;go_simp;exact hv dc _ _ br rfl):p:=h
theorem Ks {p:Prop} (h:p:=by
 refine⟨_,[],rfl,rfl,(fun j hj=>by cases hj),?_⟩;intro R a W hA hk hbw hd hv hs;have e6:=hA.get (k:=14) (by rfl) (by rfl);have hbk:=(hk.block _ (aA HR.out) HNR.out).trans HR.out;have c0:=aC hbk 0;have c1:=aC hbk 1;have c2:=aC hbk 2;go_simp;exact hv dc _ _ br rfl):p:=h
theorem Kr {p:Prop} (h:p:=by
 refine⟨_,[],rfl,rfl,(fun j hj=>by cases hj),?_⟩;intro R a W hA hk hbw hd hv hs;go_simp;exact hv dc _ _ br ⟨_,rfl,Or.inl ⟨rfl,rfl⟩⟩):p:=h
theorem oN (op y k z:Int) (R:aY × List UInt8 × Bool) (_hb0:0≤op) (_hb1:op≤255) (hx:op/64=1) (hy:op/8%8=y) (hz:op%8=z) (hy0:0≤y) (hy7:y≤7) (hk:y.tdiv 2=k) (hk0:0≤k) (hk3:k≤3)
 (hD:(y=0∧z=6∧R=(([73,77],[(6,0,0)]),[],false))
  ∨ (y=1∧z=6∧R=(([73,77],[(6,0,0)]),[],true))
  ∨ (y=2∧z=6∧R=(([73,77],[(6,0,1)]),[],false))
  ∨ (y=3∧z=6∧R=(([73,77],[(6,0,2)]),[],false))
  ∨ (y=4∧z=6∧R=(([73,77],[(6,0,0)]),[],true))
  ∨ (y=5∧z=6∧R=(([73,77],[(6,0,0)]),[],true))
  ∨ (y=6∧z=6∧R=(([73,77],[(6,0,1)]),[],true))
  ∨ (y=7∧z=6∧R=(([73,77],[(6,0,2)]),[],true))
  ∨ (z=7∧Hid (y=0∨y=1∨y=2∨y=3∨y=4∨y=5∨y=6∨y=7)∧R=((e7L.getD y.toNat ([],[])),[],false)))
 (w:World):Calls prog 87 #[.int .u8 op] w (cQ R w):=by
 rcases hD with⟨rfl,rfl,rfl⟩|⟨rfl,rfl,rfl⟩|⟨rfl,rfl,rfl⟩|⟨rfl,rfl,rfl⟩|⟨rfl,rfl,rfl⟩|⟨rfl,rfl,rfl⟩|⟨rfl,rfl,rfl⟩|⟨rfl,rfl,rfl⟩|⟨rfl,HY,rfl⟩;all_goals
  go_enter func87,ntmps87
  go_wp2_with fail
  (with_reducible refine (pE _ 2 rfl _).mono ?_);rintro e w1 ⟨rfl,hb1⟩;have H0:=Hh (bQ hb1);have HW1:=Hh (cL hb1);have HL0:=Hh (aA (bQ hb1));clear hb1;go_wp2_with fail
  (with_reducible refine (pE _ k (by first|omega|(subst hy;decide)|(subst hk;decide)) _).mono ?_)
  rintro e w2 ⟨rfl,hb2⟩;have h1:=bQ hb2;have h0:=fT H0.out hb2;have hw2:=dC HW1.out hb2;clear hb2;have H0:=Hh h0;have H1:=Hh h1;have HW2:=Hh hw2;clear h0 h1 hw2;go_wp2_with fail
  obtain⟨W0,hW0⟩:∃ W0,w2.alloc (.cells #[.int .i64 3,.int .i64 k,.int .i64 0] 144)=W0:=⟨_,rfl⟩;have h2:W0.heap[w2.heap.size]? = some (.cells #[.int .i64 3,.int .i64 k,.int .i64 0] 144 (0,0)):=by rw[←hW0];exact aF _ _
  have h1:W0.heap[w1.heap.size]? = some (.cells #[.int .i64 3,.int .i64 2,.int .i64 0] 144 (0,0)):=by rw[←hW0];exact aE H1.out
  have h0:W0.heap[w.heap.size]? = some (.cells #[.string ⟨#[]⟩,.slice none 0 0] 53 (0,0)):=by rw[←hW0];exact aE H0.out
  have HBW:=Hh (show Below w.heap.size w W0 by rw[←hW0];exact HW2.out.trans (Below.mono (br.alloc lr _) HW2.out.size))
  have HK:=Hh (fun W (hb:Below W0.heap.size W0 W)=>And.intro (k3 h1 hb) (And.intro (k3 h2 hb) (k2 h0 hb)));have HW0:=Hh (aA h0);have HN1:=Hh (Nat.ne_of_gt HL0.out);have HN2:=Hh (Nat.ne_of_gt (Nat.lt_trans HL0.out (aA H1.out)));clear H0 H1;have HB0:=Hh h0;have H1:=Hh h1;have H2:=Hh h2;have HRB:=Hh (aA h0);rw[hW0];clear hW0 h0 h1 h2
 · (with_reducible refine (fF 0 _).mono ?_);rintro e w3 ⟨rfl,hb3⟩;have HB3:=Hh (cL hb3);clear hb3;obtain⟨⟨_,_,_⟩,⟨_,_,_⟩,k0,k1,f0,f1⟩:=HK.out _ HB3.out;go_wp2_with fail
   (with_reducible refine (fB (6,0,0) _).mono ?_);rintro e w4 ⟨g,rfl,hgg,hgb,hb4⟩;have HB4:=Hh (HB3.out.trans (hb4.mono HB3.out.size));have HG:=Hh hgb;have HGG:=Hh (Nat.le_trans HB3.out.size hgg);clear hb4 hgb hgg;go_wp2_with fail
   (with_reducible refine (bH _ _ (.inr ⟨_,_,_,rfl⟩) _).mono ?_);rintro e w5 ⟨rfl,hb5⟩;have HG9:=Hh (aB HG.out hb5 (aA HG.out));have HB5:=Hh (HB4.out.trans (hb5.mono HB4.out.size));clear hb5;obtain⟨⟨_,_,_⟩,⟨_,_,_⟩,k0,k1,f0,f1⟩:=HK.out _ HB5.out;have hlt:=Nat.lt_of_lt_of_le HW0.out HB5.out.size;go_wp2_with fail
   refine bodyPost_ret (v:=.tuple #[.agg #[.string ⟨#[73,77]⟩,.slice (some ⟨g,0,none⟩) 1 1],.string ⟨#[]⟩,.bool false]) (by simp[results,results87,go_sem, *]) rfl ?_;exact⟨_,rfl,bA rfl HBW.out HW0.out HB5.out HGG.out HG9.out rfl om⟩
 · (with_reducible refine (fF 0 _).mono ?_);rintro e w3 ⟨rfl,hb3⟩;have HB3:=Hh (cL hb3);clear hb3;obtain⟨⟨_,_,_⟩,⟨_,_,_⟩,k0,k1,f0,f1⟩:=HK.out _ HB3.out;go_wp2_with fail
   (with_reducible refine (fB (6,0,0) _).mono ?_);rintro e w4 ⟨g,rfl,hgg,hgb,hb4⟩;have HB4:=Hh (HB3.out.trans (hb4.mono HB3.out.size));have HG:=Hh hgb;have HGG:=Hh (Nat.le_trans HB3.out.size hgg);clear hb4 hgb hgg;go_wp2_with fail
   (with_reducible refine (bH _ _ (.inr ⟨_,_,_,rfl⟩) _).mono ?_);rintro e w5 ⟨rfl,hb5⟩;have HG9:=Hh (aB HG.out hb5 (aA HG.out));have HB5:=Hh (HB4.out.trans (hb5.mono HB4.out.size));clear hb5;obtain⟨⟨_,_,_⟩,⟨_,_,_⟩,k0,k1,f0,f1⟩:=HK.out _ HB5.out;have hlt:=Nat.lt_of_lt_of_le HW0.out HB5.out.size;go_wp2_with fail
   refine bodyPost_ret (v:=.tuple #[.agg #[.string ⟨#[73,77]⟩,.slice (some ⟨g,0,none⟩) 1 1],.string ⟨#[]⟩,.bool true]) (by simp[results,results87,go_sem, *]) rfl ?_;exact⟨_,rfl,bA rfl HBW.out HW0.out HB5.out HGG.out HG9.out rfl om⟩
 · (with_reducible refine (fF 1 _).mono ?_);rintro e w3 ⟨rfl,hb3⟩;have HB3:=Hh (cL hb3);clear hb3;obtain⟨⟨_,_,_⟩,⟨_,_,_⟩,k0,k1,f0,f1⟩:=HK.out _ HB3.out;go_wp2_with fail
   (with_reducible refine (fB (6,0,1) _).mono ?_);rintro e w4 ⟨g,rfl,hgg,hgb,hb4⟩;have HB4:=Hh (HB3.out.trans (hb4.mono HB3.out.size));have HG:=Hh hgb;have HGG:=Hh (Nat.le_trans HB3.out.size hgg);clear hb4 hgb hgg;go_wp2_with fail
   (with_reducible refine (bH _ _ (.inr ⟨_,_,_,rfl⟩) _).mono ?_);rintro e w5 ⟨rfl,hb5⟩;have HG9:=Hh (aB HG.out hb5 (aA HG.out));have HB5:=Hh (HB4.out.trans (hb5.mono HB4.out.size));clear hb5;obtain⟨⟨_,_,_⟩,⟨_,_,_⟩,k0,k1,f0,f1⟩:=HK.out _ HB5.out;have hlt:=Nat.lt_of_lt_of_le HW0.out HB5.out.size;go_wp2_with fail
   refine bodyPost_ret (v:=.tuple #[.agg #[.string ⟨#[73,77]⟩,.slice (some ⟨g,0,none⟩) 1 1],.string ⟨#[]⟩,.bool false]) (by simp[results,results87,go_sem, *]) rfl ?_;exact⟨_,rfl,bA rfl HBW.out HW0.out HB5.out HGG.out HG9.out rfl om⟩
 · (with_reducible refine (fF 2 _).mono ?_);rintro e w3 ⟨rfl,hb3⟩;have HB3:=Hh (cL hb3);clear hb3;obtain⟨⟨_,_,_⟩,⟨_,_,_⟩,k0,k1,f0,f1⟩:=HK.out _ HB3.out;go_wp2_with fail
   (with_reducible refine (fB (6,0,2) _).mono ?_);rintro e w4 ⟨g,rfl,hgg,hgb,hb4⟩;have HB4:=Hh (HB3.out.trans (hb4.mono HB3.out.size));have HG:=Hh hgb;have HGG:=Hh (Nat.le_trans HB3.out.size hgg);clear hb4 hgb hgg;go_wp2_with fail
   (with_reducible refine (bH _ _ (.inr ⟨_,_,_,rfl⟩) _).mono ?_);rintro e w5 ⟨rfl,hb5⟩;have HG9:=Hh (aB HG.out hb5 (aA HG.out));have HB5:=Hh (HB4.out.trans (hb5.mono HB4.out.size));clear hb5;obtain⟨⟨_,_,_⟩,⟨_,_,_⟩,k0,k1,f0,f1⟩:=HK.out _ HB5.out;have hlt:=Nat.lt_of_lt_of_le HW0.out HB5.out.size;go_wp2_with fail
   refine bodyPost_ret (v:=.tuple #[.agg #[.string ⟨#[73,77]⟩,.slice (some ⟨g,0,none⟩) 1 1],.string ⟨#[]⟩,.bool false]) (by simp[results,results87,go_sem, *]) rfl ?_;exact⟨_,rfl,bA rfl HBW.out HW0.out HB5.out HGG.out HG9.out rfl om⟩
 · (with_reducible refine (fF 0 _).mono ?_);rintro e w3 ⟨rfl,hb3⟩;have HB3:=Hh (cL hb3);clear hb3;obtain⟨⟨_,_,_⟩,⟨_,_,_⟩,k0,k1,f0,f1⟩:=HK.out _ HB3.out;go_wp2_with fail
   (with_reducible refine (fB (6,0,0) _).mono ?_);rintro e w4 ⟨g,rfl,hgg,hgb,hb4⟩;have HB4:=Hh (HB3.out.trans (hb4.mono HB3.out.size));have HG:=Hh hgb;have HGG:=Hh (Nat.le_trans HB3.out.size hgg);clear hb4 hgb hgg;go_wp2_with fail
   (with_reducible refine (bH _ _ (.inr ⟨_,_,_,rfl⟩) _).mono ?_);rintro e w5 ⟨rfl,hb5⟩;have HG9:=Hh (aB HG.out hb5 (aA HG.out));have HB5:=Hh (HB4.out.trans (hb5.mono HB4.out.size));clear hb5;obtain⟨⟨_,_,_⟩,⟨_,_,_⟩,k0,k1,f0,f1⟩:=HK.out _ HB5.out;have hlt:=Nat.lt_of_lt_of_le HW0.out HB5.out.size;go_wp2_with fail
   refine bodyPost_ret (v:=.tuple #[.agg #[.string ⟨#[73,77]⟩,.slice (some ⟨g,0,none⟩) 1 1],.string ⟨#[]⟩,.bool true]) (by simp[results,results87,go_sem, *]) rfl ?_;exact⟨_,rfl,bA rfl HBW.out HW0.out HB5.out HGG.out HG9.out rfl om⟩
 · (with_reducible refine (fF 0 _).mono ?_);rintro e w3 ⟨rfl,hb3⟩;have HB3:=Hh (cL hb3);clear hb3;obtain⟨⟨_,_,_⟩,⟨_,_,_⟩,k0,k1,f0,f1⟩:=HK.out _ HB3.out;go_wp2_with fail
   (with_reducible refine (fB (6,0,0) _).mono ?_);rintro e w4 ⟨g,rfl,hgg,hgb,hb4⟩;have HB4:=Hh (HB3.out.trans (hb4.mono HB3.out.size));have HG:=Hh hgb;have HGG:=Hh (Nat.le_trans HB3.out.size hgg);clear hb4 hgb hgg;go_wp2_with fail
   (with_reducible refine (bH _ _ (.inr ⟨_,_,_,rfl⟩) _).mono ?_);rintro e w5 ⟨rfl,hb5⟩;have HG9:=Hh (aB HG.out hb5 (aA HG.out));have HB5:=Hh (HB4.out.trans (hb5.mono HB4.out.size));clear hb5;obtain⟨⟨_,_,_⟩,⟨_,_,_⟩,k0,k1,f0,f1⟩:=HK.out _ HB5.out;have hlt:=Nat.lt_of_lt_of_le HW0.out HB5.out.size;go_wp2_with fail
   refine bodyPost_ret (v:=.tuple #[.agg #[.string ⟨#[73,77]⟩,.slice (some ⟨g,0,none⟩) 1 1],.string ⟨#[]⟩,.bool true]) (by simp[results,results87,go_sem, *]) rfl ?_;exact⟨_,rfl,bA rfl HBW.out HW0.out HB5.out HGG.out HG9.out rfl om⟩
 · (with_reducible refine (fF 1 _).mono ?_);rintro e w3 ⟨rfl,hb3⟩;have HB3:=Hh (cL hb3);clear hb3;obtain⟨⟨_,_,_⟩,⟨_,_,_⟩,k0,k1,f0,f1⟩:=HK.out _ HB3.out;go_wp2_with fail
   (with_reducible refine (fB (6,0,1) _).mono ?_);rintro e w4 ⟨g,rfl,hgg,hgb,hb4⟩;have HB4:=Hh (HB3.out.trans (hb4.mono HB3.out.size));have HG:=Hh hgb;have HGG:=Hh (Nat.le_trans HB3.out.size hgg);clear hb4 hgb hgg;go_wp2_with fail
   (with_reducible refine (bH _ _ (.inr ⟨_,_,_,rfl⟩) _).mono ?_);rintro e w5 ⟨rfl,hb5⟩;have HG9:=Hh (aB HG.out hb5 (aA HG.out));have HB5:=Hh (HB4.out.trans (hb5.mono HB4.out.size));clear hb5;obtain⟨⟨_,_,_⟩,⟨_,_,_⟩,k0,k1,f0,f1⟩:=HK.out _ HB5.out;have hlt:=Nat.lt_of_lt_of_le HW0.out HB5.out.size;go_wp2_with fail
   refine bodyPost_ret (v:=.tuple #[.agg #[.string ⟨#[73,77]⟩,.slice (some ⟨g,0,none⟩) 1 1],.string ⟨#[]⟩,.bool true]) (by simp[results,results87,go_sem, *]) rfl ?_;exact⟨_,rfl,bA rfl HBW.out HW0.out HB5.out HGG.out HG9.out rfl om⟩
 · (with_reducible refine (fF 2 _).mono ?_);rintro e w3 ⟨rfl,hb3⟩;have HB3:=Hh (cL hb3);clear hb3;obtain⟨⟨_,_,_⟩,⟨_,_,_⟩,k0,k1,f0,f1⟩:=HK.out _ HB3.out;go_wp2_with fail
   (with_reducible refine (fB (6,0,2) _).mono ?_);rintro e w4 ⟨g,rfl,hgg,hgb,hb4⟩;have HB4:=Hh (HB3.out.trans (hb4.mono HB3.out.size));have HG:=Hh hgb;have HGG:=Hh (Nat.le_trans HB3.out.size hgg);clear hb4 hgb hgg;go_wp2_with fail
   (with_reducible refine (bH _ _ (.inr ⟨_,_,_,rfl⟩) _).mono ?_);rintro e w5 ⟨rfl,hb5⟩;have HG9:=Hh (aB HG.out hb5 (aA HG.out));have HB5:=Hh (HB4.out.trans (hb5.mono HB4.out.size));clear hb5;obtain⟨⟨_,_,_⟩,⟨_,_,_⟩,k0,k1,f0,f1⟩:=HK.out _ HB5.out;have hlt:=Nat.lt_of_lt_of_le HW0.out HB5.out.size;go_wp2_with fail
   refine bodyPost_ret (v:=.tuple #[.agg #[.string ⟨#[73,77]⟩,.slice (some ⟨g,0,none⟩) 1 1],.string ⟨#[]⟩,.bool true]) (by simp[results,results87,go_sem, *]) rfl ?_;exact⟨_,rfl,bA rfl HBW.out HW0.out HB5.out HGG.out HG9.out rfl om⟩
 · (with_reducible refine (oV _).mono ?_);rintro e w3 ⟨rfl,hb3⟩;have hb:=HK.out _ hb3;have h0:=aB HB0.out hb3 HRB.out;have HB3:=Hh hb3;obtain⟨_,_,k0,k1,f0,f1⟩:=hb;clear hb3;go_wp2_with fail
   generalize hW:(((w3.alloc _).alloc _).alloc _)=W3;have ha:W3.heap[w3.heap.size]? = some (.cells #[.int .i64 1,.int .i64 7,.int .i64 0] 144 (0,0)):=by rw[←hW];exact aE (aE (aF _ _))
   have hi:W3.heap[w3.heap.size+1]? = some (.cells #[.int .i64 9,.int .i64 0,.int .i64 0] 144 (0,0)):=by
    rw[←hW]
    have:=aF (w3.alloc (.cells #[.int .i64 1,.int .i64 7,.int .i64 0] 144)) (.cells #[.int .i64 9,.int .i64 0,.int .i64 0] 144)
    rw[World.size_alloc] at this;exact aE this
   have hr:W3.heap[w3.heap.size+2]? = some (.cells #[.int .i64 9,.int .i64 1,.int .i64 0] 144 (0,0)):=by
    rw[←hW]
    have:=aF ((w3.alloc (.cells #[.int .i64 1,.int .i64 7,.int .i64 0] 144)).alloc (.cells #[.int .i64 9,.int .i64 0,.int .i64 0] 144)) (.cells #[.int .i64 9,.int .i64 1,.int .i64 0] 144)
    rw[World.size_alloc,World.size_alloc] at this;exact this
   have h0':W3.heap[w.heap.size]? = some (.cells #[.string ⟨#[]⟩,.slice none 0 0] 53 (0,0)):=by rw[←hW];exact aE (aE (aE h0))
   have HBW:=Hh (show Below w.heap.size w W3 by rw[←hW];exact aQ (aQ (aQ (HBW.out.trans (HB3.out.mono HBW.out.size)))))
   have hl3:=aA h0;have HNA:=Hh (show w3.heap.size≠w.heap.size by omega);have HNI:=Hh (show w3.heap.size+1≠w.heap.size by omega);have HNR:=Hh (show w3.heap.size+2≠w.heap.size by omega);have HA:=Hh ha;have HI:=Hh hi;have HR:=Hh hr;clear HB0 HRB;have HB0:=Hh h0';have HRB:=Hh (aA h0');clear hW ha hi hr h0 h0' hl3 k0 k1 f0 f1;refine bN kr w.heap.size 22 e7D (fun i v W=>(e7P i).holds W3.heap.size v W) (Out e7K _) (fun i v v1 v2 hi h hk=>D9.kb (Po i hi) h HRB.out hk) (fun v w w' h _=>h) (Out.refl _ _) (fun i v a hi hne hA=>hA.put _ v (Wc i hi hne).1 (Wc i hi hne).2) (fun i j hi hj=>Za i hi j hj) ?_ (gQ kr) ?_
   · intro i hi;have hi:i<22:=hi;rcases (by omega:i=0∨i=1∨i=2∨i=3∨i=4∨i=5∨i=6∨i=7∨i=8∨i=9∨i=10∨i=11∨i=12∨i=13∨i=14∨i=15∨i=16∨i=17∨i=18∨i=19∨i=20∨i=21) with rfl|rfl|rfl|rfl|rfl|rfl|rfl|rfl|rfl|rfl|rfl|rfl|rfl|rfl|rfl|rfl|rfl|rfl|rfl|rfl|rfl|rfl
     · exact Kt
     · exact vW
     · refine⟨_,[0,1],rfl,rfl,(fun j hj=>by simp only[List.mem_cons,List.not_mem_nil,or_false] at hj;rcases hj with rfl|rfl;exact⟨dc,⟨0,.data⟩,by simp,rfl,rfl⟩;exact⟨dc,⟨1,.data⟩,by simp,rfl,rfl⟩),?_⟩;intro R a W hA hk hbw hd hv hs;have e1:a.tmps[143]?.getD undef=_:=(aJ a 143).symm.trans (hd 0 sm);have e2:a.tmps[144]?.getD undef=_:=(aJ a 144).symm.trans (hd 1 sm);go_simp;(with_reducible refine (iE (9,0,0) (1,7,0) _ W3.heap.size hk.size).mono ?_);rintro e w' ⟨v,rfl,hr,hb⟩;exact hv dc _ _ hb hr
     · refine⟨_,[2],rfl,rfl,(fun j hj=>by obtain rfl:=List.mem_singleton.1 hj;exact⟨dc,⟨2,.data⟩,by simp,rfl,rfl⟩),?_⟩;intro R a W hA hk hbw hd hv hs;obtain⟨u1,hu1⟩:∃ u,a.tmps.getD 145 undef=u:=⟨_,rfl⟩;have q1:RowV W3.heap.size [(9,0,0),(1,7,0)] u1 W:=hu1 ▸ hd 2 sm;have e1:=(aJ a 145).symm.trans hu1;go_simp;(with_reducible refine (dX [76,68] [(9,0,0),(1,7,0)] u1 W3.heap.size _ (RowN.of q1)).mono ?_);rintro e w' ⟨v,rfl,hr,hb⟩;exact hv dc _ _ hb hr
     · exact Ks
     · exact vW
     · refine⟨_,[4,5],rfl,rfl,(fun j hj=>by simp only[List.mem_cons,List.not_mem_nil,or_false] at hj;rcases hj with rfl|rfl;exact⟨dc,⟨4,.data⟩,by simp,rfl,rfl⟩;exact⟨dc,⟨5,.data⟩,by simp,rfl,rfl⟩),?_⟩;intro R a W hA hk hbw hd hv hs;have e1:a.tmps[147]?.getD undef=_:=(aJ a 147).symm.trans (hd 4 sm);have e2:a.tmps[148]?.getD undef=_:=(aJ a 148).symm.trans (hd 5 sm);go_simp;(with_reducible refine (iE (9,1,0) (1,7,0) _ W3.heap.size hk.size).mono ?_);rintro e w' ⟨v,rfl,hr,hb⟩;exact hv dc _ _ hb hr
     · refine⟨_,[6],rfl,rfl,(fun j hj=>by obtain rfl:=List.mem_singleton.1 hj;exact⟨dc,⟨6,.data⟩,by simp,rfl,rfl⟩),?_⟩;intro R a W hA hk hbw hd hv hs;obtain⟨u1,hu1⟩:∃ u,a.tmps.getD 149 undef=u:=⟨_,rfl⟩;have q1:RowV W3.heap.size [(9,1,0),(1,7,0)] u1 W:=hu1 ▸ hd 6 sm;have e1:=(aJ a 149).symm.trans hu1;go_simp;(with_reducible refine (dX [76,68] [(9,1,0),(1,7,0)] u1 W3.heap.size _ (RowN.of q1)).mono ?_);rintro e w' ⟨v,rfl,hr,hb⟩;exact hv dc _ _ hb hr
     · exact vW
     · exact Kt
     · refine⟨_,[8,9],rfl,rfl,(fun j hj=>by simp only[List.mem_cons,List.not_mem_nil,or_false] at hj;rcases hj with rfl|rfl;exact⟨dc,⟨8,.data⟩,by simp,rfl,rfl⟩;exact⟨dc,⟨9,.data⟩,by simp,rfl,rfl⟩),?_⟩;intro R a W hA hk hbw hd hv hs;have e1:a.tmps[151]?.getD undef=_:=(aJ a 151).symm.trans (hd 8 sm);have e2:a.tmps[152]?.getD undef=_:=(aJ a 152).symm.trans (hd 9 sm);go_simp;(with_reducible refine (iE (1,7,0) (9,0,0) _ W3.heap.size hk.size).mono ?_);rintro e w' ⟨v,rfl,hr,hb⟩;exact hv dc _ _ hb hr
     · refine⟨_,[10],rfl,rfl,(fun j hj=>by obtain rfl:=List.mem_singleton.1 hj;exact⟨dc,⟨10,.data⟩,by simp,rfl,rfl⟩),?_⟩;intro R a W hA hk hbw hd hv hs;obtain⟨u1,hu1⟩:∃ u,a.tmps.getD 153 undef=u:=⟨_,rfl⟩;have q1:RowV W3.heap.size [(1,7,0),(9,0,0)] u1 W:=hu1 ▸ hd 10 sm;have e1:=(aJ a 153).symm.trans hu1;go_simp;(with_reducible refine (dX [76,68] [(1,7,0),(9,0,0)] u1 W3.heap.size _ (RowN.of q1)).mono ?_);rintro e w' ⟨v,rfl,hr,hb⟩;exact hv dc _ _ hb hr
     · exact vW
     · exact Ks
     · refine⟨_,[12,13],rfl,rfl,(fun j hj=>by simp only[List.mem_cons,List.not_mem_nil,or_false] at hj;rcases hj with rfl|rfl;exact⟨dc,⟨12,.data⟩,by simp,rfl,rfl⟩;exact⟨dc,⟨13,.data⟩,by simp,rfl,rfl⟩),?_⟩;intro R a W hA hk hbw hd hv hs;have e1:a.tmps[155]?.getD undef=_:=(aJ a 155).symm.trans (hd 12 sm);have e2:a.tmps[156]?.getD undef=_:=(aJ a 156).symm.trans (hd 13 sm);go_simp;(with_reducible refine (iE (1,7,0) (9,1,0) _ W3.heap.size hk.size).mono ?_);rintro e w' ⟨v,rfl,hr,hb⟩;exact hv dc _ _ hb hr
     · refine⟨_,[14],rfl,rfl,(fun j hj=>by obtain rfl:=List.mem_singleton.1 hj;exact⟨dc,⟨14,.data⟩,by simp,rfl,rfl⟩),?_⟩;intro R a W hA hk hbw hd hv hs;obtain⟨u1,hu1⟩:∃ u,a.tmps.getD 157 undef=u:=⟨_,rfl⟩;have q1:RowV W3.heap.size [(1,7,0),(9,1,0)] u1 W:=hu1 ▸ hd 14 sm;have e1:=(aJ a 157).symm.trans hu1;go_simp;(with_reducible refine (dX [76,68] [(1,7,0),(9,1,0)] u1 W3.heap.size _ (RowN.of q1)).mono ?_);rintro e w' ⟨v,rfl,hr,hb⟩;exact hv dc _ _ hb hr
     · refine⟨_,[],rfl,rfl,(fun j hj=>by cases hj),?_⟩;intro R a W hA hk hbw hd hv hs;go_simp;(with_reducible refine (dX [82,82,68] [] _ W3.heap.size _ (RowN.nil _ _)).mono ?_);rintro e w' ⟨v,rfl,hr,hb⟩;exact hv dc _ _ hb hr
     · refine⟨_,[],rfl,rfl,(fun j hj=>by cases hj),?_⟩;intro R a W hA hk hbw hd hv hs;go_simp;(with_reducible refine (dX [82,76,68] [] _ W3.heap.size _ (RowN.nil _ _)).mono ?_);rintro e w' ⟨v,rfl,hr,hb⟩;exact hv dc _ _ hb hr
     · exact Kr
     · exact Kr
     · refine⟨_,[3,7,11,15,16,17,18,19],rfl,rfl,(fun j hj=>by simp only[List.mem_cons,List.not_mem_nil,or_false] at hj;rcases hj with rfl|rfl|rfl|rfl|rfl|rfl|rfl|rfl;exact⟨dc,⟨3,.data⟩,by simp,rfl,rfl⟩;exact⟨dc,⟨7,.data⟩,by simp,rfl,rfl⟩;exact⟨dc,⟨11,.data⟩,by simp,rfl,rfl⟩;exact⟨dc,⟨15,.data⟩,by simp,rfl,rfl⟩;exact⟨dc,⟨16,.data⟩,by simp,rfl,rfl⟩;exact⟨dc,⟨17,.data⟩,by simp,rfl,rfl⟩;exact⟨dc,⟨18,.data⟩,by simp,rfl,rfl⟩;exact⟨dc,⟨19,.data⟩,by simp,rfl,rfl⟩),?_⟩;intro R a W hA hk hbw hd hv hs;obtain⟨u0,hu0⟩:∃ u,a.tmps.getD 146 undef=u:=⟨_,rfl⟩;have q0:(D9.ins ([76,68],[(9,0,0),(1,7,0)])).holds W3.heap.size u0 W:=hu0 ▸ hd 3 sm;have e0:=(aJ a 146).symm.trans hu0;obtain⟨y0,hy0,z0⟩:=q0;subst hy0;obtain⟨u1,hu1⟩:∃ u,a.tmps.getD 150 undef=u:=⟨_,rfl⟩;have q1:(D9.ins ([76,68],[(9,1,0),(1,7,0)])).holds W3.heap.size u1 W:=hu1 ▸ hd 7 sm;have e1:=(aJ a 150).symm.trans hu1;obtain⟨y1,hy1,z1⟩:=q1;subst hy1;obtain⟨u2,hu2⟩:∃ u,a.tmps.getD 154 undef=u:=⟨_,rfl⟩;have q2:(D9.ins ([76,68],[(1,7,0),(9,0,0)])).holds W3.heap.size u2 W:=hu2 ▸ hd 11 sm;have e2:=(aJ a 154).symm.trans hu2;obtain⟨y2,hy2,z2⟩:=q2;subst hy2;obtain⟨u3,hu3⟩:∃ u,a.tmps.getD 158 undef=u:=⟨_,rfl⟩;have q3:(D9.ins ([76,68],[(1,7,0),(9,1,0)])).holds W3.heap.size u3 W:=hu3 ▸ hd 15 sm;have e3:=(aJ a 158).symm.trans hu3;obtain⟨y3,hy3,z3⟩:=q3;subst hy3;obtain⟨u4,hu4⟩:∃ u,a.tmps.getD 159 undef=u:=⟨_,rfl⟩;have q4:(D9.ins ([82,82,68],[])).holds W3.heap.size u4 W:=hu4 ▸ hd 16 sm;have e4:=(aJ a 159).symm.trans hu4;obtain⟨y4,hy4,z4⟩:=q4;subst hy4;obtain⟨u5,hu5⟩:∃ u,a.tmps.getD 160 undef=u:=⟨_,rfl⟩;have q5:(D9.ins ([82,76,68],[])).holds W3.heap.size u5 W:=hu5 ▸ hd 17 sm;have e5:=(aJ a 160).symm.trans hu5;obtain⟨y5,hy5,z5⟩:=q5;subst hy5;obtain⟨u6,hu6⟩:∃ u,a.tmps.getD 161 undef=u:=⟨_,rfl⟩;have q6:(D9.ins ([],[])).holds W3.heap.size u6 W:=hu6 ▸ hd 18 sm;have e6:=(aJ a 161).symm.trans hu6;obtain⟨y6,hy6,z6⟩:=q6;subst hy6;obtain⟨u7,hu7⟩:∃ u,a.tmps.getD 162 undef=u:=⟨_,rfl⟩;have q7:(D9.ins ([],[])).holds W3.heap.size u7 W:=hu7 ▸ hd 19 sm;have e7:=(aJ a 162).symm.trans hu7;obtain⟨y7,hy7,z7⟩:=q7;subst hy7;go_simp;have ha:=fun o=>(Below.refl W.heap.size W).alloc lr o;refine hv dc _ _ (ha _) ⟨_,rfl,[(([76,68],[(9,0,0),(1,7,0)]),y0),(([76,68],[(9,1,0),(1,7,0)]),y1),(([76,68],[(1,7,0),(9,0,0)]),y2),(([76,68],[(1,7,0),(9,1,0)]),y3),(([82,82,68],[]),y4),(([82,76,68],[]),y5),(([],[]),y6),(([],[]),y7)],rfl,hk.size,aF _ _,?_⟩;intro x hx;simp only[List.mem_cons,List.not_mem_nil,or_false] at hx;rcases hx with rfl|rfl|rfl|rfl|rfl|rfl|rfl|rfl
       · exact z0.kb HRB.out (.of_below (ha _))
       · exact z1.kb HRB.out (.of_below (ha _))
       · exact z2.kb HRB.out (.of_below (ha _))
       · exact z3.kb HRB.out (.of_below (ha _))
       · exact z4.kb HRB.out (.of_below (ha _))
       · exact z5.kb HRB.out (.of_below (ha _))
       · exact z6.kb HRB.out (.of_below (ha _))
       · exact z7.kb HRB.out (.of_below (ha _))
     · refine⟨_,[20],rfl,rfl,(fun j hj=>by obtain rfl:=List.mem_singleton.1 hj;exact⟨dc,⟨20,.data⟩,by simp,rfl,rfl⟩),?_⟩;intro R a W hA hk hbw hd hv hs;obtain⟨u1,hu1⟩:∃ u,a.tmps.getD 163 undef=u:=⟨_,rfl⟩;have q1:(D9.inss e7L).holds W3.heap.size u1 W:=hu1 ▸ hd 20 sm;have e1:=(aJ a 163).symm.trans hu1;go_simp;exact hv dc _ _ br q1
   · intro a W1 hA hk hbl hd _;have hb1:=hbl dc;have h8:(D9.inss e7L).holds W3.heap.size (a.tmps.getD 15 undef) W1:=hd 21 dc dc;have e0:=hA.get (k:=6) (by rfl) (by rfl);have e4:=hA.get (k:=2) (by rfl) (by rfl);have hsz:a.tmps.size=168:=hA.size;obtain⟨ts,df⟩:=a;obtain rfl:df=[]:=hA.defers;obtain⟨g,h8,us,hus,hg,hbk,hrow⟩:=h8;have e8:ts[15]?.getD undef=.slice (some ⟨g,0,none⟩) 8 8:=(aJ ⟨ts,[]⟩ 15).symm.trans h8;have hr:=aB HB0.out hb1 (aA HB0.out);have c0:=aC hr 0;have c1:=aC hr 1;have f0:=aH hr 0;have f1:=aH hr 1;have hlt:=aA hr;obtain⟨y0,y1,y2,y3,y4,y5,y6,y7,rfl⟩:=us8 hus;clear hA hk hbl hd h8 hus;obtain⟨v,rfl,hv⟩:=Dx ts 168 hsz;replace e0:=(hv 6).symm.trans e0;replace e4:=(hv 2).symm.trans e4;replace e8:=(hv 15).symm.trans e8;clear hv hsz;simp only[List.range,List.range.loop,List.map_cons,List.map_nil,e0,e4,e8];clear e0 e4 e8;have HW1B:=Hh hb1;have HROW:=Hh hrow;have HG:=Hh hg;have HBK:=Hh hbk;have hgl:=aA hbk;clear hb1 hrow hg hbk hr;have m0:W1.cell? ⟨g,0,none⟩=some (.string ⟨#[76,68]⟩):=aC HBK.out 0;have m1:W1.cell? ⟨g,1,none⟩=some y0:=aC HBK.out 1;have m2:W1.cell? ⟨g,2,none⟩=some (.string ⟨#[76,68]⟩):=aC HBK.out 2;have m3:W1.cell? ⟨g,3,none⟩=some y1:=aC HBK.out 3;have m4:W1.cell? ⟨g,4,none⟩=some (.string ⟨#[76,68]⟩):=aC HBK.out 4;have m5:W1.cell? ⟨g,5,none⟩=some y2:=aC HBK.out 5;have m6:W1.cell? ⟨g,6,none⟩=some (.string ⟨#[76,68]⟩):=aC HBK.out 6;have m7:W1.cell? ⟨g,7,none⟩=some y3:=aC HBK.out 7;have m8:W1.cell? ⟨g,8,none⟩=some (.string ⟨#[82,82,68]⟩):=aC HBK.out 8;have m9:W1.cell? ⟨g,9,none⟩=some y4:=aC HBK.out 9;have m10:W1.cell? ⟨g,10,none⟩=some (.string ⟨#[82,76,68]⟩):=aC HBK.out 10;have m11:W1.cell? ⟨g,11,none⟩=some y5:=aC HBK.out 11;have m12:W1.cell? ⟨g,12,none⟩=some (.string ⟨#[]⟩):=aC HBK.out 12;have m13:W1.cell? ⟨g,13,none⟩=some y6:=aC HBK.out 13;have m14:W1.cell? ⟨g,14,none⟩=some (.string ⟨#[]⟩):=aC HBK.out 14;have m15:W1.cell? ⟨g,15,none⟩=some y7:=aC HBK.out 15;rcases HY.out with rfl|rfl|rfl|rfl|rfl|rfl|rfl|rfl
     · clear m2 m3 m4 m5 m6 m7 m8 m9 m10 m11 m12 m13 m14 m15;have z:RowN W3.heap.size _ y0 W1:=HROW.out (([76,68],[(9,0,0),(1,7,0)]),y0) sm;obtain⟨a,n,c,rfl⟩:=z.slice;have HZ:=Hh z;clear z;go_wp2_with fail
       refine bodyPost_ret (v:=.tuple #[.agg #[.string ⟨#[76,68]⟩,.slice a n c],.string ⟨#[]⟩,.bool false]) (by simp[results,results87,go_sem, *]) rfl ?_;exact⟨_,rfl,wH (i:=([76,68],[(9,0,0),(1,7,0)])) HZ.out HW1B.out HBW.out HRB.out dc (by repeat (first|exact Kb.refl _ _|refine Kb.setCell ?_ _ _|refine Kb.alloc ?_ _|refine Kb.drew ?_))⟩
     · clear m0 m1 m4 m5 m6 m7 m8 m9 m10 m11 m12 m13 m14 m15;have z:RowN W3.heap.size _ y1 W1:=HROW.out (([76,68],[(9,1,0),(1,7,0)]),y1) sm;obtain⟨a,n,c,rfl⟩:=z.slice;have HZ:=Hh z;clear z;go_wp2_with fail
       refine bodyPost_ret (v:=.tuple #[.agg #[.string ⟨#[76,68]⟩,.slice a n c],.string ⟨#[]⟩,.bool false]) (by simp[results,results87,go_sem, *]) rfl ?_;exact⟨_,rfl,wH (i:=([76,68],[(9,1,0),(1,7,0)])) HZ.out HW1B.out HBW.out HRB.out dc (by repeat (first|exact Kb.refl _ _|refine Kb.setCell ?_ _ _|refine Kb.alloc ?_ _|refine Kb.drew ?_))⟩
     · clear m0 m1 m2 m3 m6 m7 m8 m9 m10 m11 m12 m13 m14 m15;have z:RowN W3.heap.size _ y2 W1:=HROW.out (([76,68],[(1,7,0),(9,0,0)]),y2) sm;obtain⟨a,n,c,rfl⟩:=z.slice;have HZ:=Hh z;clear z;go_wp2_with fail
       refine bodyPost_ret (v:=.tuple #[.agg #[.string ⟨#[76,68]⟩,.slice a n c],.string ⟨#[]⟩,.bool false]) (by simp[results,results87,go_sem, *]) rfl ?_;exact⟨_,rfl,wH (i:=([76,68],[(1,7,0),(9,0,0)])) HZ.out HW1B.out HBW.out HRB.out dc (by repeat (first|exact Kb.refl _ _|refine Kb.setCell ?_ _ _|refine Kb.alloc ?_ _|refine Kb.drew ?_))⟩
     · clear m0 m1 m2 m3 m4 m5 m8 m9 m10 m11 m12 m13 m14 m15;have z:RowN W3.heap.size _ y3 W1:=HROW.out (([76,68],[(1,7,0),(9,1,0)]),y3) sm;obtain⟨a,n,c,rfl⟩:=z.slice;have HZ:=Hh z;clear z;go_wp2_with fail
       refine bodyPost_ret (v:=.tuple #[.agg #[.string ⟨#[76,68]⟩,.slice a n c],.string ⟨#[]⟩,.bool false]) (by simp[results,results87,go_sem, *]) rfl ?_;exact⟨_,rfl,wH (i:=([76,68],[(1,7,0),(9,1,0)])) HZ.out HW1B.out HBW.out HRB.out dc (by repeat (first|exact Kb.refl _ _|refine Kb.setCell ?_ _ _|refine Kb.alloc ?_ _|refine Kb.drew ?_))⟩
     · clear m0 m1 m2 m3 m4 m5 m6 m7 m10 m11 m12 m13 m14 m15;have z:RowN W3.heap.size _ y4 W1:=HROW.out (([82,82,68],[]),y4) sm;obtain⟨a,n,c,rfl⟩:=z.slice;have HZ:=Hh z;clear z;go_wp2_with fail
       refine bodyPost_ret (v:=.tuple #[.agg #[.string ⟨#[82,82,68]⟩,.slice a n c],.string ⟨#[]⟩,.bool false]) (by simp[results,results87,go_sem, *]) rfl ?_;exact⟨_,rfl,wH (i:=([82,82,68],[])) HZ.out HW1B.out HBW.out HRB.out dc (by repeat (first|exact Kb.refl _ _|refine Kb.setCell ?_ _ _|refine Kb.alloc ?_ _|refine Kb.drew ?_))⟩
     · clear m0 m1 m2 m3 m4 m5 m6 m7 m8 m9 m12 m13 m14 m15;have z:RowN W3.heap.size _ y5 W1:=HROW.out (([82,76,68],[]),y5) sm;obtain⟨a,n,c,rfl⟩:=z.slice;have HZ:=Hh z;clear z;go_wp2_with fail
       refine bodyPost_ret (v:=.tuple #[.agg #[.string ⟨#[82,76,68]⟩,.slice a n c],.string ⟨#[]⟩,.bool false]) (by simp[results,results87,go_sem, *]) rfl ?_;exact⟨_,rfl,wH (i:=([82,76,68],[])) HZ.out HW1B.out HBW.out HRB.out dc (by repeat (first|exact Kb.refl _ _|refine Kb.setCell ?_ _ _|refine Kb.alloc ?_ _|refine Kb.drew ?_))⟩
     · clear m0 m1 m2 m3 m4 m5 m6 m7 m8 m9 m10 m11 m14 m15;have z:RowN W3.heap.size _ y6 W1:=HROW.out (([],[]),y6) sm;obtain⟨a,n,c,rfl⟩:=z.slice;have HZ:=Hh z;clear z;go_wp2_with fail
       refine bodyPost_ret (v:=.tuple #[.agg #[.string ⟨#[]⟩,.slice a n c],.string ⟨#[]⟩,.bool false]) (by simp[results,results87,go_sem, *]) rfl ?_;exact⟨_,rfl,wH (i:=([],[])) HZ.out HW1B.out HBW.out HRB.out dc (by repeat (first|exact Kb.refl _ _|refine Kb.setCell ?_ _ _|refine Kb.alloc ?_ _|refine Kb.drew ?_))⟩
     · clear m0 m1 m2 m3 m4 m5 m6 m7 m8 m9 m10 m11 m12 m13;have z:RowN W3.heap.size _ y7 W1:=HROW.out (([],[]),y7) sm;obtain⟨a,n,c,rfl⟩:=z.slice;have HZ:=Hh z;clear z;go_wp2_with fail
       refine bodyPost_ret (v:=.tuple #[.agg #[.string ⟨#[]⟩,.slice a n c],.string ⟨#[]⟩,.bool false]) (by simp[results,results87,go_sem, *]) rfl ?_;exact⟨_,rfl,wH (i:=([],[])) HZ.out HW1B.out HBW.out HRB.out dc (by repeat (first|exact Kb.refl _ _|refine Kb.setCell ?_ _ _|refine Kb.alloc ?_ _|refine Kb.drew ?_))⟩
theorem Yu (op:Int) (hb0:0≤op) (hb1:op≤255) (hx:op/64=1) (hy:op/8%8=0) (hz:op%8=6) (w:World):Calls prog 87 #[.int .u8 op] w (cQ (([73,77],[(6,0,0)]),[],false) w) :=
 oN op 0 0 6 _ hb0 hb1 hx hy hz dc dc dc dc dc (.inl ⟨rfl,rfl,rfl⟩) w
theorem Yt (op:Int) (hb0:0≤op) (hb1:op≤255) (hx:op/64=1) (hy:op/8%8=1) (hz:op%8=6) (w:World):Calls prog 87 #[.int .u8 op] w (cQ (([73,77],[(6,0,0)]),[],true) w) :=
 oN op 1 0 6 _ hb0 hb1 hx hy hz dc dc dc dc dc (.inr (.inl ⟨rfl,rfl,rfl⟩)) w
theorem Ys (op:Int) (hb0:0≤op) (hb1:op≤255) (hx:op/64=1) (hy:op/8%8=2) (hz:op%8=6) (w:World):Calls prog 87 #[.int .u8 op] w (cQ (([73,77],[(6,0,1)]),[],false) w) :=
 oN op 2 1 6 _ hb0 hb1 hx hy hz dc dc dc dc dc (.inr (.inr (.inl ⟨rfl,rfl,rfl⟩))) w
theorem Yr (op:Int) (hb0:0≤op) (hb1:op≤255) (hx:op/64=1) (hy:op/8%8=3) (hz:op%8=6) (w:World):Calls prog 87 #[.int .u8 op] w (cQ (([73,77],[(6,0,2)]),[],false) w) :=
 oN op 3 1 6 _ hb0 hb1 hx hy hz dc dc dc dc dc (.inr (.inr (.inr (.inl ⟨rfl,rfl,rfl⟩)))) w
theorem Yq (op:Int) (hb0:0≤op) (hb1:op≤255) (hx:op/64=1) (hy:op/8%8=4) (hz:op%8=6) (w:World):Calls prog 87 #[.int .u8 op] w (cQ (([73,77],[(6,0,0)]),[],true) w) :=
 oN op 4 2 6 _ hb0 hb1 hx hy hz dc dc dc dc dc (.inr (.inr (.inr (.inr (.inl ⟨rfl,rfl,rfl⟩))))) w
theorem Yp (op:Int) (hb0:0≤op) (hb1:op≤255) (hx:op/64=1) (hy:op/8%8=5) (hz:op%8=6) (w:World):Calls prog 87 #[.int .u8 op] w (cQ (([73,77],[(6,0,0)]),[],true) w) :=
 oN op 5 2 6 _ hb0 hb1 hx hy hz dc dc dc dc dc (.inr (.inr (.inr (.inr (.inr (.inl ⟨rfl,rfl,rfl⟩)))))) w
theorem Yo (op:Int) (hb0:0≤op) (hb1:op≤255) (hx:op/64=1) (hy:op/8%8=6) (hz:op%8=6) (w:World):Calls prog 87 #[.int .u8 op] w (cQ (([73,77],[(6,0,1)]),[],true) w) :=
 oN op 6 3 6 _ hb0 hb1 hx hy hz dc dc dc dc dc (.inr (.inr (.inr (.inr (.inr (.inr (.inl ⟨rfl,rfl,rfl⟩))))))) w
theorem Yn (op:Int) (hb0:0≤op) (hb1:op≤255) (hx:op/64=1) (hy:op/8%8=7) (hz:op%8=6) (w:World):Calls prog 87 #[.int .u8 op] w (cQ (([73,77],[(6,0,2)]),[],true) w) :=
 oN op 7 3 6 _ hb0 hb1 hx hy hz dc dc dc dc dc (.inr (.inr (.inr (.inr (.inr (.inr (.inr (.inl ⟨rfl,rfl,rfl⟩)))))))) w
theorem qI (op y k:Int) (hb0:0≤op) (hb1:op≤255) (hx:op/64=1) (hy:op/8%8=y) (hz:op%8=7) (hy0:0≤y) (hy7:y≤7) (hk:y.tdiv 2=k) (hk0:0≤k) (hk3:k≤3) (hj:y=0∨y=1∨y=2∨y=3∨y=4∨y=5∨y=6∨y=7) (w:World):Calls prog 87 #[.int .u8 op] w (cQ ((e7L.getD y.toNat ([],[])),[],false) w) :=
 oN op y k 7 _ hb0 hb1 hx hy hz hy0 hy7 hk hk0 hk3 (.inr (.inr (.inr (.inr (.inr (.inr (.inr (.inr ⟨rfl,Hh hj,rfl⟩)))))))) w
end Go.Proofs.YtoigglljnklhlaaGreatDoor
