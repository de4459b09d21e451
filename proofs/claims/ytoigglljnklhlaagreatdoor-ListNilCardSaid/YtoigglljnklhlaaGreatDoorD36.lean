/- Joined. -/
import Derived.Test.YtoigglljnklhlaaGreatDoorD35
set_option maxHeartbeats 8000000
set_option maxRecDepth 100000
namespace Go.Proofs.YtoigglljnklhlaaGreatDoor
open Go.RowKit Go.Sort
open Go.Proofs.Tryz
theorem sR (y:Int) (hm:y.tmod 2=1) (hn1:(y == 1)=false) (w:World):Calls prog 125 #[.int .i64 y,.int .i64 5] w (aU (([],[]),[]) w):=by
 go_enter func125,ntmps125
 go_wp2_with fail
 (with_reducible refine (pE _ 2 rfl _).mono ?_);rintro e w1 ⟨rfl,hb1⟩;have h0:=bQ hb1;have HW1:=Hh (cL hb1);have k0:=aC h0 0;have k1:=aC h0 1;have f0:=aH h0 0;have f1:=aH h0 1;have hlt:=aA h0;clear hb1 h0;go_wp2_with fail
 refine bodyPost_ret (v:=.tuple #[.agg #[.string ⟨#[]⟩,.slice none 0 0],.string ⟨#[]⟩]) (by simp[results,results125,go_sem, *]) rfl ?_;exact⟨_,rfl,iL (by (repeat (first|exact Below.refl _ _|refine Below.drew ?_|(refine cD ?_ (by first|omega|(simp[go_sem];done)|(simp[go_sem];omega)) _)|(refine Below.alloc ?_ (by first|omega|(simp[go_sem];done)|(simp[go_sem];omega)) _)|(refine Below.setCell ?_ (by first|omega|(simp[go_sem];done)|(simp[go_sem];omega)) _)));exact HW1.out)⟩
def h1L:List aY:=[([82,69,84],[]),([69,88,88],[]),([74,80],[(4,2,0)]),([76,68],[(3,3,0),(3,2,0)])]
def h1D (i:Nat):Tmp:=match i with
 | 0=>28
 | 1=>29
 | 2=>30
 | 3=>31
 | 4=>32
 | 5=>33
 | 6=>34
 | 7=>35
 | 8=>36
 | 9=>37
 | 10=>38
 | 11=>39
 | 12=>40
 | 13=>41
 | 15=>5
 | _=>114
def h1K (k:Nat):Bool:=([28,29,30,31,32,33,34,35,36,37,38,39,40,41,5]:List Nat).contains k
theorem Wa:∀ i,i<16→i≠14→h1K (h1D i)=true∧h1D i<114:=dc
theorem Ya:∀ i,i<16→∀ j,j<16→i≠14→j≠14→h1D i=h1D j→i=j:=dc
def h1P (r:Nat) (y k:Int) (X:aY) (i:Nat):D9:=match i with
 | 0=>.ins ([82,69,84],[])
 | 1=>.ins ([69,88,88],[])
 | 2=>.val (opV (4,2,0))
 | 3=>.row [(4,2,0)]
 | 4=>.ins ([74,80],[(4,2,0)])
 | 5=>.val (opV (3,3,0))
 | 6=>.val (opV (3,2,0))
 | 7=>.row [(3,3,0),(3,2,0)]
 | 8=>.ins ([76,68],[(3,3,0),(3,2,0)])
 | 9=>.inss h1L
 | 10=>.val (.int .i64 y)
 | 11=>.val (.int .i64 k)
 | 12=>.insAt h1L k.toNat
 | 13=>.ins X
 | 14=>.stored r X
 | 15=>.val (.string ⟨#[]⟩)
 | _=>.val undef
theorem Oq (r:Nat) (y k:Int) (X:aY):∀ i,i≠14→(h1P r y k X i).plain=true:=by
 intro i h;unfold h1P;split<;>first|rfl|exact absurd rfl h
theorem us4 {us:List (aY × Value)} {i0 i1 i2 i3:aY} (h:us.map (·.1)=[i0,i1,i2,i3]):∃ y0 y1 y2 y3,us=[(i0,y0),(i1,y1),(i2,y2),(i3,y3)]:=by
 match us,h with
 | [(_,y0),(_,y1),(_,y2),(_,y3)],h =>
   simp only[List.map_cons,List.map_nil,List.cons.injEq,and_true] at h;obtain⟨rfl,rfl,rfl,rfl⟩:=h;exact⟨_,_,_,_,rfl⟩
theorem gX (y z:Int) (R:aY × List UInt8) (hy0:0≤y) (hy7:y≤7)
 (hD:(z=0∧R=(([82,69,84],[(8,y,0)]),[]))
  ∨ (z=2∧R=(([74,80],[(8,y,0),(6,0,0)]),[119]))
  ∨ (z=4∧R=(([67,65,76,76],[(8,y,0),(6,0,0)]),[119]))
  ∨ (z=7∧R=(([82,83,84],[(6,0,8*y)]),[]))
  ∨ (∃ (k:Int) (P:Op3),z=1∧y.tdiv 2=k∧y.tmod 2=0∧0≤k∧k≤3∧Hid ((if k=3 then (3,4,0) else (3,k,0))=P)∧R=(([80,79,80],[P]),[]))
  ∨ (∃ (k:Int) (P:Op3),z=5∧y.tdiv 2=k∧y.tmod 2=0∧0≤k∧k≤3∧Hid ((if k=3 then (3,4,0) else (3,k,0))=P)∧R=(([80,85,83,72],[P]),[]))
  ∨ (z=5∧y=1∧R=(([67,65,76,76],[(6,0,0)]),[119]))
  ∨ (z=6∧R=(Ai y.toNat (6,0,0),[110]))
  ∨ (∃ (k:Int) (X:aY),z=1∧Hid (k=0∧X=([82,69,84],[])∨k=1∧X=([69,88,88],[])∨k=2∧X=([74,80],[(4,2,0)])∨k=3∧X=([76,68],[(3,3,0),(3,2,0)]))∧y.tdiv 2=k∧y.tmod 2=1∧0≤k∧k≤3∧R=(X,[])))
 (w:World):Calls prog 125 #[.int .i64 y,.int .i64 z] w (aU R w):=by
 rcases hD with⟨rfl,rfl⟩|⟨rfl,rfl⟩|⟨rfl,rfl⟩|⟨rfl,rfl⟩|⟨k,P,rfl,hy,hm,hk0,hk3,HP,rfl⟩|⟨k,P,rfl,hy,hm,hk0,hk3,HP,rfl⟩|⟨rfl,rfl,rfl⟩|⟨rfl,rfl⟩|⟨k,X,rfl,HJ,hy,hm,hk0,hk3,rfl⟩;all_goals
  go_enter func125,ntmps125
  go_wp2_with fail
  (with_reducible refine (pE _ 2 rfl _).mono ?_);rintro e w1 ⟨rfl,hb1⟩;have H0:=Hh (bQ hb1);have HW1:=Hh (cL hb1);have HL0:=Hh (aA (bQ hb1));clear hb1;go_wp2_with fail
  obtain⟨W0,hW0⟩:∃ W0,w1.alloc (.cells #[.int .i64 3,.int .i64 2,.int .i64 0] 144)=W0:=⟨_,rfl⟩;have h1:W0.heap[w1.heap.size]? = some (.cells #[.int .i64 3,.int .i64 2,.int .i64 0] 144 (0,0)):=by rw[←hW0];exact aF _ _
  have h0:W0.heap[w.heap.size]? = some (.cells #[.string ⟨#[]⟩,.slice none 0 0] 53 (0,0)):=by rw[←hW0];exact aE H0.out
  have HBW:=Hh (show Below w.heap.size w W0 by rw[←hW0];exact HW1.out.trans (Below.mono (br.alloc lr _) HW1.out.size))
  have HK:=Hh (fun W (hb:Below W0.heap.size W0 W)=>And.intro (k3 h1 hb) (k2 h0 hb));have HW0:=Hh (aA h0);have HB0:=Hh h0;have H1:=Hh h1;have HRB:=Hh (aA h0);have HN1:=Hh (Nat.ne_of_gt HL0.out);rw[hW0];clear hW0 h0 h1 H0
 · (with_reducible refine (Ty _ y rfl _).mono ?_);rintro e w3 ⟨rfl,hb3⟩;have HB3:=Hh (hb3);clear hb3;obtain⟨⟨_,_,_⟩,k0,k1,f0,f1⟩:=HK.out _ HB3.out;go_wp2_with fail
   (with_reducible refine (fB (8,y,0) _).mono ?_);rintro e w4 ⟨g,rfl,hgg,hgb,hb4⟩;have HB4:=Hh (HB3.out.trans (hb4.mono HB3.out.size));have HG:=Hh hgb;have HGG:=Hh (Nat.le_trans HB3.out.size hgg);clear hb4 hgb hgg;go_wp2_with fail
   (with_reducible refine (bH _ _ (.inr ⟨_,_,_,rfl⟩) _).mono ?_);rintro e w5 ⟨rfl,hb5⟩;have HG9:=Hh (aB HG.out hb5 (aA HG.out));have HB5:=Hh (HB4.out.trans (hb5.mono HB4.out.size));clear hb5;obtain⟨⟨_,_,_⟩,k0,k1,f0,f1⟩:=HK.out _ HB5.out;have hlt:=Nat.lt_of_lt_of_le HW0.out HB5.out.size;go_wp2_with fail
   refine bodyPost_ret (v:=.tuple #[.agg #[.string ⟨#[82,69,84]⟩,.slice (some ⟨g,0,none⟩) 1 1],.string ⟨#[]⟩]) (by simp[results,results125,go_sem, *]) rfl ?_;exact⟨_,rfl,bA rfl HBW.out HW0.out HB5.out HGG.out HG9.out rfl om⟩
 · (with_reducible refine (Ty _ y rfl _).mono ?_);rintro e w3 ⟨rfl,hb3⟩;have HB3:=Hh (hb3);clear hb3;obtain⟨⟨_,_,_⟩,k0,k1,f0,f1⟩:=HK.out _ HB3.out;go_wp2_with fail
   (with_reducible refine (fF 0 _).mono ?_);rintro e w4 ⟨rfl,hb4⟩;have HB4:=Hh (HB3.out.trans (hb4.mono HB3.out.size));clear hb4;obtain⟨⟨_,_,_⟩,k0,k1,f0,f1⟩:=HK.out _ HB4.out;go_wp2_with fail
   (with_reducible refine (eY (8,y,0) (6,0,0) _).mono ?_);rintro e w5 ⟨g,rfl,hgg,hgb,hb5⟩;have HB5:=Hh (HB4.out.trans (hb5.mono HB4.out.size));have HG:=Hh hgb;have HGG:=Hh (Nat.le_trans HB4.out.size hgg);clear hb5 hgb hgg;go_wp2_with fail
   (with_reducible refine (bH _ _ (.inr ⟨_,_,_,rfl⟩) _).mono ?_);rintro e w6 ⟨rfl,hb6⟩;have HG9:=Hh (aB HG.out hb6 (aA HG.out));have HB6:=Hh (HB5.out.trans (hb6.mono HB5.out.size));clear hb6;obtain⟨⟨_,_,_⟩,k0,k1,f0,f1⟩:=HK.out _ HB6.out;have hlt:=Nat.lt_of_lt_of_le HW0.out HB6.out.size;go_wp2_with fail
   refine bodyPost_ret (v:=.tuple #[.agg #[.string ⟨#[74,80]⟩,.slice (some ⟨g,0,none⟩) 2 2],.string ⟨#[119]⟩]) (by simp[results,results125,go_sem, *]) rfl ?_;exact⟨_,rfl,bA rfl HBW.out HW0.out HB6.out HGG.out HG9.out rfl om⟩
 · (with_reducible refine (Ty _ y rfl _).mono ?_);rintro e w3 ⟨rfl,hb3⟩;have HB3:=Hh (hb3);clear hb3;obtain⟨⟨_,_,_⟩,k0,k1,f0,f1⟩:=HK.out _ HB3.out;go_wp2_with fail
   (with_reducible refine (fF 0 _).mono ?_);rintro e w4 ⟨rfl,hb4⟩;have HB4:=Hh (HB3.out.trans (hb4.mono HB3.out.size));clear hb4;obtain⟨⟨_,_,_⟩,k0,k1,f0,f1⟩:=HK.out _ HB4.out;go_wp2_with fail
   (with_reducible refine (eY (8,y,0) (6,0,0) _).mono ?_);rintro e w5 ⟨g,rfl,hgg,hgb,hb5⟩;have HB5:=Hh (HB4.out.trans (hb5.mono HB4.out.size));have HG:=Hh hgb;have HGG:=Hh (Nat.le_trans HB4.out.size hgg);clear hb5 hgb hgg;go_wp2_with fail
   (with_reducible refine (bH _ _ (.inr ⟨_,_,_,rfl⟩) _).mono ?_);rintro e w6 ⟨rfl,hb6⟩;have HG9:=Hh (aB HG.out hb6 (aA HG.out));have HB6:=Hh (HB5.out.trans (hb6.mono HB5.out.size));clear hb6;obtain⟨⟨_,_,_⟩,k0,k1,f0,f1⟩:=HK.out _ HB6.out;have hlt:=Nat.lt_of_lt_of_le HW0.out HB6.out.size;go_wp2_with fail
   refine bodyPost_ret (v:=.tuple #[.agg #[.string ⟨#[67,65,76,76]⟩,.slice (some ⟨g,0,none⟩) 2 2],.string ⟨#[119]⟩]) (by simp[results,results125,go_sem, *]) rfl ?_;exact⟨_,rfl,bA rfl HBW.out HW0.out HB6.out HGG.out HG9.out rfl om⟩
 · (with_reducible refine (aAD _ (8*y) om _).mono ?_);rintro e w3 ⟨rfl,hb3⟩;have HB3:=Hh (hb3);clear hb3;obtain⟨⟨_,_,_⟩,k0,k1,f0,f1⟩:=HK.out _ HB3.out;go_wp2_with fail
   (with_reducible refine (fB (6,0,8*y) _).mono ?_);rintro e w4 ⟨g,rfl,hgg,hgb,hb4⟩;have HB4:=Hh (HB3.out.trans (hb4.mono HB3.out.size));have HG:=Hh hgb;have HGG:=Hh (Nat.le_trans HB3.out.size hgg);clear hb4 hgb hgg;go_wp2_with fail
   (with_reducible refine (bH _ _ (.inr ⟨_,_,_,rfl⟩) _).mono ?_);rintro e w5 ⟨rfl,hb5⟩;have HG9:=Hh (aB HG.out hb5 (aA HG.out));have HB5:=Hh (HB4.out.trans (hb5.mono HB4.out.size));clear hb5;obtain⟨⟨_,_,_⟩,k0,k1,f0,f1⟩:=HK.out _ HB5.out;have hlt:=Nat.lt_of_lt_of_le HW0.out HB5.out.size;go_wp2_with fail
   refine bodyPost_ret (v:=.tuple #[.agg #[.string ⟨#[82,83,84]⟩,.slice (some ⟨g,0,none⟩) 1 1],.string ⟨#[]⟩]) (by simp[results,results125,go_sem, *]) rfl ?_;exact⟨_,rfl,bA rfl HBW.out HW0.out HB5.out HGG.out HG9.out rfl om⟩
 · (with_reducible refine (aAr _ k 4 P om HP.out _).mono ?_);rintro e w3 ⟨rfl,hb3⟩;have HB3:=Hh (hb3);clear hb3;obtain⟨⟨_,_,_⟩,k0,k1,f0,f1⟩:=HK.out _ HB3.out;go_wp2_with fail
   (with_reducible refine (fB P _).mono ?_);rintro e w4 ⟨g,rfl,hgg,hgb,hb4⟩;have HB4:=Hh (HB3.out.trans (hb4.mono HB3.out.size));have HG:=Hh hgb;have HGG:=Hh (Nat.le_trans HB3.out.size hgg);clear hb4 hgb hgg;go_wp2_with fail
   (with_reducible refine (bH _ _ (.inr ⟨_,_,_,rfl⟩) _).mono ?_);rintro e w5 ⟨rfl,hb5⟩;have HG9:=Hh (aB HG.out hb5 (aA HG.out));have HB5:=Hh (HB4.out.trans (hb5.mono HB4.out.size));clear hb5;obtain⟨⟨_,_,_⟩,k0,k1,f0,f1⟩:=HK.out _ HB5.out;have hlt:=Nat.lt_of_lt_of_le HW0.out HB5.out.size;go_wp2_with fail
   refine bodyPost_ret (v:=.tuple #[.agg #[.string ⟨#[80,79,80]⟩,.slice (some ⟨g,0,none⟩) 1 1],.string ⟨#[]⟩]) (by simp[results,results125,go_sem, *]) rfl ?_;exact⟨_,rfl,bA rfl HBW.out HW0.out HB5.out HGG.out HG9.out rfl om⟩
 · (with_reducible refine (aAr _ k 4 P om HP.out _).mono ?_);rintro e w3 ⟨rfl,hb3⟩;have HB3:=Hh (hb3);clear hb3;obtain⟨⟨_,_,_⟩,k0,k1,f0,f1⟩:=HK.out _ HB3.out;go_wp2_with fail
   (with_reducible refine (fB P _).mono ?_);rintro e w4 ⟨g,rfl,hgg,hgb,hb4⟩;have HB4:=Hh (HB3.out.trans (hb4.mono HB3.out.size));have HG:=Hh hgb;have HGG:=Hh (Nat.le_trans HB3.out.size hgg);clear hb4 hgb hgg;go_wp2_with fail
   (with_reducible refine (bH _ _ (.inr ⟨_,_,_,rfl⟩) _).mono ?_);rintro e w5 ⟨rfl,hb5⟩;have HG9:=Hh (aB HG.out hb5 (aA HG.out));have HB5:=Hh (HB4.out.trans (hb5.mono HB4.out.size));clear hb5;obtain⟨⟨_,_,_⟩,k0,k1,f0,f1⟩:=HK.out _ HB5.out;have hlt:=Nat.lt_of_lt_of_le HW0.out HB5.out.size;go_wp2_with fail
   refine bodyPost_ret (v:=.tuple #[.agg #[.string ⟨#[80,85,83,72]⟩,.slice (some ⟨g,0,none⟩) 1 1],.string ⟨#[]⟩]) (by simp[results,results125,go_sem, *]) rfl ?_;exact⟨_,rfl,bA rfl HBW.out HW0.out HB5.out HGG.out HG9.out rfl om⟩
 · (with_reducible refine (fF 0 _).mono ?_);rintro e w3 ⟨rfl,hb3⟩;have HB3:=Hh (hb3);clear hb3;obtain⟨⟨_,_,_⟩,k0,k1,f0,f1⟩:=HK.out _ HB3.out;go_wp2_with fail
   (with_reducible refine (fB (6,0,0) _).mono ?_);rintro e w4 ⟨g,rfl,hgg,hgb,hb4⟩;have HB4:=Hh (HB3.out.trans (hb4.mono HB3.out.size));have HG:=Hh hgb;have HGG:=Hh (Nat.le_trans HB3.out.size hgg);clear hb4 hgb hgg;go_wp2_with fail
   (with_reducible refine (bH _ _ (.inr ⟨_,_,_,rfl⟩) _).mono ?_);rintro e w5 ⟨rfl,hb5⟩;have HG9:=Hh (aB HG.out hb5 (aA HG.out));have HB5:=Hh (HB4.out.trans (hb5.mono HB4.out.size));clear hb5;obtain⟨⟨_,_,_⟩,k0,k1,f0,f1⟩:=HK.out _ HB5.out;have hlt:=Nat.lt_of_lt_of_le HW0.out HB5.out.size;go_wp2_with fail
   refine bodyPost_ret (v:=.tuple #[.agg #[.string ⟨#[67,65,76,76]⟩,.slice (some ⟨g,0,none⟩) 1 1],.string ⟨#[119]⟩]) (by simp[results,results125,go_sem, *]) rfl ?_;exact⟨_,rfl,bA rfl HBW.out HW0.out HB5.out HGG.out HG9.out rfl om⟩
 · (with_reducible refine (fF 0 _).mono ?_);rintro e w3 ⟨rfl,hb3⟩;have HB3:=Hh hb3;clear hb3;obtain⟨⟨_,_,_⟩,k0,k1,f0,f1⟩:=HK.out _ HB3.out;go_wp2_with fail
   (with_reducible refine (Aj y hy0 hy7 (6,0,0) _).mono ?_);rintro e w4 ⟨v,rfl,ho⟩;obtain⟨a,n,c,rfl⟩:=ho.slice;have HB4:=Hh (HB3.out.trans (ho.2.2.mono HB3.out.size));have HO:=Hh ho;clear ho;obtain⟨⟨_,_,_⟩,k0,k1,f0,f1⟩:=HK.out _ HB4.out;have hlt:=Nat.lt_of_lt_of_le HW0.out HB4.out.size;go_wp2_with fail
   refine bodyPost_ret (v:=.tuple #[.agg #[.string ⟨(Ai y.toNat (6,0,0)).1.toArray⟩,.slice a n c],.string ⟨#[110]⟩]) (by simp[results,results125,go_sem, *]) rfl ?_;exact⟨_,rfl,HO.out.kb (HBW.out.trans (HB3.out.mono HBW.out.size)) (Nat.lt_of_lt_of_le HW0.out HB3.out.size) (Kb.setCell (Kb.setCell (Kb.refl _ _) 0 _) 1 _)⟩
 · refine bN kr w.heap.size 14 h1D (fun i v W=>(h1P w.heap.size y k X i).holds W0.heap.size v W) (Out h1K _) (fun i v v1 v2 hi h hk=>D9.kb (Oq w.heap.size y k X i hi) h HRB.out hk) (fun v v1 v2 h hb=>D9.stored_below (B:=W0.heap.size) (r:=w.heap.size) (i:=X) h hb) (Out.refl _ _) (fun i v a hi hne hA=>hA.put _ v (Wa i hi hne).1 (Wa i hi hne).2) (fun i j hi hj=>Ya i hi j hj) ?_ (gQ kr) ?_
   · intro i hi;have hi:i<16:=hi;rcases (by omega:i=0∨i=1∨i=2∨i=3∨i=4∨i=5∨i=6∨i=7∨i=8∨i=9∨i=10∨i=11∨i=12∨i=13∨i=14∨i=15) with rfl|rfl|rfl|rfl|rfl|rfl|rfl|rfl|rfl|rfl|rfl|rfl|rfl|rfl|rfl|rfl
     · refine⟨_,[],rfl,rfl,(fun j hj=>by cases hj),?_⟩;intro R a W hA hk hbw hd hv hs;go_simp;(with_reducible refine (dX [82,69,84] [] _ W0.heap.size _ (RowN.nil _ _)).mono ?_);rintro e w' ⟨v,rfl,hr,hb⟩;exact hv dc _ _ hb hr
     · refine⟨_,[],rfl,rfl,(fun j hj=>by cases hj),?_⟩;intro R a W hA hk hbw hd hv hs;go_simp;(with_reducible refine (dX [69,88,88] [] _ W0.heap.size _ (RowN.nil _ _)).mono ?_);rintro e w' ⟨v,rfl,hr,hb⟩;exact hv dc _ _ hb hr
     · refine⟨_,[],rfl,rfl,(fun j hj=>by cases hj),?_⟩;intro R a W hA hk hbw hd hv hs;go_simp;(with_reducible refine (lQ 2 _).mono ?_);rintro e w' ⟨rfl,hb⟩;exact hv dc _ _ hb rfl
     · refine⟨_,[2],rfl,rfl,(fun j hj=>by obtain rfl:=List.mem_singleton.1 hj;exact⟨dc,⟨2,.data⟩,by simp,rfl,rfl⟩),?_⟩;intro R a W hA hk hbw hd hv hs;have e1:a.tmps[30]?.getD undef=_:=(aJ a 30).symm.trans (hd 2 sm);go_simp;(with_reducible refine (Er (4,2,0) _ W0.heap.size hk.size).mono ?_);rintro e w' ⟨v,rfl,hr,hb⟩;exact hv dc _ _ hb hr
     · refine⟨_,[3],rfl,rfl,(fun j hj=>by obtain rfl:=List.mem_singleton.1 hj;exact⟨dc,⟨3,.data⟩,by simp,rfl,rfl⟩),?_⟩;intro R a W hA hk hbw hd hv hs;obtain⟨u1,hu1⟩:∃ u,a.tmps.getD 31 undef=u:=⟨_,rfl⟩;have q1:RowV W0.heap.size [(4,2,0)] u1 W:=hu1 ▸ hd 3 sm;have e1:=(aJ a 31).symm.trans hu1;go_simp;(with_reducible refine (dX [74,80] [(4,2,0)] u1 W0.heap.size _ (RowN.of q1)).mono ?_);rintro e w' ⟨v,rfl,hr,hb⟩;exact hv dc _ _ hb hr
     · refine⟨_,[],rfl,rfl,(fun j hj=>by cases hj),?_⟩;intro R a W hA hk hbw hd hv hs;go_simp;(with_reducible refine (Bj 3 3 (3,3,0) dc _).mono ?_);rintro e w' ⟨rfl,hb⟩;exact hv dc _ _ hb rfl
     · refine⟨_,[],rfl,rfl,(fun j hj=>by cases hj),?_⟩;intro R a W hA hk hbw hd hv hs;have e6:=hA.get (k:=6) (by rfl) (by rfl);have hbk:=(hk.block _ (aA H1.out) HN1.out).trans H1.out;have c0:=aC hbk 0;have c1:=aC hbk 1;have c2:=aC hbk 2;go_simp;exact hv dc _ _ br rfl
     · refine⟨_,[5,6],rfl,rfl,(fun j hj=>by simp only[List.mem_cons,List.not_mem_nil,or_false] at hj;rcases hj with rfl|rfl;exact⟨dc,⟨5,.data⟩,by simp,rfl,rfl⟩;exact⟨dc,⟨6,.data⟩,by simp,rfl,rfl⟩),?_⟩;intro R a W hA hk hbw hd hv hs;have e1:a.tmps[33]?.getD undef=_:=(aJ a 33).symm.trans (hd 5 sm);have e2:a.tmps[34]?.getD undef=_:=(aJ a 34).symm.trans (hd 6 sm);go_simp;(with_reducible refine (iE (3,3,0) (3,2,0) _ W0.heap.size hk.size).mono ?_);rintro e w' ⟨v,rfl,hr,hb⟩;exact hv dc _ _ hb hr
     · refine⟨_,[7],rfl,rfl,(fun j hj=>by obtain rfl:=List.mem_singleton.1 hj;exact⟨dc,⟨7,.data⟩,by simp,rfl,rfl⟩),?_⟩;intro R a W hA hk hbw hd hv hs;obtain⟨u1,hu1⟩:∃ u,a.tmps.getD 35 undef=u:=⟨_,rfl⟩;have q1:RowV W0.heap.size [(3,3,0),(3,2,0)] u1 W:=hu1 ▸ hd 7 sm;have e1:=(aJ a 35).symm.trans hu1;go_simp;(with_reducible refine (dX [76,68] [(3,3,0),(3,2,0)] u1 W0.heap.size _ (RowN.of q1)).mono ?_);rintro e w' ⟨v,rfl,hr,hb⟩;exact hv dc _ _ hb hr
     · refine⟨_,[0,1,4,8],rfl,rfl,(fun j hj=>by simp only[List.mem_cons,List.not_mem_nil,or_false] at hj;rcases hj with rfl|rfl|rfl|rfl;exact⟨dc,⟨0,.data⟩,by simp,rfl,rfl⟩;exact⟨dc,⟨1,.data⟩,by simp,rfl,rfl⟩;exact⟨dc,⟨4,.data⟩,by simp,rfl,rfl⟩;exact⟨dc,⟨8,.data⟩,by simp,rfl,rfl⟩),?_⟩;intro R a W hA hk hbw hd hv hs;obtain⟨u0,hu0⟩:∃ u,a.tmps.getD 28 undef=u:=⟨_,rfl⟩;have q0:(D9.ins ([82,69,84],[])).holds W0.heap.size u0 W:=hu0 ▸ hd 0 sm;have e0:=(aJ a 28).symm.trans hu0;obtain⟨y0,hy0,z0⟩:=q0;subst hy0;obtain⟨u1,hu1⟩:∃ u,a.tmps.getD 29 undef=u:=⟨_,rfl⟩;have q1:(D9.ins ([69,88,88],[])).holds W0.heap.size u1 W:=hu1 ▸ hd 1 sm;have e1:=(aJ a 29).symm.trans hu1;obtain⟨y1,hy1,z1⟩:=q1;subst hy1;obtain⟨u2,hu2⟩:∃ u,a.tmps.getD 32 undef=u:=⟨_,rfl⟩;have q2:(D9.ins ([74,80],[(4,2,0)])).holds W0.heap.size u2 W:=hu2 ▸ hd 4 sm;have e2:=(aJ a 32).symm.trans hu2;obtain⟨y2,hy2,z2⟩:=q2;subst hy2;obtain⟨u3,hu3⟩:∃ u,a.tmps.getD 36 undef=u:=⟨_,rfl⟩;have q3:(D9.ins ([76,68],[(3,3,0),(3,2,0)])).holds W0.heap.size u3 W:=hu3 ▸ hd 8 sm;have e3:=(aJ a 36).symm.trans hu3;obtain⟨y3,hy3,z3⟩:=q3;subst hy3;go_simp;have ha:=fun o=>(Below.refl W.heap.size W).alloc lr o;refine hv dc _ _ (ha _) ⟨_,rfl,[(([82,69,84],[]),y0),(([69,88,88],[]),y1),(([74,80],[(4,2,0)]),y2),(([76,68],[(3,3,0),(3,2,0)]),y3)],rfl,hk.size,aF _ _,?_⟩;intro x hx;simp only[List.mem_cons,List.not_mem_nil,or_false] at hx;rcases hx with rfl|rfl|rfl|rfl
       · exact z0.kb HRB.out (.of_below (ha _))
       · exact z1.kb HRB.out (.of_below (ha _))
       · exact z2.kb HRB.out (.of_below (ha _))
       · exact z3.kb HRB.out (.of_below (ha _))
     · refine⟨_,[],rfl,rfl,(fun j hj=>by cases hj),?_⟩;intro R a W hA hk hbw hd hv hs;have e6:=hA.get (k:=0) (by rfl) (by rfl);go_simp;exact hv dc _ _ br rfl
     · refine⟨_,[10],rfl,rfl,(fun j hj=>by obtain rfl:=List.mem_singleton.1 hj;exact⟨dc,⟨10,.data⟩,by simp,rfl,rfl⟩),?_⟩;intro R a W hA hk hbw hd hv hs;have e1:a.tmps[38]?.getD undef=_:=(aJ a 38).symm.trans (hd 10 sm);have hwr:IntKind.i64.wrap k=k:=IntWalk.i64_in k om;go_simp;exact hv dc _ _ br (by first|rfl|(show Value.int .i64 _=Value.int .i64 k;rw[hwr]))
     · refine⟨_,[9,11],rfl,rfl,(fun j hj=>by simp only[List.mem_cons,List.not_mem_nil,or_false] at hj;rcases hj with rfl|rfl;exact⟨dc,⟨9,.data⟩,by simp,rfl,rfl⟩;exact⟨dc,⟨11,.data⟩,by simp,rfl,rfl⟩),?_⟩;intro R a W hA hk hbw hd hv hs;obtain⟨u1,hu1⟩:∃ u,a.tmps.getD 37 undef=u:=⟨_,rfl⟩;have q1:(D9.inss h1L).holds W0.heap.size u1 W:=hu1 ▸ hd 9 sm;have e1:=(aJ a 37).symm.trans hu1;have e2:a.tmps[39]?.getD undef=_:=(aJ a 39).symm.trans (hd 11 sm);obtain⟨g,hg,q1⟩:=q1;subst hg;rcases HJ.out with⟨rfl,rfl⟩|⟨rfl,rfl⟩|⟨rfl,rfl⟩|⟨rfl,rfl⟩;all_goals
        go_simp;exact hv dc _ _ br ⟨_,rfl,q1⟩
     · refine⟨_,[12],rfl,rfl,(fun j hj=>by obtain rfl:=List.mem_singleton.1 hj;exact⟨dc,⟨12,.data⟩,by simp,rfl,rfl⟩),?_⟩;intro R a W hA hk hbw hd hv hs;obtain⟨u1,hu1⟩:∃ u,a.tmps.getD 40 undef=u:=⟨_,rfl⟩;have q1:(D9.insAt h1L k.toNat).holds W0.heap.size u1 W:=hu1 ▸ hd 12 sm;have e1:=(aJ a 40).symm.trans hu1;obtain⟨g,hg,us,hus,q1,q3,q4⟩:=q1;subst hg;obtain⟨y0,y1,y2,y3,rfl⟩:=us4 hus;rcases HJ.out with⟨rfl,rfl⟩|⟨rfl,rfl⟩|⟨rfl,rfl⟩|⟨rfl,rfl⟩
       · have m0:W.cell? ⟨g,0,none⟩=some (.string ⟨#[82,69,84]⟩):=aC q3 0;have m1:W.cell? ⟨g,1,none⟩=some y0:=aC q3 1;go_simp;exact hv dc _ _ br ⟨_,rfl,q4 (([82,69,84],[]),y0) sm⟩
       · have m0:W.cell? ⟨g,2,none⟩=some (.string ⟨#[69,88,88]⟩):=aC q3 2;have m1:W.cell? ⟨g,3,none⟩=some y1:=aC q3 3;go_simp;exact hv dc _ _ br ⟨_,rfl,q4 (([69,88,88],[]),y1) sm⟩
       · have m0:W.cell? ⟨g,4,none⟩=some (.string ⟨#[74,80]⟩):=aC q3 4;have m1:W.cell? ⟨g,5,none⟩=some y2:=aC q3 5;go_simp;exact hv dc _ _ br ⟨_,rfl,q4 (([74,80],[(4,2,0)]),y2) sm⟩
       · have m0:W.cell? ⟨g,6,none⟩=some (.string ⟨#[76,68]⟩):=aC q3 6;have m1:W.cell? ⟨g,7,none⟩=some y3:=aC q3 7;go_simp;exact hv dc _ _ br ⟨_,rfl,q4 (([76,68],[(3,3,0),(3,2,0)]),y3) sm⟩
     · refine⟨_,[13],rfl,rfl,(fun j hj=>by obtain rfl:=List.mem_singleton.1 hj;exact⟨dc,⟨13,.data⟩,by simp,rfl,rfl⟩),?_⟩;intro R a W hA hk hbw hd hv hs;obtain⟨u1,hu1⟩:∃ u,a.tmps.getD 41 undef=u:=⟨_,rfl⟩;have q1:(D9.ins X).holds W0.heap.size u1 W:=hu1 ▸ hd 13 sm;have e1:=(aJ a 41).symm.trans hu1;obtain⟨z,hz,q1⟩:=q1;subst hz;obtain⟨z1,z2,z3,rfl⟩:=q1.slice;have hr:=aB HB0.out (hbw rfl) (aA HB0.out);have c0:=aC hr 0;have c1:=aC hr 1;have f0:=aH hr 0;have f1:=aH hr 1;have hlt:=aA hr;have e4:=hA.get (k:=4) (by rfl) (by rfl);go_simp;have hkk:=fun x y=>Kb.setCell (Kb.setCell (Kb.refl w.heap.size W) 0 x) 1 y;exact hs rfl _ (hkk _ _) ⟨_,aG (aG hr),q1.kb HRB.out (hkk _ _)⟩
     · refine⟨_,[],rfl,rfl,(fun j hj=>by cases hj),?_⟩;intro R a W hA hk hbw hd hv hs;go_simp;exact hv dc _ _ br rfl
   · intro a W1 hA hkb _ hd hst;obtain⟨u,hr,hz⟩:(D9.stored w.heap.size X).holds W0.heap.size undef W1:=hst dc;obtain⟨z1,z2,z3,rfl⟩:=hz.slice;have e4:=hA.get (k:=4) (by rfl) (by rfl);have e5:a.tmps[5]?.getD undef=_:=(aJ a 5).symm.trans (hd 15 dc dc);have c0:=aC hr 0;have c1:=aC hr 1;obtain⟨ts,df⟩:=a;obtain rfl:df=[]:=hA.defers;clear hA hst hd;have HZ:=Hh hz;have HKB:=Hh hkb;clear hz hkb hr;go_wp2_with fail
     refine bodyPost_ret (v:=.tuple #[.agg #[.string ⟨(X).1.toArray⟩,.slice z1 z2 z3],.string ⟨([]).toArray⟩]) (by simp[results,results125,go_sem, *]) rfl ?_;exact⟨_,rfl,Ef (i:=X) HZ.out HBW.out (by rcases HJ.out with⟨rfl,rfl⟩|⟨rfl,rfl⟩|⟨rfl,rfl⟩|⟨rfl,rfl⟩<;>simp) HKB.out⟩
theorem jG (y:Int) (hy0:0≤y) (hy7:y≤7) (w:World):Calls prog 125 #[.int .i64 y,.int .i64 0] w (aU (([82,69,84],[(8,y,0)]),[]) w) :=
 gX y 0 _ hy0 hy7 (.inl ⟨rfl,rfl⟩) w
theorem jF (y:Int) (hy0:0≤y) (hy7:y≤7) (w:World):Calls prog 125 #[.int .i64 y,.int .i64 2] w (aU (([74,80],[(8,y,0),(6,0,0)]),[119]) w) :=
 gX y 2 _ hy0 hy7 (.inr (.inl ⟨rfl,rfl⟩)) w
theorem jD (y:Int) (hy0:0≤y) (hy7:y≤7) (w:World):Calls prog 125 #[.int .i64 y,.int .i64 4] w (aU (([67,65,76,76],[(8,y,0),(6,0,0)]),[119]) w) :=
 gX y 4 _ hy0 hy7 (.inr (.inr (.inl ⟨rfl,rfl⟩))) w
theorem jB (y:Int) (hy0:0≤y) (hy7:y≤7) (w:World):Calls prog 125 #[.int .i64 y,.int .i64 7] w (aU (([82,83,84],[(6,0,8*y)]),[]) w) :=
 gX y 7 _ hy0 hy7 (.inr (.inr (.inr (.inl ⟨rfl,rfl⟩)))) w
theorem oH (y k:Int) (P:Op3) (hy:y.tdiv 2=k) (hm:y.tmod 2=0) (hy0:0≤y) (hy7:y≤7) (hk0:0≤k) (hk3:k≤3) (hp:(if k=3 then (3,4,0) else (3,k,0))=P) (w:World):Calls prog 125 #[.int .i64 y,.int .i64 1] w (aU (([80,79,80],[P]),[]) w) :=
 gX y 1 _ hy0 hy7 (.inr (.inr (.inr (.inr (.inl ⟨k,P,rfl,hy,hm,hk0,hk3,Hh hp,rfl⟩))))) w
theorem oF (y k:Int) (P:Op3) (hy:y.tdiv 2=k) (hm:y.tmod 2=0) (hy0:0≤y) (hy7:y≤7) (hk0:0≤k) (hk3:k≤3) (hp:(if k=3 then (3,4,0) else (3,k,0))=P) (w:World):Calls prog 125 #[.int .i64 y,.int .i64 5] w (aU (([80,85,83,72],[P]),[]) w) :=
 gX y 5 _ hy0 hy7 (.inr (.inr (.inr (.inr (.inr (.inl ⟨k,P,rfl,hy,hm,hk0,hk3,Hh hp,rfl⟩)))))) w
theorem Om (y:Int) (hy:y=1) (w:World):Calls prog 125 #[.int .i64 y,.int .i64 5] w (aU (([67,65,76,76],[(6,0,0)]),[119]) w) :=
 gX y 5 _ om om (.inr (.inr (.inr (.inr (.inr (.inr (.inl ⟨rfl,hy,rfl⟩))))))) w
theorem jC (y:Int) (hy0:0≤y) (hy7:y≤7) (w:World):Calls prog 125 #[.int .i64 y,.int .i64 6] w (aU (Ai y.toNat (6,0,0),[110]) w) :=
 gX y 6 _ hy0 hy7 (.inr (.inr (.inr (.inr (.inr (.inr (.inr (.inl ⟨rfl,rfl⟩)))))))) w
theorem oG (y k:Int) (X:aY) (hj:k=0∧X=([82,69,84],[])∨k=1∧X=([69,88,88],[])∨k=2∧X=([74,80],[(4,2,0)])∨k=3∧X=([76,68],[(3,3,0),(3,2,0)])) (hy:y.tdiv 2=k) (hm:y.tmod 2=1) (hy0:0≤y) (hy7:y≤7) (hk0:0≤k) (hk3:k≤3) (w:World):Calls prog 125 #[.int .i64 y,.int .i64 1] w (aU (X,[]) w) :=
 gX y 1 _ hy0 hy7 (.inr (.inr (.inr (.inr (.inr (.inr (.inr (.inr ⟨k,X,rfl,Hh hj,hy,hm,hk0,hk3,rfl⟩)))))))) w
end Go.Proofs.YtoigglljnklhlaaGreatDoor
