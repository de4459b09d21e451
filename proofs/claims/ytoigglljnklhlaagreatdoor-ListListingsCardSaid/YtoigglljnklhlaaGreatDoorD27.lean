/- Joined. -/
import Derived.Test.YtoigglljnklhlaaGreatDoorD25
import Derived.Test.YtoigglljnklhlaaGreatDoorD26
set_option maxHeartbeats 8000000
set_option maxRecDepth 100000
namespace Go.Proofs.YtoigglljnklhlaaGreatDoor
open Go.RowKit Go.Sort Go.Shelf
open Go.Proofs.Tryz
attribute [local go_sem] Oper.semAt_some
def mI (i:aY) (w:World) (e:Ending) (w':World):Prop :=
 ∃ v,e=.returned (.tuple #[cP ((gO i).1.getD ent0) v,.int .i64 (gO i).2])∧Row w' v ((gO i).1.getD ent0).args.length (opc ((gO i).1.getD ent0).args)∧Below w.heap.size w w'
theorem Pa (m:List UInt8) (v:Value) (l:List Op3) (w:World) (hT:TabsA w) (hr:Row w v l.length (opc l)) (hl:l.length≤1000) (k:Int) (hk:iR (m,l)=k) (hne:k≠0) :
 Calls prog 160 #[eU m v] w (mI (m,l) w):=by
 have hf:gO (m,l)=(none,k):=by unfold gO;rw[if_neg (by rw[hk];exact hne),hk]
 unfold mI;rw[hf];have hck:=fun X (hb:Below w.heap.size w X)=>tF m v l X (hT.below hb) (hr.below hb) om;rw[hk] at hck;have HCK:=Hh hck;clear hck;have hne1:(k != 0)=true:=bne_iff_ne.2 hne;obtain⟨a,c,rfl,_,_⟩:=hr;clear hf hk hne;show Calls prog 160 #[eU m (.slice a l.length c)] w fun e w'=>∃ v,e=.returned (.tuple #[cP ent0 v,.int .i64 k])∧Row w' v ent0.args.length (opc ent0.args)∧Below w.heap.size w w'
 go_enter func160,ntmps160
 go_wp2_with fail
 have hbW:Below w.heap.size w (((w.alloc (.cells #[.string ⟨m.toArray⟩,.slice a l.length c] 53)).alloc (.cells #[.int .i64 0,.int .u8 0,.string ⟨#[]⟩,.slice none 0 0,.string ⟨#[]⟩,.bool false] 211)).alloc (.cells #[.int .i64 0] 49)):=bl;(with_reducible refine (HCK.out _ hbW).mono ?_);rintro e w2 ⟨rfl,hb2⟩;have h1:=aB (aE (o':=.cells #[.int .i64 0] 49) (aF (w.alloc (.cells #[.string ⟨m.toArray⟩,.slice a l.length c] 53)) (.cells #[.int .i64 0,.int .u8 0,.string ⟨#[]⟩,.slice none 0 0,.string ⟨#[]⟩,.bool false] 211))) hb2 sm;have h2:=aB (aF ((w.alloc (.cells #[.string ⟨m.toArray⟩,.slice a l.length c] 53)).alloc (.cells #[.int .i64 0,.int .u8 0,.string ⟨#[]⟩,.slice none 0 0,.string ⟨#[]⟩,.bool false] 211)) (.cells #[.int .i64 0] 49)) hb2 sm;simp only[World.size_alloc] at h1 h2;obtain⟨⟨k0,k1,k2,k3,k4,k5⟩,f0,f1,f2,f3,f4,f5⟩:=aN h1;have r0:w2.cell? ⟨w.heap.size+1+1,0,none⟩=some (.int .i64 0):=by rw[aC h2];rfl
 have q0:w2.frozen? ⟨w.heap.size+1+1,0,none⟩=false:=aH h2 0;have H1:=Hh h1;have H2:=Hh h2;have HB2:=Hh (hbW.trans (hb2.mono hbW.size));clear hbW hb2 h1 h2;go_wp2_with fail
 have hfin:∀ v0 v1 v2 v3 v4 v5 vk,((((((((w2.setCell ⟨w.heap.size+1,0,none⟩ v0).setCell ⟨w.heap.size+1,1,none⟩ v1).setCell ⟨w.heap.size+1,2,none⟩ v2).setCell ⟨w.heap.size+1,3,none⟩ v3).setCell ⟨w.heap.size+1,4,none⟩ v4).setCell ⟨w.heap.size+1,5,none⟩ v5).setCell ⟨w.heap.size+1+1,0,none⟩ vk)).heap[w.heap.size+1]? = some (.cells #[v0,v1,v2,v3,v4,v5] 211 (0,0))∧((((((((w2.setCell ⟨w.heap.size+1,0,none⟩ v0).setCell ⟨w.heap.size+1,1,none⟩ v1).setCell ⟨w.heap.size+1,2,none⟩ v2).setCell ⟨w.heap.size+1,3,none⟩ v3).setCell ⟨w.heap.size+1,4,none⟩ v4).setCell ⟨w.heap.size+1,5,none⟩ v5).setCell ⟨w.heap.size+1+1,0,none⟩ vk)).heap[w.heap.size+1+1]? = some (.cells #[vk] 49 (0,0)):=fun v0 v1 v2 v3 v4 v5 vk=>⟨aD (aG (aG (aG (aG (aG (aG H1.out)))))) om,aG (aD (aD (aD (aD (aD (aD H2.out om) om) om) om) om) om)⟩;obtain⟨g1,g2⟩:=hfin (.int .i64 0) (.int .u8 0) (.string ⟨#[]⟩) (.slice none 0 0) (.string ⟨#[]⟩) (.bool false) (.int .i64 k);obtain⟨⟨n0,n1,n2,n3,n4,n5⟩,_⟩:=aN g1;have n6:=aC g2 0;simp only[List.getElem?_toArray,List.getElem?_cons_zero] at n6;have hb9:=HB2.out;refine bodyPost_ret (v:=.tuple #[cP ent0 (.slice none 0 0),.int .i64 k]) (by simp[results,results160,go_sem,n0,n1,n2,n3,n4,n5,n6,ent0]) rfl ⟨_,rfl,(WRow.nil _ 0).row,?_⟩;with_reducible repeat (refine Below.setCell ?_ (by first|exact Nat.le_refl _|exact Nat.le_succ _|(show w.heap.size≤w.heap.size+1+1;omega)) _)
 exact hb9
theorem Row.setOther {W:World} {n k i:Nat} {v u:Value} {xs:List Value} (h:Row W v n xs) (hne:xs≠[]→v.ownBlock≠some k):Row (W.setCell ⟨k,i,none⟩ u) v n xs:=by
 obtain⟨a,cap,hv,hn,h⟩:=h;refine⟨a,cap,hv,hn,fun hx=>?_⟩;obtain⟨g,o,rfl,hg,hc⟩:=h hx;have hgk:g≠k:=fun e=>hne hx (by rw[hv,e];rfl);exact⟨g,o,rfl,by rw[setCell_size];exact hg,fun j hj=>(World.cell?_of_block (a:=⟨g,o+j,none⟩) (Below.heap_setCell W ⟨k,i,none⟩ u g hgk)).trans (hc j hj)⟩
theorem Row.own_lt {w:World} {n:Nat} {v:Value} {xs:List Value} (h:Row w v n xs) (hx:xs≠[]):∃ g,v.ownBlock=some g∧g<w.heap.size:=by
 obtain⟨a,cap,rfl,hn,h⟩:=h;obtain⟨g,o,rfl,hg,_⟩:=h hx;exact⟨g,rfl,hg⟩
structure FI (b0 b5:Nat) (m:List UInt8) (v:Value) (C:List Op3) (code:Int) (W:World):Prop where
 r1:W.heap[b0+1]? = some (.cells #[.int .i64 0,.int .u8 0,.string ⟨#[]⟩,.slice none 0 0,.string ⟨#[]⟩,.bool false] 211 (0,0))
 r2:W.heap[b0+1+1]? = some (.cells #[.int .i64 0] 49 (0,0))
 r5:W.heap[b5]? = some (.cells #[.string ⟨m.toArray⟩,v] 53 (0,0))
 r6:W.heap[b5+1]? = some (.cells #[.int .i64 code] 49 (0,0))
 row:Row W v C.length (opc C)
theorem FI.keep {b0 b5:Nat} {m:List UInt8} {v:Value} {C:List Op3} {code:Int} {W W':World} (h:FI b0 b5 m v C code W) (hk:fV 0 W W'):FI b0 b5 m v C code W' :=
 ⟨hk.2 _ _ (Nat.zero_le _) h.r1 rfl,hk.2 _ _ (Nat.zero_le _) h.r2 rfl,hk.2 _ _ (Nat.zero_le _) h.r5 rfl,hk.2 _ _ (Nat.zero_le _) h.r6 rfl,h.row.keepC hk⟩
structure FX (b0:Nat) (x:Ent × Value) (W:World):Prop where
 r1:W.heap[b0+1]? = some (.cells #[.int .i64 x.1.page,.int .u8 x.1.op,.string ⟨x.1.mn.toArray⟩,x.2,.string ⟨x.1.extra.toArray⟩,.bool x.1.alias] 211 (0,0))
 r2:W.heap[b0+1+1]? = some (.cells #[.int .i64 0] 49 (0,0))
 row:Row W x.2 x.1.args.length (opc x.1.args)
theorem FX.keep {b0:Nat} {x:Ent × Value} {W W':World} (h:FX b0 x W) (hk:fV 0 W W'):FX b0 x W' :=
 ⟨hk.2 _ _ (Nat.zero_le _) h.r1 rfl,hk.2 _ _ (Nat.zero_le _) h.r2 rfl,h.row.keepC hk⟩
theorem Io (m:List UInt8) (v:Value) (l:List Op3) (w:World) (hT:TabsA w) (hr:Row w v l.length (opc l)) (hk:iR (m,l)=0) :
 Calls prog 160 #[eU m v] w (mI (m,l) w):=by
 have hf:gO (m,l)=Dc (bV (m,l)):=by unfold gO;rw[if_pos hk]
 unfold mI;rw[hf];obtain⟨hmo,hl3,_⟩:=qK hk;dsimp only at hmo hl3;obtain⟨hup,hmne,hml⟩:=Xk hmo;have hck:=fun X (hb:Below w.heap.size w X)=>tF m v l X (hT.below hb) (hr.below hb) om;rw[hk] at hck;have hof:=fun X (hb:Below w.heap.size w X)=>Nb m v l X (hT.below hb) (hr.below hb) om;have hcl:=kM (m,l);have hpg:=Ab hk;have hc1:(bV (m,l)).1=m:=rfl;unfold Dc;rw[hc1,←hpg];have hcp:bV (m,l)=(m,(bV (m,l)).2):=rfl;rw[hcp];obtain⟨C,hC⟩:∃ C,(bV (m,l)).2=C:=⟨_,rfl⟩;rw[hC] at hof hcl ⊢;dsimp only at hcl;clear hpg hc1 hcp hC hf hk;have hmem:=fun e (he:e∈dP m (bW C))=>Ce (pF C).2.2 he;have hcand:=fun n b (hn:1≤n) cv=>Uc n b hn m cv C om;obtain⟨es,hes⟩:∃ es,dP m (bW C)=es:=⟨_,rfl⟩;rw[hes] at hmem;simp only[hes] at hcand;rw[hes];clear hes;obtain⟨RES,hRES⟩:∃ RES,kQ (fun e=>(lR e (m,C)).isSome) (m,C) es 11=RES:=⟨_,rfl⟩;rw[hRES];have HRES:=Hh hRES;clear hRES;have hcd:=fun a n c X=>tG m a n c X;have HCD:=Hh hcd;clear hcd;have HCK:=Hh hck;clear hck;have HOF:=Hh hof;clear hof;have HCAND:=Hh hcand;clear hcand;have HMEM:=Hh hmem;clear hmem;have HTT:=Hh hT;clear hT;have HRR:=Hh hr;obtain⟨a,c,rfl,_,_⟩:=hr;refine (callsIn_wide (n:=3)).1 ?_;refine callsIn_of_wp_marks func160 rfl trivial ?_ rfl;simp only[ntmps160,List.size_toArray,List.length_cons,List.length_nil,Nat.reduceAdd,Nat.reduceSub,Array.replicate_succ,Array.replicate_zero,List.push_toArray,List.append_toArray,List.nil_append,List.cons_append];refine wpIn_wide.2 ?_;go_wp2_with fail
 have hbW:Below w.heap.size w (((w.alloc (.cells #[.string ⟨m.toArray⟩,.slice a l.length c] 53)).alloc (.cells #[.int .i64 0,.int .u8 0,.string ⟨#[]⟩,.slice none 0 0,.string ⟨#[]⟩,.bool false] 211)).alloc (.cells #[.int .i64 0] 49)):=bl;(with_reducible refine (HCK.out _ hbW).mono ?_);rintro e w2 ⟨rfl,hb2⟩;have h0:=aB (aE (o':=.cells #[.int .i64 0] 49) (aE (o':=.cells #[.int .i64 0,.int .u8 0,.string ⟨#[]⟩,.slice none 0 0,.string ⟨#[]⟩,.bool false] 211) (aF w (.cells #[.string ⟨m.toArray⟩,.slice a l.length c] 53)))) hb2 (by simp;omega);have h1:=aB (aE (o':=.cells #[.int .i64 0] 49) (aF (w.alloc (.cells #[.string ⟨m.toArray⟩,.slice a l.length c] 53)) (.cells #[.int .i64 0,.int .u8 0,.string ⟨#[]⟩,.slice none 0 0,.string ⟨#[]⟩,.bool false] 211))) hb2 sm;have h2:=aB (aF ((w.alloc (.cells #[.string ⟨m.toArray⟩,.slice a l.length c] 53)).alloc (.cells #[.int .i64 0,.int .u8 0,.string ⟨#[]⟩,.slice none 0 0,.string ⟨#[]⟩,.bool false] 211)) (.cells #[.int .i64 0] 49)) hb2 sm;simp only[World.size_alloc] at h1 h2;obtain⟨k0,k1,_,_⟩:=aL h0;have H1:=Hh h1;have H2:=Hh h2;have HB2:=Hh (hbW.trans (hb2.mono hbW.size));have hs2:=aA h2;have hl0:w.heap.size<w2.heap.size:=om
 clear hbW hb2 h0 h1 h2;go_wp2_with fail
 (with_reducible refine (HOF.out _ HB2.out).mono ?_);rintro e w3 ⟨v3,rfl,hrow3,hb3⟩;have h13:=aB H1.out hb3 om;have h23:=aB H2.out hb3 hs2;have hb3w:=HB2.out.trans (hb3.mono HB2.out.size);have hs3:w.heap.size+1+1<w3.heap.size:=aA h23;obtain⟨a3,c3,hv3,_,_⟩:=hrow3.op;subst hv3;have hrw3:=hrow3.row;clear hrow3 k0 k1 hl0 hs2;go_wp2_with fail
 have hcd4:=HCD.out a3 C.length c3 ((w3.alloc (.cells #[.string ⟨m.toArray⟩,.slice a3 C.length c3] 53)).alloc (.cells #[.int .i64 11] 49));simp only[World.size_alloc] at hcd4;(with_reducible refine hcd4.mono ?_);rintro e w4 ⟨rfl,hw4⟩;have g1:w4.heap[w.heap.size+1]? = some (.cells #[.int .i64 0,.int .u8 0,.string ⟨#[]⟩,.slice none 0 0,.string ⟨#[]⟩,.bool false] 211 (0,0)):=by rw[hw4];exact aE (aE (aE h13))
 have g2:w4.heap[w.heap.size+1+1]? = some (.cells #[.int .i64 0] 49 (0,0)):=by rw[hw4];exact aE (aE (aE h23))
 have g5:w4.heap[w3.heap.size]? = some (.cells #[.string ⟨m.toArray⟩,.slice a3 C.length c3] 53 (0,0)):=by rw[hw4];exact aE (aE (aF _ _))
 have g6:w4.heap[w3.heap.size+1]? = some (.cells #[.int .i64 11] 49 (0,0)):=by
  rw[hw4]
  have:=aF (w3.alloc (.cells #[.string ⟨m.toArray⟩,.slice a3 C.length c3] 53)) (.cells #[.int .i64 11] 49)
  rw[World.size_alloc] at this;exact aE this
 have gb:w4.heap[w3.heap.size+1+1]? = some (.cells #[.string ⟨m.toArray⟩,.slice a3 C.length c3] 53 (0,0)):=by
  rw[hw4]
  have:=aF ((w3.alloc (.cells #[.string ⟨m.toArray⟩,.slice a3 C.length c3] 53)).alloc (.cells #[.int .i64 11] 49)) (.cells #[.string ⟨m.toArray⟩,.slice a3 C.length c3] 53)
  simpa only[World.size_alloc] using this
 have hal:Below w3.heap.size w3 w4:=by rw[hw4];exact ((br.alloc lr _).alloc sm _).alloc (by simp;omega) _
 have hrw4:=hrw3.below hal;have hb4:=hb3w.trans (hal.mono hb3w.size);have hT4:=HTT.out.below hb4;have hs4:w3.heap.size+1+1<w4.heap.size:=aA gb;have HG:=Hh (show FI w.heap.size w3.heap.size m (.slice a3 C.length c3) C 11 w4 from⟨g1,g2,g5,g6,hrw4⟩)
 have HGB:=Hh (And.intro gb (And.intro hT4 hrw4));have HB4:=Hh hb4;obtain⟨B5,hB5⟩:∃ B5,w3.heap.size=B5:=⟨_,rfl⟩;rw[hB5] at HG HGB hs3 hs4 ⊢;have hown5:opc C≠[]→(Value.slice a3 C.length c3).ownBlock≠some (w3.heap.size+1):=fun hx e=>by
  obtain⟨g,h1,h2⟩:=hrw3.own_lt hx;rw[h1] at e
  have:=Option.some.inj e
  omega
 rw[hB5] at hown5;have HOWN5:=Hh hown5;clear hown5 g1 g2 g5 g6 gb hal hrw4 hb4 hT4 hw4 hcd4 hrw3 h13 h23 hb3w hb3 hB5;go_wp2_with fail
 refine (wpIn_wide (n:=3)).1 ?_;refine cM rfl dc (gf:=238) (lb:=#[.pointer (some ⟨B5+1+1,0,none⟩)]) rfl trivial (enters_of func238 kr rfl)
  (HCAND.out 2 (B5+1+1) dc (.slice a3 C.length c3))
  (fun o o'=>⟨aE (aE HGB.out.1),HGB.out.2.1.below ((br.alloc lr o).alloc (by rw[World.size_alloc];omega) o'),HGB.out.2.2.below ((br.alloc lr o).alloc (by rw[World.size_alloc];omega) o')⟩)
  (fun A B k o h hk _ _=>aB hk h (aA hk)) wM (fun W l o o' _ hl hc _=>cC W l o o' hl hc) (fun x W l o o' h _ hl hc=>⟨h.1,h.2.keepC (cC (b:=0) W l o o' hl hc) (Nat.zero_le _)⟩) (fun _=>rfl)
  (fun pre W=>(∃ code:Int,(∀ rest,kQ (fun e=>(lR e (m,C)).isSome) (m,C) (pre.map Prod.fst++rest) 11=kQ (fun e=>(lR e (m,C)).isSome) (m,C) rest code)∧FI w.heap.size B5 m (.slice a3 C.length c3) C code W)∧Below w.heap.size w W)
  (fun cd pre W=>(cd=.ret∧∃ q x,pre=q++[x]∧(∀ rest,kQ (fun e=>(lR e (m,C)).isSome) (m,C) (pre.map Prod.fst++rest) 11=(some x.1,0))∧FX w.heap.size x W)∧Below w.heap.size w W)
  ?hI ?hIs ?hIx ?hIxs ⟨⟨11,fun rest=>rfl,HG.out⟩,HB4.out⟩
  (fun x W=>{ tmps:=#[eU m (.slice a l.length c),.pointer (some ⟨w.heap.size,0,none⟩),.pointer (some ⟨w.heap.size+1,0,none⟩),.pointer (some ⟨w.heap.size+1+1,0,none⟩),.int .i64 0,.pointer (some ⟨B5,0,none⟩),.pointer (some ⟨B5+1,0,none⟩),.pointer (some ⟨W.heap.size,0,none⟩),undef,undef,undef,.agg #[.string ⟨m.toArray⟩,.slice a l.length c],.int .i64 0,.int .i64 0,.bool false,undef,undef,.agg #[.string ⟨m.toArray⟩,.slice a l.length c],eU m (.slice a3 C.length c3),.agg #[.string ⟨m.toArray⟩,.slice a3 C.length c3],.func (.func 238) #[] #[.pointer (some ⟨B5+1+1,0,none⟩)],cP x.1 x.2,undef,undef,undef,undef,undef,undef,undef,undef,undef,undef,undef,undef,undef,undef,undef,undef,undef,undef,undef],defers:=[] })
  (fun x W=>W.alloc (.cells #[.int .i64 x.1.page,.int .u8 x.1.op,.string ⟨x.1.mn.toArray⟩,x.2,.string ⟨x.1.extra.toArray⟩,.bool x.1.alias] 211))
  (fun x a' W=>∃ k,a'={ tmps:=#[eU m (.slice a l.length c),.pointer (some ⟨w.heap.size,0,none⟩),.pointer (some ⟨w.heap.size+1,0,none⟩),.pointer (some ⟨w.heap.size+1+1,0,none⟩),.int .i64 0,.pointer (some ⟨B5,0,none⟩),.pointer (some ⟨B5+1,0,none⟩),.pointer (some ⟨k,0,none⟩),undef,undef,undef,.agg #[.string ⟨m.toArray⟩,.slice a l.length c],.int .i64 0,.int .i64 0,.bool false,undef,undef,.agg #[.string ⟨m.toArray⟩,.slice a l.length c],eU m (.slice a3 C.length c3),.agg #[.string ⟨m.toArray⟩,.slice a3 C.length c3],.func (.func 238) #[] #[.pointer (some ⟨B5+1+1,0,none⟩)],cP x.1 x.2,undef,undef,undef,undef,undef,undef,undef,undef,undef,undef,undef,undef,undef,undef,undef,undef,undef,undef,undef],defers:=[] }∧W.heap[k]? = some (.cells #[.int .i64 x.1.page,.int .u8 x.1.op,.string ⟨x.1.mn.toArray⟩,x.2,.string ⟨x.1.extra.toArray⟩,.bool x.1.alias] 211 (0,0)))
  ?assign (fun x W=>br.alloc lr _) (fun x W=>cA (br.alloc lr _)) (fun x W h=>⟨h.1,h.2.below (br.alloc lr _)⟩) (fun x W=>⟨_,rfl,aF _ _⟩) (fun x a' W l o o' ⟨k,h1,h2⟩ _ hl hc=>⟨k,h1,(cC (b:=0) W l o o' hl hc).2 _ _ (Nat.zero_le _) h2 rfl⟩) ?body ?done ?stop
 case hI=>exact OwnFrom.and (fun s A B row ⟨code,h1,h2⟩ hg hr=>⟨code,h1,h2.keep (fG hg hr)⟩) (ownFrom_below lr HB4.out.size)
 case hIs=>exact fun s A B ⟨⟨code,h1,h2⟩,h3⟩ hs=>⟨⟨code,h1,h2.keep (cA hs)⟩,h3.trans (hs.mono h3.size)⟩
 case hIx=>exact fun cd=>OwnFrom.and (fun s A B row ⟨h0,q,x,h1,h2,h3⟩ hg hr=>⟨h0,q,x,h1,h2,h3.keep (fG hg hr)⟩) (ownFrom_below lr HB4.out.size)
 case hIxs=>exact fun cd s A B ⟨⟨h0,q,x,h1,h2,h3⟩,h4⟩ hs=>⟨⟨h0,q,x,h1,h2,h3.keep (cA hs)⟩,h4.trans (hs.mono h4.size)⟩
 case assign =>
  rintro l ⟨⟨page,op,mn,args,ex,al⟩,vx⟩ W K ⟨_,hgr⟩ hK;dsimp only at hgr hK;obtain⟨ax,cx,rfl,_,_⟩:=hgr;gi_wp2
  exact hK
 case body =>
  rintro lp pre ⟨⟨page,op,mn,args,ex,al⟩,vx⟩ a' W ⟨⟨code,hsc,hfi⟩,hbl⟩ ⟨hgm,hgr⟩ ⟨k,rfl,hk⟩ hN;dsimp only at hgr hk;have hgw:=hgr;replace hgr:=hgr.row;obtain⟨hmn,hal3⟩:=HMEM.out _ hgm;dsimp only at hmn hal3;have hsh:=fun X (hb:Below W.heap.size W X)=>mX ⟨page,op,mn,args,ex,al⟩ vx m (.slice a3 C.length c3) C X (hgr.below hb) (hfi.row.below hb) (by dsimp only;omega) (by dsimp only;rw[hmn];omega) om om;have hft:=fun X (hb:Below W.heap.size W X)=>Ga ⟨page,op,mn,args,ex,al⟩ vx m (.slice a3 C.length c3) C X (hgr.below hb) (hfi.row.below hb) (by dsimp only;omega) (by dsimp only;rw[hmn];omega) om om hup hmne;obtain⟨sh,hsheq⟩:∃ sh,cT ⟨page,op,mn,args,ex,al⟩ (m,C)=sh:=⟨_,rfl⟩;obtain⟨ft,hfteq⟩:∃ ft,lR ⟨page,op,mn,args,ex,al⟩ (m,C)=ft:=⟨_,rfl⟩;rw[hsheq] at hsh;rw[hfteq] at hft;have HSH:=Hh hsh;have HFT:=Hh hft;have HSE:=Hh hsheq;have HFE:=Hh hfteq;have HSC:=Hh hsc;have HFI:=Hh hfi;have HBL:=Hh hbl;have HGR:=Hh hgw;have HK:=Hh hk;obtain⟨ax,cx,hvx,_,_⟩:=hgr;subst hvx;clear hsh hft hsheq hfteq hsc hgm hal3 hmn hgw;obtain⟨⟨k0,k1,k2,k3,k4,k5⟩,_⟩:=aN hk;obtain⟨c0,c1,_,_⟩:=aL hfi.r5;have hlk:=aA hk;have hl5:=aA hfi.r5;have hl6:=aA hfi.r6;clear hfi hk hbl;cases al with
  | true =>
    gi_wp2_with fail
    refine⟨trivial,?_⟩;gi_wp2_with fail
    exact⟨KeepsOthers.refl _,⟨Nat.le_refl _,fun _ _ _ h _=>h⟩,⟨⟨code,fun rest=>by rw[List.map_append,List.append_assoc,HSC.out];exact uL rfl rest code,HFI.out⟩,HBL.out⟩⟩
  | false =>
    gi_wp2_with fail
    refine⟨trivial,?_⟩;refine (CallsIn.inRound lp (callsIn_wide.2 (HSH.out _ br))).mono ?_;rintro e W1 ⟨rfl,hb1⟩;have hk1:=aB HK.out hb1 hlk;have hfi1:=HFI.out.keep (cA hb1);have hft1:=HFT.out _ hb1;have HFI1:=Hh hfi1;have HK1:=Hh hk1;have HB1:=Hh hb1;have HBL1:=Hh (HBL.out.trans (hb1.mono HBL.out.size));clear k0 k1 k2 k3 k4 k5 c0 c1 hb1;obtain⟨⟨k0,k1,k2,k3,k4,k5⟩,_⟩:=aN hk1;obtain⟨c0,c1,_,_⟩:=aL hfi1.r5;clear hk1 hfi1;cases sh with
    | false =>
      gi_wp2_with fail
      exact⟨lO HB1.out,cA HB1.out,⟨⟨code,fun rest=>by rw[List.map_append,List.append_assoc,HSC.out];exact uL (by rw[HSE.out];rfl) rest code,HFI1.out⟩,HBL1.out⟩⟩
    | true =>
      cases ft with
      | none =>
        have hft2:Calls prog 203 #[.agg #[.int .i64 page,.int .u8 op,.string ⟨mn.toArray⟩,.slice ax args.length cx,.string ⟨ex.toArray⟩,.bool false],.agg #[.string ⟨m.toArray⟩,.slice a3 C.length c3]] W1 fun e w'=>e=.returned (.tuple #[.int .i64 0,.int .i64 0,.bool false])∧Below W1.heap.size W1 w':=hft1;have HF2:=Hh hft2;clear hft1 hft2;gi_wp2_with fail
        refine⟨trivial,?_⟩;refine (CallsIn.inRound lp (callsIn_wide.2 HF2.out)).mono ?_;rintro e W2 ⟨rfl,hb2⟩;have hfi2:=HFI1.out.keep (cA hb2);have HFI2:=Hh hfi2;have HB2:=Hh (HB1.out.trans (hb2.mono HB1.out.size));have HBL2:=Hh (HBL1.out.trans (hb2.mono HBL1.out.size));have q6:W2.cell? ⟨B5+1,0,none⟩=some (.int .i64 code):=by rw[aC hfi2.r6];rfl
        have q7:W2.frozen? ⟨B5+1,0,none⟩=false:=aH hfi2.r6 0;have hl62:=aA hfi2.r6;clear hfi2 hb2 k0 k1 k2 k3 k4 k5 c0 c1;gi_wp2_with fail
        refine⟨(lO HB2.out).trans (KeepsOthers.setCell _ _ _),wM (cA HB2.out) (Hi _ _ om),⟨⟨2,fun rest=>by rw[List.map_append,List.append_assoc,HSC.out];exact Gd (by rw[HSE.out];rfl) (by rw[HFE.out];rfl) rest code,⟨aD HFI2.out.r1 om,aD HFI2.out.r2 om,aD HFI2.out.r5 om,aG HFI2.out.r6,?_⟩⟩,HBL2.out.setCell (p:=⟨B5+1,0,none⟩) (by show w.heap.size≤B5+1;omega) _⟩⟩
        exact HFI2.out.row.setOther HOWN5.out
      | some dn =>
        obtain⟨d,nn⟩:=dn;have hft2:Calls prog 203 #[.agg #[.int .i64 page,.int .u8 op,.string ⟨mn.toArray⟩,.slice ax args.length cx,.string ⟨ex.toArray⟩,.bool false],.agg #[.string ⟨m.toArray⟩,.slice a3 C.length c3]] W1 fun e w'=>e=.returned (.tuple #[.int .i64 d,.int .i64 nn,.bool true])∧Below W1.heap.size W1 w':=hft1;have HF2:=Hh hft2;clear hft1 hft2;gi_wp2_with fail
        refine⟨trivial,?_⟩;refine (CallsIn.inRound lp (callsIn_wide.2 HF2.out)).mono ?_;rintro e W2 ⟨rfl,hb2⟩;have hfi2:=HFI1.out.keep (cA hb2);have hk2:=aB HK1.out hb2 (aA HK1.out);have HFI2:=Hh hfi2;have HB2:=Hh (HB1.out.trans (hb2.mono HB1.out.size));have HBL2:=Hh (HBL1.out.trans (hb2.mono HBL1.out.size));have HGR2:=Hh (HGR.out.below HB2.out);clear k0 k1 k2 k3 k4 k5 c0 c1;obtain⟨⟨k0,k1,k2,k3,k4,k5⟩,_⟩:=aN hk2;obtain⟨⟨z0,z1,z2,z3,z4,z5⟩,y0,y1,y2,y3,y4,y5⟩:=aN hfi2.r1;have q6:W2.cell? ⟨w.heap.size+1+1,0,none⟩=some (.int .i64 0):=by rw[aC hfi2.r2];rfl
        have q7:W2.frozen? ⟨w.heap.size+1+1,0,none⟩=false:=aH hfi2.r2 0;have hl12:=aA hfi2.r1;have hl22:=aA hfi2.r2;clear hfi2 hb2 hk2;gi_wp2_with fail
        refine⟨?_,⟨rfl,pre,(⟨page,op,mn,args,ex,false⟩,.slice ax args.length cx),rfl,fun rest=>by rw[List.map_append,List.append_assoc,HSC.out];exact Lu (by rw[HSE.out];rfl) (by rw[HFE.out];rfl) rest code,⟨aD (aG (aG (aG (aG (aG (aG HFI2.out.r1)))))) om,aG (aD (aD (aD (aD (aD (aD HFI2.out.r2 om) om) om) om) om) om),?_⟩⟩,?_⟩
        · with_reducible repeat (refine KeepsOthers.trans ?_ (KeepsOthers.setCell _ _ _))
          exact lO HB2.out
        · have hz:=(((((((Kb.refl (w.heap.size+1) W2).setCell 0 (.int .i64 page)).setCell 1 (.int .u8 op)).setCell 2 (.string ⟨mn.toArray⟩)).setCell 3 (.slice ax args.length cx)).setCell 4 (.string ⟨ex.toArray⟩)).setCell 5 (.bool false));exact ((HGR2.out.kb hz om).kb ((Kb.refl (w.heap.size+1+1) _).setCell 0 (.int .i64 0)) om).row
        · have hb9:=HBL2.out;with_reducible repeat (refine Below.setCell ?_ (by first|exact Nat.le_refl _|exact Nat.le_succ _|(show w.heap.size≤w.heap.size+1+1;omega)) _)
          exact hb9
 case done =>
  rintro D ys W hD hys ⟨⟨code,hsc,hfi⟩,hbl⟩ hK;have hres:=hsc [];rw[List.append_nil,hys,HRES.out] at hres;have HR:=Hh (show RES=(none,code) from hres)
  have HFI:=Hh hfi;have HBL:=Hh hbl;obtain⟨⟨z0,z1,z2,z3,z4,z5⟩,y0,y1,y2,y3,y4,y5⟩:=aN hfi.r1;have q6:W.cell? ⟨w.heap.size+1+1,0,none⟩=some (.int .i64 0):=by rw[aC hfi.r2];rfl
  have q7:W.frozen? ⟨w.heap.size+1+1,0,none⟩=false:=aH hfi.r2 0;have q8:W.cell? ⟨B5+1,0,none⟩=some (.int .i64 code):=by rw[aC hfi.r6];rfl
  have hl12:=aA hfi.r1;have hl22:=aA hfi.r2;have hl62:=aA hfi.r6;have hchain:∀ v0 v1 v2 v3 v4 v5 vk,((((((((W.setCell ⟨w.heap.size+1,0,none⟩ v0).setCell ⟨w.heap.size+1,1,none⟩ v1).setCell ⟨w.heap.size+1,2,none⟩ v2).setCell ⟨w.heap.size+1,3,none⟩ v3).setCell ⟨w.heap.size+1,4,none⟩ v4).setCell ⟨w.heap.size+1,5,none⟩ v5).setCell ⟨w.heap.size+1+1,0,none⟩ vk)).drew.heap[w.heap.size+1]? = some (.cells #[v0,v1,v2,v3,v4,v5] 211 (0,0))∧((((((((W.setCell ⟨w.heap.size+1,0,none⟩ v0).setCell ⟨w.heap.size+1,1,none⟩ v1).setCell ⟨w.heap.size+1,2,none⟩ v2).setCell ⟨w.heap.size+1,3,none⟩ v3).setCell ⟨w.heap.size+1,4,none⟩ v4).setCell ⟨w.heap.size+1,5,none⟩ v5).setCell ⟨w.heap.size+1+1,0,none⟩ vk)).drew.heap[w.heap.size+1+1]? = some (.cells #[vk] 49 (0,0))∧((((((((W.setCell ⟨w.heap.size+1,0,none⟩ v0).setCell ⟨w.heap.size+1,1,none⟩ v1).setCell ⟨w.heap.size+1,2,none⟩ v2).setCell ⟨w.heap.size+1,3,none⟩ v3).setCell ⟨w.heap.size+1,4,none⟩ v4).setCell ⟨w.heap.size+1,5,none⟩ v5).setCell ⟨w.heap.size+1+1,0,none⟩ vk)).drew.heap[D]? = some (.deferred (some []))∧Below w.heap.size w ((((((((W.setCell ⟨w.heap.size+1,0,none⟩ v0).setCell ⟨w.heap.size+1,1,none⟩ v1).setCell ⟨w.heap.size+1,2,none⟩ v2).setCell ⟨w.heap.size+1,3,none⟩ v3).setCell ⟨w.heap.size+1,4,none⟩ v4).setCell ⟨w.heap.size+1,5,none⟩ v5).setCell ⟨w.heap.size+1+1,0,none⟩ vk)).drew:=fun v0 v1 v2 v3 v4 v5 vk=>by
   refine⟨tI ?_,tI ?_,tI ?_,?_⟩
   · exact aD (aG (aG (aG (aG (aG (aG HFI.out.r1)))))) om
   · exact aG (aD (aD (aD (aD (aD (aD HFI.out.r2 om) om) om) om) om) om)
   · exact aD (aD (aD (aD (aD (aD (aD hK om) om) om) om) om) om) om
   · refine Below.drew ?_;have hb9:=HBL.out;with_reducible repeat (refine Below.setCell ?_ (by first|exact Nat.le_refl _|exact Nat.le_succ _|(show w.heap.size≤w.heap.size+1+1;omega)) _)
     exact hb9
  obtain⟨g1,g2,g3,g4⟩:=hchain (.int .i64 0) (.int .u8 0) (.string ⟨#[]⟩) (.slice none 0 0) (.string ⟨#[]⟩) (.bool false) (.int .i64 code);have hDw:w.heap.size≤D:=by have:=HB4.out.size;omega
  have HG1:=Hh g1;have HG2:=Hh g2;have HG3:=Hh g3;have HG4:=Hh g4;clear hsc hfi hbl hres hys hchain g1 g2 g3 g4;go_wp2_with fail
  go_region
  all_goals
   obtain⟨X,hX⟩:∃ X,((((((((W.setCell ⟨w.heap.size+1,0,none⟩ (.int .i64 0)).setCell ⟨w.heap.size+1,1,none⟩ (.int .u8 0)).setCell ⟨w.heap.size+1,2,none⟩ (.string ⟨#[]⟩)).setCell ⟨w.heap.size+1,3,none⟩ (.slice none 0 0)).setCell ⟨w.heap.size+1,4,none⟩ (.string ⟨#[]⟩)).setCell ⟨w.heap.size+1,5,none⟩ (.bool false)).setCell ⟨w.heap.size+1+1,0,none⟩ (.int .i64 code))).drew=X:=⟨_,rfl⟩;rw[hX] at HG1 HG2 HG3 HG4 ⊢;clear hX;go_wp2_with fail
   refine⟨by simp,.inl ⟨_,_,rfl,run_takeDeferred HG3.out,?_⟩⟩
   obtain⟨⟨n0,n1,n2,n3,n4,n5⟩,_⟩:=aN ((cC (b:=0) X D _ (.deferred none) HG3.out rfl).2 _ _ (Nat.zero_le _) HG1.out rfl);have n6:=aC ((cC (b:=0) X D _ (.deferred none) HG3.out rfl).2 _ _ (Nat.zero_le _) HG2.out rfl) 0;simp only[List.getElem?_toArray,List.getElem?_cons_zero] at n6;refine⟨.tuple #[cP ent0 (.slice none 0 0),.int .i64 code],?_,⟨_,by rw[HR.out];rfl,by rw[HR.out];exact (WRow.nil _ 0).row,HG4.out.trans (belowK_b (w:=w) lr X D _ _ hDw HG3.out rfl rfl)⟩⟩
   simp[results,Tryz.f160,go_sem,n0,n1,n2,n3,n4,n5,n6,ent0]
 case stop =>
  rintro D cd pre W hD hpre ⟨⟨rfl,q,x,hq,hsc,hfx⟩,hbl⟩ hK;obtain⟨rest,hrest⟩:=hpre;have hres:=hsc rest;rw[hrest,HRES.out] at hres;have HR:=Hh (show RES=(some x.1,0) from hres)
  have hDw:w.heap.size≤D:=by have:=HB4.out.size;omega
  obtain⟨⟨n0,n1,n2,n3,n4,n5⟩,_⟩:=aN ((cC (b:=0) W D _ (.deferred none) hK rfl).2 _ _ (Nat.zero_le _) hfx.r1 rfl);have n6:=aC ((cC (b:=0) W D _ (.deferred none) hK rfl).2 _ _ (Nat.zero_le _) hfx.r2 rfl) 0;simp only[List.getElem?_toArray,List.getElem?_cons_zero] at n6;have hrowx:=hfx.row.keepC (cC (b:=0) W D _ (.deferred none) hK rfl);obtain⟨⟨page,op,mn,args,ex,al⟩,vx⟩:=x;dsimp only at n0 n1 n2 n3 n4 n5 hrowx;obtain⟨ax,cx,rfl,hcx,hxx⟩:=hrowx;have HROWX:=Hh (show Row _ (.slice ax args.length cx) args.length (opc args) from⟨_,_,rfl,hcx,hxx⟩)
  clear hsc hfx hres hrest hq hxx;gi_wp2
  refine⟨by simp,.inl ⟨_,_,rfl,run_takeDeferred hK,?_⟩⟩
  refine⟨.tuple #[cP ⟨page,op,mn,args,ex,al⟩ (.slice ax args.length cx),.int .i64 0],?_,⟨_,by rw[HR.out];rfl,by rw[HR.out];exact HROWX.out,hbl.trans (belowK_b (w:=w) lr W D _ _ hDw hK rfl rfl)⟩⟩
  simp[results,Tryz.f160,go_sem,n0,n1,n2,n3,n4,n5,n6]
theorem Iq (m:List UInt8) (v:Value) (l:List Op3) (w:World) (hT:TabsA w) (hr:Row w v l.length (opc l)) (hl:l.length≤1000):Calls prog 160 #[eU m v] w (mI (m,l) w):=by
 by_cases hk:iR (m,l)=0
 · exact Io m v l w hT hr hk
 · exact Pa m v l w hT hr hl _ rfl hk
end Go.Proofs.YtoigglljnklhlaaGreatDoor
namespace Go.Proofs.YtoigglljnklhlaaGreatDoor
open Go.RowKit Go.Sort
open Go.Proofs.Tryz
theorem Cm (m:List UInt8) (v:Value) (l:List Op3) (w:World) (hT:TabsA w) (hr:Row w v l.length (opc l)) (hl:l.length≤1000) (R:Bool) (hR:decide ((gO (m,l)).2≠0)=R) :
 Calls prog 159 #[eU m v] w fun e w'=>e=.returned (.bool R)∧Below w.heap.size w w':=by
 have hf:=fun X (hb:Below w.heap.size w X)=>Iq m v l X (hT.below hb) (hr.below hb) hl;unfold mI at hf;obtain⟨F,hF⟩:∃ F,gO (m,l)=F:=⟨_,rfl⟩;simp only[hF] at hf hR;obtain⟨fo,fc⟩:=F;dsimp only at hf hR;obtain⟨E,hE⟩:∃ E,fo.getD ent0=E:=⟨_,rfl⟩;simp only[hE] at hf;obtain⟨page,op,mn,args,ex,al⟩:=E;have hf2:∀ X,Below w.heap.size w X→Calls prog 160 #[eU m v] X fun e w'=>∃ v,e=.returned (.tuple #[.agg #[.int .i64 page,.int .u8 op,.string ⟨mn.toArray⟩,v,.string ⟨ex.toArray⟩,.bool al],.int .i64 fc])∧Row w' v args.length (opc args)∧Below X.heap.size X w':=hf;have HF:=Hh hf2;have hRR:(fc != 0)=R:=by rw[←hR];by_cases h:fc=0<;>simp[h]
 obtain⟨a,c,rfl,_,_⟩:=hr;clear hf hf2 hF hE hR hT;cases R with
 | false =>
   have hfc:fc=0:=by simpa using hRR
   subst hfc;clear hRR;go_enter func159,ntmps159
   go_wp2_with fail
   have hbW:Below w.heap.size w (w.alloc (.cells #[.string ⟨m.toArray⟩,.slice a l.length c] 53)):=br.alloc lr _;(with_reducible refine (HF.out _ hbW).mono ?_);rintro e w2 ⟨v2,rfl,hr2,hb2⟩;obtain⟨a2,c2,rfl,_,_⟩:=hr2;have HB:=Hh (hbW.trans (hb2.mono hbW.size));clear hbW hb2;go_wp2_with fail
   go_ret;exact⟨rfl,HB.out.alloc HB.out.size _⟩
 | true =>
   go_enter func159,ntmps159
   go_wp2_with fail
   have hbW:Below w.heap.size w (w.alloc (.cells #[.string ⟨m.toArray⟩,.slice a l.length c] 53)):=br.alloc lr _;(with_reducible refine (HF.out _ hbW).mono ?_);rintro e w2 ⟨v2,rfl,hr2,hb2⟩;obtain⟨a2,c2,rfl,_,_⟩:=hr2;have HB:=Hh (hbW.trans (hb2.mono hbW.size));clear hbW hb2;go_wp2_with fail
   go_ret;exact⟨rfl,HB.out.alloc HB.out.size _⟩
theorem aFe {p:Prop} (h:p:=by
 go_enter func114,ntmps114
 go_wp2_with fail
 refine HC.out.mono ?_;rintro e w1 ⟨rfl,hb⟩;have HB:=Hh hb;clear hb;go_wp2_with fail
 go_ret;exact⟨rfl,HB.out⟩):p:=h
theorem Gz (m:List UInt8) (v:Value) (l:List Op3) (g:Nat) (w:World) (hT:TabsA w) (h1:Row w (.slice (some ⟨g,0,none⟩) 1 1) 1 [.string ⟨m.toArray⟩,v]) (hr:Row w v l.length (opc l)) (hl:l.length≤1000) :
 Calls prog 114 #[.slice (some ⟨g,0,none⟩) 1 1] w fun e w'=>e=.returned (.bool (decide ((gO (m,l)).2=0)))∧Below w.heap.size w w':=by
 have hc:=tY _ 159 #[] g m v w h1 (enters_of func159 kr rfl) (Cm m v l w hT hr hl _ rfl);have e:decide ((gO (m,l)).2=0)=!decide ((gO (m,l)).2≠0):=by by_cases h:(gO (m,l)).2=0<;>simp[h]
 rw[e];obtain⟨R,hR⟩:∃ R,decide ((gO (m,l)).2≠0)=R:=⟨_,rfl⟩;rw[hR] at hc ⊢;have HC:=Hh hc;clear hc hR e h1 hr;cases R with
 | false =>
   exact aFe
 | true =>
   exact aFe
end Go.Proofs.YtoigglljnklhlaaGreatDoor
