/- Joined. -/
import Derived.Test.YtoigglljnklhlaaGreatDoorD13
set_option maxHeartbeats 8000000
set_option maxRecDepth 100000
namespace Go.Proofs.YtoigglljnklhlaaGreatDoor
open Go.RowKit Go.Sort Go.Shelf
open Go.Proofs.Tryz
attribute [local go_sem] Oper.semAt_some
def jA (op:Nat) (l:List RA):Option RA:=l.find? fun r=>eH r.1.text op
def uU (o:Option RA):Value:=.tuple #[.string (match o with|some r=>⟨r.1.text.toArray⟩|none=>⟨#[]⟩),.bool o.isSome]
theorem rR {b:Nat} (A B:World) (k:Nat) (o:Obj) (h:StB b A B) (hk:A.heap[k]? = some o) (hc:o.isCells=false):B.heap[k]? = some o:=by
 obtain⟨h,s,hs⟩:=h;by_cases e:k=b
 · subst e;unfold StrB at hs;rw[hs] at hk;cases hk;cases hc
 · exact (h.block k (Array.getElem?_eq_some_iff.1 hk).1 e).trans hk
theorem iS {b k:Nat} {t:TypeId} {v:Value} {A B:World} (h:Boxed A k t v) (hb:Kb b A B) (hne:k≠b):Boxed B k t v:=(hb.block k h.lt hne).trans h
theorem Kb.belowN {b n:Nat} {A B:World} (h:Kb b A B) (hn:n≤b) (hA:n≤A.heap.size):Below n A B:=⟨h.os,h.tape,h.output,h.size,fun k hk=>h.block k om om⟩
theorem Sv {op:Nat} {l:List RA} (h:∀ y∈l,eH y.1.text op=false):jA op l=none:=by
 unfold jA;rw[List.find?_eq_none];intro y hy;rw[h y hy];decide
theorem Nw {op:Nat} {q l:List RA} {x:RA} (hp:q++[x] <+: l) (h:∀ y∈q,eH y.1.text op=false) (hx:eH x.1.text op=true):jA op l=some x:=by
 obtain⟨r,rfl⟩:=hp;unfold jA;rw[List.append_assoc,List.find?_append,List.find?_eq_none.2 (by intro y hy;rw[h y hy];decide)];simp[hx]
theorem uG (s:ByteArray) (w:World):Calls prog 274 #[.string s] w fun e w'=>e=.returned (.func (.func 292) #[] #[.pointer (some ⟨w.heap.size,0,none⟩)])∧w'=w.alloc (.cells #[.string s] 9):=by
 go_enter func274,ntmps274
 go_wp2
 go_ret;exact⟨rfl,rfl⟩
theorem nE (r0:RA) (rl:List RA) (op:Nat) (w:World) (hlen:rl.length≤1000) (hop:op<256) :
 Calls prog 249 #[.string (dA (r0::rl)),.int .u8 op] w fun e w'=>e=.returned (uU (jA op (r0::rl)))∧Below w.heap.size w w':=by
 refine (callsIn_wide (n:=3)).1 ?_;obtain⟨J,hJ⟩:∃ J,dA (r0::rl)=J:=⟨_,rfl⟩;rw[hJ];have HJ:=Hh hJ;clear hJ;refine callsIn_of_wp_marks func249 rfl trivial ?_ rfl;simp only[ntmps249,List.size_toArray,List.length_cons,List.length_nil,Nat.reduceAdd,Nat.reduceSub,Array.replicate_succ,Array.replicate_zero,List.push_toArray,List.append_toArray,List.nil_append,List.cons_append];gi_wp2_with (refine⟨trivial,?_⟩;gi_at_call 274;refine (callsIn_wide.2 (uG _ _)).mono ?_;rintro e w' ⟨rfl,rfl⟩)
 obtain⟨c,hc⟩:∃ c:World,(((w.alloc (.cells #[.int .u8 op] 5)).alloc (.cells #[.string ⟨#[]⟩] 9)).alloc (.cells #[.bool false] 4))=c:=⟨_,rfl⟩;have hcs:c.heap.size=w.heap.size+1+1+1:=by rw[←hc];simp
 have b0:Boxed c w.heap.size 5 (.int .u8 op):=by rw[←hc];exact ((Boxed.new _ _ _).alloc _).alloc _
 have b1:Boxed c (w.heap.size+1) 9 (.string ⟨#[]⟩):=by rw[←hc];have:=(Boxed.new (w.alloc (.cells #[.int .u8 op] 5)) 9 (.string ⟨#[]⟩)).alloc (.cells #[.bool false] 4);rwa [World.size_alloc] at this
 have b2:Boxed c (w.heap.size+1+1) 4 (.bool false):=by rw[←hc];have:=Boxed.new ((w.alloc (.cells #[.int .u8 op] 5)).alloc (.cells #[.string ⟨#[]⟩] 9)) 4 (.bool false);simp only[World.size_alloc] at this;exact this
 have hB0:Below w.heap.size w c:=by rw[←hc];exact ((((Below.refl _ w).alloc lr _).alloc sm _).alloc (by simp;omega) _)
 rw[hc];clear hc;have hst:StrB (w.heap.size+1+1+1) (c.alloc (.cells #[.string J] 9)) (dA (r0::rl)):=by rw[HJ.out,←hcs];exact Boxed.new _ _ _
 refine gJ rfl dc (gf:=292) (lb:=#[.pointer (some ⟨w.heap.size+1+1+1,0,none⟩)]) rfl trivial (enters_of func292 kr rfl)
  (uH 2 (w.heap.size+1+1+1) dc r0 rl hlen)
  (fun o o'=>(Boxed.alloc (Boxed.alloc hst o) o')) (fun A B k o h hk hc _=>rR A B k o h hk hc) Ev (Ew (by rw[World.size_alloc,hcs];omega)) (fun _ _ _ _ _ _ _ _ _=>trivial) (fun _=>rfl)
  (fun pre W=>((∀ y∈pre,eH y.1.text op=false)∧Boxed W w.heap.size 5 (.int .u8 op)∧Boxed W (w.heap.size+1) 9 (.string ⟨#[]⟩)∧Boxed W (w.heap.size+1+1) 4 (.bool false))∧Below w.heap.size w W)
  (fun c pre W=>(c=.ret∧∃ q x,pre=q++[x]∧(∀ y∈q,eH y.1.text op=false)∧eH x.1.text op=true∧Boxed W (w.heap.size+1) 9 (.string ⟨x.1.text.toArray⟩)∧Boxed W (w.heap.size+1+1) 4 (.bool true))∧Below w.heap.size w W)
  ?hI ?hIs ?hIx ?hIxs ⟨⟨by simp,b0.alloc _,b1.alloc _,b2.alloc _⟩,hB0.alloc om _⟩
  (fun x=>{ tmps:=#[.string J,.int .u8 op,undef,.pointer (some ⟨w.heap.size,0,none⟩),.pointer (some ⟨w.heap.size+1,0,none⟩),.pointer (some ⟨w.heap.size+1+1,0,none⟩),.string ⟨x.1.text.toArray⟩,.string J,.func (.func 292) #[] #[.pointer (some ⟨w.heap.size+1+1+1,0,none⟩)],.string ⟨x.1.text.toArray⟩,undef,undef,undef,undef],defers:=[] }) ?assign ?body ?done ?stop
 case hI=>exact OwnFrom.and (fun s A B row hs hg hr=>⟨hs.1,(Own.from (boxed_own (β:=Unit) _ _ fun _=>_) _) () A B row hs.2.1 hg hr,(Own.from (boxed_own (β:=Unit) _ _ fun _=>_) _) () A B row hs.2.2.1 hg hr,(Own.from (boxed_own (β:=Unit) _ _ fun _=>_) _) () A B row hs.2.2.2 hg hr⟩) (ownFrom_below lr (by rw[World.size_alloc,hcs];omega))
 case hIs=>exact fun s A B ⟨⟨h1,h2,h3,h4⟩,h5⟩ hs=>⟨⟨h1,iS h2 hs.1 om,iS h3 hs.1 om,iS h4 hs.1 om⟩,h5.trans (hs.1.belowN om h5.size)⟩
 case hIx=>exact fun c=>OwnFrom.and (fun s A B row ⟨h0,q,x,h1,h2,h3,h4,h5⟩ hg hr=>⟨h0,q,x,h1,h2,h3,(Own.from (boxed_own (β:=Unit) _ _ fun _=>_) _) () A B row h4 hg hr,(Own.from (boxed_own (β:=Unit) _ _ fun _=>_) _) () A B row h5 hg hr⟩) (ownFrom_below lr (by rw[World.size_alloc,hcs];omega))
 case hIxs=>exact fun c s A B ⟨⟨h0,q,x,h1,h2,h3,h4,h5⟩,h6⟩ hs=>⟨⟨h0,q,x,h1,h2,h3,iS h4 hs.1 om,iS h5 hs.1 om⟩,h6.trans (hs.1.belowN om h6.size)⟩
 case assign =>
  intro l x W K hK;gi_wp2
  exact hK
 case body =>
  rintro l pre x W ⟨⟨hp,c0,c1,c2⟩,hB⟩ _ _;have hc0:=c0.cell;have k1:=c1.cell;have f1:=c1.frozen;have k2:=c2.cell;have f2:=c2.frozen;have hfits:=zK x.1.text op W (cZ x).1 (cZ x).2.1 hop;rcases hx:eH x.1.text op with _|_
  · rw[hx] at hfits;have HF:=Hh hfits;clear hfits;have HX:=Hh hx;clear hx;gi_wp2_with (refine⟨trivial,?_⟩;gi_at_call 262;refine (CallsIn.inRound l (callsIn_wide.2 HF.out)).mono ?_;rintro e w' ⟨rfl,rfl⟩)
    exact⟨KeepsOthers.refl _,rfl,⟨fun y hy=>(List.mem_append.1 hy).elim (hp y) (fun e=>by simp at e;subst e;exact HX.out),c0,c1,c2⟩,hB⟩
  · rw[hx] at hfits;have HF:=Hh hfits;clear hfits;have HX:=Hh hx;clear hx;gi_wp2_with (refine⟨trivial,?_⟩;gi_at_call 262;refine (CallsIn.inRound l (callsIn_wide.2 HF.out)).mono ?_;rintro e w' ⟨rfl,rfl⟩)
    exact⟨(KeepsOthers.setCell _ _ _).trans (KeepsOthers.setCell _ _ _),⟨rfl,pre,x,rfl,hp,HX.out,(c1.set _).other om _,(c2.other om _).set _⟩,(hB.setCell (p:=⟨w.heap.size+1,0,none⟩) sm _).setCell (p:=⟨w.heap.size+1+1,0,none⟩) (by simp;omega) _⟩
 case done =>
  rintro D ys W hD rfl ⟨⟨hp,c0,c1,c2⟩,hB⟩ hK;have k1:=c1.cell;have f1:=c1.frozen;have k2:=c2.cell;have f2:=c2.frozen;have HP:=Hh hp;clear hp;gi_wp2
  have hd:D≠w.heap.size+1:=by rw[World.size_alloc,hcs] at hD;omega
  have hd2:D≠w.heap.size+1+1:=by rw[World.size_alloc,hcs] at hD;omega
  have hK':=(((KeepsOthers.setCell W ⟨w.heap.size+1,0,none⟩ (.string ⟨#[]⟩)).trans (KeepsOthers.setCell _ ⟨w.heap.size+1+1,0,none⟩ (.bool false)))).same D _ hK rfl;refine⟨by simp,.inl ⟨_,_,rfl,run_takeDeferred hK',?_⟩⟩
  have e1:=((c1.set (.string ⟨#[]⟩)).other (B':=w.heap.size+1+1) om (.bool false)).kept (grownBy_putObj' _ D (.deferred none)) (fun e=>hd (by cases e;rfl));have e2:=((c2.other (B':=w.heap.size+1) om (.string ⟨#[]⟩)).set (.bool false)).kept (grownBy_putObj' _ D (.deferred none)) (fun e=>hd2 (by cases e;rfl));have g1:=e1.cell;have g2:=e2.cell;refine⟨uU none,?_,by rw[Sv HP.out],((hB.setCell (p:=⟨w.heap.size+1,0,none⟩) sm _).setCell (p:=⟨w.heap.size+1+1,0,none⟩) (by simp;omega) _).trans (belowK_b (w:=w) lr _ D _ _ (by rw[World.size_alloc,hcs] at hD;omega) hK' rfl rfl)⟩
  simp[results,Tryz.f249,go_sem,g1,g2,uU]
 case stop =>
  rintro D c pre W hD hpre ⟨⟨rfl,q,x,rfl,hq,hx,c1,c2⟩,hB⟩ hK;have HP:=Hh (Nw hpre hq hx);clear hpre hq hx;gi_wp2
  have hd:D≠w.heap.size+1:=by rw[World.size_alloc,hcs] at hD;omega
  have hd2:D≠w.heap.size+1+1:=by rw[World.size_alloc,hcs] at hD;omega
  refine⟨by simp,.inl ⟨_,_,rfl,run_takeDeferred hK,?_⟩⟩
  have g1:=(c1.kept (grownBy_putObj' _ D (.deferred none)) (fun e=>hd (by cases e;rfl))).cell;have g2:=(c2.kept (grownBy_putObj' _ D (.deferred none)) (fun e=>hd2 (by cases e;rfl))).cell;refine⟨uU (some x),?_,by rw[HP.out],hB.trans (belowK_b (w:=w) lr W D _ _ (by rw[World.size_alloc,hcs] at hD;omega) hK rfl rfl)⟩
  simp[results,Tryz.f249,go_sem,g1,g2,uU]
end Go.Proofs.YtoigglljnklhlaaGreatDoor
