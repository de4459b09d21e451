/- Joined. -/
import Derived.Test.YtoigglljnklhlaaGreatDoorD03
import Derived.RangeFuncBox
set_option maxHeartbeats 8000000
set_option maxRecDepth 100000
namespace Go.Proofs.YtoigglljnklhlaaGreatDoor
section
open Go.RowKit Go.Sort
theorem iN {α:Type} (f:α→List Value) (sz:Nat) (hf:∀ x,(f x).length=sz) (l:List α):(l.flatMap f).length=l.length*sz:=by
 induction l with
 | nil=>simp
 | cons a l ih=>rw[Xz,Qc,hf,ih,Qp,Zc];omega
theorem oJ {α:Type} (f:α→List Value) (sz:Nat) (hf:∀ x,(f x).length=sz):∀ (l:List α) (i:Nat) (x:α),l[i]? = some x→∀ j,j<sz→(l.flatMap f)[i*sz+j]? = (f x)[j]?
 | [],i,x,h,j,hj=>by simp at h
 | a::l,0,x,h,j,hj=>by
   simp at h;subst h
   rw[Xz,Yr,Xb,Yi (by rw[hf];exact hj)]
 | a::l,i+1,x,h,j,hj=>by
   have hx:l[i]? = some x:=by simpa using h
   rw[Xz,Yf (by rw[hf,Zc];omega),hf];rw[show (i+1)*sz+j - sz=i*sz+j by rw[Zc];omega]
   exact oJ f sz hf l i x hx j hj
theorem Ti {α:Type} (f:α→List Value) (sz:Nat) (hf:∀ x,(f x).length=sz) (hs:0<sz) {l:List α} (h:l≠[]):l.flatMap f≠[]:=fun e=>by
 have:=iN f sz hf l
 rw[e] at this;rcases l with _|⟨a,l⟩
 · exact h rfl
 · simp only[Qz,Qp,Zc] at this;omega
theorem Row.structs {w:World} {v:Value} {α:Type} {l:List α} (f:α→List Value) (sz:Nat) (hf:∀ x,(f x).length=sz) (hs:0<sz) (h:Row w v l.length (l.flatMap f)) :
 ∃ a cap,v=.slice a l.length cap∧l.length≤cap∧(l≠[]→∃ g o,a=some ⟨g,o,none⟩∧g<w.heap.size∧∀ i x,l[i]? = some x→∀ j,j<sz→w.cell? ⟨g,o+i*sz+j,none⟩=(f x)[j]?):=by
 obtain⟨a,cap,hv,hn,h⟩:=h;refine⟨a,cap,hv,hn,fun hl=>?_⟩;obtain⟨g,o,ha,hg,hc⟩:=h (Ti f sz hf hs hl);refine⟨g,o,ha,hg,fun i x hx j hj=>?_⟩;have hi:i<l.length:=(Qd.1 hx).1;have hlt:i*sz+j<(l.flatMap f).length:=by
  rw[iN f sz hf]
  have:=Ze sz hi
  rw[Zc] at this;omega
 rw[Yb,hc _ hlt,oJ f sz hf l i x hx j hj]
end
section
open Go.RowKit Go.Sort
open Go.Proofs.Tryz
abbrev ItX:=It × Value × Value
def Sz (x:ItX):List Value:=[.int .i64 x.1.kind,x.2.1,.string ⟨x.1.ins.1.toArray⟩,x.2.2,.bool x.1.alias]
def itc (l:List ItX):List Value:=l.flatMap Sz
theorem Oe (l:List ItX) (x:ItX):itc (l++[x])=itc l++Sz x:=by simp[itc]
theorem bK {w w':World} {b:Nat} {T:TypeId} {s n:Nat} {v:Value} {xs:List Value} (h:w.ownsRow b T s v n xs) (hb:Below w w w'):w'.ownsRow b T s v n xs :=
 Kb.owns h (Kb.of_below (b:=w.heap.size) hb) (fun e=>by have:=(h.lt _ e).2;omega)
theorem gB {w:World} {b b':Nat} {T T':TypeId} {s s' n n':Nat} {v v':Value} {xs xs':List Value} (h:w.ownsRow b T s v n xs) (h':w.ownsRow b' T' s' v' n' xs') (hT:T≠T'):v.ownBlock=none∨v.ownBlock≠v'.ownBlock:=by
 rcases h.2 with⟨rfl,_⟩|⟨g,cap,cur,rfl,_,hg,_⟩
 · exact .inl rfl
 · refine .inr fun e=>?_;rcases h'.2 with⟨rfl,_⟩|⟨g',cap',cur',rfl,_,hg',_⟩
   · cases e
   · obtain rfl:g=g':=by simpa[Value.ownBlock] using e
     rw[hg] at hg';cases hg'
     exact hT rfl
def lZ (n:Nat) (A B:World):Prop:=∀ (k:Nat) (o:Obj),n≤k→A.heap[k]? = some o→o.isCells=true→B.heap[k]? = some o
theorem lD {A B:World} {m b:Nat} {T:TypeId} {s n:Nat} {v:Value} {xs:List Value} (h:A.ownsRow b T s v n xs) (hk:lZ m A B) (hm:m≤b):B.ownsRow b T s v n xs:=by
 obtain⟨h1,h2⟩:=h;refine⟨h1,?_⟩;rcases h2 with h2|⟨g,cap,cur,hv,hg,hh,r⟩
 · exact .inl h2
 · exact .inr ⟨g,cap,cur,hv,hg,hk g _ om hh rfl,r⟩
theorem ItAt.kept {B:Nat} {it:It} {vr va:Value} {w w':World} {row:Option Nat} (h:ItAt B it vr va w) (hg:w.grownBy w' row) (h1:vr.ownBlock=none∨vr.ownBlock≠row) (h2:va.ownBlock=none∨va.ownBlock≠row):ItAt B it vr va w' :=
 ⟨h.raw.kept hg h1,h.args.own.kept hg h2,h.nil⟩
theorem ItAt.below {B:Nat} {it:It} {vr va:Value} {w w':World} (h:ItAt B it vr va w) (hb:Below w w w'):ItAt B it vr va w':=⟨bK h.raw hb,h.args.below hb,h.nil⟩
theorem ItAt.mono {B B':Nat} {it:It} {vr va:Value} {w:World} (h:ItAt B it vr va w) (hb:B'≤B):ItAt B' it vr va w:=⟨aP h.raw hb,h.args.mono hb,h.nil⟩
theorem ItAt.on {B m:Nat} {it:It} {vr va:Value} {w w':World} (h:ItAt B it vr va w) (hk:lZ m w w') (hm:m≤B):ItAt B it vr va w':=⟨lD h.raw hk hm,lD h.args.own hk hm,h.nil⟩
structure ItsAt (w:World) (base:Nat) (v:Value) (its:List ItX):Prop where
 own:w.ownsRow base 55 5 v its.length (itc its)
 has:∀ x∈its,ItAt base x.1 x.2.1 x.2.2 w
theorem ItsAt.nil (w:World) (base:Nat):ItsAt w base (.slice none 0 0) []:=⟨Xa _ _ _ _,by simp⟩
theorem ItsAt.below {w w':World} {base:Nat} {v:Value} {its:List ItX} (h:ItsAt w base v its) (hb:Below w w w'):ItsAt w' base v its:=⟨bK h.own hb,fun x hx=>(h.has x hx).below hb⟩
theorem ItsAt.mono {w:World} {base base':Nat} {v:Value} {its:List ItX} (h:ItsAt w base v its) (hb:base'≤base):ItsAt w base' v its:=⟨aP h.own hb,fun x hx=>(h.has x hx).mono hb⟩
theorem ItsAt.on {w w':World} {base m:Nat} {v:Value} {its:List ItX} (h:ItsAt w base v its) (hk:lZ m w w') (hm:m≤base):ItsAt w' base v its:=⟨lD h.own hk hm,fun x hx=>(h.has x hx).on hk hm⟩
theorem ItsAt.kept {w w':World} {base:Nat} {v:Value} {its:List ItX} {k:Nat} {o:Obj} (h:ItsAt w base v its) (hg:w.grownBy w' (some k)) (hk:w.heap[k]? = some o)
 (ho:∀ c m,o≠.cells c 55 m∧o≠.cells c 5 m∧o≠.cells c 144 m):ItsAt w' base v its:=by
 have key:∀ {b:Nat} {T:TypeId} {s n:Nat} {v:Value} {xs:List Value},w.ownsRow b T s v n xs→(∀ c m,o≠.cells c T m)→v.ownBlock=none∨v.ownBlock≠some k:=fun h h0=>by
  rcases h.2 with⟨rfl,_⟩|⟨g,cap,cur,rfl,_,hgb,_⟩
  · exact .inl rfl
  · refine .inr fun e=>?_;obtain rfl:g=k:=by simpa[Value.ownBlock] using e
    rw[hk] at hgb;cases hgb
    exact h0 _ _ rfl
 exact⟨h.own.kept hg (key h.own fun c m=>(ho c m).1),fun x hx=>(h.has x hx).kept hg (key (h.has x hx).raw fun c m=>(ho c m).2.1) (key (h.has x hx).args.own fun c m=>(ho c m).2.2)⟩
theorem ItsAt.snoc {w w':World} {base:Nat} {v v':Value} {its:List ItX} {x:ItX} (h:ItsAt w base v its) (hx:ItAt base x.1 x.2.1 x.2.2 w)
 (hown:w'.ownsRow base 55 5 v' (its.length+1) (itc its++Sz x)) (hg:w.grownBy w' v.ownBlock):ItsAt w' base v' (its++[x]):=by
 refine⟨by rw[Oe,Qc];exact hown,fun y hy=>?_⟩
 have hy2:ItAt base y.1 y.2.1 y.2.2 w:=by
  rcases Xs.1 hy with hy|hy
  · exact h.has y hy
  · obtain rfl:y=x:=by simpa using hy
    exact hx
 exact hy2.kept hg (gB hy2.raw h.own dc) (gB hy2.args.own h.own dc)
theorem ItsAt.get {w:World} {base:Nat} {v:Value} {its:List ItX} (h:ItsAt w base v its):∃ a cap,v=.slice a its.length cap∧its.length≤cap∧(its≠[]→∃ g o,a=some ⟨g,o,none⟩∧base≤g∧g<w.heap.size∧∀ i x,its[i]? = some x →
 w.cell? ⟨g,o+i*5,none⟩=some (.int .i64 x.1.kind)∧w.cell? ⟨g,o+i*5+1,none⟩=some x.2.1∧w.cell? ⟨g,o+i*5+2,none⟩=some (.string ⟨x.1.ins.1.toArray⟩)∧w.cell? ⟨g,o+i*5+3,none⟩=some x.2.2∧w.cell? ⟨g,o+i*5+4,none⟩=some (.bool x.1.alias)):=by
 obtain⟨a,cap,hv,hn,hh⟩:=(Row.of_owns h.own).structs Sz 5 (fun _=>rfl) dc;refine⟨a,cap,hv,hn,fun hne=>?_⟩;obtain⟨g,o,rfl,hg,hc⟩:=hh hne;refine⟨g,o,rfl,?_,hg,fun i x hx=>⟨hc i x hx 0 dc,hc i x hx 1 dc,hc i x hx 2 dc,hc i x hx 3 dc,hc i x hx 4 dc⟩⟩;exact (h.own.lt g (by rw[hv];rfl)).1
theorem xP (W:World) (x0 x1 x2 x3 x4:Value) (T:TypeId):∀ (j:Nat) (u:Value),[x0,x1,x2,x3,x4][j]? = some u→(W.alloc (.cells #[x0,x1,x2,x3,x4] T)).cell? ((⟨W,0,none⟩:Addr).add j)=some u:=fun j u hu=>by
 rw[bD,Xb,aC (aF _ _)];simpa using hu
theorem aAz {x:Int} {y0:Option Addr} {n0 c0:Nat} {s:ByteArray} {y1:Option Addr} {n1 c1:Nat} {b:Bool}:∀ u∈[Value.int .i64 x,.slice y0 n0 c0,.string s,.slice y1 n1 c1,.bool b],u.oneCell'=true:=fun u hu=>by
 simp at hu
 rcases hu with rfl|rfl|rfl|rfl|rfl<;>rfl
theorem Tryz.infoItem:(prog.info? 55).map (fun i=>(i.zero,i.size,i.bytes))=some (some (.agg #[(0:Int),zz,(),zz,.bool false]),5,80):=by kernel_rfl
theorem Jh (b:List UInt8) (k:Nat):aT (b.drop k)=(aT b).drop k:=by simp[aT]
theorem yB {w:World} {g o n c k:Nat} {b:List UInt8} (h:Row w (.slice (some ⟨g,o,none⟩) n c) n (aT b)) (hn:n=b.length) (hk:k<b.length):Row w (.slice (some ⟨g,o+k,none⟩) (b.drop k).length (c - k)) (b.drop k).length (aT (b.drop k)):=by
 obtain⟨a,cap,hv,hc,hh⟩:=h;cases hv
 obtain⟨g',o',ha,hg,hcs⟩:=hh (by intro e;have:=congrArg List.length e;simp[aT] at this;rw[this] at hk;exact absurd hk (Qw _))
 cases ha
 refine⟨_,_,rfl,by rw[Xm];omega,fun _=>⟨g,o+k,rfl,hg,fun j hj=>?_⟩⟩
 rw[Jh] at hj ⊢;rw[Xm] at hj;rw[Yb,hcs (k+j) om,Yh]
theorem Tryz.infoInt:(prog.info? 3).map (fun i=>(i.zero,i.size,i.bytes))=some (some (.int .i64 0),1,8):=by kernel_rfl
def aBQ (l:List Int):List Value:=l.map fun n=>.int .i64 n
def QAt (base g:Nat) (l:List Int) (m:Value) (w:World):Prop:=∃ v,w.heap[g]? = some (.cells #[v,m] 168 (0,0))∧w.ownsRow base 3 1 v l.length (aBQ l)
def aMd (o:Obj):Bool:=match o with | .cells _ T _=>!(T == 3) && !(T == 168)|_=>true
structure KQ (base:Nat) (w w':World):Prop where
 below:Below base w w'
 keep:∀ (b:Nat) o,w.heap[b]? = some o→aMd o=true→w'.heap[b]? = some o
theorem KQ.maps {base:Nat} {w w':World} (h:KQ base w w') (b:Nat) (es:Array MapEntry) (c:Nat) (hm:w.heap[b]? = some (.map es c)):w'.heap[b]? = some (.map es c):=h.keep b _ hm rfl
theorem aCk (l:List Int):∀ u∈aBQ l,u.oneCell'=true:=fun u hu=>by obtain⟨n,_,rfl⟩:=Yo.1 hu;rfl
theorem aCi (base g:Nat) (l xs:List Int) (m u:Value) (w:World) (hg:base≤g) (hq:QAt base g l m w) (hu:eR w u xs.length (aBQ xs)) (hl:l.length+xs.length≤1000000) :
 Calls prog 103 #[.pointer g,u] w fun e w'=>e=.returned (.tuple #[])∧QAt base g (l++xs) m w'∧KQ base w w':=by
 obtain⟨i0,hi,hz0,hz1,hz2⟩:=info_parts Tryz.infoInt;obtain⟨v,hb,ho⟩:=hq;obtain⟨av,cv,rfl⟩:=aI ho;have HB:=Hh hb;have HO:=Hh ho;have HU:=Hh hu;have HL:=Hh hl;obtain⟨q0,q1,f0,f1⟩:=aL hb;have hlg:=aA hb;clear hb ho hl;go_enter func103,ntmps103
 go_wp2_with (at_builtin;refine fK rfl _ _ 44 rfl base 3 i0 (.int .i64 0) 1 8 underlying44 hi hz0 hz1 hz2 rfl dc _ _ _ rfl HO.out _ _ _ rfl hu (by simp[aBQ]) (aCk _) (by have:=HL.out;unfold maxLen;omega) (by have:=HL.out;omega) om ?_)
 intro v' w1 ho1 hg1 _;obtain⟨a1,c1,rfl⟩:=aI ho1;have hne:some g≠(Value.slice av l.length cv).ownBlock:=by
  intro e;rcases HO.out.2 with⟨h1,_⟩|⟨g',cap',cur',h1,_,h2,_⟩
  · rw[h1] at e;cases e
  · rw[h1] at e;simp only[Value.ownBlock,Option.some.injEq] at e;subst e;rw[HB.out] at h2;cases h2
 have hb1:=(hg1.block g hlg hne).trans HB.out;have HB1:=Hh hb1;have HO1:=Hh ho1;have HG1:=Hh hg1;clear q0 q1 f0 f1 hlg;obtain⟨q0,q1,f0,f1⟩:=aL hb1;have hlg:=aA hb1;clear hb1 ho1 hg1;go_wp2_with fail
 go_end0
 have hr:=HO1.out;have hk:=Kb.setCell (Kb.refl g w1) 0 (Value.slice a1 (l.length+xs.length) c1);refine⟨rfl,⟨_,aG HB1.out,?_⟩,?_,fun b es hm ho=>?_⟩
 · rw[Qc,show aBQ (l++xs)=aBQ l++aBQ xs by simp[aBQ]]
   refine Kb.owns hr hk fun e=>?_;rcases hr.2 with⟨h1,_⟩|⟨g',cap',cur',h1,_,h2,_⟩
   · rw[h1] at e;cases e
   · rw[h1] at e;simp only[Value.ownBlock,Option.some.injEq] at e;subst e;rw[HB1.out] at h2;cases h2
 · refine ((Below.refl base w).grown HG1.out (Qn hg (Xr (aA HB.out))) fun k hk=>(HO.out.lt k hk).1).setCell (p:=g) hg _
 · have hlt:=(Ql.1 hm).1;rw[Below.heap_setCell _ _ _ _ (fun e:b=g=>by subst e;rw[HB.out] at hm;cases hm;simp[aMd] at ho)];refine (HG1.out.block b hlt fun e=>?_).trans hm;rcases HO.out.2 with⟨h1,_⟩|⟨g',cap',cur',h1,_,h2,_⟩
   · rw[h1] at e;cases e
   · rw[h1] at e;simp only[Value.ownBlock,Option.some.injEq] at e;subst e;rw[h2] at hm;cases hm
     simp[aMd] at ho
theorem aCn (base g:Nat) (m:Value) (w:World) (hq:QAt base g [] m w) :
 Calls prog 104 #[.pointer g] w fun e w'=>e=.returned (.tuple #[(0:Int),.bool false])∧w'=w:=by
 obtain⟨v,hb,ho⟩:=hq;obtain⟨av,cv,rfl⟩:=aI ho;obtain⟨q0,q1,f0,f1⟩:=aL hb;have hlg:=aA hb;clear hb ho;go_enter func104,ntmps104
 go_wp2_with fail
 go_ret2;exact⟨rfl,rfl⟩
theorem aCo (base g:Nat) (l:List Int) (x:Int) (m:Value) (w:World) (hg:base≤g) (hq:QAt base g (l++[x]) m w) (hl:l.length≤1000000) :
 Calls prog 104 #[.pointer g] w fun e w'=>e=.returned (.tuple #[x,.bool true])∧QAt base g l m w'∧KQ base w w':=by
 obtain⟨v,hb,ho⟩:=hq;have hlen:(l++[x]).length=l.length+1:=by simp
 rw[hlen] at ho;obtain⟨h,cap,rfl⟩:=ownsRow_succ ho;have hcell:=ho.cells (g:=h) rfl l.length (.int .i64 x) (by simp[aBQ]);rw[bD,Xb] at hcell;obtain⟨q0,q1,f0,f1⟩:=aL hb;have hlg:=aA hb;have hlh:h<w:=(ho.lt h rfl).2;have hcap:l.length+1≤cap:=by
  rcases ho.2 with⟨h1,_⟩|⟨g',cap',cur',h1,_,_,h2,_⟩
  · cases h1
  · cases h1;exact h2
 have HB:=Hh hb;have HO:=Hh ho;have HG:=Hh hg;have hi0:(0:Int)≤(l.length:Int):=om
 have hi1:(l.length:Int)<(l.length:Int)+1:=om
 have hi2:(l.length:Int)≤(cap:Int):=om
 clear hb ho hg;go_enter func104,ntmps104
 go_wp2_with fail
 go_ret2;have hb2:=aG (i:=0) (v:=Value.slice h l.length cap) HB.out;rcases HO.out.2 with⟨h1,_⟩|⟨g',cap',cur',h1,h2,h3,h4,h5,h6,h7⟩
 · cases h1
 · cases h1
   have hne:h≠g:=fun e=>by subst e;rw[HB.out] at h3;cases h3
   refine⟨rfl,⟨_,hb2,by simp[aBQ],.inr ⟨h,cap,cur',rfl,h2,aD h3 hne,om,h5,h6,?_⟩⟩,(Below.refl base w).setCell (p:=g) HG.out _,fun b es hm ho=>?_⟩
   · have:=congrArg (List.take l.length) h7
     rw[List.take_take] at this;rw[Nat.mul_one,show l.length=min l.length ((l.length+1)*1) by omega,this]
     simp[aBQ]
   · rw[Below.heap_setCell _ _ _ _ (fun e:b=g=>by subst e;rw[HB.out] at hm;cases hm;simp[aMd] at ho)];exact hm
end
section
open Go.RowKit Go.Sort
open Go.ChangeMaps Go.Maps Go.Shelf
open Go.Proofs.Tryz
def aCa:Value→Option (DataW Unit × List MemPlace):=fun _=>some (.nil,[])
theorem aCf (mb:Option Nat) (W:World):Calls prog 65 #[.map mb] W fun e w'=>e=.returned (.func (.func 102) #[] #[.pointer W])∧w'=W.alloc (.cells #[.map mb] 123) :=
 (callsIn_wide (n:=5)).1 (AnyZI.keys_in Tryz.keysI Fence.wide 5 trivial rfl mb W)
theorem aBV (b nn:Nat) (D0:DataW Unit) (w:World) (hown:w.ownsMap prog 3 aCa b nn D0) (hmax:Maps.size D0≤1000000) :
 Calls prog 64 #[.func (.func 102) #[] #[.pointer w]] (w.alloc (.cells #[.map (some b)] 123)) fun e w'=>∃ (v:Value) (ss:List Int),e=.returned v∧ss.Perm (intKeys D0) ∧
  w'.ownsRow w 3 1 v ss.length (aBQ (ss.mergeSort (fun x y=>decide (x≤y))))∧(v=.slice none 0 0↔ss=[])∧Below w w w':=by
 have hbl:=hown.lt;have hseq:SeqGives Fence.wide 2 prog 102 #[.pointer w] encZ (fun ss=>ss.Perm (intKeys D0)) (Maps.size D0) (w.alloc (.cells #[.map (some b)] 123)) :=
  AnyZI.keys_gives (ρ:=Tryz.keysI_ren) { Tryz.keysI with } Fence.wide _ trivial rfl om w b nn D0 _ sm sm (by
   obtain⟨es,clock,hb,Ft,hs,hD⟩:=hown;exact⟨es,clock,(Below.heap_alloc _ _ b hbl).trans hb,Ft,hs,hD⟩)
 have cS:=AnyZI.sorted_in Tryz.sortedI Fence.wide 5 trivial trivial trivial trivial rfl om (Tryz.sortsI _) (enters_of func101 kr rfl) 102 #[.pointer w] trivial (enters_of func102 kr rfl) _ _ (by unfold maxLen;omega) om _ hseq;refine ((callsIn_wide (n:=5)).1 cS).mono ?_;rintro e w' ⟨v,ss,rfl,hS,hrow,hnil,hb⟩;exact⟨v,ss,rfl,hS,ownsRow_base_a hrow sm,hnil,((Below.refl _ w).alloc lr _).trans (hb.mono sm)⟩
end
end Go.Proofs.YtoigglljnklhlaaGreatDoor
