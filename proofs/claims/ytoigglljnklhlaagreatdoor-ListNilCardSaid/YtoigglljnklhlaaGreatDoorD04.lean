/- Joined. -/
import Derived.Test.YtoigglljnklhlaaGreatDoorD03
import Derived.RangeFuncBox
import Derived.Sort.EncStr
set_option maxHeartbeats 8000000
set_option maxRecDepth 100000
namespace Go.Proofs.YtoigglljnklhlaaGreatDoor
open Go.RowKit Go.Sort
theorem iN {α:Type} (f:α→List Value) (sz:Nat) (hf:∀ x,(f x).length=sz) (l:List α):(l.flatMap f).length=l.length*sz:=by
 induction l with
 | nil=>simp
 | cons a l ih=>rw[List.flatMap_cons,List.length_append,hf,ih,List.length_cons,Nat.succ_mul];omega
theorem oJ {α:Type} (f:α→List Value) (sz:Nat) (hf:∀ x,(f x).length=sz):∀ (l:List α) (i:Nat) (x:α),l[i]? = some x→∀ j,j<sz→(l.flatMap f)[i*sz+j]? = (f x)[j]?
 | [],i,x,h,j,hj=>by simp at h
 | a::l,0,x,h,j,hj=>by
   simp at h;subst h
   rw[List.flatMap_cons,Nat.zero_mul,Nat.zero_add,List.getElem?_append_left (by rw[hf];exact hj)]
 | a::l,i+1,x,h,j,hj=>by
   have hx:l[i]? = some x:=by simpa using h
   rw[List.flatMap_cons,List.getElem?_append_right (by rw[hf,Nat.succ_mul];omega),hf];rw[show (i+1)*sz+j - sz=i*sz+j by rw[Nat.succ_mul];omega]
   exact oJ f sz hf l i x hx j hj
theorem Ti {α:Type} (f:α→List Value) (sz:Nat) (hf:∀ x,(f x).length=sz) (hs:0<sz) {l:List α} (h:l≠[]):l.flatMap f≠[]:=fun e=>by
 have:=iN f sz hf l
 rw[e] at this;rcases l with _|⟨a,l⟩
 · exact h rfl
 · simp only[List.length_nil,List.length_cons,Nat.succ_mul] at this;omega
theorem Row.structs {w:World} {v:Value} {α:Type} {l:List α} (f:α→List Value) (sz:Nat) (hf:∀ x,(f x).length=sz) (hs:0<sz) (h:Row w v l.length (l.flatMap f)) :
 ∃ a cap,v=.slice a l.length cap∧l.length≤cap∧(l≠[]→∃ g o,a=some ⟨g,o,none⟩∧g<w.heap.size∧∀ i x,l[i]? = some x→∀ j,j<sz→w.cell? ⟨g,o+i*sz+j,none⟩=(f x)[j]?):=by
 obtain⟨a,cap,hv,hn,h⟩:=h;refine⟨a,cap,hv,hn,fun hl=>?_⟩;obtain⟨g,o,ha,hg,hc⟩:=h (Ti f sz hf hs hl);refine⟨g,o,ha,hg,fun i x hx j hj=>?_⟩;have hi:i<l.length:=(List.getElem?_eq_some_iff.1 hx).1;have hlt:i*sz+j<(l.flatMap f).length:=by
  rw[iN f sz hf]
  have:=Nat.mul_le_mul_right sz hi
  rw[Nat.succ_mul] at this;omega
 rw[Nat.add_assoc,hc _ hlt,oJ f sz hf l i x hx j hj]
theorem Row.strs {w:World} {v:Value} {l:List (List UInt8)} (h:Row w v l.length (l.map Proofs.encStr)) :
 ∃ a cap,v=.slice a l.length cap∧l.length≤cap∧(l≠[]→∃ g o,a=some ⟨g,o,none⟩∧g<w.heap.size∧∀ i x,l[i]? = some x→w.cell? ⟨g,o+i,none⟩=some (.string ⟨x.toArray⟩)):=by
 obtain⟨a,cap,hv,hn,h⟩:=h;refine⟨a,cap,hv,hn,fun hl=>?_⟩;obtain⟨g,o,ha,hg,hc⟩:=h (by simpa using hl);refine⟨g,o,ha,hg,fun i x hx=>?_⟩;have hi:i<l.length:=(List.getElem?_eq_some_iff.1 hx).1;rw[hc i (by simpa using hi),List.getElem?_map,hx];rfl
end Go.Proofs.YtoigglljnklhlaaGreatDoor
namespace Go.Proofs.YtoigglljnklhlaaGreatDoor
open Go.RowKit Go.Sort
open Go.Proofs.Tryz
abbrev ItX:=It × Value × Value
def Sz (x:ItX):List Value:=[.int .i64 x.1.kind,x.2.1,.string ⟨x.1.ins.1.toArray⟩,x.2.2,.bool x.1.alias]
def itc (l:List ItX):List Value:=l.flatMap Sz
theorem Oe (l:List ItX) (x:ItX):itc (l++[x])=itc l++Sz x:=by simp[itc]
theorem aCp (l:List ItX):(itc l).length=l.length*5:=iN Sz 5 (fun _=>rfl) l
theorem bK {w w':World} {b:Nat} {T:TypeId} {s n:Nat} {v:Value} {xs:List Value} (h:w.ownsRow b T s v n xs) (hb:Below w.heap.size w w'):w'.ownsRow b T s v n xs :=
 Kb.owns h (Kb.of_below (b:=w.heap.size) hb) (fun e=>by have:=(h.lt _ e).2;omega)
theorem gB {w:World} {b b':Nat} {T T':TypeId} {s s' n n':Nat} {v v':Value} {xs xs':List Value} (h:w.ownsRow b T s v n xs) (h':w.ownsRow b' T' s' v' n' xs') (hT:T≠T'):v.ownBlock=none∨v.ownBlock≠v'.ownBlock:=by
 rcases h.2 with⟨rfl,_⟩|⟨g,cap,cur,rfl,_,hg,_⟩
 · exact .inl rfl
 · refine .inr fun e=>?_;rcases h'.2 with⟨rfl,_⟩|⟨g',cap',cur',rfl,_,hg',_⟩
   · cases e
   · obtain rfl:g=g':=by simpa[Value.ownBlock] using e
     rw[hg] at hg';cases hg'
     exact hT rfl
def lZ (n:Nat) (A B:World):Prop:=∀ (k:Nat) (o:Obj),n≤k→A.heap[k]? = some o→o.isCells=true→B.heap[k]? = some o
theorem lD {A B:World} {m b:Nat} {T:TypeId} {s n:Nat} {v:Value} {xs:List Value} (h:A.ownsRow b T s v n xs) (hk:lZ m A B) (hm:m≤b):B.ownsRow b T s v n xs:=by
 obtain⟨h1,h2⟩:=h;refine⟨h1,?_⟩;rcases h2 with h2|⟨g,cap,cur,hv,hg,hh,r⟩
 · exact .inl h2
 · exact .inr ⟨g,cap,cur,hv,hg,hk g _ om hh rfl,r⟩
theorem ItAt.kept {B:Nat} {it:It} {vr va:Value} {w w':World} {row:Option Nat} (h:ItAt B it vr va w) (hg:w.grownBy w' row) (h1:vr.ownBlock=none∨vr.ownBlock≠row) (h2:va.ownBlock=none∨va.ownBlock≠row):ItAt B it vr va w' :=
 ⟨h.raw.kept hg h1,h.args.own.kept hg h2,h.nil⟩
theorem ItAt.below {B:Nat} {it:It} {vr va:Value} {w w':World} (h:ItAt B it vr va w) (hb:Below w.heap.size w w'):ItAt B it vr va w':=⟨bK h.raw hb,h.args.below hb,h.nil⟩
theorem ItAt.mono {B B':Nat} {it:It} {vr va:Value} {w:World} (h:ItAt B it vr va w) (hb:B'≤B):ItAt B' it vr va w:=⟨aP h.raw hb,h.args.mono hb,h.nil⟩
theorem ItAt.on {B m:Nat} {it:It} {vr va:Value} {w w':World} (h:ItAt B it vr va w) (hk:lZ m w w') (hm:m≤B):ItAt B it vr va w':=⟨lD h.raw hk hm,lD h.args.own hk hm,h.nil⟩
structure ItsAt (w:World) (base:Nat) (v:Value) (its:List ItX):Prop where
 own:w.ownsRow base 55 5 v its.length (itc its)
 has:∀ x∈its,ItAt base x.1 x.2.1 x.2.2 w
theorem ItsAt.nil (w:World) (base:Nat):ItsAt w base (.slice none 0 0) []:=⟨World.ownsRow_nil _ _ _ _,by simp⟩
theorem ItsAt.below {w w':World} {base:Nat} {v:Value} {its:List ItX} (h:ItsAt w base v its) (hb:Below w.heap.size w w'):ItsAt w' base v its:=⟨bK h.own hb,fun x hx=>(h.has x hx).below hb⟩
theorem ItsAt.mono {w:World} {base base':Nat} {v:Value} {its:List ItX} (h:ItsAt w base v its) (hb:base'≤base):ItsAt w base' v its:=⟨aP h.own hb,fun x hx=>(h.has x hx).mono hb⟩
theorem ItsAt.on {w w':World} {base m:Nat} {v:Value} {its:List ItX} (h:ItsAt w base v its) (hk:lZ m w w') (hm:m≤base):ItsAt w' base v its:=⟨lD h.own hk hm,fun x hx=>(h.has x hx).on hk hm⟩
theorem ItsAt.kept {w w':World} {base:Nat} {v:Value} {its:List ItX} {k:Nat} {o:Obj} (h:ItsAt w base v its) (hg:w.grownBy w' (some k)) (hk:w.heap[k]? = some o)
 (ho:∀ c m,o≠.cells c 55 m∧o≠.cells c 5 m∧o≠.cells c 144 m):ItsAt w' base v its:=by
 have key:∀ {b:Nat} {T:TypeId} {s n:Nat} {v:Value} {xs:List Value},w.ownsRow b T s v n xs→(∀ c m,o≠.cells c T m)→v.ownBlock=none∨v.ownBlock≠some k:=fun h h0=>by
  rcases h.2 with⟨rfl,_⟩|⟨g,cap,cur,rfl,_,hgb,_⟩
  · exact .inl rfl
  · refine .inr fun e=>?_;obtain rfl:g=k:=by simpa[Value.ownBlock] using e
    rw[hk] at hgb;cases hgb
    exact h0 _ _ rfl
 exact⟨h.own.kept hg (key h.own fun c m=>(ho c m).1),fun x hx=>(h.has x hx).kept hg (key (h.has x hx).raw fun c m=>(ho c m).2.1) (key (h.has x hx).args.own fun c m=>(ho c m).2.2)⟩
theorem ItsAt.snoc {w w':World} {base:Nat} {v v':Value} {its:List ItX} {x:ItX} (h:ItsAt w base v its) (hx:ItAt base x.1 x.2.1 x.2.2 w)
 (hown:w'.ownsRow base 55 5 v' (its.length+1) (itc its++Sz x)) (hg:w.grownBy w' v.ownBlock):ItsAt w' base v' (its++[x]):=by
 refine⟨by rw[Oe,List.length_append];exact hown,fun y hy=>?_⟩
 have hy2:ItAt base y.1 y.2.1 y.2.2 w:=by
  rcases List.mem_append.1 hy with hy|hy
  · exact h.has y hy
  · obtain rfl:y=x:=by simpa using hy
    exact hx
 exact hy2.kept hg (gB hy2.raw h.own dc) (gB hy2.args.own h.own dc)
theorem ItsAt.get {w:World} {base:Nat} {v:Value} {its:List ItX} (h:ItsAt w base v its):∃ a cap,v=.slice a its.length cap∧its.length≤cap∧(its≠[]→∃ g o,a=some ⟨g,o,none⟩∧base≤g∧g<w.heap.size∧∀ i x,its[i]? = some x →
 w.cell? ⟨g,o+i*5,none⟩=some (.int .i64 x.1.kind)∧w.cell? ⟨g,o+i*5+1,none⟩=some x.2.1∧w.cell? ⟨g,o+i*5+2,none⟩=some (.string ⟨x.1.ins.1.toArray⟩)∧w.cell? ⟨g,o+i*5+3,none⟩=some x.2.2∧w.cell? ⟨g,o+i*5+4,none⟩=some (.bool x.1.alias)):=by
 obtain⟨a,cap,hv,hn,hh⟩:=(Row.of_owns h.own).structs Sz 5 (fun _=>rfl) dc;refine⟨a,cap,hv,hn,fun hne=>?_⟩;obtain⟨g,o,rfl,hg,hc⟩:=hh hne;refine⟨g,o,rfl,?_,hg,fun i x hx=>⟨hc i x hx 0 dc,hc i x hx 1 dc,hc i x hx 2 dc,hc i x hx 3 dc,hc i x hx 4 dc⟩⟩;exact (h.own.lt g (by rw[hv];rfl)).1
theorem xP (W:World) (x0 x1 x2 x3 x4:Value) (T:TypeId):∀ (j:Nat) (u:Value),[x0,x1,x2,x3,x4][j]? = some u→(W.alloc (.cells #[x0,x1,x2,x3,x4] T)).cell? ((⟨W.heap.size,0,none⟩:Addr).add j)=some u:=fun j u hu=>by
 rw[bD,Nat.zero_add,aC (aF _ _)];simpa using hu
theorem aAz {x:Int} {y0:Option Addr} {n0 c0:Nat} {s:ByteArray} {y1:Option Addr} {n1 c1:Nat} {b:Bool}:∀ u∈[Value.int .i64 x,.slice y0 n0 c0,.string s,.slice y1 n1 c1,.bool b],u.oneCell'=true:=fun u hu=>by
 simp at hu
 rcases hu with rfl|rfl|rfl|rfl|rfl<;>rfl
theorem Tryz.infoItem:(prog.info? 55).map (fun i=>(i.zero,i.size,i.bytes))=some (some (.agg #[.int .i64 0,.slice none 0 0,.string ⟨#[]⟩,.slice none 0 0,.bool false]),5,80):=by kernel_rfl
theorem Jh (b:List UInt8) (k:Nat):aT (b.drop k)=(aT b).drop k:=by simp[aT]
theorem yB {w:World} {g o n c k:Nat} {b:List UInt8} (h:Row w (.slice (some ⟨g,o,none⟩) n c) n (aT b)) (hn:n=b.length) (hk:k<b.length):Row w (.slice (some ⟨g,o+k,none⟩) (b.drop k).length (c - k)) (b.drop k).length (aT (b.drop k)):=by
 obtain⟨a,cap,hv,hc,hh⟩:=h;cases hv
 obtain⟨g',o',ha,hg,hcs⟩:=hh (by intro e;have:=congrArg List.length e;simp[aT] at this;rw[this] at hk;exact absurd hk (Nat.not_lt_zero _))
 cases ha
 refine⟨_,_,rfl,by rw[List.length_drop];omega,fun _=>⟨g,o+k,rfl,hg,fun j hj=>?_⟩⟩
 rw[Jh] at hj ⊢;rw[List.length_drop] at hj;rw[Nat.add_assoc,hcs (k+j) om,List.getElem?_drop]
end Go.Proofs.YtoigglljnklhlaaGreatDoor
