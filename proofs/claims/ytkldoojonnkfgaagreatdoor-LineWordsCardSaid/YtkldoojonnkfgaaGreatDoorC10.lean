/- Joined texts: Node, NamesE. -/
import Derived.Test.YtkldoojonnkfgaaGreatDoorC08
import Derived.Test.YtkldoojonnkfgaaGreatDoorC09
import Derived.StillTailTactics
namespace Go.Proofs.YtkldoojonnkfgaaGreatDoor
open Go.RowKit Go.Sort
def NodeAt (T:TypeId) (B:Nat) (w:World):Ex→Value→Prop
 | .num n,v=>∃ g,B≤g∧v=.pointer (some ⟨g,0,none⟩)∧w.heap[g]? = some (.cells #[.int .i64 1,.int .i64 n,.string ⟨#[]⟩,.pointer none,.pointer none] T (0,0))
 | .sym s,v=>∃ g,B≤g∧v=.pointer (some ⟨g,0,none⟩)∧w.heap[g]? = some (.cells #[.int .i64 2,.int .i64 0,.string s,.pointer none,.pointer none] T (0,0))
 | .here,v=>∃ g,B≤g∧v=.pointer (some ⟨g,0,none⟩)∧w.heap[g]? = some (.cells #[.int .i64 3,.int .i64 0,.string ⟨#[]⟩,.pointer none,.pointer none] T (0,0))
 | .un op a,v=>∃ g va,B≤g∧v=.pointer (some ⟨g,0,none⟩)∧w.heap[g]? = some (.cells #[.int .i64 4,.int .i64 0,.string op,va,.pointer none] T (0,0))∧NodeAt T B w a va
 | .bin op a b,v=>∃ g va vb,B≤g∧v=.pointer (some ⟨g,0,none⟩)∧w.heap[g]? = some (.cells #[.int .i64 5,.int .i64 0,.string op,va,vb] T (0,0))∧NodeAt T B w a va∧NodeAt T B w b vb
theorem NodeAt.keep {T:TypeId} {B:Nat} {w w':World} (hk:∀ k,B≤k→k<w.heap.size→w'.heap[k]? = w.heap[k]?):∀ (x:Ex) (v:Value),NodeAt T B w x v→NodeAt T B w' x v
 | .num n,v,⟨g,h1,h2,h3⟩=>⟨g,h1,h2,by rw [hk g h1 (lt_of_block h3)]; exact h3⟩
 | .sym s,v,⟨g,h1,h2,h3⟩=>⟨g,h1,h2,by rw [hk g h1 (lt_of_block h3)]; exact h3⟩
 | .here,v,⟨g,h1,h2,h3⟩=>⟨g,h1,h2,by rw [hk g h1 (lt_of_block h3)]; exact h3⟩
 | .un op a,v,⟨g,va,h1,h2,h3,h4⟩=>⟨g,va,h1,h2,by rw [hk g h1 (lt_of_block h3)]; exact h3,NodeAt.keep hk a va h4⟩
 | .bin op a b,v,⟨g,va,vb,h1,h2,h3,h4,h5⟩=>⟨g,va,vb,h1,h2,by rw [hk g h1 (lt_of_block h3)]; exact h3,NodeAt.keep hk a va h4,NodeAt.keep hk b vb h5⟩
theorem NodeAt.below {T:TypeId} {B:Nat} {w w':World} {x:Ex} {v:Value} (h:NodeAt T B w x v) (hb:Below w.heap.size w w'):NodeAt T B w' x v:=NodeAt.keep (fun k _ hk=>hb.block k hk) x v h
theorem NodeAt.kb {T:TypeId} {B b:Nat} {w w':World} {x:Ex} {v:Value} (h:NodeAt T B w x v) (hb:Kb b w w') (hlt:b<B):NodeAt T B w' x v:=NodeAt.keep (fun k h1 hk=>hb.block k hk (by omega)) x v h
theorem NodeAt.mono {T:TypeId} {B B':Nat} {w:World} (hB:B'≤B):∀ (x:Ex) (v:Value),NodeAt T B w x v→NodeAt T B' w x v
 | .num n,v,⟨g,h1,h2,h3⟩=>⟨g,by omega,h2,h3⟩
 | .sym s,v,⟨g,h1,h2,h3⟩=>⟨g,by omega,h2,h3⟩
 | .here,v,⟨g,h1,h2,h3⟩=>⟨g,by omega,h2,h3⟩
 | .un op a,v,⟨g,va,h1,h2,h3,h4⟩=>⟨g,va,by omega,h2,h3,NodeAt.mono hB a va h4⟩
 | .bin op a b,v,⟨g,va,vb,h1,h2,h3,h4,h5⟩=>⟨g,va,vb,by omega,h2,h3,NodeAt.mono hB a va h4,NodeAt.mono hB b vb h5⟩
theorem NodeAt.ptr {T:TypeId} {B:Nat} {w:World} {x:Ex} {v:Value} (h:NodeAt T B w x v):∃ g,v=.pointer (some ⟨g,0,none⟩)∧g<w.heap.size:=by
 cases x with
 | num n=>obtain ⟨g,_,h2,h3⟩:=h; exact ⟨g,h2,lt_of_block h3⟩
 | sym s=>obtain ⟨g,_,h2,h3⟩:=h; exact ⟨g,h2,lt_of_block h3⟩
 | here=>obtain ⟨g,_,h2,h3⟩:=h; exact ⟨g,h2,lt_of_block h3⟩
 | un op a=>obtain ⟨g,va,_,h2,h3,_⟩:=h; exact ⟨g,h2,lt_of_block h3⟩
 | bin op a b=>obtain ⟨g,va,vb,_,h2,h3,_⟩:=h; exact ⟨g,h2,lt_of_block h3⟩
def ParRes (res:Option (Ex × List Tok)) (b:Nat) (w:World) (e:Ending) (w':World):Prop :=
 Kb b w w'∧match res with
 | none=>e=.panicked wrongP
 | some x=>∃ v,e=.returned v∧NodeAt 225 (b+1) w' x.1 v∧StrAt w' b x.2
def BRes (lv:Nat) (l:List Tok) (b:Nat) (w:World) (e:Ending) (w':World):Prop:=∃ res,P exLang (.B lv l) res∧ParRes res b w e w'
def URes (l:List Tok) (b:Nat) (w:World) (e:Ending) (w':World):Prop:=∃ res,P exLang (.U l) res∧ParRes res b w e w'
def Small (l:List Tok):Prop:=∀ t∈l,t.text.size≤1000000
def BC (l:List Tok):Prop:=∀ (lv b:Nat) (w:World),Small l→StrAt w b l→Calls Tryz.prog 316 #[.pointer (some ⟨b,0,none⟩),.int .i64 lv] w (BRes lv l b w)
def UC (l:List Tok):Prop:=∀ (b:Nat) (w:World),Small l→StrAt w b l→Calls Tryz.prog 353 #[.pointer (some ⟨b,0,none⟩)] w (URes l b w)
def OC (l:List Tok):Prop:=∀ (b:Nat) (w:World),Small l→StrAt w b l→(∀ t r,l=t::r→tU t=false)→Calls Tryz.prog 381 #[.pointer (some ⟨b,0,none⟩)] w (URes l b w)
theorem Small.tail {t:Tok} {l:List Tok} (h:Small (t::l)):Small l:=fun x hx=>h x (List.mem_cons_of_mem _ hx)
theorem P.ends {s:St Tok Ex} {res:Option (Ex × List Tok)} (h:P exLang s res):∀ e r,res=some (e,r)→(∀ l,s=.U l→∃ l1,l=l1++r∧l1≠[])∧(∀ lv l,s=.B lv l→∃ l1,l=l1++r∧l1≠[]):=by
 intro e r he
 have hs:=h.sound exLang
 refine ⟨fun l hl=>?_,fun lv l hl=>?_⟩
 · subst hl
   obtain ⟨l1,h1,h2⟩:=hs e r he
   exact ⟨l1,h1,h2.ne_nil exLang⟩
 · subst hl
   obtain ⟨l1,h1,h2,_⟩:=hs e r he
   exact ⟨l1,h1,h2.ne_nil exLang⟩
theorem Small.suffix {l1 r:List Tok} (h:Small (l1++r)):Small r:=fun x hx=>h x (List.mem_append_right _ hx)
theorem str_get0 (s:ByteArray) (h:0<s.size):s.data.toList=s[0]::s.data.toList.drop 1:=by
 have h2:=List.drop_eq_getElem_cons (l:=s.data.toList) (i:=0) (by simpa using h)
 rw [List.drop_zero] at h2
 rw [h2]
 simp; rfl
theorem head_byte (s:ByteArray) (h0:0<s.size):((s.toList.headD 0).toNat:Int)=(s[0].toNat:Int):=by
 rw [ByteArray.toList_eq,str_get0 s h0]; rfl
def Ex.nodes:Ex→Nat
 | .num _=>1
 | .sym _=>1
 | .here=>1
 | .un _ a=>1+a.nodes
 | .bin _ a b=>1+a.nodes+b.nodes
def oNodes:Option Ex→Nat | none=>0 | some x=>x.nodes
def lNodes:List (Option Ex)→Nat | []=>0 | o::l=>oNodes o+lNodes l
def Ex.kids:Ex→List (Option Ex)
 | .un _ a=>[some a,none]
 | .bin _ a b=>[some a,some b]
 | _=>[none,none]
theorem kids_nodes (x:Ex):lNodes x.kids+1≤x.nodes:=by cases x<;>simp [Ex.kids,lNodes,oNodes,Ex.nodes]<;>omega
def oSyms:Option Ex→List (List UInt8) | none=>[] | some x=>x.syms.map (·.data.toList)
def lSyms (l:List (Option Ex)):List (List UInt8):=l.flatMap oSyms
def Ex.own:Ex→List (List UInt8)
 | .sym s=>[s.data.toList]
 | _=>[]
theorem own_kids (x:Ex):oSyms (some x)=x.own++lSyms x.kids:=by
 cases x<;>simp [oSyms,lSyms,Ex.own,Ex.kids,Ex.syms]
theorem syms_len:∀ (x:Ex),x.syms.length≤x.nodes
 | .num _=>by simp [Ex.syms]
 | .sym _=>by simp [Ex.syms,Ex.nodes]
 | .here=>by simp [Ex.syms]
 | .un _ a=>by have:=syms_len a; simp only [Ex.syms,Ex.nodes]; omega
 | .bin _ a b=>by have:=syms_len a; have:=syms_len b; simp only [Ex.syms,Ex.nodes,List.length_append]; omega
theorem lSyms_len:∀ (l:List (Option Ex)),(lSyms l).length≤lNodes l
 | []=>by simp [lSyms]
 | o::l=>by
   have:=lSyms_len l
   have h:(oSyms o).length≤oNodes o:=by
    cases o with
    | none=>simp [oSyms]
    | some x=>simpa [oSyms,oNodes] using syms_len x
   unfold lSyms at *
   rw [List.flatMap_cons,List.length_append]
   unfold lNodes
   omega
def OptAt (T:TypeId) (w:World) (o:Option Ex) (v:Value):Prop:=match o with | none=>v=.pointer none | some x=>NodeAt T 0 w x v
def ArgsAt (T:TypeId) (w:World) (l:List (Option Ex)) (v:Value):Prop:=∃ g o cap,v=.slice (some ⟨g,o,none⟩) l.length cap∧g<w.heap.size∧∀ j x,l[j]? = some x→∃ u,w.cell? ⟨g,o+j,none⟩=some u∧OptAt T w x u
theorem OptAt.below {T:TypeId} {w w':World} {o:Option Ex} {v:Value} (h:OptAt T w o v) (hb:Below w.heap.size w w'):OptAt T w' o v:=by
 cases o with
 | none=>exact h
 | some x=>exact NodeAt.below h hb
theorem ArgsAt.below {T:TypeId} {w w':World} {l:List (Option Ex)} {v:Value} (h:ArgsAt T w l v) (hb:Below w.heap.size w w'):ArgsAt T w' l v:=by
 obtain ⟨g,o,cap,hv,hg,hc⟩:=h
 refine ⟨g,o,cap,hv,Nat.lt_of_lt_of_le hg hb.size,fun j x hx=>?_⟩
 obtain ⟨u,hu,ho⟩:=hc j x hx
 exact ⟨u,(hb.cell (p:=⟨g,o+j,none⟩) hg).trans hu,ho.below hb⟩
theorem t32_0 {p:Prop} (h:p:=by
 obtain ⟨g,_,hv,hh⟩:=h
 obtain ⟨e0,e1,e2,e3,e4⟩:=mk hh
 exact ⟨g,_,_,_,_,_,hv,lt_of_block hh,e0,e1,e2,e3,e4,.inr ⟨rfl,rfl⟩,none,none,rfl,rfl,rfl⟩):p:=h
theorem NodeAt.cells {T:TypeId} {B:Nat} {w:World} {x:Ex} {v:Value} (h:NodeAt T B w x v):∃ g k n s a b,v=.pointer (some ⟨g,0,none⟩)∧g<w.heap.size∧w.cell? ⟨g,0,none⟩=some (.int .i64 k)∧w.cell? ⟨g,1,none⟩=some (.int .i64 n)∧w.cell? ⟨g,2,none⟩=some (.string s)∧w.cell? ⟨g,3,none⟩=some a∧w.cell? ⟨g,4,none⟩=some b ∧
 ((k == 2)=true∧x.own=[s.data.toList]∨(k == 2)=false∧x.own=[])∧∃ oa ob,x.kids=[oa,ob]∧OptAt T w oa a∧OptAt T w ob b:=by
 have mk:∀ {g:Nat} {c0 c1 c2 c3 c4:Value},w.heap[g]? = some (.cells #[c0,c1,c2,c3,c4] T (0,0))→w.cell? ⟨g,0,none⟩=some c0∧w.cell? ⟨g,1,none⟩=some c1∧w.cell? ⟨g,2,none⟩=some c2∧w.cell? ⟨g,3,none⟩=some c3∧w.cell? ⟨g,4,none⟩=some c4:=fun h=>by
  refine ⟨?_,?_,?_,?_,?_⟩<;>simp [World.cell?,h]
 cases x with
 | num n =>
   exact t32_0
 | sym s =>
   obtain ⟨g,_,hv,hh⟩:=h
   obtain ⟨e0,e1,e2,e3,e4⟩:=mk hh
   exact ⟨g,_,_,_,_,_,hv,lt_of_block hh,e0,e1,e2,e3,e4,.inl ⟨rfl,rfl⟩,none,none,rfl,rfl,rfl⟩
 | here =>
   exact t32_0
 | un op a =>
   obtain ⟨g,va,_,hv,hh,ha⟩:=h
   obtain ⟨e0,e1,e2,e3,e4⟩:=mk hh
   exact ⟨g,_,_,_,_,_,hv,lt_of_block hh,e0,e1,e2,e3,e4,.inr ⟨rfl,rfl⟩,some a,none,rfl,ha.mono (Nat.zero_le _),rfl⟩
 | bin op a b =>
   obtain ⟨g,va,vb,_,hv,hh,ha,hb⟩:=h
   obtain ⟨e0,e1,e2,e3,e4⟩:=mk hh
   exact ⟨g,_,_,_,_,_,hv,lt_of_block hh,e0,e1,e2,e3,e4,.inr ⟨rfl,rfl⟩,some a,some b,rfl,ha.mono (Nat.zero_le _),hb.mono (Nat.zero_le _)⟩
end Go.Proofs.YtkldoojonnkfgaaGreatDoor
