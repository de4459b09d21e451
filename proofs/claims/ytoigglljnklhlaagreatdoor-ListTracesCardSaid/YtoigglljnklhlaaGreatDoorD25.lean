/- Joined. -/
import Derived.Test.YtoigglljnklhlaaGreatDoorD24
import Derived.Great.BuildSlice
set_option maxHeartbeats 8000000
set_option maxRecDepth 100000
namespace Go.Proofs.YtoigglljnklhlaaGreatDoor
open Go.RowKit Go.Sort
inductive SV where
 | c (v:Value)
 | agg (l:List SV)
 | tup (l:List SV)
 | row (T:TypeId) (n:Nat) (ex:Bool) (l:List SV)
 | sl (b n:Nat)
 | ptr (b o:Nat)
 | elt (T:TypeId) (l:List SV) (k:Nat)
 | sym (i:Nat)
class Syms where
 σ:Nat→Value
variable [Syms]
abbrev Bm:=Nat→Option Nat
mutual
def Den (N:Nat→Prop) (bs:Bm) (w:World):SV→Value→Prop
 | .c v,u=>u=v∧v.oneCell'=true
 | .agg l,u=>∃ vs,u=.agg vs.toArray∧DenL N bs w l vs
 | .tup l,u=>∃ vs,u=.tuple vs.toArray∧DenT N bs w l vs
 | .row T n ex l,u=>∃ g o cap cur vs,u=.slice (some ⟨g,o,none⟩) n cap∧N g∧w.heap[g]? = some (.cells cur T (0,0))∧vs <+: cur.toList.drop o∧DenL N bs w l vs∧(ex=true→cap=n)∧n≤cap
 | .sl b n,u=>∃ g cap,bs b=some g∧u=.slice (some ⟨g,0,none⟩) n cap∧n≤cap
 | .ptr b o,u=>∃ g,bs b=some g∧u=.pointer (some ⟨g,o,none⟩)
 | .elt T l k,u=>∃ g o cur vs,u=.pointer (some ⟨g,o+k,none⟩)∧N g∧w.heap[g]? = some (.cells cur T (0,0))∧vs <+: cur.toList.drop o∧DenL N bs w l vs
 | .sym i,u=>u=Syms.σ i∧u.oneCell'=true
termination_by structural s=>s
def DenL (N:Nat→Prop) (bs:Bm) (w:World):List SV→List Value→Prop
 | [],vs=>vs=[]
 | s::l,vs=>∃ v r,vs=v::r∧v.oneCell'=true∧Den N bs w s v∧DenL N bs w l r
termination_by structural l=>l
def DenT (N:Nat→Prop) (bs:Bm) (w:World):List SV→List Value→Prop
 | [],vs=>vs=[]
 | s::l,vs=>∃ v r,vs=v::r∧Den N bs w s v∧DenT N bs w l r
termination_by structural l=>l
end
def aCM (N N':Nat→Prop) (w w':World):Prop:=∀ g o,N g→w.heap[g]? = some o→N' g∧w'.heap[g]? = some o
def Ext (bs bs':Bm):Prop:=∀ b g,bs b=some g→bs' b=some g
mutual
theorem Den.mono {N N':Nat→Prop} {bs bs':Bm} {w w':World} (h:aCM N N' w w') (hb:Ext bs bs'):∀ (s:SV) (u:Value),Den N bs w s u→Den N' bs' w' s u
 | .c _,_,hd=>hd
 | .sym _,_,hd=>hd
 | .agg l,_,⟨vs,e,hl⟩=>⟨vs,e,DenL.mono h hb l vs hl⟩
 | .tup l,_,⟨vs,e,hl⟩=>⟨vs,e,DenT.mono h hb l vs hl⟩
 | .row _ _ _ l,_,⟨g,o,cap,cur,vs,e,hg,hh,hp,hl,hc⟩=>⟨g,o,cap,cur,vs,e,(h _ _ hg hh).1,(h _ _ hg hh).2,hp,DenL.mono h hb l vs hl,hc⟩
 | .sl _ _,_,⟨g,cap,hg,e⟩=>⟨g,cap,hb _ _ hg,e⟩
 | .ptr _ _,_,⟨g,hg,e⟩=>⟨g,hb _ _ hg,e⟩
 | .elt _ l _,_,⟨g,o,cur,vs,e,hg,hh,hp,hl⟩=>⟨g,o,cur,vs,e,(h _ _ hg hh).1,(h _ _ hg hh).2,hp,DenL.mono h hb l vs hl⟩
theorem DenL.mono {N N':Nat→Prop} {bs bs':Bm} {w w':World} (h:aCM N N' w w') (hb:Ext bs bs'):∀ (l:List SV) (vs:List Value),DenL N bs w l vs→DenL N' bs' w' l vs
 | [],_,hd=>hd
 | s::l,_,⟨v,r,e,ho,hd,hl⟩=>⟨v,r,e,ho,Den.mono h hb s v hd,DenL.mono h hb l r hl⟩
theorem DenT.mono {N N':Nat→Prop} {bs bs':Bm} {w w':World} (h:aCM N N' w w') (hb:Ext bs bs'):∀ (l:List SV) (vs:List Value),DenT N bs w l vs→DenT N' bs' w' l vs
 | [],_,hd=>hd
 | s::l,_,⟨v,r,e,hd,hl⟩=>⟨v,r,e,Den.mono h hb s v hd,DenT.mono h hb l r hl⟩
end
mutual
def aCQ:SV→Bool
 | .c _=>true
 | .agg l=>aCx l
 | .tup l=>aCx l
 | .row _ _ _ l=>aCx l
 | .sym _=>true
 | _=>false
termination_by structural s=>s
def aCx:List SV→Bool
 | []=>true
 | s::l=>aCQ s && aCx l
termination_by structural l=>l
end
mutual
theorem Den.pure {N:Nat→Prop} {bs bs':Bm} {w:World}:∀ (s:SV) (u:Value),aCQ s=true→Den N bs w s u→Den N bs' w s u
 | .c _,_,_,hd=>hd
 | .sym _,_,_,hd=>hd
 | .agg l,_,hp,⟨vs,e,hl⟩=>⟨vs,e,DenL.pure l vs hp hl⟩
 | .tup l,_,hp,⟨vs,e,hl⟩=>⟨vs,e,DenT.pure l vs hp hl⟩
 | .row _ _ _ l,_,hp,⟨g,o,cap,cur,vs,e,hg,hh,hq,hl,hc⟩=>⟨g,o,cap,cur,vs,e,hg,hh,hq,DenL.pure l vs hp hl,hc⟩
 | .sl ..,_,hp,_ | .ptr ..,_,hp,_ | .elt ..,_,hp,_=>by cases hp
theorem DenL.pure {N:Nat→Prop} {bs bs':Bm} {w:World}:∀ (l:List SV) (vs:List Value),aCx l=true→DenL N bs w l vs→DenL N bs' w l vs
 | [],_,_,hd=>hd
 | s::l,_,hp,⟨v,r,e,ho,hd,hl⟩=>by
   unfold aCx at hp;rw [Qe] at hp;exact ⟨v,r,e,ho,Den.pure s v hp.1 hd,DenL.pure l r hp.2 hl⟩
theorem DenT.pure {N:Nat→Prop} {bs bs':Bm} {w:World}:∀ (l:List SV) (vs:List Value),aCx l=true→DenT N bs w l vs→DenT N bs' w l vs
 | [],_,_,hd=>hd
 | s::l,_,hp,⟨v,r,e,hd,hl⟩=>by
   unfold aCx at hp;rw [Qe] at hp;exact ⟨v,r,e,Den.pure s v hp.1 hd,DenT.pure l r hp.2 hl⟩
end
theorem DenL.len {N:Nat→Prop} {bs:Bm} {w:World}:∀ {l:List SV} {vs:List Value},DenL N bs w l vs→vs.length=l.length
 | [],_,h=>by cases h; rfl
 | _::_,_,⟨_,_,e,_,_,h⟩=>by subst e; simp [DenL.len h]
theorem DenL.app {N:Nat→Prop} {bs:Bm} {w:World}:∀ {l m:List SV} {vs us:List Value},DenL N bs w l vs→DenL N bs w m us→DenL N bs w (l++m) (vs++us)
 | [],_,_,_,h,k=>by cases h; exact k
 | _::_,_,_,_,⟨v,r,e,ho,hd,hl⟩,k=>by subst e; exact ⟨v,_,rfl,ho,hd,DenL.app hl k⟩
theorem DenL.take {N:Nat→Prop} {bs:Bm} {w:World}:∀ (k:Nat) {l:List SV} {vs:List Value},DenL N bs w l vs→DenL N bs w (l.take k) (vs.take k)
 | 0,_,_,_=>by simp [DenL]
 | k+1,[],_,h=>by cases h; simp [DenL]
 | k+1,_::_,_,⟨v,r,e,ho,hd,hl⟩=>by subst e; exact ⟨v,_,rfl,ho,hd,DenL.take k hl⟩
theorem DenL.drop {N:Nat→Prop} {bs:Bm} {w:World}:∀ (k:Nat) {l:List SV} {vs:List Value},DenL N bs w l vs→DenL N bs w (l.drop k) (vs.drop k)
 | 0,_,_,h=>h
 | k+1,[],_,h=>by cases h; simp [DenL]
 | k+1,_::_,_,⟨v,r,e,ho,hd,hl⟩=>by subst e; exact DenL.drop k hl
theorem DenL.get {N:Nat→Prop} {bs:Bm} {w:World}:∀ {l:List SV} {vs:List Value},DenL N bs w l vs→∀ {k:Nat} {s:SV},l[k]? = some s→∃ v,vs[k]? = some v∧v.oneCell'=true∧Den N bs w s v
 | [],_,_,k,s,h=>by simp at h
 | x::l,_,⟨v,r,e,ho,hd,hl⟩,0,s,h=>by subst e; simp at h; subst h; exact ⟨v,rfl,ho,hd⟩
 | x::l,_,⟨v,r,e,ho,hd,hl⟩,k+1,s,h=>by subst e; simp at h; exact DenL.get hl (by simpa using h)
theorem DenT.get {N:Nat→Prop} {bs:Bm} {w:World}:∀ {l:List SV} {vs:List Value},DenT N bs w l vs→∀ {k:Nat} {s:SV},l[k]? = some s→∃ v,vs[k]? = some v∧Den N bs w s v
 | [],_,_,k,s,h=>by simp at h
 | x::l,_,⟨v,r,e,hd,hl⟩,0,s,h=>by subst e; simp at h; subst h; exact ⟨v,rfl,hd⟩
 | x::l,_,⟨v,r,e,hd,hl⟩,k+1,s,h=>by subst e; simp at h; exact DenT.get hl (by simpa using h)
theorem DenL.one {N:Nat→Prop} {bs:Bm} {w:World} {l:List SV} {vs:List Value} (h:DenL N bs w l vs):∀ v∈vs,v.oneCell'=true:=by
 induction l generalizing vs with
 | nil=>cases h; simp
 | cons s l ih =>
   obtain ⟨v,r,e,ho,hd,hl⟩:=h;subst e;intro x hx;rcases Xg.1 hx with rfl | hx
   · exact ho
   · exact ih hl x hx
def SV.cells:SV→Option (List SV)
 | .agg l=>some l
 | .c v=>some [.c v]
 | .row T n ex l=>some [.row T n ex l]
 | .sl b n=>some [.sl b n]
 | .sym i=>some [.sym i]
 | _=>none
omit [Syms] in
theorem aDD {v:Value} (h:v.oneCell'=true):v.cells=#[v]:=by cases v<;>first | rfl | cases h
theorem Den.cells {N:Nat→Prop} {bs:Bm} {w:World} {s:SV} {u:Value} {l:List SV} (h:Den N bs w s u) (hl:s.cells=some l):DenL N bs w l u.cells.toList:=by
 cases s with
 | c v =>
   cases hl
   obtain ⟨rfl,ho⟩:=h;rw [aDD ho];exact ⟨u,[],rfl,ho,⟨rfl,ho⟩,rfl⟩
 | agg l' =>
   cases hl
   obtain ⟨vs,rfl,h⟩:=h;exact h
 | row T n ex l' =>
   cases hl
   have h2:=h;obtain ⟨g,o,cap,cur,vs,rfl,_⟩:=h2;exact ⟨_,[],rfl,rfl,h,rfl⟩
 | sl b n =>
   cases hl
   have h2:=h;obtain ⟨g,cap,_,rfl,_⟩:=h2;exact ⟨_,[],rfl,rfl,h,rfl⟩
 | sym i =>
   cases hl
   obtain ⟨rfl,ho⟩:=id h;rw [aDD ho];exact ⟨_,[],rfl,ho,⟨rfl,ho⟩,rfl⟩
 | _=>cases hl
def ofV:Value→Option SV
 | .agg cs=>if cs.toList.all (·.oneCell') then some (.agg (cs.toList.map .c)) else none
 | .tuple _=>none
 | v=>some (.c v)
theorem aEx {N:Nat→Prop} {bs:Bm} {w:World}:∀ {l:List Value},(∀ v∈l,v.oneCell'=true)→DenL N bs w (l.map .c) l
 | [],_=>rfl
 | v::l,h=>⟨v,l,rfl,h v Qq,⟨rfl,h v Qq⟩,aEx fun x hx=>h x (Qv _ hx)⟩
theorem aDR {N:Nat→Prop} {bs:Bm} {w:World} {v:Value} {s:SV} (h:ofV v=some s):Den N bs w s v:=by
 cases v with
 | agg cs =>
   simp only [ofV] at h;split at h
   · rename_i hc;cases h
     exact ⟨cs.toList,by simp,aEx (by rw [Xk] at hc; exact hc)⟩
   · cases h
 | tuple=>cases h
 | _=>cases h; exact ⟨rfl,rfl⟩
def SV.toC:SV→Option Value
 | .c v=>some v
 | _=>none
def SV.toV:SV→Option Value
 | .c v=>some v
 | .agg l=>(l.mapM SV.toC).map fun vs=>.agg vs.toArray
 | _=>none
theorem aEf {N:Nat→Prop} {bs:Bm} {w:World}:∀ {l:List SV} {vs us:List Value},l.mapM SV.toC=some us→DenL N bs w l vs→vs=us
 | [],_,_,h,k=>by simp at h; subst h; exact k
 | s::l,_,us,h,⟨v,r,e,ho,hd,hl⟩=>by
   subst e;simp only [List.mapM_cons] at h;cases s with
   | c x =>
     cases hm:l.mapM SV.toC with
     | none=>simp [SV.toC,hm] at h
     | some m =>
       simp [SV.toC,hm] at h
       subst h;obtain ⟨rfl,_⟩:=hd;rw [aEf hm hl]
   | _=>simp [SV.toC] at h
theorem aFD {N:Nat→Prop} {bs:Bm} {w:World} {s:SV} {u v:Value} (h:Den N bs w s u) (hv:s.toV=some v):u=v:=by
 cases s with
 | c x=>cases hv; exact h.1
 | agg l =>
   simp only [SV.toV,Qr] at hv;obtain ⟨us,hm,rfl⟩:=hv;obtain ⟨vs,rfl,hl⟩:=h;rw [aEf hm hl]
 | _=>cases hv
def aCz (P:Program) {α:Type}:Sem α→Option α
 | .pure a=>some a
 | .program k=>aCz P (k P)
 | .mark _ k=>aCz P k
 | _=>none
omit [Syms] in
theorem aCK {P:Program} {α:Type} {w:World}:∀ {s:Sem α} {a:α},aCz P s=some a→s.run P w=.ok a w
 | .pure _,_,h=>by cases h; rfl
 | .program k,_,h=>aCK (s:=k P) h
 | .mark _ k,_,h=>aCK (s:=k) h
 | .load ..,_,h | .store ..,_,h | .new ..,_,h | .shape ..,_,h | .freeze ..,_,h | .frozen ..,_,h | .getObj ..,_,h | .setObj ..,_,h | .choose ..,_,h | .sys ..,_,h | .halt ..,_,h=>by cases h
def aCD {α:Type} (l:List α) (k:Nat) (m:List α):List α:=l.take k++(m++l.drop (k+m.length))
omit [Syms] in
theorem aEa {α:Type} {l m:List α} {k:Nat} {x:α} (h:k<l.length):aCD (l.set k x) (k+1) m=aCD l k (x::m):=by
 unfold aCD;rw [Qo,List.take_set,List.set_eq_of_length_le (by rw [Qt]; omega),List.drop_set_of_lt om];simp [h,Nat.add_comm,Nat.add_left_comm]
def aDI (place:Nat→Option (Nat × Nat)) (cells:List SV):List (Nat × SV)→Option (List SV)
 | []=>some cells
 | (i,s)::r =>
   match place i,s.cells with
   | some (off,size),some cs=>bif cs.length == size && Nat.ble (off+cs.length) cells.length then aDI place (aCD cells off cs) r else none
   | _,_=>none
omit [Syms] in
theorem aET (cs:List Value):∀ (j off:Nat) (cur:Array Value),off+j+cs.length≤cur.size→((cs.zipIdx j).foldl (fun cs (x:Value × Nat)=>cs.setIfInBounds (off+x.2) x.1) cur).toList=aCD cur.toList (off+j) cs:=by
 induction cs with
 | nil=>intro j off cur h; simp [aCD]
 | cons v cs ih =>
   intro j off cur h;simp only [Qp] at h;simp only [List.zipIdx_cons,List.foldl_cons];rw [ih (j+1) off _ (by rw [Array.size_setIfInBounds]; omega),Array.toList_setIfInBounds,←Yb,aEa (by simpa using (by omega:off+j<cur.size))]
theorem DenL.ovr {N:Nat→Prop} {bs:Bm} {w:World} {l m:List SV} {vs us:List Value} (h:DenL N bs w l vs) (k:DenL N bs w m us) (o:Nat):DenL N bs w (aCD l o m) (aCD vs o us):=by
 unfold aCD;rw [k.len];exact (h.take o).app (k.app (h.drop _))
theorem aCU {N:Nat→Prop} {bs:Bm} {w:World} {place:Nat→Option (Nat × Nat)} {e:Operand→Value} {ρ:Operand→Option SV} (H:∀ x s,ρ x=some s→Den N bs w s (e x)) :
 ∀ (ps:List (Nat × Operand)) (qs:List (Nat × SV)) (l l':List SV) (cur:Array Value),ps.mapM (fun p=>(ρ p.2).map fun s=>(p.1,s))=some qs→DenL N bs w l cur.toList→aDI place l qs=some l' →
  ∃ cur',Instr.fill place cur (ps.map fun p=>(p.1,e p.2))=some cur'∧DenL N bs w l' cur'.toList
 | [],qs,l,l',cur,hq,hl,hf=>by
   simp at hq; subst hq; cases hf
   exact ⟨cur,rfl,hl⟩
 | (i,x)::ps,qs,l,l',cur,hq,hl,hf=>by
   simp only [List.mapM_cons] at hq;cases hx:ρ x with
   | none=>simp [hx] at hq
   | some s =>
     cases hm:ps.mapM (fun p=>(ρ p.2).map fun s=>(p.1,s)) with
     | none=>simp [hx,hm] at hq
     | some qs' =>
       simp [hx,hm] at hq
       subst hq;unfold aDI at hf;cases hp:place i with
       | none=>simp [hp] at hf
       | some p =>
         cases hc:s.cells with
         | none=>simp [hp,hc] at hf
         | some cs =>
           simp only [hp,hc] at hf;cases hb:(cs.length == p.2 && Nat.ble (p.1+cs.length) l.length) with
           | false=>simp [hb] at hf
           | true =>
             simp only [hb,cond_true] at hf;simp only [Qe,Yq,Nat.ble_eq] at hb;have hd:=(H _ _ hx).cells hc;have hlen:=hd.len;have hll:=hl.len;have hz:(e x).cells.size=cs.length:=by simpa using hlen
             have hzz:cur.size=l.length:=by simpa using hll
             have hfold:((e x).cells.zipIdx.foldl (fun cs (c,j)=>cs.setIfInBounds (p.1+j) c) cur).toList=aCD cur.toList p.1 (e x).cells.toList:=by
              have:=aET (e x).cells.toList 0 p.1 cur (by simp; omega)
              rw [Xu] at this;rw [←this,←Array.foldl_toList];simp
             have hdl:DenL N bs w (aCD l p.1 cs) ((e x).cells.zipIdx.foldl (fun cs (c,j)=>cs.setIfInBounds (p.1+j) c) cur).toList:=by rw [hfold]; exact hl.ovr hd _
             obtain ⟨cur',h1,h2⟩:=aCU H ps qs' _ l' _ hm hdl hf;refine ⟨cur',?_,h2⟩;simp only [Xt,Instr.fill,hp];rw [if_neg (by simp; omega)];exact h1
inductive EEff where
 | val (s:SV)
 | new (T:TypeId) (l:List SV) (r:Option Nat)
 | store (b k:Nat) (l:List SV)
 | call (f:FuncId) (l:List SV)
def aDh (z:Value):Option (List SV):=bif z.cells.toList.all (·.oneCell') then some (z.cells.toList.map .c) else none
theorem aCN {N:Nat→Prop} {bs:Bm} {w:World} {z:Value} {l:List SV} (h:aDh z=some l):DenL N bs w l z.cells.toList:=by
 unfold aDh at h;cases hb:z.cells.toList.all (·.oneCell') with
 | false=>rw [hb] at h; cases h
 | true =>
   rw [hb] at h;cases h
   exact aEx (by rw [Xk] at hb; exact hb)
def aDa (P:Program) (t:TypeId) (cs:List SV) (k:Nat):Option SV :=
 match P.underlying t,P.info? t with
 | some d,some i=>bif d.isRow then (bif Nat.ble (k+i.size) cs.length then some (.agg ((cs.drop k).take i.size)) else none) else cs[k]?
 | _,_=>none
def aDV (P:Program) (t:TypeId) (parts:List (Nat × SV)):Option (List SV) :=
 match P.info? t,P.underlying t with
 | some it,some (.array _ e) =>
   match it.zero.bind aDh,P.info? e with
   | some z,some ie=>aDI (fun i=>some (i*ie.size,ie.size)) z parts
   | _,_=>none
 | some it,some (.struct fields) =>
   match it.zero.bind aDh,fields.toList.mapM (fun f=>(P.info? f.type).map fun i=>(f.offset,i.size)) with
   | some z,some places=>aDI (places.toArray[·]?) z parts
   | _,_=>none
 | _,_=>none
def aFp (P:Program) (t:TypeId) (len:Nat) (parts:List (Nat × SV)):Option (TypeId × List SV) :=
 match P.underlying t with
 | some (.slice e) =>
   match P.info? e with
   | some ie=>bif len == 0 && parts.isEmpty then some (e,[]) else
     match ie.zero.bind aDh with
     | some z=>bif Nat.ble (len*ie.size) 1000 && !(len*ie.size == 0) && z.length == ie.size then (aDI (fun i=>some (i*ie.size,ie.size)) ((List.range len).flatMap fun _=>z) parts).map fun l=>(e,l) else none
     | none=>none
   | none=>none
 | _=>none
def aFJ:SV→Option (Nat × Bool × List SV)
 | .row _ n ex l=>some (n,ex,l)
 | .c (.slice none 0 0)=>some (0,true,[])
 | _=>none
def aFu (P:Program) (t:TypeId) (x y:SV):Option EEff :=
 match P.underlying t with
 | some (.slice e) =>
   match P.info? e,aFJ x,aFJ y with
   | some ie,some (n,ex,l),some (m,_,l') =>
     bif m == 0 then some (.val x)
     else bif ex && ie.zero.isSome && l.length == n*ie.size && l'.length == m*ie.size && Nat.ble ie.bytes 100000 && Nat.ble (n+m) 100 then some (.new e (l++l') (some (n+m))) else none
   | _,_,_=>none
 | _=>none
def aGk (P:Program) (t:TypeId) (x:SV):Option SV :=
 match P.underlying t,x with
 | some (.slice _),.row _ n _ _=>some (.c (.int .i64 n))
 | some (.slice _),.sl _ n=>some (.c (.int .i64 n))
 | some (.slice _),.c (.slice _ n _)=>some (.c (.int .i64 n))
 | some .string,.c (.string s)=>some (.c (goInt s.size))
 | _,_=>none
def aCV (ρ:Operand→Option SV) (ps:Array (Nat × Operand)):Option (List (Nat × SV)):=ps.toList.mapM fun p=>(ρ p.2).map fun s=>(p.1,s)
def pv (ρ:Operand→Option SV) (x:Operand):Option Value:=(ρ x).bind SV.toV
def aEK (P:Program) (s:TypeId) (f:Nat):Option Nat :=
 match P.underlying s with
 | some (.struct fs)=>match fs[f]? with
   | some fd=>match P.info? fd.type with
     | some i=>bif i.size == 0 then none else some fd.offset
     | none=>none
   | none=>none
 | _=>none
abbrev aFC:=BinOp→TypeId→SV→SV→Option SV
def aGl (bn:aFC) (ρ:Operand→Option SV) (op:BinOp) (t:TypeId) (x y:Operand):Option SV:=(ρ x).bind fun a=>(ρ y).bind fun b=>bn op t a b
def aGn (P:Program) (bn:aFC):Prop:=∀ op t a b r,bn op t a b=some r→∀ (N:Nat→Prop) bs w u v (x y:Operand),Den N bs w a u→Den N bs w b v→∃ z,((do eqGuard op t x y u v; binOp op t u v):Sem Value).run P w=.ok z w∧Den N bs w r z
def aDT (P:Program) (bn:aFC) (ρ:Operand→Option SV) (bx:Nat→Option (List SV)) (o:Oper):Option EEff :=
 match o.op with
 | .move x | .assign x=>(ρ x).map .val
 | .pick c a b=>match ρ c with
   | some (.c (.bool t))=>(ρ (bif t then a else b)).map .val
   | _=>none
 | .alloc T=>((P.info? T).bind (·.zero)).bind fun z=>(aDh z).map fun l=>.new T l none
 | .box T x=>((ρ x).bind SV.cells).map fun l=>.new T l none
 | .build t ps=>((aCV ρ ps).bind (aDV P t)).map fun l=>.val (.agg l)
 | .buildSlice t n ps=>((aCV ρ ps).bind (aFp P t n)).map fun x=>.val (.row x.1 n true x.2)
 | .load t a=>match ρ a with
   | some (.ptr b k)=>(bx b).bind fun l=>(aDa P t l k).map .val
   | some (.elt _ l k)=>(aDa P t l k).map .val
   | _=>none
 | .store t a x=>match ρ a with
   | some (.ptr b k)=>((ρ x).bind SV.cells).bind fun l=>(bx b).bind fun l0=>bif ((P.info? t).map (·.size)) == some l.length && Nat.ble (k+l.length) l0.length then some (.store b k l) else none
   | _=>none
 | .fieldAddr s x f=>match ρ x with
   | some (.ptr b k)=>(aEK P s f).map fun n=>.val (.ptr b (k+n))
   | some (.elt T l k)=>(aEK P s f).map fun n=>.val (.elt T l (k+n))
   | _=>none
 | .indexAddr t x i=>match P.underlying t,pv ρ i with
   | some (.slice e),some (.int _ k)=>match P.info? e with
     | some ie=>match ρ x with
       | some (.row T n _ l)=>bif decide (0≤k) && decide (k<n) then some (.val (.elt T l (k.toNat*ie.size))) else none
       | some (.sl b n)=>bif decide (0≤k) && decide (k<n) then some (.val (.ptr b (k.toNat*ie.size))) else none
       | _=>none
     | none=>none
   | _,_=>none
 | .extract x i=>match ρ x with
   | some (.tup l)=>l[i]?.map .val
   | _=>none
 | .binOp op t x y _=>match aGl bn ρ op t x y with
   | some r=>some (.val r)
   | none=>(pv ρ x).bind fun u=>(pv ρ y).bind fun v=>((aCz P (do eqGuard op t x y u v; binOp op t u v)).bind ofV).map .val
 | .unOp op _ x=>(pv ρ x).bind fun u=>((aCz P (Op.unary op u)).bind ofV).map .val
 | .convert s d x=>(pv ρ x).bind fun u=>((aCz P (convert s d u)).bind ofV).map .val
 | .index t x i=>(pv ρ x).bind fun u=>(pv ρ i).bind fun v=>((aCz P (Instr.index t u v)).bind ofV).map .val
 | .call c=>match c.callee with
   | .value (.func f)=>(c.args.toList.mapM ρ).map (.call f)
   | .builtin .append=>match c.args.toList,c.argTypes.toList with
     | [x,y],[t,t']=>bif t == t' then (ρ x).bind fun x=>(ρ y).bind (aFu P t x) else none
     | _,_=>none
   | .builtin .len=>match c.args.toList,c.argTypes.toList with
     | [x],[t]=>((ρ x).bind (aGk P t)).map .val
     | _,_=>none
   | _=>none
 | _=>none
def aEN (P:Program) (N:Nat→Prop) (bs:Bm) (w:World) (bx:Nat→Option (List SV)) (o:Oper) (e:Operand→Value):EEff→Prop
 | .val s=>∃ v w',(execOp e o).run P w=.ok (.value v) w'∧Below w.heap.size w w'∧Den N bs w' s v
 | .new T l r=>∃ v w' cur vs,(execOp e o).run P w=.ok (.value v) w'∧Below w.heap.size w w'∧w'.heap[w.heap.size]? = some (.cells cur T (0,0))∧vs <+: cur.toList∧DenL N bs w l vs ∧
  (match r with | none=>v=.pointer (some ⟨w.heap.size,0,none⟩) | some n=>∃ cap,v=.slice (some ⟨w.heap.size,0,none⟩) n cap∧n≤cap)
 | .store b k l=>∃ g vs,bs b=some g∧(execOp e o).run P w=.ok .skip (w.setCells g k vs)∧DenL N bs w l vs∧∃ l0,bx b=some l0∧k+l.length≤l0.length
 | .call f l=>∃ vs,(execOp e o).run P w=.ok (.enter f vs.toArray) w∧DenT N bs w l vs
def aEl (N:Nat→Prop) (bs:Bm) (w:World) (bx:Nat→Option (List SV)):Prop :=
 ∀ b l g,bx b=some l→bs b=some g→∃ T cur vs,w.heap[g]? = some (.cells cur T (0,0))∧vs <+: cur.toList∧DenL N bs w l vs
section
variable {P:Program} {N:Nat→Prop} {bs:Bm} {w:World} {e:Operand→Value} {ρ:Operand→Option SV} {bx:Nat→Option (List SV)} {o:Oper}
theorem aDj (H:∀ x s,ρ x=some s→Den N bs w s (e x)) {x:Operand} {v:Value} (h:pv ρ x=some v):e x=v:=by
 unfold pv at h;cases hx:ρ x with
 | none=>rw [hx] at h; cases h
 | some s=>rw [hx] at h; exact aFD (H _ _ hx) h
theorem aCu {v:Value} {s:SV} (hr:(execOp e o).run P w=.ok (.value v) w) (hd:Den N bs w s v):aEN P N bs w bx o e (.val s):=⟨v,w,hr,Below.refl _ _,hd⟩
theorem aDg {m:Sem Value} {E:EEff} (hm:execOp e o=(do pure (.value (←m)))) (h:((aCz P m).bind ofV).map EEff.val=some E):aEN P N bs w bx o e E:=by
 cases hp:aCz P m with
 | none=>rw [hp] at h; cases h
 | some v =>
   rw [hp] at h;cases hs:ofV v with
   | none=>simp [hs] at h
   | some s =>
     simp [hs] at h
     subst h;refine aCu (v:=v) ?_ (aDR hs);rw [hm];simp [aCK (w:=w) hp]
theorem aEc {t:TypeId} {g o k:Nat} {cur:Array Value} {T:TypeId} {l:List SV} {vs:List Value} {s:SV} (hg:w.heap[g]? = some (.cells cur T (0,0))) (hp:vs <+: cur.toList.drop o) (hl:DenL N bs w l vs) (h:aDa P t l k=some s) :
 ∃ v,(Instr.loadAt t (.pointer (some ⟨g,o+k,none⟩))).run P w=.ok v w∧Den N bs w s v:=by
 have hcell:∀ j v,vs[j]? = some v→w.cell? ⟨g,o+j,none⟩=some v:=fun j v hv=>by
  obtain ⟨r,hr⟩:=hp
  have:cur[o+j]? = some v:=by
   rw [←Xo,←Yh,←hr,Yi (Qd.1 hv).1,hv]
  simp [World.cell?,hg,this]
 unfold aDa at h;cases hu:P.underlying t with
 | none=>simp [hu] at h
 | some d =>
   cases hi:P.info? t with
   | none=>simp [hu,hi] at h
   | some i =>
     simp only [hu,hi] at h;cases hd:d.isRow with
     | true =>
       simp only [hd,cond_true] at h;cases hb:Nat.ble (k+i.size) l.length with
       | false=>simp [hb] at h
       | true =>
         simp only [hb,cond_true,Option.some.injEq] at h;subst h;have hlen:=hl.len;have hle:=Nat.le_of_ble_eq_true hb;refine ⟨_,run_loadAt_mid (P:=P) w g (o+k) t ((vs.drop k).take i.size) d (fun j v hv=>?_) hu hd (by simp [hi]; omega),⟨_,rfl,(hl.drop k).take i.size⟩⟩;rw [List.getElem?_take] at hv;split at hv
         · rw [Yh] at hv; rw [Yb]; exact hcell _ _ hv
         · cases hv
     | false =>
       simp only [hd,cond_false] at h;obtain ⟨v,hv,ho,hdn⟩:=hl.get h;refine ⟨v,?_,hdn⟩;have hagg:(isAgg t).run P w=.ok false w:=by
        unfold isAgg;rw [Sem.run_bind,run_underlying hu w];cases d<;>simp_all
       simp [Instr.loadAt,Instr.sureAddr,loadVar,Sem.run_bind,hagg,hcell _ _ hv]
theorem aEA {t:TypeId} {g k:Nat} {cur:Array Value} {T:TypeId} {l:List SV} {vs:List Value} {s:SV} (hg:w.heap[g]? = some (.cells cur T (0,0))) (hp:vs <+: cur.toList) (hl:DenL N bs w l vs) (h:aDa P t l k=some s) :
 ∃ v,(Instr.loadAt t (.pointer (some ⟨g,k,none⟩))).run P w=.ok v w∧Den N bs w s v:=by
 have:=aEc (P:=P) (o:=0) hg (by rw [List.drop_zero]; exact hp) hl h
 rwa [Xb] at this
end
section
variable {P:Program} {N:Nat→Prop} {bs:Bm} {w:World} {e:Operand→Value} {ρ:Operand→Option SV} {bx:Nat→Option (List SV)} {o:Oper}
def aDz (P:Program) (f:FuncId):Prop:=∀ (args:Array Value) (w:World),(callFunc f args).run P w=.ok (.enter f args) w
omit [Syms] in
theorem aDm (N:Nat→Prop) (w:World):aCM N N w w:=fun _ _ h k=>⟨h,k⟩
omit [Syms] in
theorem aCy {w':World} (h:Below w w w'):aCM N N w w':=fun g _ hn hg=>⟨hn,(h.block g (Ql.1 hg).1).trans hg⟩
omit [Syms] in
theorem aCG (w:World) (o:Obj):(w.alloc o).heap[w.heap.size]? = some o:=by show (w.heap.push o)[w.heap.size]? = _; simp
theorem aEi (H:∀ x s,ρ x=some s→Den N bs w s (e x)):∀ (xs:List Operand) (l:List SV),xs.mapM ρ=some l→DenT N bs w l (xs.map e)
 | [],l,h=>by simp at h; subst h; rfl
 | x::xs,l,h=>by
   simp only [List.mapM_cons] at h;cases hx:ρ x with
   | none=>simp [hx] at h
   | some s =>
     cases hm:xs.mapM ρ with
     | none=>simp [hx,hm] at h
     | some m =>
       simp [hx,hm] at h
       subst h;exact ⟨e x,_,rfl,H _ _ hx,aEi H xs m hm⟩
theorem aDW (H:aEl N bs w bx) {b k:Nat} {l:List SV} {u:Value} (hb:bx b=some l) (hu:Den N bs w (.ptr b k) u):∃ g T cur vs,bs b=some g∧u=.pointer (some ⟨g,k,none⟩)∧w.heap[g]? = some (.cells cur T (0,0))∧vs <+: cur.toList∧DenL N bs w l vs:=by
 obtain ⟨g,h4,h5⟩:=hu;obtain ⟨T,cur,vs,h1,h2,h3⟩:=H b l g hb h4;exact ⟨g,T,cur,vs,h4,h5,h1,h2,h3⟩
omit [Syms] in
theorem aEV {t:TypeId} {i:TypeInfo} {z:Value} (hi:P.info? t=some i) (hz:i.zero=some z):(zeroValue t).run P w=.ok z w:=by simp [zeroValue,typeInfo,hi,hz]
omit [Syms] in
theorem aDJ {s:TypeId} {f n g k:Nat} (h:aEK P s f=some n):(Instr.fieldAt s (.pointer (some ⟨g,k,none⟩)) f).run P w=.ok (.pointer (some ⟨g,k+n,none⟩)) w:=by
 unfold aEK at h;split at h
 · rename_i fs hu;split at h
   · rename_i fd hf;split at h
     · rename_i i hi;cases hb:i.size == 0 with
       | true=>simp [hb] at h
       | false =>
         simp only [hb,cond_false,Option.some.injEq] at h;subst h;have hne:i.size≠0:=by simpa using hb
         simp [Instr.fieldAt,run_underlying hu,hf,Instr.sureAddr,fieldPlace,sizeOf,typeInfo,hi,hne,Addr.add_mid]
     · cases h
   · cases h
 · cases h
omit [Syms] in
theorem aDG {t e':TypeId} {ie:TypeInfo} {g o n cap:Nat} {q:IntKind} {k:Int} (hu:P.underlying t=some (.slice e')) (hi:P.info? e'=some ie) (h0:0≤k) (h1:k<n) :
 (Instr.indexAt t (.slice (some ⟨g,o,none⟩) n cap) (.int q k)).run P w=.ok (.pointer (some ⟨g,o+k.toNat*ie.size,none⟩)) w:=by
 simp [Instr.indexAt,asIntOf,run_underlying hu,h0,h1,sizeOf,typeInfo,hi,Addr.add_mid]
omit [Syms] in
theorem aEO {t:TypeId} {g k:Nat} {T:TypeId} {cur:Array Value} {u:Value} (hg:w.heap[g]? = some (.cells cur T (0,0))) (hs:(P.info? t).map (·.size)=some u.cells.size) (h1:∀ v∈u.cells.toList,v.oneCell'=true) (hb:k+u.cells.size≤cur.size) :
 (Instr.storeAt t (.pointer (some ⟨g,k,none⟩)) u).run P w=.ok () (w.setCells g k u.cells.toList):=by
 have hc:∀ j,j<u.cells.toList.length→(w.cell? ⟨g,k+0+j,none⟩).isSome=true:=fun j hj=>by
  simp at hj
  have:k+j<cur.size:=om
  simp [World.cell?,hg,this]
 have:=run_storeCells_cells (P:=P) g k u.cells.toList 0 w hc (fun j hj=>by simp [World.frozen?,hg]) h1
 cases hq:P.info? t with
 | none=>simp [hq] at hs
 | some i =>
   have hss:u.cells.size=i.size:=by simp [hq] at hs; omega
   simp only [Xu] at this;simp [Instr.storeAt,Instr.sureAddr,storeVar,sizeOf,typeInfo,hq,hss,this]
theorem aDP {x:SV} {n:Nat} {ex:Bool} {l:List SV} {u:Value} (hx:aFJ x=some (n,ex,l)) (h:Den N bs w x u) :
 (n=0∧l=[]∧u=.slice none 0 0)∨∃ g o cap vs,u=.slice (some ⟨g,o,none⟩) n cap∧n≤cap∧(ex=true→cap=n)∧DenL N bs w l vs∧∀ j v,vs[j]? = some v→w.cell? ((⟨g,o,none⟩:Addr).add j)=some v:=by
 unfold aFJ at hx;split at hx
 · cases hx
   obtain ⟨g,o,cap,cur,vs,h1,_,h3,h4,h5,h6,h7⟩:=h;refine .inr ⟨g,o,cap,vs,h1,h7,h6,h5,fun j v hv=>?_⟩;obtain ⟨r,hr⟩:=h4
   have:cur[o+j]? = some v:=by rw [←Xo,←Yh,←hr,Yi (Qd.1 hv).1,hv]
   rw [Addr.add_mid];simp [World.cell?,h3,this]
 · cases hx
   exact .inl ⟨rfl,rfl,h.1⟩
 · cases hx
omit [Syms] in
theorem aFB {t t' e' ty:TypeId} {ie:TypeInfo} (hu:P.underlying t=some (.slice e')) (hu':P.underlying t'=some (.slice e')) (hi:P.info? e'=some ie) {a b:Option Addr} {n c c':Nat} (hn:n≤c) :
 (Builtin.append_ #[t,t'] ty #[.slice a n c,.slice b 0 c']).run P w=.ok (.slice a n c) w:=by
 have hf:∀ w,(Builtin.firstCells ie.size 0 (.slice b 0 c')).run P w=.ok #[] w:=fun w=>by
  cases b with
  | none=>simp [Builtin.firstCells]
  | some b=>simp [Builtin.firstCells,loadCells,loadCellsFrom]
 cases a with
 | none=>simp [Builtin.append_,run_underlying hu,run_underlying hu',sizeOf,typeInfo,hi,Builtin.lenOf,hn,hf]
 | some a=>simp [Builtin.append_,run_underlying hu,run_underlying hu',sizeOf,typeInfo,hi,Builtin.lenOf,hn,hf,storeCells]
theorem aGI {t ty:TypeId} {x y:SV} {u v:Value} {E:EEff} (hx:Den N bs w x u) (hy:Den N bs w y v) (h:aFu P t x y=some E) (hr:∀ z w',(Builtin.append_ #[t,t] ty #[u,v]).run P w=.ok z w'→(execOp e o).run P w=.ok (.value z) w'):aEN P N bs w bx o e E:=by
 unfold aFu at h;split at h
 · rename_i e' hu;split at h
   · rename_i ie n ex l m ex' l' hi h1 h2;cases hm:m == 0 with
     | true =>
       rw [hm] at h;cases h
       have hm0:m=0:=by simpa using hm
       subst hm0;obtain ⟨a,n',c,rfl,hnc⟩:∃ a n' c,u=.slice a n' c∧n'≤c:=by
        rcases aDP h1 hx with ⟨_,_,h⟩ | ⟨g,o,cap,vs,h,hc,_⟩
        · exact ⟨_,_,_,h,Qk _⟩
        · exact ⟨_,_,_,h,hc⟩
       obtain ⟨b,c',rfl⟩:∃ b c',v=.slice b 0 c':=by
        rcases aDP h2 hy with ⟨_,_,h⟩ | ⟨g,o,cap,vs,h,_⟩
        · exact ⟨_,_,h⟩
        · exact ⟨_,_,h⟩
       exact ⟨_,w,hr _ _ (aFB hu hu hi hnc),Below.refl _ _,hx⟩
     | false =>
       rw [hm] at h;cases hb:(ex && ie.zero.isSome && l.length == n*ie.size && l'.length == m*ie.size && Nat.ble ie.bytes 100000 && Nat.ble (n+m) 100) with
       | false=>rw [hb] at h; cases h
       | true =>
         rw [hb] at h;cases h
         simp only [Qe,Yq,Nat.ble_eq,Ys] at hb;obtain ⟨⟨⟨⟨⟨hex,z,hz⟩,hl⟩,hl'⟩,hb1⟩,hb2⟩:=hb;have hm0:m≠0:=by simpa using hm
         rcases aDP h2 hy with ⟨h,_⟩ | ⟨g',o',cap',vs',rfl,hc',_,hd',hcell'⟩
         · exact absurd h hm0
         · have hlv':vs'.length=m*ie.size:=by rw [hd'.len,hl']
           rcases aDP h1 hx with ⟨h,h',rfl⟩ | ⟨g,o,cap,vs,rfl,hc,hcap,hd,hcell⟩
           · subst h h';have hrun:=run_append_nil (P:=P) (w:=w) t ty e' ie z hu hi hz ⟨g',o',none⟩ m cap' vs' hlv' hcell' om om (Qn (Nat.mul_le_mul (show m≤100 by omega) hb1) dc);have hcm:m≤grownCap w m 0 e':=Nat.le_add_right _ _;refine ⟨_,_,_,vs',hr _ _ hrun,(Below.drew br).alloc lr _,aCG w.drew _,⟨(Builtin.zeroCells z.cells (grownCap w m 0 e' - m)).toList,by simp⟩,by simpa using hd',grownCap w m 0 e',by rw [Xb],om⟩
           · have hlv:vs.length=n*ie.size:=by rw [hd.len,hl]
             have hcn:=hcap hex;subst hcn;have hnext:Builtin.nextslicecap (cap+m) cap*ie.bytes≤281474976710656:=by
              have h1:Builtin.nextslicecap (cap+m) cap≤200:=by
               unfold Builtin.nextslicecap;split
               · omega
               · rw [if_pos om]; omega
              exact Qn (Nat.mul_le_mul h1 hb1) dc
             have hrun:=run_append_grow (P:=P) (w:=w) t ty e' ie z hu hi hz ⟨g,o,none⟩ cap cap vs hlv hcell ⟨g',o',none⟩ m cap' vs' hlv' hcell' om om hnext;have hcm:cap+m≤grownCap w (cap+m) cap e':=Nat.le_add_right _ _;refine ⟨_,_,_,vs++vs',hr _ _ hrun,(Below.drew br).alloc lr _,aCG w.drew _,⟨(Builtin.zeroCells z.cells (grownCap w (cap+m) cap e' - (cap+m))).toList,by simp⟩,hd.app hd',grownCap w (cap+m) cap e',rfl,hcm⟩
   · cases h
 · cases h
omit [Syms] in
theorem aNC {p:Prop} (h:p:=by
 rename_i x ho;simp only [Qr] at h;obtain ⟨s,hs,rfl⟩:=h;exact aCu (by simp [execOp,ho]) (H _ _ hs)):p:=h
theorem aCW {bn:aFC} (hbn:aGn P bn) (hfun:∀ f,e (.func f)=.func (.func f) #[] #[]) (hcall:∀ f l,aDT P bn ρ bx o=some (.call f l)→aDz P f) (hN:∀ g,w.heap.size≤g→N g) (H:∀ x s,ρ x=some s→Den N bs w s (e x)) (HB:aEl N bs w bx) {E:EEff} (h:aDT P bn ρ bx o=some E):aEN P N bs w bx o e E:=by
 unfold aDT at h;split at h
 · exact aNC
 · exact aNC
 · rename_i c a b ho;split at h
   · rename_i t hc;simp only [Qr] at h;obtain ⟨s,hs,rfl⟩:=h;have h1:=(H _ _ hc).1;cases t
     · exact aCu (v:=e b) (by simp [execOp,ho,h1,asBool]) (H _ _ hs)
     · exact aCu (v:=e a) (by simp [execOp,ho,h1,asBool]) (H _ _ hs)
   · cases h
 · rename_i T ho;cases hi:P.info? T with
   | none=>simp [hi] at h
   | some i =>
     cases hz:i.zero with
     | none=>simp [hi,hz] at h
     | some z =>
       cases hl:aDh z with
       | none=>simp [hi,hz,hl] at h
       | some l =>
         simp [hi,hz,hl] at h
         subst h;exact ⟨_,w.alloc (.cells z.cells T),z.cells,z.cells.toList,by simp [execOp,ho,Instr.alloc,aEV hi hz,newVar,newRow],br.alloc lr _,aCG _ _,List.prefix_refl _,aCN hl,rfl⟩
 · rename_i T x ho;cases hx:ρ x with
   | none=>simp [hx] at h
   | some s =>
     cases hc:s.cells with
     | none=>simp [hx,hc] at h
     | some l =>
       simp [hx,hc] at h
       subst h;exact ⟨_,w.alloc (.cells (e x).cells T),(e x).cells,(e x).cells.toList,by simp [execOp,ho,Instr.box,newVar,newRow],br.alloc lr _,aCG _ _,List.prefix_refl _,(H _ _ hx).cells hc,rfl⟩
 · rename_i t ps ho;cases hp:aCV ρ ps with
   | none=>simp [hp] at h
   | some qs =>
     cases hl:aDV P t qs with
     | none=>simp [hp,hl] at h
     | some l =>
       simp [hp,hl] at h
       subst h;have key:∃ cur,P.built t (ps.toList.map fun p=>(p.1,e p.2))=some cur∧DenL N bs w l cur.toList:=by
        unfold aDV at hl;unfold Program.built;split at hl
        · rename_i it e' hit hu;split at hl
          · rename_i z ie hz hie;simp only [Xe] at hz;obtain ⟨z0,hz0,hz1⟩:=hz;simp only [hit,hu,hz0,hie];exact aCU H _ _ _ _ _ hp (aCN hz1) hl
          · cases hl
        · rename_i it fs hit hu;split at hl
          · rename_i z places hz hpl;simp only [Xe] at hz;obtain ⟨z0,hz0,hz1⟩:=hz;simp only [hit,hu,hz0,hpl];exact aCU H _ _ _ _ _ hp (aCN hz1) hl
          · cases hl
        · cases hl
       obtain ⟨cur,h1,h2⟩:=key;refine aCu (v:=.agg cur) ?_ ⟨cur.toList,by simp,h2⟩
       have:=run_build (P:=P) w t (ps.map fun (i,x)=>(i,e x)) cur (by rw [Array.toList_map]; exact h1)
       simp [execOp,ho,this]
 · rename_i t n ps ho;cases hp:aCV ρ ps with
   | none=>simp [hp] at h
   | some qs =>
     cases hl:aFp P t n qs with
     | none=>simp [hp,hl] at h
     | some x =>
       simp [hp,hl] at h
       subst h;unfold aFp at hl;split at hl
       · rename_i e' hu;split at hl
         · rename_i ie hie;cases hem:(n == 0 && qs.isEmpty) with
           | true =>
             rw [hem] at hl;cases hl
             simp only [Qe,Yq,List.isEmpty_iff] at hem;obtain ⟨rfl,rfl⟩:=hem;have hps:ps.toList=[]:=by
              unfold aCV at hp;cases hq:ps.toList with
              | nil=>rfl
              | cons y ys =>
                rw [hq] at hp;simp only [List.mapM_cons] at hp;cases hy:(ρ y.2) with
                | none=>simp [hy] at hp
                | some s =>
                  cases hm:ys.mapM (fun p=>(ρ p.2).map fun s=>(p.1,s)) with
                  | none=>simp [hy,hm] at hp
                  | some m=>simp [hy,hm] at hp
             have hbl:Below w w (w.alloc (.cells #[] e')):=br.alloc lr _;have hr:(Instr.buildSlice t 0 (ps.map fun (i,x)=>(i,e x))).run P w=.ok (.slice w 0 0) (w.alloc (.cells #[] e')):=by
              have hr0:Array.range 0=#[]:=rfl;simp [Instr.buildSlice,run_underlying hu,sizeOf,typeInfo,hie,hps,hr0,Instr.fill,newRow]
             exact ⟨_,_,by simp [execOp,ho,hr],hbl,w.heap.size,0,0,#[],[],rfl,hN _ lr,aCG _ _,List.prefix_refl _,rfl,fun _=>rfl,Qk _⟩
           | false =>
           rw [hem] at hl;simp only [cond_false] at hl;split at hl
           · rename_i z hz;simp only [Xe] at hz;obtain ⟨z0,hz0,hz1⟩:=hz;cases hb:(Nat.ble (n*ie.size) 1000 && !(n*ie.size == 0) && z.length == ie.size) with
             | false=>simp [hb] at hl
             | true =>
               simp only [hb,cond_true,Qr] at hl;obtain ⟨l,hf,rfl⟩:=hl;simp only [Qe,Nat.ble_eq,Yq,Bool.not_eq_true',Xd] at hb;obtain ⟨⟨hb1,hb2⟩,hb3⟩:=hb;have hzd:=aCN (N:=N) (bs:=bs) (w:=w) hz1;have hzl:z0.cells.size=ie.size:=by have:=hzd.len; simp at this; omega
               have hrep:∀ m,((Array.range (m*ie.size)).map (z0.cells[· % z0.cells.size]!)).toList=(List.range m).flatMap fun _=>z0.cells.toList:=by
                intro m;induction m with
                | zero=>simp
                | succ m ih =>
                  rw [Yw,List.flatMap_append,←ih];have hr:Array.range ((m+1)*ie.size)=Array.range (m*ie.size)++(Array.range ie.size).map (m*ie.size+·):=by
                   rw [Zc,Array.range_add]
                  rw [hr,Array.map_append,Array.toList_append];congr 1
                  simp only [Xz,List.flatMap_nil,Zd,Array.toList_map,Array.toList_range,Zk];apply List.ext_getElem
                  · simp [hzl]
                  · intro i h1 h2;simp at h1 h2
                    simp [hzl,Nat.mul_add_mod_self_right,Nat.mod_eq_of_lt (show i<ie.size by omega)]
                    rw [getElem!_pos z0.cells i h2]
               have hrd:∀ m,DenL N bs w ((List.range m).flatMap fun _=>z) ((List.range m).flatMap fun _=>z0.cells.toList):=by
                intro m;induction m with
                | zero=>rfl
                | succ m ih=>rw [Yw,List.flatMap_append,List.flatMap_append]; exact ih.app (by simpa using hzd)
               obtain ⟨cur,h1,h2⟩:=aCU H _ _ _ _ ((Array.range (n*ie.size)).map (z0.cells[· % z0.cells.size]!)) hp (by rw [hrep]; exact hrd n) hf;have hr:=run_buildSlice (P:=P) w t e' n (ps.map fun (i,x)=>(i,e x)) cur ie z0 hu hie hz0 om hb2 (by rw [Array.toList_map]; exact h1);have hbl:Below w w (w.alloc (.cells cur e')):=br.alloc lr _;exact ⟨_,_,by simp [execOp,ho,hr],hbl,w.heap.size,0,n,cur,cur.toList,rfl,hN _ lr,aCG _ _,List.prefix_refl _,DenL.mono (aCy hbl) (fun _ _ h=>h) _ _ h2,fun _=>rfl,Qk _⟩
           · cases hl
         · cases hl
       · cases hl
 · rename_i t a ho;split at h
   · rename_i b k ha;simp only [Xe,Qr] at h;obtain ⟨l,hb,s,hs,rfl⟩:=h;obtain ⟨g,T,cur,vs,_,h2,h3,hpf,h4⟩:=aDW HB hb (H _ _ ha);obtain ⟨v,h5,h6⟩:=aEA (bs:=bs) h3 hpf h4 hs;exact aCu (by simp [execOp,ho,h2,h5]) h6
   · rename_i T l k ha;simp only [Qr] at h;obtain ⟨s,hs,rfl⟩:=h;obtain ⟨g,o,cur,vs,h2,_,h3,h4,h5⟩:=H _ _ ha;obtain ⟨v,h6,h7⟩:=aEc (bs:=bs) h3 h4 h5 hs;exact aCu (by simp [execOp,ho,h2,h6]) h7
   · cases h
 · rename_i t a x ho;split at h
   · rename_i b k ha;simp only [Xe] at h;obtain ⟨l,⟨s,hs,hc⟩,l0,hb,h⟩:=h;cases hcc:((P.info? t).map (·.size)) == some l.length && Nat.ble (k+l.length) l0.length with
     | false=>rw [hcc] at h; cases h
     | true =>
       rw [hcc] at h;cases h
       simp only [Qe,Yq,Nat.ble_eq] at hcc;obtain ⟨g,T,cur,vs,h1,h2,h3,hpf,h4⟩:=aDW HB hb (H _ _ ha);have hd:=(H _ _ hs).cells hc;have hl:=hd.len;have hl0:=h4.len;simp at hl
       refine ⟨g,(e x).cells.toList,h1,?_,hd,l0,hb,hcc.2⟩
       have:=aEO (P:=P) (t:=t) (k:=k) (u:=e x) h3 (by rw [hl]; exact hcc.1) hd.one (by have h9:=hpf.length_le; simp at h9; omega)
       simp [execOp,ho,h2,this]
   · cases h
 · rename_i s x f ho;split at h
   · rename_i b k ha;simp only [Qr] at h;obtain ⟨n,hn,rfl⟩:=h;obtain ⟨g,h1,h2⟩:=H _ _ ha;exact aCu (by simp [execOp,ho,h2,aDJ hn]) ⟨g,h1,rfl⟩
   · rename_i T l k ha;simp only [Qr] at h;obtain ⟨n,hn,rfl⟩:=h;obtain ⟨g,o',cur,vs,h2,h3⟩:=H _ _ ha;exact aCu (v:=.pointer (some ⟨g,o'+k+n,none⟩)) (by simp [execOp,ho,h2,aDJ hn]) ⟨g,o',cur,vs,by rw [Yb],h3⟩
   · cases h
 · rename_i t x i ho;split at h
   · rename_i e' q k hu hi;split at h
     · rename_i ie hie;have h7:=aDj H hi;split at h
       · rename_i T n ex l hx;cases hb:(decide (0≤k) && decide (k<n)) with
         | false=>rw [hb] at h; cases h
         | true =>
           rw [hb] at h;cases h
           simp only [Qe,Qf] at hb;obtain ⟨g,o',cap,cur,vs,h2,h3,h4,h5,h6,_⟩:=H _ _ hx;exact aCu (by simp [execOp,ho,h2,h7,aDG hu hie hb.1 hb.2]) ⟨g,o',cur,vs,rfl,h3,h4,h5,h6⟩
       · rename_i b n hx;cases hb:(decide (0≤k) && decide (k<n)) with
         | false=>rw [hb] at h; cases h
         | true =>
           rw [hb] at h;cases h
           simp only [Qe,Qf] at hb;obtain ⟨g,cap,h2,h3,_⟩:=H _ _ hx;exact aCu (v:=.pointer (some ⟨g,0+k.toNat*ie.size,none⟩)) (by simp [execOp,ho,h3,h7,aDG hu hie hb.1 hb.2]) ⟨g,h2,by rw [Xb]⟩
       · cases h
     · cases h
   · cases h
 · rename_i x i ho;split at h
   · rename_i l hx;simp only [Qr] at h;obtain ⟨s,hs,rfl⟩:=h;obtain ⟨vs,h1,h2⟩:=H _ _ hx;obtain ⟨v,h3,h4⟩:=h2.get hs;exact aCu (v:=v) (by simp [execOp,ho,h1,Instr.extract,h3]) h4
   · cases h
 · rename_i op t x y yt ho;split at h
   · rename_i r hr;cases h
     unfold aGl at hr;simp only [Xe] at hr;obtain ⟨a,ha,b,hb,hr⟩:=hr;obtain ⟨z,hz,hd⟩:=hbn _ _ _ _ _ hr N bs w _ _ x y (H _ _ ha) (H _ _ hb);refine ⟨z,w,?_,Below.refl _ _,hd⟩;have h1:(execOp e o).run P w=(((do eqGuard op t x y (e x) (e y); binOp op t (e x) (e y)):Sem Value).run P w).andThen fun v w'=>.ok (.value v) w':=by
      simp [execOp,ho]
      generalize Sem.run P (eqGuard op t x y (e x) (e y)) w=R;cases R<;>rfl
     rw [h1,hz];rfl
   simp only [Xe] at h;obtain ⟨u,hu,v,hv,h⟩:=h;exact aDg (m:=(do eqGuard op t x y u v; binOp op t u v)) (by simp [execOp,ho,aDj H hu,aDj H hv]) h
 · rename_i op t x ho;simp only [Xe] at h;obtain ⟨u,hu,h⟩:=h;exact aDg (m:=Op.unary op u) (by simp [execOp,ho,aDj H hu]) h
 · rename_i s d x ho;simp only [Xe] at h;obtain ⟨u,hu,h⟩:=h;exact aDg (m:=convert s d u) (by simp [execOp,ho,aDj H hu]) h
 · rename_i t x i ho;simp only [Xe] at h;obtain ⟨u,hu,v,hv,h⟩:=h;exact aDg (m:=Instr.index t u v) (by simp [execOp,ho,aDj H hu,aDj H hv]) h
 · rename_i c ho;have hargs:∀ xs,c.args.toList=xs→c.args=xs.toArray:=fun xs h=>by rw [←h]
   have htys:∀ xs,c.argTypes.toList=xs→c.argTypes=xs.toArray:=fun xs h=>by rw [←h]
   split at h
   · rename_i f hf;simp only [Qr] at h;obtain ⟨l,hl,rfl⟩:=h;have h1:=hcall f l (by simp [aDT,ho,hf,hl]);refine ⟨c.args.toList.map e,?_,aEi H _ _ hl⟩;have h3:=h1 (c.args.map e) w;have hm:(c.args.toList.map e).toArray=c.args.map e:=by rw [←Array.toList_map]
     rw [hm];simp [execOp,ho,resolve,hf,hfun f,Deferred.ofValue,invoke,h3]
   · rename_i hf;split at h
     · rename_i x y t t' ha ht;cases htt:t == t' with
       | false=>rw [htt] at h; cases h
       | true =>
         rw [htt] at h;simp only [cond_true,Xe] at h;obtain ⟨sx,hx,sy,hy,h⟩:=h;obtain rfl:t=t':=by simpa using htt
         refine aGI (H _ _ hx) (H _ _ hy) h (ty:=o.type) fun z w' hz=>?_;simp [execOp,ho,resolve,hf,hargs _ ha,htys _ ht,invoke,builtin,hz]
     · cases h
   · rename_i hf;split at h
     · rename_i x t ha ht;simp only [Qr,Xe] at h;obtain ⟨s,⟨sx,hx,hs⟩,rfl⟩:=h;have hd:=H _ _ hx;unfold aGk at hs;have hrun:∀ v z,e x=v→(Builtin.len_ #[t] o.type #[v]).run P w=.ok z w→(execOp e o).run P w=.ok (.value z) w:=fun v z h1 h2=>by
        simp [execOp,ho,resolve,hf,hargs _ ha,htys _ ht,invoke,builtin,h1,h2]
       split at hs
       · rename_i e' T n ex l hu;cases hs
         obtain ⟨g,o',cap,cur,vs,h2,_⟩:=hd;exact aCu (hrun _ _ h2 (by simp [Builtin.len_,run_underlying hu,goInt])) ⟨rfl,rfl⟩
       · rename_i e' b n hu;cases hs
         obtain ⟨g,cap,_,h2,_⟩:=hd;exact aCu (hrun _ _ h2 (by simp [Builtin.len_,run_underlying hu,goInt])) ⟨rfl,rfl⟩
       · rename_i e' a n c hu;cases hs
         exact aCu (hrun _ _ hd.1 (by simp [Builtin.len_,run_underlying hu,goInt])) ⟨rfl,rfl⟩
       · rename_i sb hu;cases hs
         exact aCu (hrun _ _ hd.1 (by simp [Builtin.len_,run_underlying hu])) ⟨rfl,rfl⟩
       · cases hs
     · cases h
   · cases h
 · cases h
end
def alk {α:Type}:List (Nat × α)→Nat→Option α
 | [],_=>none
 | (k,s)::l,t=>bif k == t then some s else alk l t
abbrev Bx:=List (Nat × TypeId × List SV)
structure ES where
 nt:Nat
 next:Nat
 env:List (Nat × Option SV)
 boxes:Bx
def ES.rd (s:ES):Operand→Option SV
 | .tmp t=>(alk s.env t).join
 | .const v=>ofV v
 | .func f=>some (.c (.func (.func f) #[] #[]))
 | .global _=>none
def aCX (B:Bx) (b:Nat):Option (List SV):=(alk B b).map (·.2)
def ES.put (s:ES) (d:Option Nat) (x:Option SV):Option ES :=
 match d with
 | none=>some s
 | some t=>bif Nat.blt t s.nt then some { s with env:=(t,x)::s.env } else none
def aGp (nm:Nat):Option Nat→SV
 | none=>.ptr nm 0
 | some n=>.sl nm n
def aFE (B:Bx) (b k:Nat) (l:List SV):Bx :=
 match alk B b with
 | some x=>(b,x.1,aCD x.2 k l)::B
 | none=>B
structure CL where
 call:FuncId→List SV→Option SV
 bin:aFC:=fun _ _ _ _=>none
def aEv (P:Program) (cl:CL) (s:ES) (o:Oper):Option ES :=
 match aDT P cl.bin s.rd (aCX s.boxes) o with
 | some (.val x)=>s.put o.dst (some x)
 | some (.new T l r)=>({ s with next:=s.next+1,boxes:=(s.next,T,l)::s.boxes }:ES).put o.dst (some (aGp s.next r))
 | some (.store b k l)=>match o.dst with
   | none=>some { s with boxes:=aFE s.boxes b k l }
   | some _=>none
 | some (.call f l)=>bif aCx l then (cl.call f l).bind fun r=>bif aCQ r then s.put o.dst (some r) else none else none
 | none=>none
def NB (N:Nat→Prop) (bs:Bm) (g:Nat):Prop:=N g∧∀ i,bs i≠some g
def BoxAt (N:Nat→Prop) (bs:Bm) (w:World) (b:Nat) (x:TypeId × List SV):Prop :=
 ∃ (g:Nat) (cur:Array Value) (vs:List Value),bs b=some g∧w.heap[g]? = some (.cells cur x.1 (0,0))∧vs <+: cur.toList∧DenL (NB N bs) bs w x.2 vs
structure aEk (w0:World) (next:Nat) (bs:Bm) (w:World):Prop where
 inj:∀ i j g,bs i=some g→bs j=some g→i=j
 low:∀ i g,bs i=some g→w0.heap.size≤g∧g<w.heap.size∧i<next
structure ERel (N:Nat→Prop) (w0:World) (s:ES) (bs:Bm) (a:Act) (w:World):Prop where
 size:a.tmps.size=s.nt
 defers:a.defers=[]
 below:Below w0.heap.size w0 w
 vals:∀ t x,(alk s.env t).join=some x→Den (NB N bs) bs w x (a.tmps.getD t undef)
 ok:aEk w0 s.next bs w
 box:∀ b x,alk s.boxes b=some x→BoxAt N bs w b x
structure aDc (P:Program) (cl:CL):Prop where
 call:∀ f l r,cl.call f l=some r→aDz P f ∧
  ∀ (N:Nat→Prop) w vs,(∀ g,w.heap.size≤g→N g)→DenT N (fun _=>none) w l vs→Calls P f vs.toArray w fun e w'=>∃ v,e=.returned v∧Den N (fun _=>none) w' r v∧Below w.heap.size w w'
 bin:aGn P cl.bin:=by exact fun _ _ _ _ _ h=>nomatch h
omit [Syms] in
theorem aCC (g:Nat):∀ (vs:List Value) (k:Nat) (w:World) (q:Nat),q≠g→(w.setCells g k vs).heap[q]? = w.heap[q]?
 | [],_,_,_,_=>rfl
 | v::vs,k,w,q,h=>(aCC g vs (k+1) _ q h).trans (Below.heap_setCell w ⟨g,k,none⟩ v q h)
omit [Syms] in
theorem aCF (g:Nat):∀ (vs:List Value) (k:Nat) (w:World),(w.setCells g k vs).heap.size=w.heap.size
 | [],_,_=>rfl
 | _::vs,k,_=>(aCF g vs (k+1) _).trans (World.size_setCell ..)
omit [Syms] in
theorem aDY {w:World} {b i:Nat} {C:List Value} {T:TypeId} {v:Value} (h:w.heap[b]? = some (.cells C.toArray T (0,0))):(w.setCell ⟨b,i,none⟩ v).heap[b]? = some (.cells (C.set i v).toArray T (0,0)):=by
 show (w.heap.modify b _)[b]? = _
 rw [Yk (by rw [Array.size_modify]; exact (Ql.1 h).1),Array.getElem_modify_self,(Ql.1 h).2]
 simp
omit [Syms] in
theorem aCP (g:Nat) (T:TypeId):∀ (vs:List Value) (k:Nat) (w:World) (cur:List Value),w.heap[g]? = some (.cells cur.toArray T (0,0))→k+vs.length≤cur.length→(w.setCells g k vs).heap[g]? = some (.cells (aCD cur k vs).toArray T (0,0))
 | [],k,w,cur,h,_=>by simpa [World.setCells,aCD] using h
 | v::vs,k,w,cur,h,hl=>by
   simp only [Qp] at hl;rw [World.setCells,aCP g T vs (k+1) _ (cur.set k v) (aDY h) (by rw [List.length_set]; omega),aEa om]
omit [Syms] in
theorem aCJ {g m:Nat} {w0 w:World} (h:Below m w0 w) (hg:m≤g):∀ (vs:List Value) (k:Nat),Below m w0 (w.setCells g k vs):=fun vs k=>by
 induction vs generalizing k w with
 | nil=>exact h
 | cons v vs ih=>exact ih (h.setCell (p:=⟨g,k,none⟩) hg v) (k+1)
omit [Syms] in
theorem aEt {α:Type} {l c m:List α} {k:Nat} (h:l <+: c) (hk:k+m.length≤l.length):aCD l k m <+: aCD c k m:=by
 obtain ⟨r,rfl⟩:=h;refine ⟨r,?_⟩;unfold aCD;rw [List.take_append_of_le_length om,List.drop_append_of_le_length om];simp
section
variable {P:Program} {N:Nat→Prop} {w0:World} {cl:CL}
omit [Syms] in
theorem aCr (bs:Bm):Ext bs bs:=fun _ _ h=>h
omit [Syms] in
theorem aEJ (bs:Bm):Ext (fun _=>none) bs:=fun _ _ h=>by cases h
omit [Syms] in
theorem aDQ {a:Act} {d t:Nat} {v:Value} (hd:d<a.tmps.size):(a.put (some d) v).tmps.getD t undef=if d=t then v else a.tmps.getD t undef:=by
 show (a.tmps.setIfInBounds d v).getD t undef=_
 by_cases h:d=t
 · subst h; simp [hd]
 · simp [Array.getElem?_setIfInBounds_ne h,h]
theorem ERel.put {s s':ES} {bs:Bm} {a:Act} {w:World} (h:ERel N w0 s bs a w) {d:Option Nat} {x:Option SV} {v:Value} (hp:s.put d x=some s') (hx:∀ y,x=some y→Den (NB N bs) bs w y v):ERel N w0 s' bs (a.put d v) w:=by
 cases d with
 | none=>cases hp; exact h
 | some t =>
   unfold ES.put at hp;cases hb:Nat.blt t s.nt with
   | false=>simp [hb] at hp
   | true =>
     simp only [hb,cond_true,Option.some.injEq] at hp;subst hp;have ht:t<a.tmps.size:=by rw [h.size]; exact Nat.le_of_ble_eq_true hb
     refine ⟨by show (a.tmps.setIfInBounds t v).size=_; rw [Array.size_setIfInBounds]; exact h.size,h.defers,h.below,fun t' x' hl=>?_,h.ok,h.box⟩
     rw [aDQ ht];unfold alk at hl;by_cases he:t=t'
     · subst he;simp only [BEq.rfl,cond_true,Option.join_some] at hl;simpa using hx _ hl
     · rw [if_neg he]
       have:(t == t')=false:=by simpa using he
       rw [this] at hl;exact h.vals _ _ hl
theorem BoxAt.mono {bs bs':Bm} {w w':World} {b:Nat} {x:TypeId × List SV} (h:BoxAt N bs w b x) (hk:aCM (NB N bs) (NB N bs') w w') (he:Ext bs bs') (hb:∀ g o,bs b=some g→w.heap[g]? = some o→w'.heap[g]? = some o):BoxAt N bs' w' b x:=by
 obtain ⟨g,cur,vs,h1,h2,h3,h4⟩:=h;exact ⟨g,cur,vs,he _ _ h1,hb _ _ h1 h2,h3,DenL.mono hk he _ _ h4⟩
theorem ERel.below' {s:ES} {bs:Bm} {a:Act} {w w':World} (h:ERel N w0 s bs a w) (hb:Below w w w'):ERel N w0 s bs a w' :=
 ⟨h.size,h.defers,h.below.trans (hb.mono h.below.size),fun t x hl=>Den.mono (aCy hb) (aCr _) _ _ (h.vals t x hl),⟨h.ok.inj,fun i g hg=>⟨(h.ok.low i g hg).1,Qj (h.ok.low i g hg).2.1 hb.size,(h.ok.low i g hg).2.2⟩⟩,fun b x hx=>(h.box b x hx).mono (aCy hb) (aCr _) fun g _ _ ho=>(hb.block g (Ql.1 ho).1).trans ho⟩
theorem ERel.rd {s:ES} {bs:Bm} {a:Act} {w:World} (h:ERel N w0 s bs a w):∀ x y,s.rd x=some y→Den (NB N bs) bs w y (a.eval x)
 | .tmp t,y,hy=>h.vals t y hy
 | .const v,y,hy=>aDR hy
 | .func f,y,hy=>by cases hy; exact ⟨rfl,rfl⟩
 | .global _,_,hy=>by cases hy
theorem aEh {bs:Bm} {w:World} {B:Bx} (h:∀ b x,alk B b=some x→bs b≠none→BoxAt N bs w b x):aEl (NB N bs) bs w (aCX B):=fun b l g hb hg=>by
 unfold aCX at hb;simp only [Qr] at hb;obtain ⟨x,hx,rfl⟩:=hb;obtain ⟨g',cur,vs,h1,h2,h3,h4⟩:=h b x hx (by rw [hg]; simp);rw [hg] at h1;cases h1
 exact ⟨x.1,cur,vs,h2,h3,h4⟩
omit [Syms] in
theorem aFi (hN:∀ g,w0.heap.size≤g→N g) {next:Nat} {bs:Bm} {w:World} (hb:Below w0 w0 w) (h:aEk w0 next bs w):∀ g,w.heap.size≤g→NB N bs g:=fun g hg =>
 ⟨hN g (Qn hb.size hg),fun i hi=>by have:=(h.low i g hi).2.1; omega⟩
def upd (bs:Bm) (n g:Nat):Bm:=fun i=>if i=n then some g else bs i
omit [Syms] in
theorem aEI {bs:Bm} {n g:Nat} (h:bs n=none):Ext bs (upd bs n g):=fun b g' hb=>by
 unfold upd;split
 · rename_i e; subst e; rw [h] at hb; cases hb
 · exact hb
omit [Syms] in
theorem aDF {bs:Bm} {n:Nat} {w w':World} (hb:Below w w w'):aCM (NB N bs) (NB N (upd bs n w)) w w':=fun g o hn hg=>by
 have hlt:=(Ql.1 hg).1;refine ⟨⟨hn.1,fun i hi=>?_⟩,(hb.block g hlt).trans hg⟩;unfold upd at hi;split at hi
 · cases hi; omega
 · exact hn.2 i hi
omit [Syms] in
theorem aFh {next next' n:Nat} {bs:Bm} {w w':World} (h:aEk w0 next bs w) (hw:w0.heap.size≤w.heap.size) (hn:n<next') (hnn:next≤next') (hs:w.heap.size<w'.heap.size):aEk w0 next' (upd bs n w) w':=by
 refine ⟨fun i j g hi hj=>?_,fun i g hi=>?_⟩
 · unfold upd at hi hj;split at hi<;>split at hj
   · rename_i e1 e2; rw [e1,e2]
   · cases hi; have:=(h.low _ _ hj).2.1; omega
   · cases hj; have:=(h.low _ _ hi).2.1; omega
   · exact h.inj i j g hi hj
 · unfold upd at hi;split at hi
   · rename_i e; cases hi; exact ⟨hw,hs,om⟩
   · have:=h.low i g hi; exact ⟨this.1,om,om⟩
theorem aEz {bs:Bm} {w w':World} {n:Nat} {r:Option Nat} {v:Value} {M:Nat→Prop} (h:match r with | none=>v=.pointer w | some n=>∃ cap,v=.slice w n cap∧n≤cap):Den M (upd bs n w) w' (aGp n r) v:=by
 cases r with
 | none=>exact ⟨w,by simp [upd],h⟩
 | some m =>
   obtain ⟨cap,h1,h2⟩:=h;exact ⟨w,cap,by simp [upd],h1,h2⟩
omit [Syms] in
theorem aGj {next:Nat} {bs:Bm} {w:World} (h:aEk w0 next bs w) {n:Nat} (hn:next≤n):bs n=none:=by
 cases hb:bs n with
 | none=>rfl
 | some g=>have:=(h.low n g hb).2.2; omega
omit [Syms] in
theorem aCE {bs:Bm} {w:World} {b g k:Nat} {vs:List Value} (hg:bs b=some g):aCM (NB N bs) (NB N bs) w (w.setCells g k vs):=fun q _ hn hq=>⟨hn,(aCC g vs k w q fun e=>hn.2 b (e ▸ hg)).trans hq⟩
theorem aDC {bs:Bm} {w:World} {b g k:Nat} {vs:List Value} {l:List SV} {x:TypeId × List SV} (hg:bs b=some g) (h:BoxAt N bs w b x) (hd:DenL (NB N bs) bs w l vs) (hl:k+l.length≤x.2.length):BoxAt N bs (w.setCells g k vs) b (x.1,aCD x.2 k l):=by
 obtain ⟨g',cur,us,h1,h2,h3,h4⟩:=h;rw [hg] at h1;cases h1
 have hlen:=h4.len;have hvl:=hd.len;have hk:=aCE (N:=N) (w:=w) (k:=k) (vs:=vs) hg;refine ⟨g,(aCD cur.toList k vs).toArray,aCD us k vs,hg,aCP g x.1 vs k w cur.toList (by simpa using h2) (by have:=h3.length_le; omega),by simpa using aEt h3 om,DenL.ovr (DenL.mono hk (aCr _) _ _ h4) (DenL.mono hk (aCr _) _ _ hd) k⟩
theorem aDd {bs:Bm} {w:World} {next b b' g k:Nat} {vs:List Value} {x:TypeId × List SV} (ho:aEk w0 next bs w) (hg:bs b=some g) (hne:b'≠b) (h:BoxAt N bs w b' x):BoxAt N bs (w.setCells g k vs) b' x :=
 h.mono (aCE hg) (aCr _) fun g' _ hg' ho'=>(aCC g vs k w g' fun e=>hne (ho.inj _ _ _ (e ▸ hg') hg)).trans ho'
omit [Syms] in
theorem aEj {B:Bx} {b k i:Nat} {l:List SV} {x:TypeId × List SV} (h:alk (aFE B b k l) i=some x):(i=b∧∃ y,alk B b=some y∧x=(y.1,aCD y.2 k l))∨(i≠b∧alk B i=some x):=by
 unfold aFE at h;split at h
 · rename_i y hy;unfold alk at h;by_cases he:b=i
   · subst he;simp only [BEq.rfl,cond_true,Option.some.injEq] at h;exact .inl ⟨rfl,y,hy,h.symm⟩
   · have:(b == i)=false:=by simpa using he
     rw [this] at h;exact .inr ⟨fun e=>he e.symm,h⟩
 · rename_i hn;refine .inr ⟨fun e=>?_,h⟩;subst e;rw [hn] at h;cases h
theorem aEU (hN:∀ g,w0.heap.size≤g→N g) (hcl:aDc P cl) {s s':ES} {bs:Bm} {a:Act} {w:World} (h:ERel N w0 s bs a w) {o:Oper} (he:aEv P cl s o=some s') {K:Act→World→Prop} {Q:Exit→Act→World→Prop}
 (hK:∀ bs' a' w',ERel N w0 s' bs' a' w'→K a' w'):o.wp P a w K Q:=by
 unfold aEv at he;have hcc:∀ f l,aDT P cl.bin s.rd (aCX s.boxes) o=some (.call f l)→aDz P f:=fun f l hf=>by
  rw [hf] at he;dsimp only at he;cases hb:aCx l with
  | false=>rw [hb] at he; cases he
  | true =>
    rw [hb] at he;simp only [cond_true,Xe] at he;obtain ⟨r,hr,_⟩:=he;exact (hcl.call f l r hr).1
 have hnl:=aFi hN h.below h.ok;cases hE:aDT P cl.bin s.rd (aCX s.boxes) o with
 | none=>rw [hE] at he; cases he
 | some E =>
   have hok:=aCW hcl.bin (fun _=>rfl) hcc hnl h.rd (aEh fun b x hx _=>h.box b x hx) hE;rw [hE] at he;unfold Oper.wp;cases E with
   | val x =>
     obtain ⟨v,w',hr,hb,hd⟩:=hok;rw [hr,Oper.upon_value];exact hK _ _ _ ((h.below' hb).put he fun y hy=>by cases hy; exact hd)
   | new T l r =>
     obtain ⟨v,w',cur,vs,hr,hb,hg,hp,hd,hv⟩:=hok;rw [hr,Oper.upon_value];have hfr:=aGj h.ok (Qk s.next);have hx:=aEI (g:=w.heap.size) hfr;have hk:=aDF (N:=N) (bs:=bs) (n:=s.next) hb;have hlt:=(Ql.1 hg).1;have hrel:ERel N w0 { s with next:=s.next+1,boxes:=(s.next,T,l)::s.boxes } (upd bs s.next w) a w':=by
      refine ⟨h.size,h.defers,h.below.trans (hb.mono h.below.size),fun t x hl=>Den.mono hk hx _ _ (h.vals t x hl),aFh h.ok h.below.size (Yg _) (Xn _) hlt,fun b x hbx=>?_⟩;unfold alk at hbx;by_cases hi:s.next=b
      · subst hi;simp only [BEq.rfl,cond_true,Option.some.injEq] at hbx;subst hbx;exact ⟨w,cur,vs,by simp [upd],hg,hp,DenL.mono hk hx _ _ hd⟩
      · have:(s.next == b)=false:=by simpa using hi
        rw [this] at hbx;exact (h.box b x hbx).mono hk hx fun g _ _ ho=>(hb.block g (Ql.1 ho).1).trans ho
     exact hK _ _ _ (hrel.put he fun y hy=>by cases hy; exact aEz hv)
   | store b k l =>
     obtain ⟨g,vs,hg,hr,hd,l0,hl0,hfit⟩:=hok;rw [hr,Oper.upon_skip];dsimp only at he;cases hdst:o.dst with
     | some d=>rw [hdst] at he; cases he
     | none =>
       rw [hdst] at he;cases he
       have hk:=aCE (N:=N) (w:=w) (k:=k) (vs:=vs) hg;refine hK bs _ _ ⟨h.size,h.defers,aCJ h.below (h.ok.low _ _ hg).1 vs k,fun t x hl=>Den.mono hk (aCr _) _ _ (h.vals t x hl),⟨h.ok.inj,fun i q hq=>by rw [aCF]; exact h.ok.low i q hq⟩,fun i x hx=>?_⟩
       rcases aEj hx with ⟨rfl,y,hy,rfl⟩ | ⟨hne,hx⟩
       · refine aDC hg (h.box _ _ hy) hd ?_;unfold aCX at hl0;rw [hy] at hl0;cases hl0
         exact hfit
       · exact aDd h.ok hg hne (h.box _ _ hx)
   | call f l =>
     obtain ⟨vs,hr,hd⟩:=hok;rw [hr,Oper.upon_enter];dsimp only at he;cases hb:aCx l with
     | false=>rw [hb] at he; cases he
     | true =>
       rw [hb] at he;simp only [cond_true,Xe] at he;obtain ⟨r,hr,hp⟩:=he;cases hpr:aCQ r with
       | false=>rw [hpr] at hp; cases hp
       | true =>
         rw [hpr] at hp;refine Calls.mono ((hcl.call f l r hr).2 (NB N bs) w vs hnl (DenT.pure _ _ hb hd)) ?_;rintro e w' ⟨v,rfl,hv,hb⟩;exact hK _ _ _ ((h.below' hb).put hp fun y hy=>by cases hy; exact Den.mono (aDm _ _) (aEJ _) _ _ hv)
end
def aDU (ops:Array Oper) (s:ES) (o:Oper):Option Bool :=
 match o.guard with
 | none=>some true
 | some (j,want)=>match (ops[j]?).bind (·.dst) with
   | some d=>match (alk s.env d).join with
     | some (.c (.bool b))=>some (b == want)
     | _=>none
   | none=>none
def aDp (P:Program) (cl:CL) (ops:Array Oper):List Oper→ES→Option ES
 | [],s=>some s
 | o::l,s=>match aDU ops s o with
   | some true=>(aEv P cl s o).bind (aDp P cl ops l)
   | some false=>(s.put o.dst none).bind (aDp P cl ops l)
   | none=>none
section
variable {P:Program} {N:Nat→Prop} {w0:World} {cl:CL}
theorem aDq {ops:Array Oper} {s:ES} {bs:Bm} {a:Act} {w:World} (h:ERel N w0 s bs a w) {o:Oper} {b:Bool} (hg:aDU ops s o=some b):Region.wanted o (yielded ops a.tmps)=b:=by
 unfold aDU at hg;unfold Region.wanted;split at hg
 · rename_i h1; rw [h1]; cases hg; rfl
 · rename_i j want h1;rw [h1];split at hg
   · rename_i d hd;split at hg
     · rename_i v hv;cases hg
       have h2:=(h.vals _ _ hv).1;have h3:a.tmps[d]? = some (.bool v):=by
        cases h4:a.tmps[d]? with
        | none=>simp [h4,undef] at h2
        | some u=>simp [h4] at h2; rw [h2]
       simp [yielded,hd,h3]
     · cases hg
   · cases hg
theorem aDb (hN:∀ g,w0.heap.size≤g→N g) (hcl:aDc P cl) {ops:Array Oper} {Q:Exit→Act→World→Prop}:∀ {l:List Oper} {s s':ES} {bs:Bm} {a:Act} {w:World},ERel N w0 s bs a w→aDp P cl ops l s=some s' →
 (∀ bs' a' w',ERel N w0 s' bs' a' w'→Q .normal a' w')→wpList P ops Q l a w
 | [],s,s',bs,a,w,h,he,hQ=>by cases he; exact hQ _ _ _ h
 | o::l,s,s',bs,a,w,h,he,hQ=>by
   unfold aDp at he;unfold wpList;split at he
   · rename_i hg;simp only [Xe] at he;obtain ⟨s1,h1,h2⟩:=he;rw [if_pos (by rw [aDq h hg])];exact .inl (aEU hN hcl h h1 fun _ _ _ hr=>aDb hN hcl hr h2 hQ)
   · rename_i hg;simp only [Xe] at he;obtain ⟨s1,h1,h2⟩:=he;rw [if_neg (by rw [aDq h hg]; decide)];exact aDb hN hcl (h.put h1 fun y hy=>by cases hy) h2 hQ
   · cases he
end
def aCH (ops:List Oper) (t:Nat):Option Nat:=ops.findIdx? fun o=>match o.dst with | some d=>d == t | none=>false
def aDe (o:Oper) (j:Nat):Bool:=o.after.any fun e=>Region.binds .any e && e.on == j
def aFq (ops:List Oper) (s:ES) (res:List (Option SV)) (o:Oper):Operand→Option SV
 | .tmp t=>match aCH ops t with
   | none=>(alk s.env t).join
   | some j=>bif aDe o j then (res[j]?).join else bif (match ops[j]? with | some q=>aDe q res.length | none=>false) then (alk s.env t).join else none
 | x=>s.rd x
def mask (B:Bx) (b0:Option Nat) (b:Nat):Option (List SV):=bif b0 == some b then none else aCX B b
def only (B:Bx) (b0:Option Nat) (b:Nat):Option (List SV):=bif b0 == some b then aCX B b else none
def aCA (o:Oper):Bool:=match o.op with | .store ..=>true | _=>false
def aDf (ops:List Oper) (i:Nat):Bool:=ops.all fun o=>!aCA o || aDe o i
def aFy (ops:List Oper) (B:Bx) (b0:Option Nat) (i:Nat):Nat→Option (List SV):=bif aDf ops i then aCX B else mask B b0
def aDx (ops:List Oper) (res:List (Option SV)) (o:Oper):Option Bool :=
 match o.guard with
 | none=>some true
 | some (j,want)=>match (ops[j]?).bind (·.dst),aDe o j,(res[j]?).join with
   | some _,true,some (.c (.bool b))=>some (b == want)
   | _,_,_=>none
abbrev DSt:=Option (Nat × Nat × List SV)
def aEg (P:Program) (cl:CL) (ops:List Oper) (s:ES) (b0:Option Nat) (o:Oper) (res:List (Option SV)) (nb:Bx) (st:DSt):Option (Option SV × Bx × DSt) :=
 match aDx ops res o with
 | some false=>match o.dst with
   | some _=>some (none,nb,st)
   | none=>none
 | none=>none
 | some true =>
   match o.dst with
   | some _=>match aDT P cl.bin (aFq ops s res o) (aFy ops (nb++s.boxes) b0 res.length) o with
     | some (.val x)=>some (some x,nb,st)
     | some (.new T l r)=>some (some (aGp (s.next+res.length) r),(s.next+res.length,T,l)::nb,st)
     | some (.call f xs)=>bif aCx xs then match cl.call f xs with
       | some x=>bif aCQ x then some (some x,nb,st) else none
       | none=>none
       else none
     | _=>none
   | none=>match aDT P cl.bin (aFq ops s res o) (only (nb++s.boxes) b0) o,st with
     | some (.store b k c),none=>bif b0 == some b && aCA o then some (none,nb,some (res.length,k,c)) else none
     | _,_=>none
def aEL (P:Program) (cl:CL) (ops:List Oper) (s:ES) (b0:Option Nat):List Oper→List (Option SV)→Bx→DSt→Option (List (Option SV) × Bx × DSt)
 | [],res,nb,st=>some (res,nb,st)
 | o::l,res,nb,st =>
   bif (o.after.all fun e=>!Region.binds .any e || Nat.blt e.on res.length) && (match o.dst with | some d=>aCH ops d == some res.length && Nat.blt d s.nt | none=>true) then
    match aEg P cl ops s b0 o res nb st with
    | some (r,nb',st')=>aEL P cl ops s b0 l (res++[r]) nb' st'
    | none=>none
   else none
structure aGm (P:Program) (cl:CL) (ops:List Oper) (s:ES) (b0:Option Nat) (res:List (Option SV)) (nb:Bx) (st:DSt) (i:Nat) (o:Oper):Prop where
 sel:∀ e∈o.after,Region.binds .any e=true→e.on<i
 dst:∀ d,o.dst=some d→aCH ops d=some i∧d<s.nt
 op:∃ nb1 st1 r nb2 st2,aEg P cl ops s b0 o (res.take i) nb1 st1=some (r,nb2,st2)∧res[i]? = some r∧(∀ b,b<s.next+i→alk (nb++s.boxes) b=alk (nb1++s.boxes) b)∧alk (nb++s.boxes) (s.next+i)=alk (nb2++s.boxes) (s.next+i)∧(∀ b x,alk (nb1++s.boxes) b=some x→b<s.next+i)∧(∀ y,st2=some y→st=some y)
omit [Syms] in
theorem aFx {P:Program} {cl:CL} {ops:List Oper} {s:ES} {b0:Option Nat} {o:Oper} {res:List (Option SV)} {nb nb':Bx} {st st':DSt} {r:Option SV} (h:aEg P cl ops s b0 o res nb st=some (r,nb',st')) :
 (nb'=nb∨∃ y,nb'=(s.next+res.length,y)::nb)∧(∀ y,st=some y→st'=some y)∧(∀ i k c,st'=some (i,k,c)→st=none→i=res.length∧o.dst=none∧aCA o=true):=by
 unfold aEg at h;have none1:∀ (i k:Nat) (c:List SV),st=some (i,k,c)→st=none→i=res.length∧o.dst=none∧aCA o=true:=fun i k c h1 h2=>by rw [h2] at h1; cases h1
 split at h
 · split at h
   · cases h; exact ⟨.inl rfl,fun _ h=>h,none1⟩
   · cases h
 · cases h
 · split at h
   · split at h
     · cases h; exact ⟨.inl rfl,fun _ h=>h,none1⟩
     · cases h; exact ⟨.inr ⟨_,rfl⟩,fun _ h=>h,none1⟩
     · rename_i f xs _;cases hp:aCx xs with
       | false=>rw [hp] at h; cases h
       | true =>
         rw [hp] at h;simp only [cond_true] at h;split at h
         · rename_i x _;cases hq:aCQ x with
           | false=>rw [hq] at h; cases h
           | true=>rw [hq] at h; cases h; exact ⟨.inl rfl,fun _ h=>h,none1⟩
         · cases h
     · cases h
   · rename_i hd;split at h
     · rename_i b k c _;cases hb:(b0 == some b && aCA o) with
       | false=>rw [hb] at h; cases h
       | true =>
         rw [hb] at h;cases h
         rw [Qe] at hb;exact ⟨.inl rfl,(fun _ h=>by cases h),fun i k c h1 _=>(by cases h1; exact ⟨rfl,hd,hb.2⟩)⟩
     · cases h
omit [Syms] in
theorem aDs {P:Program} {cl:CL} {ops:List Oper} {s:ES} {b0:Option Nat} {res':List (Option SV)} {nb':Bx} {st':DSt}:∀ (l:List Oper) (res:List (Option SV)) (nb:Bx) (st:DSt),(∀ b x,alk (nb++s.boxes) b=some x→b<s.next+res.length)→aEL P cl ops s b0 l res nb st=some (res',nb',st') →
 res <+: res'∧res'.length=res.length+l.length∧(∀ y,st=some y→st'=some y)∧(∀ b,b<s.next+res.length→alk (nb'++s.boxes) b=alk (nb++s.boxes) b)∧(∀ i k c,st'=some (i,k,c)→st=none→∃ j o,i=res.length+j∧l[j]? = some o∧o.dst=none∧aCA o=true) ∧
  (∀ b x,alk (nb'++s.boxes) b=some x→b<s.next+res'.length)∧∀ k o,l[k]? = some o→aGm P cl ops s b0 res' nb' st' (res.length+k) o
 | [],res,nb,st,hB,h=>by
   cases h
   exact ⟨List.prefix_refl _,rfl,fun _ h=>h,fun _ _=>rfl,fun i k c h1 h2=>(by rw [h2] at h1; cases h1),hB,fun k o hk=>by simp at hk⟩
 | o::l,res,nb,st,hB,h=>by
   unfold aEL at h;cases hb:((o.after.all fun e=>!Region.binds .any e || Nat.blt e.on res.length) && (match o.dst with | some d=>aCH ops d == some res.length && Nat.blt d s.nt | none=>true)) with
   | false=>rw [hb] at h; cases h
   | true =>
     rw [hb] at h;simp only [cond_true] at h;rw [Qe] at hb;obtain ⟨he,hd⟩:=hb;split at h
     · rename_i r nb1 st1 hop;obtain ⟨hn1,hs1,hs2⟩:=aFx hop;have hB1:∀ b x,alk (nb1++s.boxes) b=some x→b<s.next+(res++[r]).length:=fun b x hx=>by
        rw [Qc,Xw];rcases hn1 with rfl | ⟨y,rfl⟩
        · have:=hB b x hx; omega
        · rw [Xy] at hx;unfold alk at hx;by_cases e:s.next+res.length=b
          · omega
          · have:(s.next+res.length == b)=false:=by simpa using e
            rw [this] at hx
            have:=hB b x hx
            omega
       obtain ⟨i1,i2,i3,i4,i5,i6,i7⟩:=aDs l _ _ _ hB1 h;have hlt1:∀ b,b<s.next+res.length→alk (nb1++s.boxes) b=alk (nb++s.boxes) b:=fun b hlt=>by
        rcases hn1 with rfl | ⟨y,rfl⟩
        · rfl
        · rw [Xy];show (bif _ then _ else _)=_
          have:(s.next+res.length == b)=false:=by simp; omega
          rw [this];rfl
       obtain ⟨rest,hr⟩:=i1;have hp:res <+: res':=⟨r::rest,by rw [←hr]; simp⟩
       rw [Qc,Xw] at i2 i4;refine ⟨hp,by rw [i2,Qp]; omega,fun y hy=>i3 y (hs1 y hy),fun b hlt=>(i4 b om).trans (hlt1 b hlt),fun i k c hs hn=>?_,i6,fun k o' hk=>?_⟩
       · cases hst:st1 with
         | none =>
           obtain ⟨j,o',h1,h2,h3⟩:=i5 i k c hs hst;exact ⟨j+1,o',by rw [h1,Qc,Xw]; omega,by rw [Zh]; exact h2,h3⟩
         | some y =>
           obtain ⟨i',k',c'⟩:=y
           have:=i3 _ hst
           rw [hs] at this;cases this
           obtain ⟨e1,e2,e3⟩:=hs2 _ _ _ hst hn;exact ⟨0,o,om,rfl,e2,e3⟩
       · cases k with
         | zero =>
           simp at hk
           subst hk;refine ⟨fun e hm hbn=>?_,fun d hdd=>?_,nb,st,r,nb1,st1,?_,?_,fun b hlt=>(i4 b om).trans (hlt1 b om),i4 _ om,hB,i3⟩
           · rw [Array.all_eq_true_iff_forall_mem] at he
             have:=he e hm
             rw [hbn] at this;simp [Nat.blt] at this
             omega
           · rw [hdd] at hd;simp only [Qe,Yq] at hd;exact ⟨by rw [Xu]; exact hd.1,Nat.le_of_ble_eq_true hd.2⟩
           · rw [show res'.take (res.length+0)=res by rw [←hr]; simp]
             exact hop
           · rw [←hr]; simp
         | succ k =>
           have:=i7 k o' (by rw [Zh] at hk; exact hk)
           rw [Qc,Xw] at this;rw [show res.length+(k+1)=res.length+1+k by omega]
           exact this
     · cases h
def aFw:List Oper→List (Option SV)→List (Nat × Option SV)
 | (o:Oper)::l,r::res=>match o.dst with
   | some d=>(d,r)::aFw l res
   | none=>aFw l res
 | _,_=>[]
def aGU (B:Bx) (b0:Option Nat) (st:DSt):Bx :=
 match st,b0 with
 | some (_,k,c),some b=>aFE B b k c
 | _,_=>B
def aDS (P:Program) (cl:CL) (ops:Array Oper) (s:ES) (b0:Option Nat):Option ES :=
 (aEL P cl ops.toList s b0 ops.toList [] [] none).map fun r=>{ s with next:=s.next+ops.size,env:=aFw ops.toList r.1++s.env,boxes:=aGU (r.2.1++s.boxes) b0 r.2.2 }
def aFt (P:Program) (cl:CL) (ops:Array Oper) (s:ES):Option ES :=
 bif ops.any aCA then
  (List.range (s.next+ops.size)).reverse.findSome? fun b=>aDS P cl ops s (some b)
 else aDS P cl ops s none
omit [Syms] in
theorem aNB {p:Prop} (h:p:=by
 exact .inl ⟨i+1,o',by rw [Zh]; exact h1,h2,by rw [Zh]; exact h3⟩):p:=h
omit [Syms] in
theorem aDv {env:List (Nat × Option SV)} {t:Nat} {x:SV}:∀ (ops:List Oper) (res:List (Option SV)),res.length=ops.length→(alk (aFw ops res++env) t).join=some x →
 (∃ (i:Nat) (o:Oper),ops[i]? = some o∧o.dst=some t∧res[i]? = some (some x))∨((∀ o∈ops,o.dst≠some t)∧(alk env t).join=some x)
 | [],res,_,h=>.inr ⟨by simp,by cases res<;>exact h⟩
 | o::ops,[],hl,h=>by simp at hl
 | o::ops,r::res,hl,h=>by
   unfold aFw at h;have hl2:res.length=ops.length:=by simpa using hl
   cases hd:o.dst with
   | none =>
     rw [hd] at h;rcases aDv ops res hl2 h with ⟨i,o',h1,h2,h3⟩ | ⟨h1,h2⟩
     · exact aNB
     · exact .inr ⟨fun q hq=>by rcases Xg.1 hq with rfl | hq; rw [hd]; simp; exact h1 q hq,h2⟩
   | some d =>
     rw [hd] at h;simp only [Xy] at h;unfold alk at h;by_cases he:d=t
     · subst he;simp only [BEq.rfl,cond_true,Option.join_some] at h;exact .inl ⟨0,o,rfl,hd,by rw [h]; rfl⟩
     · have:(d == t)=false:=by simpa using he
       rw [this] at h;rcases aDv ops res hl2 h with ⟨i,o',h1,h2,h3⟩ | ⟨h1,h2⟩
       · exact aNB
       · exact .inr ⟨fun q hq=>by rcases Xg.1 hq with rfl | hq; rw [hd]; simpa using he; exact h1 q hq,h2⟩
omit [Syms] in
theorem aDw {ops:List Oper} {t i:Nat} (h:aCH ops t=some i):∃ o,ops[i]? = some o∧o.dst=some t:=by
 unfold aCH at h;obtain ⟨hi,h1,_⟩:=List.findIdx?_eq_some_iff_getElem.1 h;refine ⟨ops[i],Qb hi,?_⟩;cases hd:ops[i].dst with
 | none=>simp [hd] at h1
 | some d=>simp [hd] at h1; rw [h1]
omit [Syms] in
theorem aEw {ops:List Oper} {t:Nat} (h:∀ o∈ops,o.dst≠some t):aCH ops t=none:=by
 unfold aCH;rw [List.findIdx?_eq_none_iff];intro o ho
 have:=h o ho
 cases hd:o.dst with
 | none=>rfl
 | some d=>rw [hd] at this; simpa using this
structure aGV (N:Nat→Prop) (w0:World) (s:ES) (bs:Bm) (ops:Array Oper) (res:List (Option SV)) (B:Bx) (b0:Option Nat) (st:DSt) (a0:Act) (W0:World) (bs1:Bm) (n:Nat) (L:Array Bool) (a:Act) (w:World):Prop where
 size:L.size=ops.size
 count:(List.range ops.size).countP (fun i=>!L.getD i true)≤n
 sz:a.tmps.size=s.nt
 defers:a.defers=[]
 keep:∀ t,(∀ j,aCH ops.toList t=some j→L.getD j false=false)→a.tmps.getD t undef=a0.tmps.getD t undef
 below:Below w0.heap.size w0 w
 ext:Ext bs bs1
 ok:aEk w0 (s.next+ops.size) bs1 w
 kp:aCM (NB N bs) (NB N bs1) W0 w
 vals:∀ i o d x,L.getD i false=true→ops[i]? = some o→o.dst=some d→res[i]? = some (some x)→Den (NB N bs1) bs1 w x (a.tmps.getD d undef)
 pres:∀ j,L.getD j false=true→alk B (s.next+j)≠none→bs1 (s.next+j)≠none
 frs:∀ j,L.getD j false=false→bs1 (s.next+j)=none
 clo:∀ j o,L.getD j false=true→ops[j]? = some o→∀ e∈o.after,Region.binds .any e=true→L.getD e.on false=true
 box:∀ b x,alk B b=some x→bs1 b≠none→(b0=some b→∀ j k c,st=some (j,k,c)→L.getD j false=false)→BoxAt N bs1 w b x
 boxs:∀ (j k:Nat) c b x,st=some (j,k,c)→L.getD j false=true→b0=some b→alk B b=some x→BoxAt N bs1 w b (x.1,aCD x.2 k c)
section
variable {P:Program} {N:Nat→Prop} {w0:World} {cl:CL}
theorem aDK (hm:P.follows .mixedOrders=true) (hN:∀ g,w0.heap.size≤g→N g) (hcl:aDc P cl) {id:Nat} {ops:Array Oper} {s s':ES} {bs:Bm} {a0:Act} {W0:World} {b0:Option Nat} (h:ERel N w0 s bs a0 W0) (he:aDS P cl ops s b0=some s') {Q:Exit→Act→World→Prop}
 (hQ:∀ bs' a' w',ERel N w0 s' bs' a' w'→(∀ t,aCH ops.toList t=none→a'.tmps.getD t undef=a0.tmps.getD t undef)→Q .normal a' w'):(Code.region id ops true).wp P Q a0 W0:=by
 unfold aDS at he;simp only [Qr] at he;obtain ⟨⟨res,nb,st⟩,hev,rfl⟩:=he;dsimp only at hQ;have hs0:∀ b x,alk s.boxes b=some x→b<s.next:=fun b x hx=>by
  obtain ⟨g,_,_,h1,_⟩:=h.box b x hx;exact (h.ok.low b g h1).2.2
 obtain ⟨-,hrl,-,hB0,hst,hBl,hat⟩:=aDs _ _ _ _ (fun b x hx=>by have:=hs0 b x hx; simp; omega) hev;simp only [Qz,Xb,Xu,Ye] at hrl hat hB0 hst;rw [hrl] at hBl;have hat':∀ i o,ops[i]? = some o→aGm P cl ops.toList s b0 res nb st i o:=fun i o ho=>hat i o (by rw [Xo]; exact ho);generalize hBdef:nb++s.boxes=B at *;have hlt:∀ (L:Array Bool) (i:Nat),L.size=ops.size→L.getD i false=true→i<ops.size:=by
  intro L i hs h;rcases Zb i L.size with h' | h'
  · omega
  · simp [Array.getElem?_eq_none h'] at h
 have hall:∀ (n:Nat) (L:Array Bool) (a:Act) (w:World) bs1,aGV N w0 s bs ops res B b0 st a0 W0 bs1 n L a w→Region.ready .any ops L=[]→∀ i,i<ops.size→L.getD i false=true:=by
  intro n L a w bs1 h hr i;induction i using Nat.strongRecOn with
  | _ i ih =>
    intro hi;rcases hb:L.getD i false with _ | _
    · exfalso
      have ho:ops[i]? = some ops[i]:=Yk hi;have hsel:=(hat' i _ ho).sel
      have:i∈Region.ready .any ops L:=by
       rw [mem_ready];refine ⟨?_,_,ho,fun e he hb=>ih _ (hsel e he hb) (Nat.lt_trans (hsel e he hb) hi)⟩;rw [←hb];simp [h.size,hi]
      rw [hr] at this;cases this
    · rfl
 refine mL hm (fun n L a w=>∃ bs1,aGV N w0 s bs ops res B b0 st a0 W0 bs1 n L a w) ?_ ?_ ?_ ?_
 · rintro n L a w ⟨bs1,hd⟩ hr;have hL:=hall n L a w bs1 hd hr;have hpres:∀ b x,alk B b=some x→bs1 b≠none:=fun b x hx=>by
    rcases Zb b s.next with hb | hb
    · rw [hB0 b hb] at hx;obtain ⟨g,_,_,h1,_⟩:=h.box b x hx;rw [hd.ext b g h1]; simp
    · obtain ⟨j,rfl⟩:∃ j,b=s.next+j:=⟨b - s.next,om⟩
      have:=hBl _ x hx
      exact hd.pres j (hL j (by simpa using (by omega:j<ops.toList.length))) (by rw [hx]; simp)
   refine hQ bs1 a w ⟨hd.sz,hd.defers,hd.below,fun t x hx=>?_,hd.ok,fun b x hx=>?_⟩ fun t ht=>hd.keep t fun j hj=>by rw [ht] at hj; cases hj
   · rcases aDv _ _ hrl hx with ⟨i,o,h1,h2,h3⟩ | ⟨h1,h2⟩
     · rw [Xo] at h1;exact hd.vals i o t x (hL i (Ql.1 h1).1) h1 h2 h3
     · rw [hd.keep t fun j hj=>by rw [aEw h1] at hj; cases hj]
       exact Den.mono hd.kp hd.ext _ _ (h.vals t x h2)
   · have hx':=hx;unfold aGU at hx;dsimp only at hx;split at hx
     · rename_i j k c b1;obtain ⟨j',o,hj',ho,hdo,_⟩:=hst j k c rfl trivial;have hjL:=hL j (by subst hj'; have:=(Qd.1 ho).1; simpa using this)
       rcases aEj hx with ⟨rfl,y,hy,rfl⟩ | ⟨hne,hx⟩
       · exact hd.boxs j k c _ y rfl hjL rfl hy
       · exact hd.box b x hx (hpres b x hx) fun e=>absurd (Xi e).symm hne
     · rename_i hno;refine hd.box b x hx (hpres b x hx) fun e j k c hs=>?_;exact absurd e (hno j k c b hs)
 · rintro L a w ⟨bs1,hd⟩;have hc:=hd.count;rw [Nat.le_zero,List.countP_eq_zero] at hc;refine List.eq_nil_iff_forall_not_mem.2 fun i hi=>?_;obtain ⟨h1,o,ho,_⟩:=mem_ready.1 hi
   have:=hc i (Yn.2 (Ql.1 ho).1)
   rw [h1] at this;simp at this
 · rintro n L a w i ⟨bs1,hd⟩ hi;obtain ⟨hu,o,ho,hdep⟩:=mem_ready.1 hi;obtain ⟨hu2,hiL⟩:=Ey hu;have hio:i<ops.size:=(Ql.1 ho).1;have hcount:=vN hiL hd.size hu hd.count;have hset:∀ (j:Nat),(L.setIfInBounds i true).getD j false=true↔j=i∨L.getD j false=true:=fun j=>oI hiL;have hsetf:∀ (j:Nat),(L.setIfInBounds i true).getD j false=false→j≠i∧L.getD j false=false:=fun j hj=>by
    rcases hb:L.getD j false with _ | _
    · exact ⟨(fun e=>by rw [(hset j).2 (.inl e)] at hj; cases hj),rfl⟩
    · rw [(hset j).2 (.inr hb)] at hj; cases hj
   have hne:∀ (j:Nat),L.getD j false=true→j≠i:=fun j hj e=>by rw [e,hu2] at hj; cases hj
   have hsz2:(L.setIfInBounds i true).size=ops.size:=by rw [Array.size_setIfInBounds]; exact hd.size
   obtain ⟨hsel,hdst,nb1,st1,r,nb2,st2,hop,hri,hB1,hB2,hBn,hst2⟩:=hat' i o ho;rw [hBdef] at hB1 hB2;have hN2:=aFi hN hd.below hd.ok;have Hj:∀ j y,aDe o j=true→((res.take i)[j]?).join=some y→∀ o' t,ops[j]? = some o'→o'.dst=some t→Den (NB N bs1) bs1 w y (a.tmps.getD t undef):=by
    intro j y hed hy o' t ho' hdst';unfold aDe at hed;rw [←Array.any_toList,Xx] at hed;obtain ⟨e,hem,hee⟩:=hed;rw [Array.mem_toList_iff] at hem;simp only [Qe,Yq] at hee;have hr:res[j]? = some (some y):=by
     cases hq:(res.take i)[j]? with
     | none=>rw [hq] at hy; cases hy
     | some q =>
       rw [hq] at hy;simp at hy
       subst hy;rw [List.getElem?_take] at hq;split at hq
       · exact hq
       · cases hq
    exact hd.vals j o' t y (by rw [←hee.2]; exact hdep e hem hee.1) ho' hdst' hr
   have H:∀ x y,aFq ops.toList s (res.take i) o x=some y→Den (NB N bs1) bs1 w y (a.eval x):=by
    intro x y hy;cases x with
    | tmp t =>
      replace hy:(match aCH ops.toList t with | none=>(alk s.env t).join | some j=>bif aDe o j then ((res.take i)[j]?).join else bif (match ops.toList[j]? with | some q=>aDe q (res.take i).length | none=>false) then (alk s.env t).join else none)=some y:=hy
      cases hx:aCH ops.toList t with
      | none =>
        rw [hx] at hy;show Den _ _ _ _ (a.tmps.getD t undef)
        rw [hd.keep t fun j hj=>by rw [hx] at hj; cases hj]
        exact Den.mono hd.kp hd.ext _ _ (h.vals t y hy)
      | some j =>
        rw [hx] at hy;dsimp only at hy;cases hed:aDe o j with
        | false =>
          rw [hed] at hy;simp only [cond_false] at hy;obtain ⟨o',ho',hdst'⟩:=aDw hx;rw [ho'] at hy;dsimp only at hy;cases hee:aDe o' (res.take i).length with
          | false=>rw [hee] at hy; cases hy
          | true =>
            rw [hee] at hy;simp only [cond_true] at hy;rw [Qt,Yz (Xr (Qd.1 hri).1)] at hee;rw [Xo] at ho';unfold aDe at hee;rw [←Array.any_toList,Xx] at hee;obtain ⟨e',hem,hee⟩:=hee;rw [Array.mem_toList_iff] at hem;simp only [Qe,Yq] at hee;show Den _ _ _ _ (a.tmps.getD t undef)
            rw [hd.keep t fun j' hj'=>by
             rw [hx] at hj';cases hj'
             rcases hLj:L.getD j false with _ | _
             · rfl
             · have h7:=hd.clo j o' hLj ho' e' hem hee.1;rw [hee.2,hu2] at h7;cases h7]
            exact Den.mono hd.kp hd.ext _ _ (h.vals t y hy)
        | true =>
          rw [hed] at hy;simp only [cond_true] at hy;obtain ⟨o',ho',hdst'⟩:=aDw hx;rw [Xo] at ho';exact Hj j y hed hy o' t ho' hdst'
    | const v=>exact aDR hy
    | func f=>cases hy; exact ⟨rfl,rfl⟩
    | global g=>cases hy
   have hnost:∀ d,o.dst=some d→∀ k c,st=some (i,k,c)→False:=fun d hd' k c hs=>by
    obtain ⟨j',o',hj',ho',hdo,_⟩:=hst i k c hs trivial;subst hj';rw [Xo,ho] at ho';cases ho'
    rw [hd'] at hdo;cases hdo
   refine wpOp_step ho fun R hR=>?_;have hclo:∀ j o',(L.setIfInBounds i true).getD j false=true→ops[j]? = some o'→∀ e∈o'.after,Region.binds .any e=true→(L.setIfInBounds i true).getD e.on false=true:=fun j o' hj ho' e he hb=>by
    rcases (hset j).1 hj with rfl | hj
    · rw [ho] at ho';cases ho'
      exact (hset _).2 (.inr (hdep e he hb))
    · exact (hset _).2 (.inr (hd.clo j o' hj ho' e he hb))
   have hfin:∀ (d:Nat),o.dst=some d→∀ (bs2:Bm) (v:Value) (w':World),Below w w w'→Ext bs1 bs2→aCM (NB N bs1) (NB N bs2) w w'→aEk w0 (s.next+ops.size) bs2 w'→(∀ y,r=some y→Den (NB N bs2) bs2 w' y v) →
    (alk B (s.next+i)≠none→bs2 (s.next+i)≠none)→(∀ j,j≠i→bs2 (s.next+j)=bs1 (s.next+j))→(∀ b x,alk B b=some x→bs1 b=none→bs2 b≠none→BoxAt N bs2 w' b x)→R (a.put o.dst v) w':=by
    intro d hd' bs2 v w' hb hx hk hok hv hp1 hp2 hnb;obtain ⟨hdx,hdn⟩:=hdst d hd';have hds:d<a.tmps.size:=by rw [hd.sz]; exact hdn
    have hmono:∀ b x,BoxAt N bs1 w b x→BoxAt N bs2 w' b x:=fun b x h=>h.mono hk hx fun g _ _ ho=>(hb.block g (Ql.1 ho).1).trans ho;rw [hd'];refine hR _ _ ⟨bs2,hsz2,hcount,by show (a.tmps.setIfInBounds d v).size=_; rw [Array.size_setIfInBounds]; exact hd.sz,hd.defers,fun t ht=>?_,hd.below.trans (hb.mono hd.below.size),fun b g hg=>hx b g (hd.ext b g hg),hok,fun g o hn hg=>hk g o (hd.kp g o hn hg).1 (hd.kp g o hn hg).2,fun j o' d' y hj ho' hdd hy=>?_,fun j hj hne'=>?_,fun j hj=>?_,hclo,fun b x hbx hpr hcd=>?_,fun j k c b x h1 h2 h3 h4=>?_⟩
    · rw [aDQ hds,if_neg (fun e=>by subst e; have:=ht i hdx; rw [(hset i).2 (.inl rfl)] at this; cases this)]
      exact hd.keep t fun j hj=>(hsetf j (ht j hj)).2
    · rw [aDQ hds];rcases (hset j).1 hj with rfl | hj
      · rw [ho] at ho';cases ho'
        rw [hd'] at hdd;cases hdd
        rw [hri] at hy;cases hy
        rw [if_pos rfl];exact hv _ rfl
      · have hdj:d≠d':=fun e=>by
         subst e
         have:=((hat' j o' ho').dst d hdd).1
         rw [hdx] at this;exact hne j hj (Xi this).symm
        rw [if_neg hdj];exact Den.mono hk hx _ _ (hd.vals j o' d' y hj ho' hdd hy)
    · by_cases e:j=i
      · subst e; exact hp1 hne'
      · rw [hp2 j e];rcases (hset j).1 hj with e' | hj
        · exact absurd e' e
        · exact hd.pres j hj hne'
    · obtain ⟨h1,h2⟩:=hsetf j hj;rw [hp2 j h1];exact hd.frs j h2
    · by_cases hb1:bs1 b=none
      · exact hnb b x hbx hb1 hpr
      · exact hmono b x (hd.box b x hbx hb1 fun e q k c hq=>(hsetf q (hcd e q k c hq)).2)
    · rcases (hset j).1 h2 with rfl | h2
      · exact (hnost d hd' k c h1).elim
      · exact hmono b _ (hd.boxs j k c b x h1 h2 h3 h4)
   have hsame:∀ (d:Nat),o.dst=some d→nb2=nb1→∀ (v:Value) (w':World),Below w w w'→(∀ y,r=some y→Den (NB N bs1) bs1 w' y v)→R (a.put o.dst v) w':=fun d hd' hnn v w' hb hv =>
    hfin d hd' bs1 v w' hb (aCr _) (aCy hb) ⟨hd.ok.inj,fun i g hg=>⟨(hd.ok.low i g hg).1,Qj (hd.ok.low i g hg).2.1 hb.size,(hd.ok.low i g hg).2.2⟩⟩ hv (fun hne'=>by
     rw [hB2,hnn] at hne';cases hq:alk (nb1++s.boxes) (s.next+i) with
     | none=>exact absurd hq hne'
     | some x=>have:=hBn _ x hq; omega) (fun _ _=>rfl) fun b x _ h1 h2=>absurd h1 h2
   have hguard:∀ b,aDx ops.toList (res.take i) o=some b→Region.wanted o (yielded ops a.tmps)=b:=by
    intro b hg;unfold aDx at hg;unfold Region.wanted;split at hg
    · rename_i h1; rw [h1]; cases hg; rfl
    · rename_i j want h1;rw [h1];split at hg
      · rename_i d v hdj hed hv;cases hg
        simp only [Xe] at hdj;obtain ⟨o',ho',hdst'⟩:=hdj;rw [Xo] at ho';have h2:=(Hj j _ hed hv o' d ho' hdst').1;have h3:a.tmps[d]? = some (.bool v):=by
         cases h4:a.tmps[d]? with
         | none=>simp [h4,undef] at h2
         | some u=>simp [h4] at h2; rw [h2]
        simp [yielded,ho',hdst',h3]
      · cases hg
   have hbx1:∀ b x,alk (nb1++s.boxes) b=some x→alk B b=some x:=fun b x hx=>by rw [hB1 b (hBn b x hx)]; exact hx
   unfold aEg at hop;split at hop
   · rename_i hg;split at hop
     · rename_i d hd';cases hop
       rw [if_neg (by rw [hguard _ hg]; decide)];exact hsame d hd' rfl undef w br (fun y hy=>by cases hy)
     · cases hop
   · cases hop
   · rename_i hg;rw [if_pos (by rw [hguard _ hg])];unfold Oper.wp;have hilen:(res.take i).length=i:=by rw [Qt]; have:=(Qd.1 hri).1; omega
     have HM:aEl (NB N bs1) bs1 w (aFy ops.toList (nb1++s.boxes) b0 (res.take i).length):=fun b l g hb hbg=>by
      rw [hilen] at hb;have key:∀ x,alk (nb1++s.boxes) b=some x→(b0=some b→aDf ops.toList i=true)→∃ T cur vs,w.heap[g]? = some (.cells cur T (0,0))∧vs <+: cur.toList∧DenL (NB N bs1) bs1 w x.2 vs:=fun x hx hsa=>by
       obtain ⟨g',cur,vs,h1,h2,h3,h4⟩:=hd.box b x (hbx1 b x hx) (by rw [hbg]; simp) fun e j k c hs=>by
        obtain ⟨j',o',hj',ho',_,hso⟩:=hst j k c hs trivial;subst hj';rcases hLj:L.getD j false with _ | _
        · rfl
        · exfalso
          have h5:=hsa e;unfold aDf at h5;rw [Xk] at h5;have h6:=h5 o' (Qu ho');rw [hso] at h6;simp only [Bool.not_true,Bool.false_or] at h6;unfold aDe at h6;rw [←Array.any_toList,Xx] at h6;obtain ⟨e',hem,hee⟩:=h6;rw [Array.mem_toList_iff] at hem;simp only [Qe,Yq] at hee;have h7:=hd.clo j o' hLj (by rw [Xo] at ho'; exact ho') e' hem hee.1;rw [hee.2,hu2] at h7;cases h7
       rw [hbg] at h1;cases h1
       exact ⟨x.1,cur,vs,h2,h3,h4⟩
      unfold aFy at hb;cases hsa:aDf ops.toList i with
      | true =>
        rw [hsa] at hb;simp only [cond_true,aCX,Qr] at hb;obtain ⟨x,hx,rfl⟩:=hb;exact key x hx fun _=>hsa
      | false =>
        rw [hsa] at hb;simp only [cond_false] at hb;unfold mask at hb;cases hq:b0 == some b with
        | true=>rw [hq] at hb; cases hb
        | false =>
          rw [hq] at hb;simp only [cond_false,aCX,Qr] at hb;obtain ⟨x,hx,rfl⟩:=hb;exact key x hx fun e=>by rw [e] at hq; simp at hq
     split at hop
     · rename_i d hd';split at hop
       · rename_i x hx;cases hop
         obtain ⟨v,w',hr,hb,hv⟩:=aCW hcl.bin (fun _=>rfl) (fun f l e=>by rw [hx] at e; cases e) hN2 H HM hx;rw [hr,Oper.upon_value];exact hsame d hd' rfl v w' hb fun y hy=>by cases hy; exact hv
       · rename_i T l r' hx;cases hop
         obtain ⟨v,w',cur,vs,hr,hb,hg',hp,hv,hvv⟩:=aCW hcl.bin (fun _=>rfl) (fun f l e=>by rw [hx] at e; cases e) hN2 H HM hx;rw [hr,Oper.upon_value];have hfr:=hd.frs i hu2;have hext:=aEI (g:=w.heap.size) hfr;have hk:=aDF (N:=N) (bs:=bs1) (n:=s.next+i) hb;have hlt':=(Ql.1 hg').1;rw [hilen] at hB2 hfin;refine hfin d hd' (upd bs1 (s.next+i) w.heap.size) v w' hb hext hk (aFh hd.ok hd.below.size om lr hlt') (fun y hy=>by cases hy; exact aEz hvv) (fun _=>by simp [upd]) (fun j hj=>by unfold upd; rw [if_neg om]) fun b x hbx hb1 hb2=>?_
         have hbi:b=s.next+i:=by
          unfold upd at hb2;split at hb2
          · rename_i e; exact e
          · exact absurd hb1 hb2
         subst hbi;rw [hB2,Xy] at hbx;unfold alk at hbx;simp only [BEq.rfl,cond_true,Option.some.injEq] at hbx;subst hbx;exact ⟨w,cur,vs,by simp [upd],hg',hp,DenL.mono hk hext _ _ hv⟩
       · rename_i f xs hx;cases hpl:aCx xs with
         | false=>rw [hpl] at hop; cases hop
         | true =>
           rw [hpl] at hop;simp only [cond_true] at hop;split at hop
           · rename_i x hcf;cases hps:aCQ x with
             | false=>rw [hps] at hop; cases hop
             | true =>
               rw [hps] at hop;cases hop
               obtain ⟨vs,hr,hv⟩:=aCW hcl.bin (fun _=>rfl) (fun f l e=>by rw [hx] at e; cases e; exact (hcl.call _ _ _ hcf).1) hN2 H HM hx
               rw [hr,Oper.upon_enter];refine Calls.mono ((hcl.call f xs x hcf).2 (NB N bs1) w vs hN2 (DenT.pure _ _ hpl hv)) ?_;rintro e w' ⟨v,rfl,hv,hbl⟩;exact hsame d hd' rfl v w' hbl fun y hy=>by cases hy; exact Den.mono (aDm _ _) (aEJ _) _ _ hv
           · cases hop
       · cases hop
     · rename_i hd';split at hop
       · rename_i b k c hx;cases hbi:(b0 == some b && aCA o) with
         | false=>rw [hbi] at hop; cases hop
         | true =>
           rw [hbi] at hop;have hbb:=(Qe .. ▸ hbi).1;simp only [cond_true,Option.some.injEq,Prod.mk.injEq] at hop;obtain ⟨rfl,rfl,rfl⟩:=hop;have hbe:b0=some b:=by simpa using hbb
           have hst3:=hst2 _ rfl;rw [hilen] at hst3;have HO:aEl (NB N bs1) bs1 w (only (nb1++s.boxes) b0):=fun b' l g hb hbg=>by
            unfold only at hb;cases hq:b0 == some b' with
            | false=>rw [hq] at hb; cases hb
            | true =>
              rw [hq] at hb;simp only [cond_true,aCX,Qr] at hb;obtain ⟨x,hx,rfl⟩:=hb;obtain ⟨g',cur,vs,h1,h2,h3,h4⟩:=hd.box b' x (hbx1 b' x hx) (by rw [hbg]; simp) fun _ j' k' c' hj=>by rw [hst3] at hj; cases hj; exact hu2
              rw [hbg] at h1;cases h1
              exact ⟨x.1,cur,vs,h2,h3,h4⟩
           obtain ⟨g,vs,hg',hr,hv,l0,hl0,hfit⟩:=aCW hcl.bin (fun _=>rfl) (fun f l e=>by rw [hx] at e; cases e) hN2 H HO hx;rw [hr,Oper.upon_skip,hd'];have hk:=aCE (N:=N) (w:=w) (k:=k) (vs:=vs) hg';have hl1:∃ y,alk B b=some y∧l0=y.2:=by
            unfold only at hl0;rw [hbb] at hl0;simp only [cond_true,aCX,Qr] at hl0;obtain ⟨y,hy,rfl⟩:=hl0;exact ⟨y,hbx1 b y hy,rfl⟩
           obtain ⟨y0,hy0,rfl⟩:=hl1;refine hR _ _ ⟨bs1,hsz2,hcount,hd.sz,hd.defers,(fun t ht=>hd.keep t fun j hj=>(hsetf j (ht j hj)).2),aCJ hd.below (hd.ok.low _ _ hg').1 vs k,hd.ext,⟨hd.ok.inj,fun j q hq=>by rw [aCF]; exact hd.ok.low j q hq⟩,fun g o hn hg=>hk g o (hd.kp g o hn hg).1 (hd.kp g o hn hg).2,fun j o' d' y hj ho' hdd hy=>?_,fun j hj hne'=>?_,fun j hj=>hd.frs j (hsetf j hj).2,hclo,fun b' x hbx hpr hcd=>?_,fun j k' c' b' x h1 h2 h3 h4=>?_⟩
           · rcases (hset j).1 hj with rfl | hj
             · rw [ho] at ho';cases ho'
               rw [hd'] at hdd;cases hdd
             · exact Den.mono hk (aCr _) _ _ (hd.vals j o' d' y hj ho' hdd hy)
           · rcases (hset j).1 hj with rfl | hj
             · exfalso
               apply hne'
               rw [hB2];cases hq:alk (nb1++s.boxes) (s.next+j) with
               | none=>rfl
               | some x=>have:=hBn _ x hq; omega
             · exact hd.pres j hj hne'
           · by_cases e:b'=b
             · subst e
               have:=hcd hbe i k c hst3
               rw [(hset i).2 (.inl rfl)] at this;cases this
             · exact aDd hd.ok hg' e (hd.box b' x hbx hpr fun e'=>by rw [hbe] at e'; exact absurd (Xi e').symm e)
           · rw [hst3] at h1;cases h1
             rw [hbe] at h3;cases h3
             rw [hy0] at h4;cases h4
             exact aDC hg' (hd.box b y0 hy0 (by rw [hg']; simp) fun _ j' k' c' hj=>by rw [hst3] at hj; cases hj; exact hu2) hv hfit
       · cases hop
 · have hno:∀ i:Nat,(Array.replicate ops.size false).getD i false=true→False:=by
    intro i hi;rcases Zb i ops.size with h' | h'
    · simp [h'] at hi
    · simp [Nat.not_lt.2 h'] at hi
   have hdr:Below W0 W0 W0.drew:=Below.drew br;have hk:=aCy (N:=NB N bs) hdr;exact ⟨bs,by simp,Qn List.countP_le_length sm,h.size,h.defers,fun _ _=>rfl,h.below.drew,aCr _,⟨h.ok.inj,fun i g hg=>by have:=h.ok.low i g hg; exact ⟨this.1,this.2.1,om⟩⟩,hk,fun i _ _ _ hi=>(hno i hi).elim,fun j hj=>(hno j hj).elim,fun j _=>aGj h.ok (Nat.le_add_right _ _),fun j _ hj=>(hno j hj).elim,fun b x hx hp _=>by
    obtain ⟨g,hg⟩:=Option.ne_none_iff_exists'.1 hp;have hb:=(h.ok.low b g hg).2.2;rw [hB0 b hb] at hx;exact (h.box b x hx).mono hk (aCr _) fun g o _ ho=>ho,fun j _ _ _ _ _ h2=>(hno j h2).elim⟩
theorem aFs (hm:P.follows .mixedOrders=true) (hN:∀ g,w0.heap.size≤g→N g) (hcl:aDc P cl) {id:Nat} {ops:Array Oper} {s s':ES} {bs:Bm} {a0:Act} {W0:World} (h:ERel N w0 s bs a0 W0) (he:aFt P cl ops s=some s') {Q:Exit→Act→World→Prop}
 (hQ:∀ bs' a' w',ERel N w0 s' bs' a' w'→(∀ t,aCH ops.toList t=none→a'.tmps.getD t undef=a0.tmps.getD t undef)→Q .normal a' w'):(Code.region id ops true).wp P Q a0 W0:=by
 unfold aFt at he;cases hb:ops.any aCA with
 | false=>rw [hb] at he; exact aDK hm hN hcl h he hQ
 | true =>
   rw [hb] at he;simp only [cond_true] at he;obtain ⟨b,_,hb⟩:=List.exists_of_findSome?_eq_some he;exact aDK hm hN hcl h hb hQ
end
inductive EX where
 | normal
 | exit (id:Nat)
 | ret
def EX.out:EX→Exit
 | .normal=>.normal
 | .exit i=>.exit i
 | .ret=>.ret
def aEB (f:ES→Option (EX × ES)):Nat→ES→Option (EX × ES)
 | 0,_=>none
 | n+1,s=>match f s with
   | some (.normal,s1)=>aEB f n s1
   | r=>r
def aCw (P:Program) (cl:CL) (K:Nat):Code→ES→Option (EX × ES)
 | .skip,s=>some (.normal,s)
 | .region _ ops false,s=>(aDp P cl ops ops.toList s).map fun r=>(.normal,r)
 | .region _ ops true,s=>(aFt P cl ops s).map fun r=>(.normal,r)
 | .seq a b,s=>match aCw P cl K a s with
   | some (.normal,s1)=>aCw P cl K b s1
   | r=>r
 | .cond c t e,s=>match s.rd c with
   | some (.c (.bool true))=>aCw P cl K t s
   | some (.c (.bool false))=>aCw P cl K e s
   | _=>none
 | .block id c,s=>match aCw P cl K c s with
   | some (.exit i,s1)=>some (bif i == id then .normal else .exit i,s1)
   | r=>r
 | .loop c,s=>aEB (fun s=>aCw P cl K c s) K s
 | .exit id,s=>some (.exit id,s)
 | .ret,s=>some (.ret,s)
 | _,_=>none
def aGr (B:Bx):SV→Option SV
 | .sl b n=>match alk B b with
   | some x=>bif aCx x.2 then some (.row x.1 n false x.2) else none
   | none=>none
 | x=>bif aCQ x then some x else none
def aFI (B:Bx):List SV→Option (List SV)
 | []=>some []
 | x::l=>(aGr B x).bind fun y=>(aFI B l).map (y::·)
def aFH (B:Bx):SV→Option SV
 | .agg l=>(aFI B l).map .agg
 | x=>aGr B x
def aDo (P:Program) (s:ES):ResultVar→Option SV
 | .tmp t=>(alk s.env t).join.bind (aFH s.boxes)
 | .cell a T=>match (alk s.env a).join with
   | some (.ptr b k)=>(aCX s.boxes b).bind fun l=>(aDa P T l k).bind (aFH s.boxes)
   | _=>none
def aEe (P:Program) (s:ES) (rs:List ResultVar):Option SV :=
 match rs.mapM (aDo P s) with
 | some [x]=>some x
 | some l=>some (.tup l)
 | none=>none
def aDu:Nat→List SV→List (Nat × Option SV)
 | _,[]=>[]
 | i,x::l=>(i,some x)::aDu (i+1) l
def aKB (P:Program) (fb:FuncId→Option Func) (K:Nat):Nat→FuncId→List SV→Option SV
 | 0,_,_=>none
 | n+1,f,l=>(fb f).bind fun fn=>fn.body.bind fun c=>bif Nat.ble l.length fn.ntmps then
  match aCw P ⟨aKB P fb K n,fun _ _ _ _=>none⟩ K c ⟨fn.ntmps,0,aDu 0 l,[]⟩ with
  | some (.normal,s)=>aEe P s fn.results.toList
  | some (.ret,s)=>aEe P s fn.results.toList
  | _=>none
   else none
def LW (P:Program) (c:Code) (Q:Exit→Act→World→Prop) (a:Act) (w:World):Prop:=∀ b k cs,∃ e a' w',Q e a' w'∧Arrives P (lone (b.at a (.code c::.inLoop c::k)) cs w) b k cs e a' w'
omit [Syms] in
theorem aEM {P:Program} {c:Code} {Q:Exit→Act→World→Prop} {a:Act} {w:World} (h:c.wp P (Exit.then (LW P c Q) Q) a w):LW P c Q a w:=by
 intro b k cs;obtain ⟨e,a₁,w₁,hq,harr⟩:=h b (.inLoop c::k) cs;cases e with
 | normal =>
   obtain ⟨e₂,a₂,w₂,hq₂,harr₂⟩:=hq b k cs;exact ⟨e₂,a₂,w₂,hq₂,.of_steps (Steps.trans harr (.one step_inLoop)) harr₂⟩
 | exit id=>exact ⟨_,a₁,w₁,hq,.pass (x:=.inLoop c) rfl (fun _ _=>.inl sm) harr⟩
 | goto l=>exact ⟨_,a₁,w₁,hq,.pass (x:=.inLoop c) rfl (fun _ _=>.inl sm) harr⟩
 | ret=>exact ⟨_,a₁,w₁,hq,.pass (x:=.inLoop c) rfl (fun _ _=>.inl sm) harr⟩
 | panic ch=>exact ⟨_,a₁,w₁,hq,.pass (x:=.inLoop c) rfl (fun _ _=>.inl sm) harr⟩
 | outgrown=>exact ⟨_,a₁,w₁,hq,.pass (x:=.inLoop c) rfl (fun _ _=>.inl sm) harr⟩
omit [Syms] in
theorem aGJ {P:Program} {c:Code} {Q:Exit→Act→World→Prop} {a:Act} {w:World} (h:LW P c Q a w):(Code.loop c).wp P Q a w:=fun b k cs =>
 let ⟨e,a',w',q,r⟩:=h b k cs
 ⟨e,a',w',q,.of_steps (.one step_loop) r⟩
section
variable {P:Program} {N:Nat→Prop} {w0:World} {cl:CL}
theorem aEd {c:Code} {f:ES→Option (EX × ES)} (hf:∀ {s s':ES} {x:EX} {bs:Bm} {a:Act} {w:World} {Q:Exit→Act→World→Prop},ERel N w0 s bs a w→f s=some (x,s')→(∀ bs' a' w',ERel N w0 s' bs' a' w'→Q x.out a' w')→c.wp P Q a w) :
 ∀ (n:Nat) {s s':ES} {x:EX} {bs:Bm} {a:Act} {w:World} {Q:Exit→Act→World→Prop},ERel N w0 s bs a w→aEB f n s=some (x,s')→(∀ bs' a' w',ERel N w0 s' bs' a' w'→x≠.normal→Q x.out a' w')→LW P c Q a w
 | 0,_,_,_,_,_,_,_,_,he,_=>by cases he
 | n+1,s,s',x,bs,a,w,Q,h,he,hQ=>by
   unfold aEB at he;split at he
   · rename_i s1 h1;exact aEM (hf h h1 fun _ _ _ hr=>aEd hf n hr he hQ)
   · rename_i hne;refine aEM (hf h he fun bs' a' w' hr=>?_);have hx:x≠.normal:=fun e=>by subst e; exact hne s' he
     have:=hQ bs' a' w' hr hx
     cases x with
     | normal=>exact absurd rfl hx
     | exit | ret=>exact this
theorem aCt (hm:P.follows .mixedOrders=true) (hN:∀ g,w0.heap.size≤g→N g) (hcl:aDc P cl) {K:Nat}:∀ (c:Code) {s s':ES} {x:EX} {bs:Bm} {a:Act} {w:World} {Q:Exit→Act→World→Prop},ERel N w0 s bs a w→aCw P cl K c s=some (x,s') →
 (∀ bs' a' w',ERel N w0 s' bs' a' w'→Q x.out a' w')→c.wp P Q a w
 | .skip,s,s',x,bs,a,w,Q,h,he,hQ=>by cases he; exact wp_skip (hQ _ _ _ h)
 | .region id ops false,s,s',x,bs,a,w,Q,h,he,hQ=>by
   simp only [aCw,Qr] at he;obtain ⟨r,hr,he⟩:=he;cases he
   exact wp_region_list (aDb hN hcl h hr hQ)
 | .region id ops true,s,s',x,bs,a,w,Q,h,he,hQ=>by
   simp only [aCw,Qr] at he;obtain ⟨r,hr,he⟩:=he;cases he
   exact aFs hm hN hcl h hr fun bs' a' w' h' _=>hQ bs' a' w' h'
 | .seq c d,s,s',x,bs,a,w,Q,h,he,hQ=>by
   unfold aCw at he;split at he
   · rename_i s1 h1;exact wp_seq (aCt hm hN hcl c h h1 fun _ _ _ hr=>aCt hm hN hcl d hr he hQ)
   · rename_i hne;refine wp_seq (aCt hm hN hcl c h he fun bs' a' w' hr=>?_)
     have:=hQ bs' a' w' hr
     cases x with
     | normal=>exact absurd he (hne s')
     | exit | ret=>exact this
 | .cond c t e,s,s',x,bs,a,w,Q,h,he,hQ=>by
   unfold aCw at he;split at he
   · rename_i hc;exact wp_cond_true (h.rd _ _ hc).1 (aCt hm hN hcl t h he hQ)
   · rename_i hc;exact wp_cond_false (h.rd _ _ hc).1 (aCt hm hN hcl e h he hQ)
   · cases he
 | .block id c,s,s',x,bs,a,w,Q,h,he,hQ=>by
   unfold aCw at he;split at he
   · rename_i i s1 h1;cases he
     refine wp_block (aCt hm hN hcl c h h1 fun bs' a' w' hr=>?_)
     have:=hQ bs' a' w' hr
     show (if i=id then Q .normal a' w' else Q (.exit i) a' w')
     by_cases hi:i=id
     · subst hi; simpa [EX.out] using this
     · have hb:(i == id)=false:=by simpa using hi
       rw [if_neg hi];rw [hb] at this;exact this
   · rename_i hne;refine wp_block (aCt hm hN hcl c h he fun bs' a' w' hr=>?_)
     have:=hQ bs' a' w' hr
     cases x with
     | exit i=>exact absurd he (hne i s')
     | normal | ret=>exact this
 | .loop c,s,s',x,bs,a,w,Q,h,he,hQ=>by
   unfold aCw at he;exact aGJ (aEd (fun h he hQ=>aCt hm hN hcl c h he hQ) K h he fun bs' a' w' hr _=>hQ bs' a' w' hr)
 | .exit id,s,s',x,bs,a,w,Q,h,he,hQ=>by cases he; exact wp_exit (hQ _ _ _ h)
 | .ret,s,s',x,bs,a,w,Q,h,he,hQ=>by cases he; exact wp_ret (hQ _ _ _ h)
 | .rangeFunc ..,_,_,_,_,_,_,_,_,he,_ | .scope _,_,_,_,_,_,_,_,_,he,_ | .label _,_,_,_,_,_,_,_,_,he,_ | .goto _,_,_,_,_,_,_,_,_,he,_ | .refuse _,_,_,_,_,_,_,_,_,he,_=>by cases he
omit [Syms] in
theorem aEb {bs:Bm} {w:World}:aCM (NB N bs) N w w:=fun _ _ h k=>⟨h.1,k⟩
theorem aCL {bs:Bm} {w:World} {x y:SV} {v:Value} (h:(bif aCQ x then some x else none)=some y) (hd:Den (NB N bs) bs w x v):Den N (fun _=>none) w y v:=by
 cases hp:aCQ x with
 | false=>rw [hp] at h; cases h
 | true =>
   rw [hp] at h;cases h
   exact Den.pure (bs:=bs) _ _ hp (Den.mono aEb (aCr _) _ _ hd)
theorem aCO (hN:∀ g,w0.heap.size≤g→N g) {s:ES} {bs:Bm} {a:Act} {w:World} (h:ERel N w0 s bs a w) {x y:SV} {v:Value} (hf:aGr s.boxes x=some y) (hd:Den (NB N bs) bs w x v):Den N (fun _=>none) w y v:=by
 cases x with
 | sl b n =>
   replace hf:(match alk s.boxes b with | some x=>bif aCx x.2 then some (SV.row x.1 n false x.2) else none | none=>none)=some y:=hf
   cases hx:alk s.boxes b with
   | some x =>
     rw [hx] at hf;dsimp only at hf;cases hp:aCx x.2 with
     | false=>rw [hp] at hf; cases hf
     | true =>
       rw [hp] at hf;cases hf
       obtain ⟨g,cap,h1,h2,h3⟩:=hd;obtain ⟨g',cur,vs,h4,h5,h6,h7⟩:=h.box b x hx;rw [h1] at h4;cases h4
       exact ⟨g,0,cap,cur,vs,h2,hN g (h.ok.low b g h1).1,h5,(by rw [List.drop_zero]; exact h6),DenL.pure (bs:=bs) _ _ hp (DenL.mono aEb (aCr _) _ _ h7),(fun e=>by cases e),h3⟩
   | none=>rw [hx] at hf; cases hf
 | c x=>exact aCL (x:=.c x) hf hd
 | agg x=>exact aCL (x:=.agg x) hf hd
 | tup x=>exact aCL (x:=.tup x) hf hd
 | row T n e l=>exact aCL (x:=.row T n e l) hf hd
 | sym i=>exact aCL (x:=.sym i) hf hd
 | ptr | elt=>cases hf
theorem aEH (hN:∀ g,w0.heap.size≤g→N g) {s:ES} {bs:Bm} {a:Act} {w:World} (h:ERel N w0 s bs a w):∀ (l m:List SV) (vs:List Value),aFI s.boxes l=some m→DenL (NB N bs) bs w l vs→DenL N (fun _=>none) w m vs
 | [],m,vs,hf,hd=>by cases hf; exact hd
 | x::l,m,_,hf,⟨v,r,rfl,ho,hd,hl⟩=>by
   simp only [aFI,Xe,Qr] at hf;obtain ⟨y,hy,m',hm,rfl⟩:=hf;exact ⟨v,r,rfl,ho,aCO hN h hy hd,aEH hN h l m' r hm hl⟩
theorem aEG (hN:∀ g,w0.heap.size≤g→N g) {s:ES} {bs:Bm} {a:Act} {w:World} (h:ERel N w0 s bs a w) {x y:SV} {v:Value} (hf:aFH s.boxes x=some y) (hd:Den (NB N bs) bs w x v):Den N (fun _=>none) w y v:=by
 cases x with
 | agg l =>
   simp only [aFH,Qr] at hf;obtain ⟨m,hm,rfl⟩:=hf;obtain ⟨vs,rfl,hl⟩:=hd;exact ⟨vs,rfl,aEH hN h l m vs hm hl⟩
 | c x=>exact aCO hN h (x:=.c x) hf hd
 | tup x=>exact aCO hN h (x:=.tup x) hf hd
 | row T n e l=>exact aCO hN h (x:=.row T n e l) hf hd
 | sl b n=>exact aCO hN h (x:=.sl b n) hf hd
 | sym i=>exact aCO hN h (x:=.sym i) hf hd
 | ptr | elt=>cases hf
theorem aFr (hN:∀ g,w0.heap.size≤g→N g) {s:ES} {bs:Bm} {a:Act} {w:World} (h:ERel N w0 s bs a w) {r:ResultVar} {x:SV} (he:aDo P s r=some x) :
 ∃ v,(match r with | .tmp t=>pure (a.tmps.getD t undef) | .cell q t=>do loadVar t (←asAddr (a.tmps.getD q undef)):Sem Value).run P w=.ok v w∧Den N (fun _=>none) w x v:=by
 cases r with
 | tmp t =>
   simp only [aDo,Xe] at he;obtain ⟨y,hy,he⟩:=he;exact ⟨_,rfl,aEG hN h he (h.vals _ _ hy)⟩
 | cell q T =>
   simp only [aDo] at he;split at he
   · rename_i b k hq;simp only [Xe] at he;obtain ⟨l,hb,y,hy,he⟩:=he;obtain ⟨g,T',cur,vs,_,h2,h3,hpf,h4⟩:=aDW (aEh fun b x hx _=>h.box b x hx) hb (h.vals _ _ hq);obtain ⟨v,h5,h6⟩:=aEA (P:=P) (bs:=bs) h3 hpf h4 hy;refine ⟨v,?_,aEG hN h he h6⟩;simp only [Instr.loadAt,Instr.sureAddr,Sem.run_bind,Sem.run_pure,Result.andThen_ok] at h5;simp [h2,asAddr,h5]
   · cases he
theorem aCZ (hN:∀ g,w0.heap.size≤g→N g) {s:ES} {bs:Bm} {a:Act} {w:World} (h:ERel N w0 s bs a w):∀ (rs:List ResultVar) (l:List SV),rs.mapM (aDo P s)=some l →
 ∃ vs,(rs.mapM fun r=>(match r with | .tmp t=>pure (a.tmps.getD t undef) | .cell q t=>do loadVar t (←asAddr (a.tmps.getD q undef)):Sem Value)).run P w=.ok vs w∧DenT N (fun _=>none) w l vs
 | [],l,he=>by simp at he; subst he; exact ⟨[],by simp,rfl⟩
 | r::rs,l,he=>by
   simp only [List.mapM_cons] at he;cases hx:aDo P s r with
   | none=>simp [hx] at he
   | some x =>
     cases hm:rs.mapM (aDo P s) with
     | none=>simp [hx,hm] at he
     | some m =>
       simp [hx,hm] at he
       subst he;obtain ⟨v,h1,h2⟩:=aFr hN h hx;obtain ⟨vs,h3,h4⟩:=aCZ hN h rs m hm;exact ⟨v::vs,by rw [List.mapM_cons,Sem.run_bind,h1]; simp only [Result.andThen_ok,Sem.run_bind,h3,Sem.run_pure],v,vs,rfl,h2,h4⟩
theorem aFv (hN:∀ g,w0.heap.size≤g→N g) {s:ES} {bs:Bm} {a:Act} {w:World} (h:ERel N w0 s bs a w) {fn:Func} {x:SV} (he:aEe P s fn.results.toList=some x):∃ v,(results fn a.tmps).run P w=.ok v w∧Den N (fun _=>none) w x v:=by
 unfold aEe at he;have key:∀ vs,(fn.results.toList.mapM fun r=>(match r with | .tmp t=>pure (a.tmps.getD t undef) | .cell q t=>do loadVar t (←asAddr (a.tmps.getD q undef)):Sem Value)).run P w=.ok vs w→(results fn a.tmps).run P w=.ok (if h:vs.toArray.size=1 then vs.toArray[0] else .tuple vs.toArray) w:=fun vs hv=>by
  unfold results;rw [Sem.run_bind,Array.mapM_eq_mapM_toList,Sem.run_map]
  erw [hv]
  rfl
 split at he
 · rename_i y hy;cases he
   obtain ⟨vs,h1,v,r,rfl,h2,h3⟩:=aCZ hN h _ _ hy;cases h3
   exact ⟨v,by rw [key _ h1]; rfl,h2⟩
 · rename_i l hne hl;cases he
   obtain ⟨vs,h1,h2⟩:=aCZ hN h _ _ hl;refine ⟨.tuple vs.toArray,?_,vs,rfl,h2⟩;rw [key _ h1,dif_neg];intro h1;match l,vs,h2,h1 with
   | [],_,h2,h1=>cases h2; simp at h1
   | [y],_,_,_=>exact hne y rfl
   | _::_::_,_,⟨_,_,rfl,_,_,_,rfl,_,_⟩,h1=>simp at h1
 · cases he
theorem aDt:∀ (l:List SV) (vs:List Value) (bs:Bm) (w:World) (N:Nat→Prop) (i t:Nat) (x:SV),DenT N bs w l vs→(alk (aDu i l) t).join=some x→∃ v,i≤t∧vs[t - i]? = some v∧Den N bs w x v
 | [],_,_,_,_,_,_,_,_,h=>by cases h
 | y::l,_,bs,w,N,i,t,x,⟨v,r,rfl,h1,h2⟩,h=>by
   unfold aDu alk at h;by_cases he:i=t
   · subst he;simp only [BEq.rfl,cond_true,Option.join_some,Option.some.injEq] at h;subst h;exact ⟨v,Qk _,by simp,h1⟩
   · have:(i == t)=false:=by simpa using he
     rw [this] at h;obtain ⟨u,h3,h4,h5⟩:=aDt l r bs w N (i+1) t x h2 h;refine ⟨u,om,?_,h5⟩
     rw [show t - i=(t - (i+1))+1 by omega]
     exact h4
theorem DenT.len {N:Nat→Prop} {bs:Bm} {w:World}:∀ {l:List SV} {vs:List Value},DenT N bs w l vs→vs.length=l.length
 | [],_,h=>by cases h; rfl
 | _::_,_,⟨_,_,e,_,h⟩=>by subst e; simp [DenT.len h]
theorem aDr (hm : P.follows .mixedOrders = true) {fb : FuncId → Option Func} (hfb : ∀ f fn, fb f = some fn → P.funcs[f]? = some fn ∧ (fn.name == "runtime.NumGoroutine") = false) (K : Nat) : ∀ n, aDc P ⟨aKB P fb K n, fun _ _ _ _ => none⟩
 | 0=>⟨(fun f l r h=>by cases h),fun _ _ _ _ _ h=>by cases h⟩
 | n+1=>⟨(fun f l r h=>by
   replace h:aKB P fb K (n+1) f l=some r:=h;unfold aKB at h;simp only [Xe] at h;obtain ⟨fn,hf,c,hc,h⟩:=h;obtain ⟨hp,hn⟩:=hfb f fn hf;refine ⟨fun args w=>?_,fun N w vs hN hd=>?_⟩
   · have hn2 : ¬ fn.name = "runtime.NumGoroutine" := by simpa using hn
     simp [callFunc,hp,hn2,hc]
   · cases hb:Nat.ble l.length fn.ntmps with
     | false=>rw [hb] at h; cases h
     | true =>
       rw [hb] at h;simp only [cond_true] at h;have hle:=Nat.le_of_ble_eq_true hb;have hlen:=hd.len;have hrel:ERel N w ⟨fn.ntmps,0,aDu 0 l,[]⟩ (fun _=>none) { tmps:=vs.toArray++Array.replicate (fn.ntmps - vs.toArray.size) undef,defers:=[] } w:=by
        refine ⟨by simp; omega,rfl,Below.refl _ _,fun t x hx=>?_,⟨(fun i j g h=>by cases h),(fun i g h=>by cases h)⟩,fun b x hx=>by cases hx⟩
        obtain ⟨v,_,h2,h3⟩:=aDt l vs _ w N 0 t x hd hx;have hlt:=(Qd.1 h2).1;simp only [Nat.sub_zero] at h2 hlt
        have:(vs.toArray++Array.replicate (fn.ntmps - vs.toArray.size) undef).getD t undef=v:=by
         rw [Array.getD_eq_getD_getElem?,Array.getElem?_append_left (by simpa using hlt)];simp [h2]
        rw [this];exact Den.mono (fun g o h1 h2=>⟨⟨h1,fun _ h=>by cases h⟩,h2⟩) (aCr _) _ _ h3
       have hend:∀ s bs a w',ERel N w s bs a w'→aEe P s fn.results.toList=some r→a.defers=[]∧∃ v,(results fn a.tmps).run P w'=.ok v w'∧∃ v',Ending.returned v=.returned v'∧Den N (fun _=>none) w' r v'∧Below w.heap.size w w':=fun s bs a w' hr he=>by
        obtain ⟨v,h1,h2⟩:=aFv hN hr he;exact ⟨hr.defers,v,h1,v,rfl,h2,hr.below⟩
       refine calls_of_wp hp hc ?_;split at h
       · rename_i s hs;exact aCt hm hN (aDr hm hfb K n) c hrel hs fun bs' a' w' hr=>hend _ _ _ _ hr h
       · rename_i s hs;exact aCt hm hN (aDr hm hfb K n) c hrel hs fun bs' a' w' hr=>hend _ _ _ _ hr h
       · cases h),fun _ _ _ _ _ h=>by cases h⟩
def fbL (P:Program) (l:List Nat) (f:FuncId):Option Func:=bif l.contains f then P.funcs[f]? else none
omit [Syms] in
theorem aGs {P : Program} {l : List Nat} (h : (l.all fun f => match P.funcs[f]? with | some fn => !(fn.name == "runtime.NumGoroutine") | none => true) = true) (f : FuncId) (fn : Func) (hf : fbL P l f = some fn) : P.funcs[f]? = some fn ∧ (fn.name == "runtime.NumGoroutine") = false := by
 unfold fbL at hf;cases hc:l.contains f with
 | false=>rw [hc] at hf; cases hf
 | true =>
   rw [hc] at hf;simp only [cond_true] at hf;rw [Xk] at h
   have:=h f (by simpa using hc)
   rw [hf] at this;exact ⟨hf,by simpa using this⟩
end
end Go.Proofs.YtoigglljnklhlaaGreatDoor
