/- Joined. -/
import Derived.Test.YtoigglljnklhlaaGreatDoorD19
set_option maxHeartbeats 8000000
set_option maxRecDepth 100000
namespace Go.Proofs.YtoigglljnklhlaaGreatDoor
open Go.RowKit Go.Sort
theorem Bv {w w':World} {base:Nat} {e:TypeId} {size n:Nat} {v:Value} {xs:List Value} {ob:Option Nat} (h:w.ownsRow base e size v n xs) (hg:w.grownBy w' ob) (hne:∀ k,v.ownBlock=some k→some k≠ob):w'.ownsRow base e size v n xs:=by
 obtain⟨h1,h2⟩:=h;refine⟨h1,?_⟩;rcases h2 with h2|⟨g,cap,cur,rfl,hb,hh,r⟩
 · exact Or.inl h2
 · exact Or.inr ⟨g,cap,cur,rfl,hb,(hg.block g (aA hh) (hne g rfl)).trans hh,r⟩
theorem Bt {w:World} {b1 b2:Nat} {e1 e2:TypeId} {s1 s2 n1 n2:Nat} {v1 v2:Value} {x1 x2:List Value} (h1:w.ownsRow b1 e1 s1 v1 n1 x1) (h2:w.ownsRow b2 e2 s2 v2 n2 x2) (hne:e1≠e2) (k:Nat) (hk:v1.ownBlock=some k):some k≠v2.ownBlock:=by
 intro e;rcases h1.2 with⟨rfl,_⟩|⟨g,cap,cur,rfl,_,hh,_⟩
 · cases hk
 · rcases h2.2 with⟨rfl,_⟩|⟨g2,cap2,cur2,rfl,_,hh2,_⟩
   · cases e
   · have e1:g=k:=Option.some.inj hk;have e2:k=g2:=Option.some.inj e;subst e1 e2;rw[hh] at hh2
     have:=Option.some.inj hh2
     simp only[Obj.cells.injEq] at this;exact hne this.2.1
theorem WRow.grown {w w':World} {b n:Nat} {v:Value} {xs:List Value} {ob:Option Nat} (h:WRow w b v n xs) (hg:w.grownBy w' ob) (hne:xs≠[]→v.ownBlock≠ob):WRow w' b v n xs:=by
 obtain⟨a,cap,rfl,hn,h⟩:=h;refine⟨a,cap,rfl,hn,fun hx=>?_⟩;obtain⟨g,o,rfl,h0,hlt,hc,hf⟩:=h hx;have hk:w'.heap[g]? = w.heap[g]? := hg.block g hlt (hne hx);exact⟨g,o,rfl,h0,Nat.lt_of_lt_of_le hlt hg.size,fun j hj=>(World.cell?_of_block (a:=⟨g,o+j,none⟩) hk).trans (hc j hj),fun j hj=>(World.frozen?_of_block (a:=⟨g,o+j,none⟩) hk).trans (hf j hj)⟩
theorem WRow.kb_ne {w w':World} {b k n:Nat} {v:Value} {xs:List Value} (h:WRow w b v n xs) (hk:Kb k w w') (hne:xs≠[]→v.ownBlock≠some k):WRow w' b v n xs:=by
 obtain⟨a,cap,hv,hn,h⟩:=h;refine⟨a,cap,hv,hn,fun hx=>?_⟩;obtain⟨g,o,rfl,h0,hg,hc,hf⟩:=h hx;have hgk:g≠k:=fun e=>hne hx (by rw[hv,e];rfl);exact⟨g,o,rfl,h0,Nat.lt_of_lt_of_le hg hk.size,fun j hj=>(hk.cell (p:=⟨g,o+j,none⟩) hg hgk).trans (hc j hj),fun j hj=>(hk.frozen (p:=⟨g,o+j,none⟩) hg hgk).trans (hf j hj)⟩
def jV (x:Ent × Value):List Value:=[.int .i64 x.1.page,.int .u8 x.1.op,.string ⟨x.1.mn.toArray⟩,x.2,.string ⟨x.1.extra.toArray⟩,.bool x.1.alias]
def sY (vs:List (Ent × Value)):List Value:=vs.flatMap jV
theorem Iw (vs:List (Ent × Value)) (x:Ent × Value):sY (vs++[x])=sY vs++jV x:=by simp[sY]
structure EntsAt (w:World) (base:Nat) (v:Value) (vs:List (Ent × Value)):Prop where
 own:w.ownsRow base 211 6 v vs.length (sY vs)
 args:∀ x∈vs,WRow w base x.2 x.1.args.length (opc x.1.args)
 apart:∀ x∈vs,opc x.1.args≠[]→x.2.ownBlock≠v.ownBlock
theorem EntsAt.nil (w:World) (base:Nat):EntsAt w base (.slice none 0 0) []:=⟨World.ownsRow_nil _ _ _ _,by simp,by simp⟩
theorem EntsAt.below {w w':World} {base:Nat} {v:Value} {vs:List (Ent × Value)} (h:EntsAt w base v vs) (hb:Below w.heap.size w w'):EntsAt w' base v vs :=
 ⟨cI h.own hb,fun x hx=>(h.args x hx).below hb,h.apart⟩
theorem EntsAt.snoc {w w':World} {base b0:Nat} {v v':Value} {vs:List (Ent × Value)} {E:Ent} {x:Value} (h:EntsAt w base v vs) (hx:WRow w b0 x E.args.length (opc E.args)) (h0:base≤b0) (hlt:∀ k,v.ownBlock=some k→k<b0)
 (hown:w'.ownsRow base 211 6 v' (vs.length+1) (sY vs++jV (E,x))) (hg:w.grownBy w' v.ownBlock) (hat:v'.ownBlock=v.ownBlock∨v'.ownBlock=some w.heap.size):EntsAt w' base v' (vs++[(E,x)]):=by
 have hxa:opc E.args≠[]→x.ownBlock≠v.ownBlock∧∃ g,x.ownBlock=some g∧g<w.heap.size:=by
  intro hne;obtain⟨a,cap,rfl,_,h1⟩:=hx;obtain⟨g,o,rfl,h2,h3,_⟩:=h1 hne;refine⟨fun e=>?_,g,rfl,h3⟩
  have:=hlt g e.symm
  omega
 refine⟨by rw[Iw,List.length_append];exact hown,fun y hy=>?_,fun y hy hne=>?_⟩
 · rcases List.mem_append.1 hy with hy|hy
   · exact (h.args y hy).grown hg (h.apart y hy)
   · obtain rfl:y=(E,x):=by simpa using hy
     exact (hx.mono h0).grown hg fun hne=>(hxa hne).1
 · rcases List.mem_append.1 hy with hy|hy
   · rcases hat with e|e
     · rw[e];exact h.apart y hy hne
     · obtain⟨a,cap,hv,_,h1⟩:=h.args y hy;obtain⟨g,o,rfl,h2,h3,_⟩:=h1 hne;rw[hv,e];intro q
       have:g=w.heap.size:=Option.some.inj q
       omega
   · obtain rfl:y=(E,x):=by simpa using hy
     rcases hat with e|e
     · rw[e];exact (hxa hne).1
     · obtain⟨_,g,h2,h3⟩:=hxa hne;rw[e];show x.ownBlock≠_
       rw[h2];intro q
       have:g=w.heap.size:=Option.some.inj q
       omega
theorem kY (p:Nat):∀ r∈dN p,r∈iU:=by
 unfold dN;split
 · exact lG
 · split
   · exact xB
   · split
     · exact Pk
     · simp
def eA (p:Nat):List RA:=qQ (dN p) (kY p)
theorem pG (p:Nat):(eA p).length=(dN p).length:=by unfold eA qQ;simp
theorem qY:∀ p:Fin 7,(dN p.val).length≤1000∧dN p.val≠[]∧∀ op:Fin 256,((atP p.val op.val).2=1↔(atP p.val op.val).1.isSome=true):=by decide +kernel
theorem Gm (p:Nat):qR p=dA (eA p):=by
 unfold dA eA;rw[uO];unfold qR dN;split
 · exact nZ
 · split
   · exact Du
   · split
     · exact Pm
     · rfl
theorem Rh {r r':RA} (h:r.1.text=r'.1.text):r.1.mn=r'.1.mn:=by
 rw[←rY r,←rY r',h]
theorem Xi (mn:List UInt8) (l:List RA) (r:RA) (hr:r∈l):decide (r.1.text∈(eS mn l).map fun x=>x.1.text)=decide (r.1.mn=mn):=by
 rw[decide_eq_decide];constructor
 · intro h;obtain⟨x,hx,he⟩:=List.mem_map.1 h;have h2:=of_decide_eq_true (List.mem_filter.1 hx).2;rw[←Rh he];exact h2
 · intro h;exact List.mem_map.2 ⟨r,List.mem_filter.2 ⟨hr,decide_eq_true h⟩,rfl⟩
theorem Ep (mn:List UInt8) (op:Nat) (hop:op<256):∀ (l:List Rule) (h:∀ r∈l,r∈iU),(eS mn (qQ l h)).any (fun r=>eH r.1.text op)=(l.filter fun r=>decide (r.mn=mn)).any fun r=>r.fits op
 | [],_=>rfl
 | r::l,h=>by
   have ih:=Ep mn op hop l (fun x hx=>h x (List.mem_cons_of_mem _ hx));have hf:eH r.text op=r.fits op:=zM r (h r List.mem_cons_self) ⟨op,hop⟩;unfold eS qQ at *;simp only[List.pmap_cons,List.filter_cons];by_cases hm:r.mn=mn
   · rw[if_pos (decide_eq_true hm),if_pos (decide_eq_true hm),List.any_cons,List.any_cons,hf];exact congrArg _ ih
   · rw[if_neg (by rw[decide_eq_false hm];decide),if_neg (by rw[decide_eq_false hm];decide)];exact ih
theorem Cb (p:Nat) (mn:List UInt8) (op:Nat) (hop:op<256) :
 ((eS mn (eA p)).any (fun r=>eH r.1.text op)=false∧dQ p mn op=none) ∨
 (eS mn (eA p)).any (fun r=>eH r.1.text op)=true∧∃ r,jA op (eA p)=some r ∧
  (decide (r.1.text∈(eS mn (eA p)).map fun x=>x.1.text)=false∧dQ p mn op=none∨decide (r.1.text∈(eS mn (eA p)).map fun x=>x.1.text)=true∧dQ p mn op=(atP p op).1):=by
 have ha:=Ep mn op hop (dN p) (kY p);have hl:=pJ op hop (dN p) (kY p);change (eS mn (eA p)).any _=(aAy p mn).any _ at ha;change (jA op (eA p)).map _=_ at hl;unfold dQ;cases hx:(eS mn (eA p)).any (fun r=>eH r.1.text op) with
 | false=>left;rw[ha] at hx;rw[if_pos hx];exact⟨rfl,rfl⟩
 | true =>
   right
   rw[ha] at hx;rw[if_neg (by rw[hx];decide)];have hsome:∃ r,jA op (eA p)=some r:=by
    rw[←ha] at hx;obtain⟨y,hy,hf⟩:=List.any_eq_true.1 hx;cases hq:jA op (eA p) with
    | some r=>exact⟨r,rfl⟩
    | none=>exact absurd hf (List.find?_eq_none.1 hq y (List.mem_filter.1 hy).1)
   obtain⟨r,hr⟩:=hsome;have hmem:r∈eA p:=List.mem_of_find?_eq_some hr;rw[hr] at hl;rw[←hl];refine⟨rfl,r,hr,?_⟩;rw[Xi mn (eA p) r hmem];simp only[Option.map_some];by_cases hm:r.1.mn=mn
   · right;rw[if_pos hm];exact⟨decide_eq_true hm,rfl⟩
   · left;rw[if_neg hm];exact⟨decide_eq_false hm,rfl⟩
theorem sH (mn:List UInt8):∀ ps:List Nat,(dP mn ps).length≤256*ps.length
 | []=>by simp[dP]
 | p::ps=>by
   have ih:=sH mn ps;have h:=List.length_filterMap_le (dQ p mn) (List.range 256);unfold dP at *;rw[List.flatMap_cons,List.length_append,List.length_cons];rw[List.length_range] at h;omega
theorem yS (mn:List UInt8) (ps:List Nat) (i p:Nat) (h:ps[i]? = some p):dP mn (ps.take (i+1))=dP mn (ps.take i)++(List.range 256).filterMap (dQ p mn):=by
 rw[List.take_add_one,h];simp[dP]
theorem kD (p:Nat) (mn:List UInt8) (k:Nat):(List.range (k+1)).filterMap (dQ p mn)=(List.range k).filterMap (dQ p mn)++(dQ p mn k).toList:=by
 rw[List.range_succ,List.filterMap_append];cases h:dQ p mn k<;>simp[h]
end Go.Proofs.YtoigglljnklhlaaGreatDoor
