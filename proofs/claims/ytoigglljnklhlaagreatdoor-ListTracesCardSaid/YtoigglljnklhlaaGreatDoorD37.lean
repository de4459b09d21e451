/- Joined. -/
import Derived.Test.YtoigglljnklhlaaGreatDoorD36
set_option maxHeartbeats 8000000
set_option maxRecDepth 100000
namespace Go.Proofs.YtoigglljnklhlaaGreatDoor
open Go.RowKit Go.Sort
def aKH (x:Int):List Int→List Int
 | []=>[x]
 | y::l=>if x<y then x::y::l else if x=y then y::l else y::aKH x l
def aKK (l:List Int):List Int:=l.foldl (fun o x=>aKH x o) []
theorem aMD (l:List Int) (x:Int):aKK (l++[x])=aKH x (aKK l):=by simp[aKK]
theorem aLJ (x y:Int):∀ l:List Int,y∈aKH x l↔y=x∨y∈l
 | []=>by simp[aKH]
 | z::l=>by
   unfold aKH;split
   · simp
   · split
     · subst_vars;simp
     · rw[Xg,aLJ x y l,Xg];constructor
       · rintro (h|h|h)
         · exact .inr (.inl h)
         · exact .inl h
         · exact .inr (.inr h)
       · rintro (h|h|h)
         · exact .inr (.inl h)
         · exact .inl h
         · exact .inr (.inr h)
theorem aMt (x:Int):∀ l:List Int,l.Pairwise (·<·)→(aKH x l).Pairwise (·<·)
 | [],_=>by simp[aKH]
 | z::l,h=>by
   have h1:=Zl.1 h;unfold aKH;split
   · refine Zl.2 ⟨fun y hy=>?_,h⟩;rcases Xg.1 hy with rfl|hy
     · assumption
     · have:=h1.1 y hy;omega
   · split
     · exact h
     · refine Zl.2 ⟨fun y hy=>?_,aMt x l h1.2⟩;rcases (aLJ x y l).1 hy with rfl|hy
       · omega
       · exact h1.1 y hy
theorem aMs (x:Int) (B:List Int) (hB:∀ y∈B,x<y):∀ A:List Int,(∀ y∈A,y<x)→aKH x (A++B)=A++x::B
 | [],_=>by
   cases B with
   | nil=>rfl
   | cons z B=>rw[Ye,Ye,aKH,if_pos (hB z Qq)]
 | a::A,hA=>by
   have h:=hA a Qq;rw[Xy,aKH,if_neg om,if_neg om,aMs x B hB A (fun y hy=>hA y (Qv _ hy)),Xy]
theorem aMY (x:Int):∀ l:List Int,l.Pairwise (·<·)→x∈l→aKH x l=l
 | [],_,h=>absurd h Xp
 | z::l,hp,h=>by
   have h1:=Zl.1 hp;rcases Xg.1 h with rfl|h
   · rw[aKH,if_neg om,if_pos rfl]
   · have:=h1.1 x h
     rw[aKH,if_neg om,if_neg om,aMY x l h1.2 h]
theorem aLK (x:Int):∀ l:List Int,(aKH x l).length≤l.length+1
 | []=>Qk _
 | z::l=>by
   have:=aLK x l
   unfold aKH;split
   · exact Qk _
   · split
     · exact Xn _
     · rw[Qp,Qp];omega
theorem aLU (l:List Int):(aKK l).Pairwise (·<·):=by
 unfold aKK
 suffices ∀ o:List Int,o.Pairwise (·<·)→(l.foldl (fun o x=>aKH x o) o).Pairwise (·<·) from this [] List.Pairwise.nil
 induction l with
 | nil=>exact fun o h=>h
 | cons x l ih=>exact fun o h=>ih _ (aMt x o h)
theorem aNe (l:List Int) (y:Int):y∈aKK l↔y∈l:=by
 unfold aKK
 suffices ∀ o:List Int,(y∈l.foldl (fun o x=>aKH x o) o)↔(y∈l∨y∈o) from by rw[this []];simp
 induction l with
 | nil=>simp
 | cons x l ih =>
   intro o;rw[List.foldl_cons,ih,aLJ,Xg];constructor
   · rintro (h|h|h)
     · exact .inl (.inr h)
     · exact .inl (.inl h)
     · exact .inr h
   · rintro ((h|h)|h)
     · exact .inr (.inl h)
     · exact .inl h
     · exact .inr (.inr h)
theorem aMx:∀ l m:List Int,l.Pairwise (·<·)→m.Pairwise (·<·)→(∀ y,y∈l↔y∈m)→l=m
 | [],m,_,_,h=>by
   cases m with
   | nil=>rfl
   | cons b m=>exact absurd ((h b).2 Qq) Xp
 | a::l,[],_,_,h=>absurd ((h a).1 Qq) Xp
 | a::l,b::m,hl,hm,h=>by
   have h1:=Zl.1 hl;have h2:=Zl.1 hm;have hab:a=b:=by
    have ha:=(h a).1 Qq;have hb:=(h b).2 Qq;rcases Xg.1 ha with e|ha
    · exact e
    · rcases Xg.1 hb with e|hb
      · exact e.symm
      · have:=h1.1 b hb;have:=h2.1 a ha;omega
   subst hab;rw[aMx l m h1.2 h2.2 (fun y=>by
    constructor
    · intro hy;rcases Xg.1 ((h y).1 (Qv _ hy)) with rfl|hm
      · have:=h1.1 y hy;omega
      · exact hm
    · intro hy;rcases Xg.1 ((h y).2 (Qv _ hy)) with rfl|hm
      · have:=h2.1 y hy;omega
      · exact hm)]
theorem aOu {x:Int} {xs:List Int} {a:Nat} (hs:xs.Pairwise (·<·)) (hhi:∀ y∈xs.drop a,x<y) (hlo:a=0∨∃ y,xs[a - 1]? = some y∧y<x):aKH x xs=xs.take a++x::xs.drop a:=by
 have hA:∀ y∈xs.take a,y<x:=by
  intro y hy;rcases hlo with rfl|⟨z,hz,hzx⟩
  · simp at hy
  · obtain⟨j,hj,rfl⟩:=List.getElem_of_mem hy;rw[List.getElem_take];rw[Qt] at hj;obtain⟨h1,h2⟩:=Qd.1 hz;rcases Zb j (a - 1) with h|h
    · have:=List.pairwise_iff_getElem.1 hs j (a - 1) om h1 h
      omega
    · obtain rfl:j=a - 1:=om
      omega
 have:=aMs x (xs.drop a) hhi (xs.take a) hA
 rwa [Zm] at this
def isC (C:List Cl) (a:Int):Bool:=!(aKz C a 4).isEmpty
def aKQ (C:List Cl) (a:Int):List Int:=aKP a (bX (aKz C a 4))
inductive Hit (C:List Cl) (S:List Int):Int→Prop
 | start {a:Int}:a∈S→isC C a=true→Hit C S a
 | next {a b:Int}:Hit C S a→b∈aKQ C a→isC C b=true→Hit C S b
theorem Hit.is {C:List Cl} {S:List Int} {a:Int} (h:Hit C S a):isC C a=true:=by
 cases h<;>assumption
theorem aMe {C:List Cl} {a:Int} (h:isC C a=true):a∈C.map fun c=>(c.1:Int):=by
 unfold isC aKz aKW at h;by_cases ha:a<0
 · rw[if_pos ha] at h;cases h
 · rw[if_neg ha] at h;cases hf:C.find? fun c=>decide (c.1=a.toNat) with
   | none=>rw[hf] at h;cases h
   | some c =>
     have h1:=List.find?_some hf;rw[Qf] at h1;exact Yo.2 ⟨c,Za hf,by rw[h1];omega⟩
theorem aMJ {C:List Cl} (hC:Asc C) {a:Int} (h:isC C a=true):0≤a∧a≤65535:=by
 obtain⟨c,hc,rfl⟩:=Yo.1 (aMe h)
 have:=hC.2 c hc
 omega
theorem aKS (a:Int) (x:It):(aKP a x).length≤2:=by
 have ho:(aLl a x).length≤1:=by
  unfold aLl;split
  · exact Qk _
  · exact Qi _
 unfold aKP;split
 · exact Qi _
 · split
   · rw[Qc,Xw];omega
   · omega
theorem aNX {a:Int} {x:It} {b:Int} (h:b∈aKP a x):0≤b∧b≤65535:=by
 have hj:aKU a x≤65535:=by
  unfold aKU;split
  · exact (aMi _ _).2
  · omega
 unfold aKP at h;split at h
 · cases h
 · rename_i ha;have ho:b∈aLl a x→0≤b∧b≤65535:=by
    unfold aLl;split
    · rename_i h1;intro h2;rw[Yd] at h2;subst h2;omega
    · intro h2;cases h2
   split at h
   · rename_i h1;rcases Xs.1 h with h|h
     · exact ho h
     · rw[Yd] at h;subst h;exact⟨h1.1,hj⟩
   · exact ho h
theorem aMq:∀ (l m:List Int),l.Nodup→(∀ x∈l,x∈m)→l.length≤m.length
 | [],_,_,_=>Qi _
 | a::l,m,hn,h=>by
   have h1:=Zv.1 hn;have ha:=h a Qq;have h2:=aMq l (m.erase a) h1.2 (fun x hx=>(List.mem_erase_of_ne (fun e=>by subst e;exact h1.1 hx)).2 (h x (Qv _ hx)));have h3:=List.length_erase_of_mem ha;have h4:=List.length_pos_of_mem ha;rw[Qp];omega
theorem aLq {C:List Cl} {S out:List Int} (hn:out.Nodup) (h:∀ a∈out,Hit C S a):out.length≤C.length:=by
 have:=aMq out (C.map fun c=>(c.1:Int)) hn fun a ha=>aMe (h a ha).is
 rwa [Qs] at this
structure Bfs (C:List Cl) (S wait:List Int) (i:Nat) (out:List Int):Prop where
 nodup:out.Nodup
 hit:∀ a∈out,Hit C S a
 cand:∀ a∈wait,a∈S∨∃ b,Hit C S b∧a∈aKQ C b
 done:∀ a∈wait.take i,isC C a=true→a∈out
 start:∀ a∈S,a∈wait
 clo:∀ a∈out,∀ b∈aKQ C a,b∈wait
 len:wait.length≤S.length+2*out.length
theorem Bfs.zero (C:List Cl) (S:List Int):Bfs C S S 0 [] :=
 ⟨List.nodup_nil,fun _ h=>absurd h Xp,fun _ h=>.inl h,fun _ h=>absurd h sm,fun _ h=>h,fun _ h=>absurd h Xp,by simp⟩
theorem Bfs.is {C:List Cl} {S wait out:List Int} {i:Nat} (h:Bfs C S wait i out) {a:Int} (ha:wait[i]? = some a) (hc:isC C a=true):Hit C S a:=by
 rcases h.cand a (Qu ha) with h1|⟨b,h1,h2⟩
 · exact .start h1 hc
 · exact .next h1 h2 hc
theorem Bfs.skip {C:List Cl} {S wait out:List Int} {i:Nat} (h:Bfs C S wait i out) {a:Int} (ha:wait[i]? = some a) (hs:isC C a=false∨a∈out):Bfs C S wait (i+1) out :=
 { h with
  done:=fun x hx hc=>by
   rw[Qo,ha,Zo] at hx;rcases Xs.1 hx with hx|hx
   · exact h.done x hx hc
   · rw[Yd] at hx;subst hx;rcases hs with hs|hs
     · rw[hs] at hc;cases hc
     · exact hs }
theorem aNv {p:Prop} (h:p:=by
 rw[List.nodup_append];refine⟨h.nodup,Zv.2 ⟨Xp,List.nodup_nil⟩,fun x hx y hy=>?_⟩;rw[Yd] at hy;subst hy;exact fun e=>hn (e ▸ hx)):p:=h
theorem aNu {p:Prop} (h:p:=by
 intro x hx;rcases Xs.1 hx with hx|hx
 · exact h.hit x hx
 · rw[Yd] at hx;subst hx;exact hh):p:=h
theorem Bfs.add {C:List Cl} {S wait out:List Int} {i:Nat} (h:Bfs C S wait i out) {a:Int} (ha:wait[i]? = some a) (hc:isC C a=true) (hn:a∉out):Bfs C S (wait++aKQ C a) (i+1) (out++[a]):=by
 have hil:=(Qd.1 ha).1;have hh:=h.is ha hc;refine⟨?_,?_,?_,?_,?_,?_,?_⟩
 · exact aNv
 · exact aNu
 · intro x hx;rcases Xs.1 hx with hx|hx
   · exact h.cand x hx
   · exact .inr ⟨a,hh,hx⟩
 · intro x hx hxc;rw[List.take_append_of_le_length hil,Qo,ha,Zo] at hx;rcases Xs.1 hx with hx|hx
   · exact List.mem_append_left _ (h.done x hx hxc)
   · exact List.mem_append_right _ hx
 · exact fun x hx=>List.mem_append_left _ (h.start x hx)
 · intro x hx y hy;rcases Xs.1 hx with hx|hx
   · exact List.mem_append_left _ (h.clo x hx y hy)
   · rw[Yd] at hx;subst hx;exact List.mem_append_right _ hy
 · have h1:=h.len;have h2:=aKS a (bX (aKz C a 4));rw[Qc,Qc,Xw];unfold aKQ;omega
theorem Bfs.end {C:List Cl} {S wait out:List Int} {i:Nat} (h:Bfs C S wait i out) (hi:wait.length≤i) (y:Int):y∈out↔Hit C S y:=by
 refine⟨h.hit y,fun hy=>?_⟩;have hd:=h.done;rw[Xj hi] at hd;induction hy with
 | start h1 h2=>exact hd _ (h.start _ h1) h2
 | next _ h2 h3 ih=>exact hd _ (h.clo _ ih _ h2) h3
structure Dfs (C:List Cl) (S pend seen:List Int):Prop where
 nodup:seen.Nodup
 hit:∀ a∈seen,Hit C S a
 cand:∀ a∈pend,a∈S∨∃ b,Hit C S b∧a∈aKQ C b
 start:∀ a∈S,isC C a=true→a∈seen∨a∈pend
 clo:∀ a∈seen,∀ b∈aKQ C a,isC C b=true→b∈seen∨b∈pend
 len:pend.length≤S.length+2*seen.length
theorem Dfs.zero (C:List Cl) (S:List Int):Dfs C S S [] :=
 ⟨List.nodup_nil,fun _ h=>absurd h Xp,fun _ h=>.inl h,fun _ h _=>.inr h,fun _ h=>absurd h Xp,by simp⟩
theorem Dfs.is {C:List Cl} {S pend seen:List Int} {a:Int} (h:Dfs C S (pend++[a]) seen) (hc:isC C a=true):Hit C S a:=by
 rcases h.cand a (List.mem_append_right _ Qq) with h1|⟨b,h1,h2⟩
 · exact .start h1 hc
 · exact .next h1 h2 hc
theorem Dfs.skip {C:List Cl} {S pend seen:List Int} {a:Int} (h:Dfs C S (pend++[a]) seen) (hs:isC C a=false∨a∈seen):Dfs C S pend seen:=by
 have hq:∀ b,isC C b=true→b∈seen∨b∈pend++[a]→b∈seen∨b∈pend:=by
  rintro b hb (h1|h1)
  · exact .inl h1
  · rcases Xs.1 h1 with h1|h1
    · exact .inr h1
    · rw[Yd] at h1;subst h1;rcases hs with hs|hs
      · rw[hs] at hb;cases hb
      · exact .inl hs
 have hl:=h.len;rw[Qc,Xw] at hl;exact⟨h.nodup,h.hit,fun x hx=>h.cand x (List.mem_append_left _ hx),fun x hx hc=>hq x hc (h.start x hx hc),fun x hx y hy hc=>hq y hc (h.clo x hx y hy hc),om⟩
theorem Dfs.add {C:List Cl} {S pend seen:List Int} {a:Int} (h:Dfs C S (pend++[a]) seen) (hc:isC C a=true) (hn:a∉seen):Dfs C S (pend++aKQ C a) (seen++[a]):=by
 have hh:=h.is hc;have hq:∀ b,b∈seen∨b∈pend++[a]→b∈seen++[a]∨b∈pend++aKQ C a:=by
  rintro b (h1|h1)
  · exact .inl (List.mem_append_left _ h1)
  · rcases Xs.1 h1 with h1|h1
    · exact .inr (List.mem_append_left _ h1)
    · exact .inl (List.mem_append_right _ h1)
 refine⟨?_,?_,?_,fun x hx hxc=>hq x (h.start x hx hxc),?_,?_⟩
 · exact aNv
 · exact aNu
 · intro x hx;rcases Xs.1 hx with hx|hx
   · exact h.cand x (List.mem_append_left _ hx)
   · exact .inr ⟨a,hh,hx⟩
 · intro x hx y hy hyc;rcases Xs.1 hx with hx|hx
   · exact hq y (h.clo x hx y hy hyc)
   · rw[Yd] at hx;subst hx;exact .inr (List.mem_append_right _ hy)
 · have h1:=h.len;have h2:=aKS a (bX (aKz C a 4));rw[Qc,Xw] at h1;rw[Qc,Qc,Xw];unfold aKQ;omega
theorem Dfs.end {C:List Cl} {S seen:List Int} (h:Dfs C S [] seen) (y:Int):y∈seen↔Hit C S y:=by
 refine⟨h.hit y,fun hy=>?_⟩;induction hy with
 | start h1 h2=>exact (h.start _ h1 h2).resolve_right Xp
 | next _ h2 h3 ih=>exact (h.clo _ ih _ h2 h3).resolve_right Xp
theorem aMZ {C:List Cl} {S:List Int} (hS:∀ a∈S,-100000≤a∧a≤100000) {a:Int} (h:a∈S∨∃ b,Hit C S b∧a∈aKQ C b):-100000≤a∧a≤100000:=by
 rcases h with h|⟨b,_,h⟩
 · exact hS a h
 · have:=aNX h;omega
def HitL (C:List Cl) (S L:List Int):Prop:=L.Pairwise (·<·)∧∀ y,y∈L↔Hit C S y
theorem HitL.sort {C:List Cl} {S out:List Int} (h:∀ y,y∈out↔Hit C S y):HitL C S (aKK out):=⟨aLU _,fun y=>(aNe _ _).trans (h y)⟩
theorem HitL.uniq {C:List Cl} {S L M:List Int} (h:HitL C S L) (h':HitL C S M):L=M:=aMx L M h.1 h'.1 fun y=>(h.2 y).trans (h'.2 y).symm
theorem HitL.len {C:List Cl} {S L:List Int} (h:HitL C S L):L.length≤C.length:=aLq (h.1.imp fun h e=>om) fun a ha=>(h.2 a).1 ha
open Classical in
theorem aOv (C:List Cl) (S:List Int):∃ L,HitL C S L:=by
 refine⟨aKK ((C.map fun c=>(c.1:Int)).filter fun a=>decide (Hit C S a)),HitL.sort fun y=>?_⟩;rw[Zr,Qf];exact⟨fun h=>h.2,fun h=>⟨aMe h.is,h⟩⟩
end Go.Proofs.YtoigglljnklhlaaGreatDoor
