/- Joined texts: RangedP, OpRaw, Eval, ParseF. -/
import Derived.Test.YtkldoojonnkfgaaGreatDoorC13
import Derived.Test.YtkldoojonnkfgaaGreatDoorC14
namespace Go.Proofs.YtkldoojonnkfgaaGreatDoor
open Go.RowKit Go.Sort
def rangedP (n:Int):Int × Int:=if n < -2147483648∨2147483647<n then (0,2) else (n,0)
def opFun:Nat→Int→Int→Int
 | 0,a,b=>bits .or .i64 a b
 | 1,a,b=>bits .xor .i64 a b
 | 2,a,b=>bits .and .i64 a b
 | 3,a,b=>a * 2 ^ b.toNat
 | 4,a,b=>a / 2 ^ b.toNat
 | 5,a,b=>a+b
 | 6,a,b=>a - b
 | 7,a,b=>a * b
 | 8,a,b=>a.tdiv b
 | _,a,b=>a.tmod b
def opRaw (i:Nat) (a b:Int):Int × Int :=
 if (i=3∨i=4)∧(b<0∨31<b) then (0,2) else if (i=8∨i=9)∧b=0 then (0,18) else (opFun i a b,0)
def rangedC (x:Int × Int):Int × Int:=if x.2=0 then rangedP x.1 else x
def opEval (op:ByteArray) (a b:Int):Int × Int:=match opIdx op with | some i=>rangedC (opRaw i a b) | none=>(0,0)
def unEval (op:ByteArray) (a:Int):Int:=if op.toList=[45] then -a else if op.toList=[126] then -a - 1 else a
def Ex.eval (env:ByteArray→Option Int) (here:Int):Ex→Int × Int
 | .num n=>(n,0)
 | .sym s=>match env s with | some n=>(n,0) | none=>(0,13)
 | .here=>(here,0)
 | .un op a=>if (a.eval env here).2=0 then rangedP (unEval op (a.eval env here).1) else (0,(a.eval env here).2)
 | .bin op a b=>if (a.eval env here).2=0 then (if (b.eval env here).2=0 then opEval op (a.eval env here).1 (b.eval env here).1 else (0,(b.eval env here).2)) else (0,(a.eval env here).2)
def Ex.good:Ex→Prop
 | .num n=>0≤n∧n≤65535
 | .sym s=>s.size≤1000000
 | .here=>True
 | .un op a=>(op.toList=[45]∨op.toList=[43]∨op.toList=[126])∧a.good
 | .bin op a b=>lvlS op≠0∧a.good∧b.good
def TokOk (l:List Tok):Prop:=∀ t∈l,t.text.size≤1000000∧0≤t.n∧t.n≤65535
theorem TokOk.small {l:List Tok} (h:TokOk l):Small l:=fun t ht=>(h t ht).1
theorem TokOk.cons {t:Tok} {l:List Tok} (h:TokOk (t::l)):(t.text.size≤1000000∧0≤t.n∧t.n≤65535)∧TokOk l:=⟨h t List.mem_cons_self,fun x hx=>h x (List.mem_cons_of_mem _ hx)⟩
def stG:St Tok Ex→Prop | .U l=>TokOk l | .B _ l=>TokOk l | .L _ a l=>a.good∧TokOk l
theorem atom_good {t:Tok} {e:Ex} (hs:t.text.size≤1000000∧0≤t.n∧t.n≤65535) (h:tatom t=some e):e.good:=by
 unfold tatom at h
 repeat' split at h
 all_goals (first | cases h | skip)
 · trivial
 · exact hs.1
 · exact hs.2
 · have:=(t.text.toList.headD 0).toNat_lt
   refine ⟨by omega,by omega⟩
theorem P.good {s:St Tok Ex} {res:Option (Ex × List Tok)} (h:P exLang s res):stG s→∀ x r,res=some (x,r)→x.good∧TokOk r:=by
 induction h with
 | binN lv l h ih=>intro _ x r e; cases e
 | bin lv l r a res h1 h2 ih1 ih2=>intro hs x r' e; exact ih2 (ih1 hs a r rfl) x r' e
 | stop lv a r h=>intro hs x r' e; cases e; exact hs
 | step lv a b t r r' res h0 h1 h2 h3 ih1 ih2 =>
   intro hs x r2 e
   have a1:=ih1 hs.2.cons.2 b r' rfl
   exact ih2 ⟨⟨h0,hs.1,a1.1⟩,a1.2⟩ x r2 e
 | stepN lv a t r h0 h1 h2 ih=>intro _ x r e; cases e
 | nil=>intro _ x r e; cases e
 | un t l res h0 h1 ih =>
   intro hs x r e
   rcases res with _ | ⟨y,r'⟩
   · cases e
   · cases e
     have:=ih (TokOk.cons hs).2 y r' rfl
     refine ⟨⟨?_,this.1⟩,this.2⟩
     have hu:tU t=true:=h0
     simpa [tU,or_assoc] using hu
 | par t t' l r e h0 h1 h2 h3 ih =>
   intro hs x r2 he
   cases he
   have:=ih (TokOk.cons hs).2 e (t'::r) rfl
   exact ⟨this.1,this.2.cons.2⟩
 | parN t l res h0 h1 h2 h3 ih=>intro _ x r e; cases e
 | atom t l h0 h1 =>
   intro hs x r e
   have he:(tatom t).map (fun e=>(e,l))=some (x,r):=e
   rcases ht:tatom t with _ | y
   · rw [ht] at he; cases he
   · rw [ht] at he
     cases he
     exact ⟨atom_good (TokOk.cons hs).1 ht,(TokOk.cons hs).2⟩
theorem P.total:∀ (n:Nat) (l:List Tok),l.length≤n→(∃ res,P exLang (.U l) res)∧∀ lv,∃ res,P exLang (.B lv l) res
 | n,l,hn=>by
   have ihn:∀ l':List Tok,l'.length<l.length→(∃ res,P exLang (.U l') res)∧∀ lv,∃ res,P exLang (.B lv l') res:=fun l' h=>P.total (n - 1) l' (by omega)
   have hU:∃ res,P exLang (.U l) res:=by
    rcases l with _ | ⟨t,r⟩
    · exact ⟨none,.nil⟩
    · rcases hu:tU t with _ | _
      · rcases hl:tL t with _ | _
        · exact ⟨_,.atom t r hu hl⟩
        · obtain ⟨res,h⟩:=(ihn r (by simp)).2 1
          rcases res with _ | ⟨e,r1⟩
          · exact ⟨none,.parN t r none hu hl h (fun e t' r h=>by cases h)⟩
          · rcases r1 with _ | ⟨t',r2⟩
            · exact ⟨none,.parN t r _ hu hl h (fun e t' r h=>by cases h)⟩
            · rcases hr:tR t' with _ | _
              · exact ⟨none,.parN t r _ hu hl h (fun e t2 r h=>by cases h; exact hr)⟩
              · exact ⟨_,.par t t' r r2 e hu hl h hr⟩
      · obtain ⟨res,h⟩:=(ihn r (by simp)).1
        exact ⟨_,.un t r res hu h⟩
   have hL:∀ (m:Nat) (lv:Nat) (a:Ex) (r:List Tok),r.length≤m→r.length<l.length→∃ res,P exLang (.L lv a r) res:=by
    intro m
    induction m with
    | zero =>
      intro lv a r hr _
      obtain rfl:r=[]:=List.eq_nil_of_length_eq_zero (by omega)
      exact ⟨_,.stop lv a [] (fun t r h=>by cases h)⟩
    | succ m ihm =>
      intro lv a r hr hlt
      rcases r with _ | ⟨t,r⟩
      · exact ⟨_,.stop lv a [] (fun t r h=>by cases h)⟩
      · by_cases hs:exLang.lvl t=0∨exLang.lvl t<lv
        · exact ⟨_,.stop lv a _ (fun t' r' h=>by cases h; exact hs)⟩
        · obtain ⟨res,h⟩:=(ihn r (by simp at hlt; omega)).2 (exLang.lvl t+1)
          rcases res with _ | ⟨b,r'⟩
          · exact ⟨none,.stepN lv a t r (fun h0=>hs (.inl h0)) (fun h0=>hs (.inr h0)) h⟩
          · obtain ⟨l1,hl1,hne⟩:=(P.ends h b r' rfl).2 _ r rfl
            have hlen:r'.length<r.length:=by
             rw [hl1,List.length_append]
             have:0<l1.length:=List.length_pos_iff.2 hne
             omega
            obtain ⟨res,h2⟩:=ihm lv (exLang.bin t a b) r' (by simp at hr; omega) (by simp at hlt; omega)
            exact ⟨res,.step lv a b t r r' res (fun h0=>hs (.inl h0)) (fun h0=>hs (.inr h0)) h h2⟩
   refine ⟨hU,fun lv=>?_⟩
   obtain ⟨res,h⟩:=hU
   rcases res with _ | ⟨a,r⟩
   · exact ⟨none,.binN lv l h⟩
   · obtain ⟨l1,hl1,hne⟩:=(P.ends h a r rfl).1 l rfl
     have hlen:r.length<l.length:=by
      rw [hl1,List.length_append]
      have:0<l1.length:=List.length_pos_iff.2 hne
      omega
     obtain ⟨res,h2⟩:=hL r.length lv a r (Nat.le_refl _) hlen
     exact ⟨res,.bin lv l r a res h h2⟩
termination_by _ l=>l.length
theorem P.some_res (l:List Tok):∃ res,P exLang (.B 1 l) res:=(P.total l.length l (Nat.le_refl _)).2 1
noncomputable def parseR (l:List Tok):Int × Option Ex:=parsed (Classical.choose (P.some_res l))
theorem parseR_of {l:List Tok} {res:Option (Ex × List Tok)} (h:P exLang (.B 1 l) res):parsed res=parseR l:=by
 unfold parseR
 rw [P.det exLang h (Classical.choose_spec (P.some_res l))]
theorem any_uniq (L:List (List UInt8)):(uniq L).any resv=L.any resv:=by
 rw [Bool.eq_iff_iff,List.any_eq_true,List.any_eq_true]
 exact ⟨fun ⟨x,h,h2⟩=>⟨x,(mem_uniq L x).1 h,h2⟩,fun ⟨x,h,h2⟩=>⟨x,(mem_uniq L x).2 h,h2⟩⟩
theorem parseR_code {l:List Tok} (h:(parseR l).2=none):(parseR l).1=3∨(parseR l).1=21:=by
 obtain ⟨r,hr⟩:=P.some_res l
 rw [←parseR_of hr] at h ⊢
 rcases r with _ | ⟨e,r⟩
 · exact .inl rfl
 · unfold parsed at h ⊢
   dsimp only at h ⊢
   repeat' split
   all_goals first | exact .inl rfl | exact .inr rfl | (simp_all; done)
def ParseRes (T:TypeId) (l:List Tok) (w:World) (e:Ending) (w':World):Prop:=∃ vt,e=.returned (.tuple #[vt,.int .i64 (parseR l).1])∧OptAt T w' (parseR l).2 vt∧Below w.heap.size w w'
theorem exprParse_any (l:List Tok) (v:Value) (w:World) (hr:Row w v l.length (tokc l)) (hs:TokOk l) (hl:l.length≤1000000):Calls Tryz.prog 253 #[v] w (ParseRes 225 l w):=by
 refine (parseE_any l v w hs.small hl hr.tok).mono ?_
 rintro e w' ⟨res,hP,vt,he,ho,hb⟩
 rw [parseR_of hP] at he ho
 exact ⟨vt,he,ho,hb⟩
end Go.Proofs.YtkldoojonnkfgaaGreatDoor
