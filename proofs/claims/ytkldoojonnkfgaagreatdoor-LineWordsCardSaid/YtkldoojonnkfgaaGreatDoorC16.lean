/- Joined texts: OpEq, Texts, ChooseP, Lex, LexP, LexAt. -/
import Derived.Test.YtkldoojonnkfgaaGreatDoorC05
import Derived.Test.YtkldoojonnkfgaaGreatDoorC15
import Derived.Test.YtkldoojonnkfgaaGreatDoorCX2
namespace Go.Proofs.YtkldoojonnkfgaaGreatDoor
open Go.RowKit Go.Sort
set_option maxHeartbeats 1000000 in
set_option maxRecDepth 100000 in
theorem equalOp_any (v1 v2:Value) (a b:List Op3) (w:World) (h1:Row w v1 a.length (opc a)) (h2:Row w v2 b.length (opc b)) (hl:a.length≤1000000) (hl2:b.length≤1000000) :
 Calls Tryz.prog 168 #[v1,v2] w fun e w'=>e=.returned (.bool (decide (a=b)))∧Below w.heap.size w w':=by
 obtain ⟨a1,c1,rfl,hc1,h1⟩:=h1.op
 obtain ⟨a2,c2,rfl,hc2,h2⟩:=h2.op
 by_cases hlen:a.length=b.length
 · have hle:((a.length:Int) != (b.length:Int))=false:=by simp; omega
   by_cases ha:a=[]
   · subst ha
     obtain rfl:b=[]:=List.eq_nil_of_length_eq_zero hlen.symm
     clear h1 h2 hle hlen
     go_enter Tryz.func168,Tryz.ntmps168
     go_wp2_with fail
     refine wp_loop_rounds 1 ?_
     rw [rounds_succ]
     go_wp2_with fail
     go_ret
     exact ⟨rfl,Below.refl _ _⟩
   · obtain ⟨g1,o1,rfl,hg1,h1⟩:=h1 ha
     obtain ⟨g2,o2,rfl,hg2,h2⟩:=h2 (by intro e; apply ha; rw [e] at hlen; exact List.eq_nil_of_length_eq_zero hlen)
     have H1:=Hh h1; clear h1
     have H2:=Hh h2; clear h2
     have Ha:=Hh ha; clear ha
     have Hlen:=Hh hlen; clear hlen
     go_enter Tryz.func168,Tryz.ntmps168
     go_wp2_with fail
     go_loopw [5,13] (fun _ i wr=>∃ j:Nat,j≤a.length∧i=.int .i64 j∧Below w.heap.size w wr∧a.take j=b.take j) (fun _ i _=>a.length - (intOf i).toNat)
     case atStart=>exact ⟨0,Nat.zero_le _,rfl,Below.refl _ _,rfl⟩
     case round =>
      obtain ⟨j,hj,rfl,hbel,htk⟩:=hrel
      have Htk:=Hh htk; clear htk
      by_cases hlt:j<a.length
      · obtain ⟨⟨x0,x1,x2⟩,hx⟩:∃ x,a[j]? = some x:=⟨_,List.getElem?_eq_getElem hlt⟩
        obtain ⟨⟨y0,y1,y2⟩,hy⟩:∃ y,b[j]? = some y:=⟨_,List.getElem?_eq_getElem (by have:=Hlen.out; omega)⟩
        obtain ⟨cx0,cx1,cx2⟩:=H1.out j _ hx
        obtain ⟨cy0,cy1,cy2⟩:=H2.out j _ hy
        rw [←hbel.cell (p:=⟨_,_,none⟩) hg1] at cx0 cx1 cx2
        rw [←hbel.cell (p:=⟨_,_,none⟩) hg2] at cy0 cy1 cy2
        have Hx:=Hh hx; clear hx
        have Hy:=Hh hy; clear hy
        have HBEL:=Hh hbel; clear hbel
        have hi0:(0:Int)≤(j:Int):=by omega
        have hi1:(j:Int)<(a.length:Int):=by omega
        have hi2:(j:Int)<(b.length:Int):=by have:=Hlen.out; omega
        by_cases e0:x0=y0
        · by_cases e1:x1=y1
          · by_cases e2:x2=y2
            · subst e0 e1 e2
              go_wp2_with fail
              go_region
              all_goals
               go_wp2_with fail
               go_roundw
              case rel=>exact ⟨j+1,by omega,by go_num,HBEL.out.drew,by rw [List.take_add_one,List.take_add_one,Htk.out,Hx.out,Hy.out]⟩
              case measure=>simp [intOf]; omega
            · subst e0 e1
              go_wp2_with fail
              go_region
              all_goals
               go_wp2_with fail
               go_ret
               exact ⟨by rw [decide_eq_false (fun e=>e2 (by have h3:=Hx.out; rw [e,Hy.out] at h3; cases h3; rfl))]; rfl,HBEL.out.drew⟩
          · subst e0
            go_wp2_with fail
            go_region
            all_goals
             go_wp2_with fail
             go_ret
             exact ⟨by rw [decide_eq_false (fun e=>e1 (by have h3:=Hx.out; rw [e,Hy.out] at h3; cases h3; rfl))]; rfl,HBEL.out.drew⟩
        · go_wp2_with fail
          go_region
          all_goals
           go_wp2_with fail
           go_ret
           exact ⟨by rw [decide_eq_false (fun e=>e0 (by have h3:=Hx.out; rw [e,Hy.out] at h3; cases h3; rfl))]; rfl,HBEL.out.drew⟩
      · obtain rfl:j=a.length:=by omega
        have hab:a=b:=by
         have:=Htk.out
         rw [List.take_length,Hlen.out,List.take_length] at this
         exact this
        have Hab:=Hh hab; clear hab
        have HBEL:=Hh hbel; clear hbel
        go_wp2_with fail
        go_ret
        exact ⟨by rw [decide_eq_true Hab.out]; rfl,HBEL.out⟩
 · have hle:((a.length:Int) != (b.length:Int))=true:=by rw [bne_iff_ne]; omega
   have hr:decide (a=b)=false:=decide_eq_false (fun e=>hlen (by rw [e]))
   rw [hr]
   clear h1 h2 hlen hr
   go_enter Tryz.func168,Tryz.ntmps168
   go_wp2_with fail
   go_ret
   exact ⟨rfl,Below.refl _ _⟩
def texts (l:List Op3):List ByteArray:=l.map fun x=>opText x.1 x.2.1 x.2.2
theorem ba_ext {a b:ByteArray} (h:a.data.toList=b.data.toList):a=b:=by
 cases a; cases b; simp at h; cases h; rfl
def resvA (s:ByteArray):Bool:=decide (0<(namedL s).length)
def regGo:List Op3→Option Int
 | []=>none
 | o::l=>if o.1=3∧opValid 4 o.2.1 0=true then some o.2.1 else regGo l
def regP (s:ByteArray):Option Int:=if s.toList=[67] then some 8 else regGo (namedO s)
noncomputable def exprA (kind:Int) (text:ByteArray) (l:List Tok):Ar × Int :=
 match parseR l with
 | (c,some x)=>if c=0 then (⟨kind,text,some x⟩,0) else (⟨0,⟨#[]⟩,none⟩,c)
 | (c,none)=>(⟨0,⟨#[]⟩,none⟩,c)
def isPM (m:List Tok):Bool:=match m[1]? with | some t=>signIs t [43] || signIs t [45] | none=>false
def ixW (s:ByteArray):Bool:=s.toList == [73,88] || s.toList == [73,89]
noncomputable def argP1 (l:List Tok):Ar × Int :=
 match innerP l with
 | none=>exprA 4 ⟨#[]⟩ l
 | some m =>
   if m.length=1∧(regP (wordAt m 0)).isSome=true then (⟨2,wordAt m 0,none⟩,0)
   else if ixW (wordAt m 0)=true∧3≤m.length∧isPM m=true then exprA 3 (wordAt m 0) (m.drop 1)
   else exprA 5 ⟨#[]⟩ m
noncomputable def argOf (l:List Tok):Ar × Int:=if l.length=1∧resvA (wordAt l 0)=true then (⟨1,wordAt l 0,none⟩,0) else argP1 l
noncomputable def argsGo:List (List Tok)→List Ar × Int
 | []=>([],0)
 | p::ps=>if (argOf p).2=0 then (if (argsGo ps).2=0 then ((argOf p).1::(argsGo ps).1,0) else ([],(argsGo ps).2)) else ([],(argOf p).2)
noncomputable def argsP (l:List Tok):List Ar × Int:=argsGo (splitP l)
def relOp (op:List UInt8):Bool:=op == [74,82] || op == [68,74,78,90]
def regV (s:ByteArray):Int:=(regP s).getD 0
def shapesP (op:List UInt8) (a:Ar):List Op3 :=
 if a.kind=1 then namedO a.text
 else if a.kind=2 then (if opValid 5 (regV a.text) 0=true then [(4,regV a.text,0),(5,regV a.text,0)] else [(4,regV a.text,0)])
 else if a.kind=3 then [(5,regV a.text,0)]
 else if a.kind=4 then (if relOp op=true then [(10,0,0)] else [(6,0,0)])
 else if a.kind=5 then [(7,0,0)] else []
def choicesP (op:List UInt8):List Ar→List (List Op3)
 | []=>[[]]
 | a::l=>(shapesP op a).flatMap fun o=>(choicesP op l).map (o::·)
def legalP (i:Ins2):Bool:=decide ((findI i).2=0)
def chooseP (op:List UInt8) (l:List Ar):Ins2 × Int :=
 if (upper ⟨op.toArray⟩).toList≠op∨op∉opsL then (([],[]),12)
 else match (choicesP op l).find? fun c=>legalP (op,c) with
  | some c=>(canonP (op,c),0)
  | none=>(([],[]),11)
def isLet (c:UInt8):Bool:=decide (97≤c.toNat∧c.toNat≤122) || decide (65≤c.toNat∧c.toNat≤90) || c == 95 || c == 46 || c == 63 || c == 64
def isDig (c:UInt8):Bool:=decide (48≤c.toNat∧c.toNat≤57)
def isW (c:UInt8):Bool:=isLet c || isDig c
def runEnd (s:ByteArray) (i:Nat):Nat:=if h:i<s.size then (if isW s[i] then runEnd s (i+1) else i) else i
termination_by s.size - i
theorem runEnd_go (s:ByteArray) (i:Nat) (h:i<s.size) (hw:isW s[i]=true):runEnd s i=runEnd s (i+1):=by
 rw [runEnd,dif_pos h,if_pos hw]
theorem runEnd_no (s:ByteArray) (i:Nat) (h:i<s.size) (hw:isW s[i]=false):runEnd s i=i:=by
 rw [runEnd,dif_pos h,if_neg (by rw [hw]; simp)]
theorem runEnd_out (s:ByteArray) (i:Nat) (h:¬ i<s.size):runEnd s i=i:=by
 rw [runEnd,dif_neg h]
theorem runEnd_ge (s:ByteArray) (i:Nat):i≤runEnd s i:=by
 by_cases h:i<s.size
 · cases hw:isW s[i] with
   | true=>rw [runEnd_go s i h hw]; have:=runEnd_ge s (i+1); omega
   | false=>rw [runEnd_no s i h hw]; exact Nat.le_refl _
 · rw [runEnd_out s i h]; exact Nat.le_refl _
termination_by s.size - i
theorem runEnd_le (s:ByteArray) (i:Nat) (hi:i≤s.size):runEnd s i≤s.size:=by
 by_cases h:i<s.size
 · cases hw:isW s[i] with
   | true=>rw [runEnd_go s i h hw]; exact runEnd_le s (i+1) h
   | false=>rw [runEnd_no s i h hw]; exact hi
 · rw [runEnd_out s i h]; exact hi
termination_by s.size - i
def skipEnd (s:ByteArray) (i:Nat):Nat:=if h:i<s.size then (if s[i]=32∨s[i]=9 then skipEnd s (i+1) else i) else i
termination_by s.size - i
theorem skipEnd_go (s:ByteArray) (i:Nat) (h:i<s.size) (hw:s[i]=32∨s[i]=9):skipEnd s i=skipEnd s (i+1):=by
 rw [skipEnd,dif_pos h,if_pos hw]
theorem skipEnd_no (s:ByteArray) (i:Nat) (h:i<s.size) (hw:¬ (s[i]=32∨s[i]=9)):skipEnd s i=i:=by
 rw [skipEnd,dif_pos h,if_neg hw]
theorem skipEnd_out (s:ByteArray) (i:Nat) (h:¬ i<s.size):skipEnd s i=i:=by
 rw [skipEnd,dif_neg h]
theorem skipEnd_ge (s:ByteArray) (i:Nat):i≤skipEnd s i:=by
 by_cases h:i<s.size
 · by_cases hw:s[i]=32∨s[i]=9
   · rw [skipEnd_go s i h hw]; have:=skipEnd_ge s (i+1); omega
   · rw [skipEnd_no s i h hw]; exact Nat.le_refl _
 · rw [skipEnd_out s i h]; exact Nat.le_refl _
termination_by s.size - i
theorem skipEnd_le (s:ByteArray) (i:Nat) (hi:i≤s.size):skipEnd s i≤s.size:=by
 by_cases h:i<s.size
 · by_cases hw:s[i]=32∨s[i]=9
   · rw [skipEnd_go s i h hw]; exact skipEnd_le s (i+1) h
   · rw [skipEnd_no s i h hw]; exact hi
 · rw [skipEnd_out s i h]; exact hi
termination_by s.size - i
abbrev sub (s:ByteArray) (i j:Nat):ByteArray:=s.extract i j
def wordEnd (s:ByteArray) (i:Nat):Nat :=
 if h:i<s.size then
  (if isLet s[i] then
   (if h2:runEnd s i<s.size then (if (upper (sub s i (runEnd s i))).toList=[65,70]∧s[runEnd s i]=39 then runEnd s i+1 else runEnd s i) else runEnd s i)
  else i)
 else i
def signs1:List UInt8:=[44,40,41,43,45,42,47,38,124,94,126,58,61,36]
def signLen (s:ByteArray) (i:Nat):Nat :=
 if i+1<s.size∧((sub s i (i+2)).toList=[60,60]∨(sub s i (i+2)).toList=[62,62]) then 2
 else if h:i<s.size then (if s[i]∈signs1 then 1 else 0) else 0
def quotedGo (s:ByteArray) (mark:UInt8) (i:Nat) (acc:ByteArray):Option (ByteArray × Nat) :=
 if h:i<s.size then
  (if s[i]=mark then (if i+1<s.size∧bat s (i+1)=mark then quotedGo s mark (i+2) (acc++sub s i (i+1)) else some (acc,i+1)) else quotedGo s mark (i+1) (acc++sub s i (i+1)))
 else none
termination_by s.size - i
def quotedP (s:ByteArray) (i:Nat):Option (ByteArray × Nat):=quotedGo s (bat s i) (i+1) ⟨#[]⟩
theorem quotedGo_out (s:ByteArray) (m:UInt8) (i:Nat) (acc:ByteArray) (h:¬ i<s.size):quotedGo s m i acc=none:=by
 rw [quotedGo,dif_neg h]
theorem quotedGo_step (s:ByteArray) (m:UInt8) (i:Nat) (acc:ByteArray) (h:i<s.size) (hm:s[i]≠m):quotedGo s m i acc=quotedGo s m (i+1) (acc++sub s i (i+1)):=by
 rw [quotedGo,dif_pos h,if_neg hm]
theorem quotedGo_two (s:ByteArray) (m:UInt8) (i:Nat) (acc:ByteArray) (h:i<s.size) (hm:s[i]=m) (h2:i+1<s.size) (hm2:bat s (i+1)=m):quotedGo s m i acc=quotedGo s m (i+2) (acc++sub s i (i+1)):=by
 rw [quotedGo,dif_pos h,if_pos hm,if_pos ⟨h2,hm2⟩]
theorem quotedGo_end (s:ByteArray) (m:UInt8) (i:Nat) (acc:ByteArray) (h:i<s.size) (hm:s[i]=m) (h2:¬ (i+1<s.size∧bat s (i+1)=m)):quotedGo s m i acc=some (acc,i+1):=by
 rw [quotedGo,dif_pos h,if_pos hm,if_neg h2]
theorem quotedGo_bd (s:ByteArray) (m:UInt8) (i:Nat) (acc t:ByteArray) (n:Nat) (h:quotedGo s m i acc=some (t,n)):i<n∧n≤s.size∧t.size+i≤acc.size+n:=by
 by_cases h1:i<s.size
 · by_cases h2:s[i]=m
   · by_cases h3:i+1<s.size∧bat s (i+1)=m
     · rw [quotedGo_two s m i acc h1 h2 h3.1 h3.2] at h
       have:=quotedGo_bd s m (i+2) _ t n h
       rw [ByteArray.size_append,ByteArray.size_extract] at this
       omega
     · rw [quotedGo_end s m i acc h1 h2 h3] at h
       simp only [Option.some.injEq,Prod.mk.injEq] at h
       obtain ⟨rfl,rfl⟩:=h
       omega
   · rw [quotedGo_step s m i acc h1 h2] at h
     have:=quotedGo_bd s m (i+1) _ t n h
     rw [ByteArray.size_append,ByteArray.size_extract] at this
     omega
 · rw [quotedGo_out s m i acc h1] at h; cases h
termination_by s.size - i
theorem wordEnd_le (s:ByteArray) (i:Nat) (hi:i≤s.size):wordEnd s i≤s.size:=by
 have:=runEnd_le s i hi
 unfold wordEnd
 repeat' split
 all_goals omega
theorem signLen_le (s:ByteArray) (i:Nat) (hi:i<s.size):i+signLen s i≤s.size∧signLen s i≤2:=by
 unfold signLen
 repeat' split
 all_goals omega
def isNumAt (s:ByteArray) (i:Nat):Bool:=isDig (bat s i) || bat s i == 37 || (bat s i == 36 && decide (i+1<runEnd s (i+1)))
def nextP (s:ByteArray) (i:Nat):Except Int (Tok × Nat) :=
 if i<wordEnd s i then .ok (⟨1,sub s i (wordEnd s i),0,i⟩,wordEnd s i)
 else if isNumAt s i=true then (match numP (sub s i (runEnd s (i+1))) with | some x=>.ok (⟨2,⟨#[]⟩,x,i⟩,runEnd s (i+1)) | none=>.error 3)
 else if bat s i=34∨bat s i=39 then (match quotedP s i with | some (t,e)=>.ok (⟨3,t,0,i⟩,e) | none=>.error 3)
 else if signLen s i=0 then .error 20 else .ok (⟨4,sub s i (i+signLen s i),0,i⟩,i+signLen s i)
theorem nextP_bd (s:ByteArray) (i:Nat) (hi:i<s.size) (t:Tok) (n:Nat) (h:nextP s i=.ok (t,n)):i<n∧n≤s.size∧t.text.size≤s.size∧0≤t.n∧t.n≤65535:=by
 have h1:=wordEnd_le s i (by omega)
 have h2:=runEnd_le s (i+1) (by omega)
 have h2':=runEnd_ge s (i+1)
 have h3:=signLen_le s i hi
 unfold nextP at h
 split at h
 · cases h; simp only; rw [ByteArray.size_extract]; omega
 · split at h
   · split at h
     · rename_i x hx
       cases h
       have:=numU_le (u:=(upper (sub s i (runEnd s (i+1)))).data.toList) (m:=x) hx
       simp only
       exact ⟨by omega,h2,Nat.zero_le _,by omega,by omega⟩
     · cases h
   · split at h
     · split at h
       · rename_i t' e' hq
         cases h
         have:=quotedGo_bd s _ _ _ _ _ hq
         simp only
         have hz:(⟨#[]⟩:ByteArray).size=0:=rfl
         rw [hz] at this
         refine ⟨?_,?_,?_,?_,?_⟩<;>omega
       · cases h
     · split at h
       · cases h
       · cases h; simp only; rw [ByteArray.size_extract]; omega
theorem nextP_err (s:ByteArray) (i:Nat) (e:Int) (h:nextP s i=.error e):e=3∨e=20:=by
 unfold nextP at h
 split at h
 · cases h
 · split at h
   · split at h
     · cases h
     · cases h; exact .inl rfl
   · split at h
     · split at h
       · cases h
       · cases h; exact .inl rfl
     · split at h
       · cases h; exact .inr rfl
       · cases h
def moreAt (s:ByteArray) (i:Nat):Bool:=decide (i<s.size) && bat s i != 59
def toksGo (s:ByteArray) (i:Nat) (acc:List Tok):Except Int (List Tok) :=
 if moreAt s (skipEnd s i)=true then
  (match nextP s (skipEnd s i) with
  | .error e=>.error e
  | .ok (t,n)=>if i<n∧n≤s.size then toksGo s n (acc++[t]) else .error 99)
 else .ok (acc++[⟨0,⟨#[]⟩,0,skipEnd s i⟩])
termination_by s.size - i
def toksP (s:ByteArray):Except Int (List Tok):=if 1024<s.size then .error 19 else toksGo s 0 []
theorem toksGo_end (s:ByteArray) (i:Nat) (acc:List Tok) (h:moreAt s (skipEnd s i)=false):toksGo s i acc=.ok (acc++[⟨0,⟨#[]⟩,0,skipEnd s i⟩]):=by
 rw [toksGo,if_neg (by rw [h]; decide)]
theorem toksGo_err (s:ByteArray) (i:Nat) (acc:List Tok) (e:Int) (h:moreAt s (skipEnd s i)=true) (hn:nextP s (skipEnd s i)=.error e):toksGo s i acc=.error e:=by
 rw [toksGo,if_pos h,hn]
theorem moreAt_lt {s:ByteArray} {i:Nat} (h:moreAt s i=true):i<s.size:=by
 unfold moreAt at h; simp at h; exact h.1
theorem toksGo_step (s:ByteArray) (i:Nat) (acc:List Tok) (t:Tok) (n:Nat) (h:moreAt s (skipEnd s i)=true) (hn:nextP s (skipEnd s i)=.ok (t,n)):toksGo s i acc=toksGo s n (acc++[t]):=by
 have hl:=moreAt_lt h
 have hb:=nextP_bd s _ hl t n hn
 have hg:=skipEnd_ge s i
 rw [toksGo,if_pos h,hn]
 simp only
 rw [if_pos ⟨by omega,hb.2.1⟩]
theorem toksGo_all (s:ByteArray) (i:Nat) (acc l:List Tok) (h:toksGo s i acc=.ok l) (p:Tok→Prop) (ha:∀ t∈acc,p t) (he:∀ j:Nat,p ⟨0,⟨#[]⟩,0,j⟩) (hp:∀ (j n:Nat) t,j<s.size→nextP s j=.ok (t,n)→p t):∀ t∈l,p t:=by
 by_cases h1:moreAt s (skipEnd s i)=true
 · cases hn:nextP s (skipEnd s i) with
   | error e=>rw [toksGo_err s i acc e h1 hn] at h; cases h
   | ok x =>
     obtain ⟨t,n⟩:=x
     have hl:=moreAt_lt h1
     have hb:=nextP_bd s _ hl t n hn
     have hg:=skipEnd_ge s i
     rw [toksGo_step s i acc t n h1 hn] at h
     refine toksGo_all s n (acc++[t]) l h p ?_ he hp
     intro u hu
     rcases List.mem_append.1 hu with hu | hu
     · exact ha u hu
     · rw [List.mem_singleton] at hu; subst hu; exact hp _ _ _ hl hn
 · rw [toksGo_end s i acc (by simpa using h1)] at h
   cases h
   intro u hu
   rcases List.mem_append.1 hu with hu | hu
   · exact ha u hu
   · rw [List.mem_singleton] at hu; subst hu; exact he _
termination_by s.size - i
theorem toksGo_len (s:ByteArray) (i:Nat) (acc l:List Tok) (hi:i≤s.size) (h:toksGo s i acc=.ok l):acc.length+1≤l.length∧l.length+i≤acc.length+1+s.size:=by
 by_cases h1:moreAt s (skipEnd s i)=true
 · cases hn:nextP s (skipEnd s i) with
   | error e=>rw [toksGo_err s i acc e h1 hn] at h; cases h
   | ok x =>
     obtain ⟨t,n⟩:=x
     have hl:=moreAt_lt h1
     have hb:=nextP_bd s _ hl t n hn
     have hg:=skipEnd_ge s i
     rw [toksGo_step s i acc t n h1 hn] at h
     have:=toksGo_len s n (acc++[t]) l hb.2.1 h
     simp only [List.length_append,List.length_singleton] at this
     omega
 · rw [toksGo_end s i acc (by simpa using h1)] at h
   cases h
   simp only [List.length_append,List.length_singleton]
   omega
termination_by s.size - i
def At (s:ByteArray) (i:Nat) (u:ByteArray):Prop:=∀ k,k<u.size→i+k<s.size∧bat s (i+k)=bat u k
theorem bat_append (u v:ByteArray) (k:Nat):bat (u++v) k=if k<u.size then bat u k else bat v (k - u.size):=by
 unfold bat
 rw [ByteArray.data_append,Array.getElem?_append]
 split<;>rename_i h<;>(first | rw [if_pos (by exact h)] | rw [if_neg (by exact h)])
 rfl
theorem At.left {s:ByteArray} {i:Nat} {u v:ByteArray} (h:At s i (u++v)):At s i u:=fun k hk=>by
 have:=h k (by rw [ByteArray.size_append]; omega)
 rw [bat_append,if_pos hk] at this
 exact this
theorem At.right {s:ByteArray} {i:Nat} {u v:ByteArray} (h:At s i (u++v)):At s (i+u.size) v:=fun k hk=>by
 have:=h (u.size+k) (by rw [ByteArray.size_append]; omega)
 rw [bat_append,if_neg (by omega),show u.size+k - u.size=k by omega,←Nat.add_assoc] at this
 exact this
theorem At.self (s:ByteArray):At s 0 s:=fun k hk=>⟨by omega,by rw [Nat.zero_add]⟩
theorem At.le {s:ByteArray} {i:Nat} {u:ByteArray} (h:At s i u) (hu:0<u.size):i+u.size≤s.size:=by
 have:=(h (u.size - 1) (by omega)).1
 omega
theorem At.one {s:ByteArray} {i:Nat} {c:UInt8} (h:At s i ⟨#[c]⟩):i<s.size∧bat s i=c:=by
 have:=h 0 (by show 0<1; decide)
 exact this
theorem sub_at {s:ByteArray} {i:Nat} {u:ByteArray} (h:At s i u):s.extract i (i+u.size)=u:=by
 rcases Nat.eq_zero_or_pos u.size with h0 | h0
 · apply ByteArray.ext
   have:u.data=#[]:=Array.eq_empty_of_size_eq_zero (by exact h0)
   rw [this,ByteArray.data_extract]
   apply Array.eq_empty_of_size_eq_zero
   rw [Array.size_extract,h0]
   omega
 have hle:=h.le h0
 apply ByteArray.ext
 rw [ByteArray.data_extract]
 apply Array.ext
 · rw [Array.size_extract]
   show min (i+u.size) s.size - i=u.size
   omega
 · intro k h1 h2
   have hk:k<u.size:=h2
   have hb:=(h k hk).2
   rw [Array.getElem_extract]
   unfold bat at hb
   rw [Array.getElem?_eq_getElem (by show i+k<s.size; omega),Array.getElem?_eq_getElem h2] at hb
   exact hb
def Stop1 (s:ByteArray) (j:Nat):Prop:=¬ j<s.size∨isW (bat s j)=false∧bat s j≠39
theorem run_at {s:ByteArray} {i:Nat} {u:ByteArray} (h:At s i u) (hw:∀ k,k<u.size→isW (bat u k)=true) (hs:Stop1 s (i+u.size)):∀ m k,k+m=u.size→runEnd s (i+k)=i+u.size
 | 0,k,hk=>by
   have e:i+k=i+u.size:=by omega
   rw [e]
   rcases hs with hs | ⟨hs,_⟩
   · exact runEnd_out _ _ hs
   · by_cases hlt:i+u.size<s.size
     · exact runEnd_no _ _ hlt (by rw [bat_get _ _ hlt]; exact hs)
     · exact runEnd_out _ _ hlt
 | m+1,k,hk=>by
   obtain ⟨h1,h2⟩:=h k (by omega)
   rw [runEnd_go s (i+k) h1 (by rw [bat_get _ _ h1,h2]; exact hw k (by omega))]
   exact run_at h hw hs m (k+1) (by omega)
def Lx (s:ByteArray) (i:Nat) (l:List Tok) (j:Nat):Prop:=∀ acc,toksGo s i acc=toksGo s j (acc++l)
theorem Lx.trans {s:ByteArray} {i j k:Nat} {l m:List Tok} (h:Lx s i l j) (h2:Lx s j m k):Lx s i (l++m) k:=fun acc=>by
 rw [h acc,h2 (acc++l),List.append_assoc]
theorem lx_tok {s:ByteArray} {i n:Nat} {t:Tok} (hi:i<s.size) (h32:bat s i≠32) (h9:bat s i≠9) (h59:bat s i≠59) (hn:nextP s i=.ok (t,n)):Lx s i [t] n:=fun acc=>by
 have hsk:skipEnd s i=i:=skipEnd_no s i hi (by rw [bat_get _ _ hi]; rintro (h | h); exact h32 h; exact h9 h)
 have hm:moreAt s i=true:=by unfold moreAt; simp [hi,h59]
 exact toksGo_step s i acc t n (by rw [hsk]; exact hm) (by rw [hsk]; exact hn)
theorem isLet_ne {c:UInt8} (h:isLet c=true):c≠32∧c≠9∧c≠59:=by
 refine ⟨?_,?_,?_⟩<;>(rintro rfl; revert h; decide)
def WordOk (u:ByteArray):Prop:=0<u.size∧isLet (bat u 0)=true∧∀ k,k<u.size→isW (bat u k)=true
theorem lx_word {s:ByteArray} {i:Nat} {u:ByteArray} (h:At s i u) (hu:WordOk u) (hs:Stop1 s (i+u.size)):Lx s i [⟨1,u,0,i⟩] (i+u.size):=by
 obtain ⟨h0,h1,h2⟩:=hu
 obtain ⟨hi,hb⟩:=h 0 h0
 rw [Nat.add_zero] at hi hb
 have hl:isLet (bat s i)=true:=by rw [hb]; exact h1
 obtain ⟨n1,n2,n3⟩:=isLet_ne hl
 have hr:runEnd s i=i+u.size:=run_at h h2 hs u.size 0 (by omega)
 have hwe:wordEnd s i=i+u.size:=by
  unfold wordEnd
  rw [dif_pos hi,if_pos (by rw [bat_get _ _ hi]; exact hl)]
  split
  · rename_i h3
    rw [if_neg]
    · exact hr
    · rintro ⟨_,h39⟩
      rcases hs with hs | ⟨_,hs⟩
      · rw [hr] at h3; exact hs h3
      · apply hs
        rw [←bat_get s _ (by rw [←hr]; exact h3)]
        simp only [hr] at h39
        exact h39
  · exact hr
 refine lx_tok hi n1 n2 n3 ?_
 unfold nextP
 rw [if_pos (by rw [hwe]; omega),hwe]
 show Except.ok ((⟨1,s.extract i (i+u.size),0,i⟩:Tok),i+u.size)=_
 rw [sub_at h]
theorem wordEnd_no {s:ByteArray} {i:Nat} (h:isLet (bat s i)=false):wordEnd s i=i:=by
 unfold wordEnd
 split
 · rename_i hi
   rw [if_neg (by rw [bat_get _ _ hi,h]; decide)]
 · rfl
theorem sub_at' {s:ByteArray} {i n:Nat} {u:ByteArray} (h:At s i u) (hn:u.size=n):s.extract i (i+n)=u:=by subst hn; exact sub_at h
theorem next_sign {s:ByteArray} {i k:Nat} (h1:isLet (bat s i)=false) (h2:isNumAt s i=false) (h3:bat s i≠34) (h4:bat s i≠39) (h5:signLen s i=k) (h6:k≠0):nextP s i=.ok (⟨4,s.extract i (i+k),0,i⟩,i+k):=by
 unfold nextP
 rw [wordEnd_no h1,if_neg (Nat.lt_irrefl i),h2,if_neg Bool.false_ne_true,if_neg (fun h=>h.elim h3 h4),h5,if_neg h6]
theorem head_sub {s:ByteArray} {i:Nat} {a b:UInt8} (_:i<s.size) (h:(sub s i (i+2)).toList=[a,b]):bat s i=a:=by
 rw [ByteArray.toList_eq] at h
 have h0:(sub s i (i+2)).data[0]? = some a:=by rw [←Array.getElem?_toList,h]; rfl
 have h1:(s.data.extract i (i+2))[0]? = some a:=by rw [←ByteArray.data_extract]; exact h0
 rw [Array.getElem?_extract] at h1
 unfold bat
 split at h1
 · rw [Nat.add_zero] at h1
   rw [h1]; rfl
 · cases h1
theorem sign_not:∀ c∈signs1,isLet c=false∧isDig c=false∧c≠32∧c≠9∧c≠59∧c≠37∧c≠34∧c≠39∧c≠60∧c≠62:=by decide +kernel
theorem lx_sign {s:ByteArray} {i:Nat} {c:UInt8} (h:At s i ⟨#[c]⟩) (hc:c∈signs1) (hs:c=36→Stop1 s (i+1)):Lx s i [⟨4,⟨#[c]⟩,0,i⟩] (i+1):=by
 obtain ⟨hi,hb⟩:=h.one
 have hcs:=sign_not c hc
 obtain ⟨c1,c2,c3,c4,c5,c6,c7,c8,c9,c10⟩:=hcs
 refine lx_tok hi (by rw [hb]; exact c3) (by rw [hb]; exact c4) (by rw [hb]; exact c5) ?_
 have hnum:isNumAt s i=false:=by
  unfold isNumAt
  rw [hb,c2]
  have e37:(c == 37)=false:=by simpa using c6
  rw [e37]
  by_cases h36:c=36
  · have hr:runEnd s (i+1)=i+1:=by
     rcases hs h36 with hs | ⟨hs,_⟩
     · exact runEnd_out _ _ hs
     · by_cases hlt:i+1<s.size
       · exact runEnd_no _ _ hlt (by rw [bat_get _ _ hlt]; exact hs)
       · exact runEnd_out _ _ hlt
    rw [hr]
    simp
  · have e36:(c == 36)=false:=by simpa using h36
    rw [e36]
    simp only [Bool.false_or,Bool.false_and]
 have hone:s.extract i (i+1)=⟨#[c]⟩:=sub_at' h rfl
 have hsl:signLen s i=1:=by
  unfold signLen
  rw [if_neg,dif_pos hi,if_pos (by rw [bat_get _ _ hi,hb]; exact hc)]
  rintro ⟨h2,h3⟩
  rcases h3 with h3 | h3
  · have:=head_sub hi h3
    rw [hb] at this
    exact c9 this
  · have:=head_sub hi h3
    rw [hb] at this
    exact c10 this
 rw [next_sign (by rw [hb]; exact c1) hnum (by rw [hb]; exact c7) (by rw [hb]; exact c8) hsl (by omega),hone]
end Go.Proofs.YtkldoojonnkfgaaGreatDoor
