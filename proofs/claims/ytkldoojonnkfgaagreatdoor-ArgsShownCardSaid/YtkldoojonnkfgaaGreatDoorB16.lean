/- Joined texts: OpEq, Texts, ChooseP. -/
import Derived.Test.YtkldoojonnkfgaaGreatDoorB05
import Derived.Test.YtkldoojonnkfgaaGreatDoorB15
namespace Go.Proofs.YtkldoojonnkfgaaGreatDoor
open Go.RowKit Go.Sort
set_option maxHeartbeats 1000000 in
set_option maxRecDepth 100000 in
theorem equalOp_any (v1 v2:Value) (a b:List Op3) (w:World) (h1:Row w v1 a.length (opc a)) (h2:Row w v2 b.length (opc b)) (hl:a.length≤1000000) (hl2:b.length≤1000000) :
 Calls Tryz.prog 168 #[v1,v2] w fun e w'=>e=.returned (.bool (decide (a=b)))∧Below w.heap.size w w':=by
 obtain ⟨a1,c1,rfl,hc1,h1⟩:=h1.op
 obtain ⟨a2,c2,rfl,hc2,h2⟩:=h2.op
 by_cases hlen:a.length=b.length
 · have hle:((a.length:Int) != (b.length:Int))=false:=by simp; omega
   by_cases ha:a=[]
   · subst ha
     obtain rfl:b=[]:=List.eq_nil_of_length_eq_zero hlen.symm
     clear h1 h2 hle hlen
     go_enter Tryz.func168,Tryz.ntmps168
     go_wp2_with fail
     refine wp_loop_rounds 1 ?_
     rw [rounds_succ]
     go_wp2_with fail
     go_ret
     exact ⟨rfl,Below.refl _ _⟩
   · obtain ⟨g1,o1,rfl,hg1,h1⟩:=h1 ha
     obtain ⟨g2,o2,rfl,hg2,h2⟩:=h2 (by intro e; apply ha; rw [e] at hlen; exact List.eq_nil_of_length_eq_zero hlen)
     have H1:=Hh h1; clear h1
     have H2:=Hh h2; clear h2
     have Ha:=Hh ha; clear ha
     have Hlen:=Hh hlen; clear hlen
     go_enter Tryz.func168,Tryz.ntmps168
     go_wp2_with fail
     go_loopw [5,13] (fun _ i wr=>∃ j:Nat,j≤a.length∧i=.int .i64 j∧Below w.heap.size w wr∧a.take j=b.take j) (fun _ i _=>a.length - (intOf i).toNat)
     case atStart=>exact ⟨0,Nat.zero_le _,rfl,Below.refl _ _,rfl⟩
     case round =>
      obtain ⟨j,hj,rfl,hbel,htk⟩:=hrel
      have Htk:=Hh htk; clear htk
      by_cases hlt:j<a.length
      · obtain ⟨⟨x0,x1,x2⟩,hx⟩:∃ x,a[j]? = some x:=⟨_,List.getElem?_eq_getElem hlt⟩
        obtain ⟨⟨y0,y1,y2⟩,hy⟩:∃ y,b[j]? = some y:=⟨_,List.getElem?_eq_getElem (by have:=Hlen.out; omega)⟩
        obtain ⟨cx0,cx1,cx2⟩:=H1.out j _ hx
        obtain ⟨cy0,cy1,cy2⟩:=H2.out j _ hy
        rw [←hbel.cell (p:=⟨_,_,none⟩) hg1] at cx0 cx1 cx2
        rw [←hbel.cell (p:=⟨_,_,none⟩) hg2] at cy0 cy1 cy2
        have Hx:=Hh hx; clear hx
        have Hy:=Hh hy; clear hy
        have HBEL:=Hh hbel; clear hbel
        have hi0:(0:Int)≤(j:Int):=by omega
        have hi1:(j:Int)<(a.length:Int):=by omega
        have hi2:(j:Int)<(b.length:Int):=by have:=Hlen.out; omega
        by_cases e0:x0=y0
        · by_cases e1:x1=y1
          · by_cases e2:x2=y2
            · subst e0 e1 e2
              go_wp2_with fail
              go_region
              all_goals
               go_wp2_with fail
               go_roundw
              case rel=>exact ⟨j+1,by omega,by go_num,HBEL.out.drew,by rw [List.take_add_one,List.take_add_one,Htk.out,Hx.out,Hy.out]⟩
              case measure=>simp [intOf]; omega
            · subst e0 e1
              go_wp2_with fail
              go_region
              all_goals
               go_wp2_with fail
               go_ret
               exact ⟨by rw [decide_eq_false (fun e=>e2 (by have h3:=Hx.out; rw [e,Hy.out] at h3; cases h3; rfl))]; rfl,HBEL.out.drew⟩
          · subst e0
            go_wp2_with fail
            go_region
            all_goals
             go_wp2_with fail
             go_ret
             exact ⟨by rw [decide_eq_false (fun e=>e1 (by have h3:=Hx.out; rw [e,Hy.out] at h3; cases h3; rfl))]; rfl,HBEL.out.drew⟩
        · go_wp2_with fail
          go_region
          all_goals
           go_wp2_with fail
           go_ret
           exact ⟨by rw [decide_eq_false (fun e=>e0 (by have h3:=Hx.out; rw [e,Hy.out] at h3; cases h3; rfl))]; rfl,HBEL.out.drew⟩
      · obtain rfl:j=a.length:=by omega
        have hab:a=b:=by
         have:=Htk.out
         rw [List.take_length,Hlen.out,List.take_length] at this
         exact this
        have Hab:=Hh hab; clear hab
        have HBEL:=Hh hbel; clear hbel
        go_wp2_with fail
        go_ret
        exact ⟨by rw [decide_eq_true Hab.out]; rfl,HBEL.out⟩
 · have hle:((a.length:Int) != (b.length:Int))=true:=by rw [bne_iff_ne]; omega
   have hr:decide (a=b)=false:=decide_eq_false (fun e=>hlen (by rw [e]))
   rw [hr]
   clear h1 h2 hlen hr
   go_enter Tryz.func168,Tryz.ntmps168
   go_wp2_with fail
   go_ret
   exact ⟨rfl,Below.refl _ _⟩
theorem formS_len (k:Nat) (s:ByteArray) (n:Int) (hs:s.size≤10):(formS k s n).size≤100:=by
 have h1:=signedS_len n
 have h2:=numText_len n
 have h3:=signedS_len (n+2)
 unfold formS
 split
 · rw [ByteArray.size_append,ByteArray.size_append]; show 1+_+1≤100; omega
 · split
   · rw [ByteArray.size_append,ByteArray.size_append,ByteArray.size_append]; show 1+_+_+1≤100; omega
   · split
     · split<;>omega
     · split
       · rw [ByteArray.size_append,ByteArray.size_append]; show 1+_+1≤100; omega
       · split
         · rw [ByteArray.size_append]; show 1+_≤100; omega
         · omega
theorem opText_len (k r n:Int):(opText k r n).size≤100:=by
 unfold opText
 split
 · exact formS_len _ _ _ (nm_len _ _)
 · exact Nat.zero_le _
def texts (l:List Op3):List ByteArray:=l.map fun x=>opText x.1 x.2.1 x.2.2
def listS (l:List Op3):ByteArray:=⟨(Lib.join ((texts l).map (·.data.toList)) [44]).toArray⟩
theorem lens_le (l:List Op3):Lib.lens ((texts l).map (·.data.toList))≤l.length * 100:=by
 induction l with
 | nil=>simp [texts,Lib.lens]
 | cons x l ih =>
   have:=opText_len x.1 x.2.1 x.2.2
   simp only [texts,Lib.lens,List.map_cons,List.sum_cons,List.length_cons,List.map_map] at ih ⊢
   have e:(opText x.1 x.2.1 x.2.2).data.toList.length=(opText x.1 x.2.1 x.2.2).size:=by simp
   rw [e]
   omega
theorem join_len (l:List Op3):(Lib.join ((texts l).map (·.data.toList)) [44]).length≤l.length * 101:=by
 cases l with
 | nil=>simp [texts,Lib.join_nil]
 | cons x l =>
   have h1:=opText_len x.1 x.2.1 x.2.2
   have h2:=lens_le l
   have e:(opText x.1 x.2.1 x.2.2).data.toList.length=(opText x.1 x.2.1 x.2.2).size:=by simp
   have:(Lib.join ((texts (x::l)).map (·.data.toList)) [44]).length=(opText x.1 x.2.1 x.2.2).data.toList.length+(Lib.joinTail [44] ((texts l).map (·.data.toList))).length:=by
    rw [←List.length_append,←Lib.join_cons]; rfl
   rw [this,Lib.joinTail_length,e]
   simp only [texts,List.length_map,List.length_cons,List.length_nil] at h2 ⊢
   omega
theorem listS_len (l:List Op3):(listS l).size≤l.length * 101:=by
 have:=join_len l
 show (Lib.join ((texts l).map (·.data.toList)) [44]).toArray.size≤_
 simpa using this
theorem ba_ext {a b:ByteArray} (h:a.data.toList=b.data.toList):a=b:=by
 cases a; cases b; simp at h; cases h; rfl
def resvA (s:ByteArray):Bool:=decide (0<(namedL s).length)
def regGo:List Op3→Option Int
 | []=>none
 | o::l=>if o.1=3∧opValid 4 o.2.1 0=true then some o.2.1 else regGo l
def regP (s:ByteArray):Option Int:=if s.toList=[67] then some 8 else regGo (namedO s)
noncomputable def exprA (kind:Int) (text:ByteArray) (l:List Tok):Ar × Int :=
 match parseR l with
 | (c,some x)=>if c=0 then (⟨kind,text,some x⟩,0) else (⟨0,⟨#[]⟩,none⟩,c)
 | (c,none)=>(⟨0,⟨#[]⟩,none⟩,c)
def isPM (m:List Tok):Bool:=match m[1]? with | some t=>signIs t [43] || signIs t [45] | none=>false
def ixW (s:ByteArray):Bool:=s.toList == [73,88] || s.toList == [73,89]
noncomputable def argP1 (l:List Tok):Ar × Int :=
 match innerP l with
 | none=>exprA 4 ⟨#[]⟩ l
 | some m =>
   if m.length=1∧(regP (wordAt m 0)).isSome=true then (⟨2,wordAt m 0,none⟩,0)
   else if ixW (wordAt m 0)=true∧3≤m.length∧isPM m=true then exprA 3 (wordAt m 0) (m.drop 1)
   else exprA 5 ⟨#[]⟩ m
noncomputable def argOf (l:List Tok):Ar × Int:=if l.length=1∧resvA (wordAt l 0)=true then (⟨1,wordAt l 0,none⟩,0) else argP1 l
noncomputable def argsGo:List (List Tok)→List Ar × Int
 | []=>([],0)
 | p::ps=>if (argOf p).2=0 then (if (argsGo ps).2=0 then ((argOf p).1::(argsGo ps).1,0) else ([],(argsGo ps).2)) else ([],(argOf p).2)
noncomputable def argsP (l:List Tok):List Ar × Int:=argsGo (splitP l)
def relOp (op:List UInt8):Bool:=op == [74,82] || op == [68,74,78,90]
def regV (s:ByteArray):Int:=(regP s).getD 0
def shapesP (op:List UInt8) (a:Ar):List Op3 :=
 if a.kind=1 then namedO a.text
 else if a.kind=2 then (if opValid 5 (regV a.text) 0=true then [(4,regV a.text,0),(5,regV a.text,0)] else [(4,regV a.text,0)])
 else if a.kind=3 then [(5,regV a.text,0)]
 else if a.kind=4 then (if relOp op=true then [(10,0,0)] else [(6,0,0)])
 else if a.kind=5 then [(7,0,0)] else []
def choicesP (op:List UInt8):List Ar→List (List Op3)
 | []=>[[]]
 | a::l=>(shapesP op a).flatMap fun o=>(choicesP op l).map (o::·)
def legalP (i:Ins2):Bool:=decide ((findI i).2=0)
def chooseP (op:List UInt8) (l:List Ar):Ins2 × Int :=
 if (upper ⟨op.toArray⟩).toList≠op∨op∉opsL then (([],[]),12)
 else match (choicesP op l).find? fun c=>legalP (op,c) with
  | some c=>(canonP (op,c),0)
  | none=>(([],[]),11)
end Go.Proofs.YtkldoojonnkfgaaGreatDoor
