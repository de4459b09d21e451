/- Joined texts: DirP, LineP, Alive19P. -/
import Derived.Test.YtkldoojonnkfgaaGreatDoorC17
namespace Go.Proofs.YtkldoojonnkfgaaGreatDoor
open Go.RowKit Go.Sort
def wORG:List UInt8:=[79,82,71]
def wEQU:List UInt8:=[69,81,85]
def wDEFB:List UInt8:=[68,69,70,66]
def wDEFW:List UInt8:=[68,69,70,87]
def wDEFS:List UInt8:=[68,69,70,83]
def dirU (u:List UInt8):List UInt8 :=
 if u=wORG then wORG else if u=wEQU then wEQU else if u=wDEFB∨u=[68,66] then wDEFB else if u=wDEFW∨u=[68,87] then wDEFW else if u=wDEFS∨u=[68,83] then wDEFS else []
structure Pt where
 text:ByteArray
 ex:Option Ex
structure Stm where
 label:ByteArray
 op:List UInt8
 args:List Ar
 parts:List Pt
def stm0:Stm:=⟨⟨#[]⟩,[],[],[]⟩
def upL (s:ByteArray):List UInt8:=(upper s).data.toList
def dirP (s:ByteArray):List UInt8:=dirU (upL s)
def operP (s:ByteArray):Bool:=decide (dirP s≠[]) || decide (upL s∈opsL)
def resvW (s:ByteArray):Bool:=operP s || resvA s || decide (upL s=[77,79,68])
def colonP:List Tok→Bool
 | c::_=>signIs c [58]
 | []=>false
def labelP:List Tok→ByteArray × Nat
 | []=>(⟨#[]⟩,0)
 | t::r=>if t.kind≠1 then (⟨#[]⟩,0) else if colonP r=true then (t.text,2) else if operP t.text=true then (⟨#[]⟩,0) else (t.text,1)
noncomputable def partP (d:List UInt8) (l:List Tok):Pt × Int :=
 if l.length=1∧d=wDEFB∧(l.headD ⟨0,⟨#[]⟩,0,0⟩).kind=3∧(l.headD ⟨0,⟨#[]⟩,0,0⟩).text.size≠1 then (⟨(l.headD ⟨0,⟨#[]⟩,0,0⟩).text,none⟩,0) else (⟨⟨#[]⟩,(parseR l).2⟩,(parseR l).1)
noncomputable def partsGo (d:List UInt8):List (List Tok)→List Pt × Int
 | []=>([],0)
 | p::ps=>if (partP d p).2=0 then (if (partsGo d ps).2=0 then ((partP d p).1::(partsGo d ps).1,0) else ([],(partsGo d ps).2)) else ([],(partP d p).2)
def countP (d:List UInt8) (n:Nat):Bool:=if d=wDEFB∨d=wDEFW then decide (1≤n) && decide (n≤1024) else if d=wDEFS then decide (1≤n) && decide (n≤2) else decide (1≤n) && decide (n≤1)
noncomputable def dataP (lab:ByteArray) (d:List UInt8) (l:List Tok):Stm × Int :=
 if (partsGo d (splitP l)).2≠0 then (stm0,(partsGo d (splitP l)).2)
 else if countP d (partsGo d (splitP l)).1.length=false then (stm0,11)
 else if d=wEQU∧lab.size=0 then (stm0,3) else (⟨lab,d,[],(partsGo d (splitP l)).1⟩,0)
noncomputable def codeP (lab op:ByteArray) (l:List Tok):Stm × Int :=
 if (argsP l).2≠0 then (stm0,(argsP l).2) else if 3<(argsP l).1.length then (stm0,11)
 else if (chooseP (upL op) (argsP l).1).2≠0 then (stm0,(chooseP (upL op) (argsP l).1).2) else (⟨lab,upL op,(argsP l).1,[]⟩,0)
noncomputable def restP (lab:ByteArray):List Tok→Stm × Int
 | []=>(⟨lab,[],[],[]⟩,0)
 | t::r=>if signIs t [61]=true then dataP lab wEQU r else if t.kind≠1 then (stm0,3) else if dirP t.text≠[] then dataP lab (dirP t.text) r else if upL t.text∉opsL then (stm0,12) else codeP lab t.text r
noncomputable def stmtP (l:List Tok):Stm × Int:=if 0<(labelP l).2∧resvW (labelP l).1=true then (stm0,21) else restP (labelP l).1 (l.drop (labelP l).2)
noncomputable def lineP (s:ByteArray):Stm × Int:=match toksP s with | .error c=>(stm0,c) | .ok l=>stmtP l.dropLast
theorem up_keep:∀ c:Fin 256,isLet (up (UInt8.ofNat c.val))=isLet (UInt8.ofNat c.val)∧isW (up (UInt8.ofNat c.val))=isW (UInt8.ofNat c.val)∧(up (UInt8.ofNat c.val)=39↔UInt8.ofNat c.val=39):=by decide +kernel
theorem up_keep1 (c:UInt8):isLet (up c)=isLet c∧isW (up c)=isW c∧(up c=39↔c=39):=by
 have h:=up_keep ⟨c.toNat,c.toNat_lt⟩
 have e:UInt8.ofNat c.toNat=c:=by simp
 rw [e] at h
 exact h
theorem up_data (s:ByteArray):(upper s).data.toList=s.data.toList.map up:=by simp [upper]
theorem up_size (s:ByteArray):(upper s).size=s.size:=by
 rw [Lib.size_eq,up_data,List.length_map,←Lib.size_eq]
theorem up_bat (s:ByteArray) (k:Nat) (h:k<s.size):bat (upper s) k=up (bat s k):=by
 rw [bat_data,bat_data,up_data,List.getElem?_map]
 rw [Lib.size_eq] at h
 rw [List.getElem?_eq_getElem h]
 rfl
theorem word_up {s:ByteArray} (h:WordOk (upper s)):WordOk s:=by
 obtain ⟨h0,h1,h2⟩:=h
 rw [up_size] at h0 h2
 refine ⟨h0,?_,fun k hk=>?_⟩
 · rw [up_bat s 0 h0,(up_keep1 _).1] at h1; exact h1
 · have:=h2 k hk
   rw [up_bat s k hk,(up_keep1 _).2.1] at this
   exact this
theorem ops_words:opsL.all (fun m=>wordB ⟨m.toArray⟩)=true:=by decide +kernel
theorem dir_words:([wORG,wEQU,wDEFB,[68,66],wDEFW,[68,87],wDEFS,[68,83],[77,79,68]]:List (List UInt8)).all (fun m=>wordB ⟨m.toArray⟩)=true:=by decide +kernel
theorem upper_of {s:ByteArray} {l:List UInt8} (h:upL s=l):upper s=⟨l.toArray⟩:=ba_of h
theorem resv_word {s:ByteArray} (h:resvW s=true):WordOk s∨upper s=⟨#[65,70,39]⟩:=by
 have hd:=dir_words
 rw [List.all_eq_true] at hd
 have ho:=ops_words
 rw [List.all_eq_true] at ho
 have hof:∀ l:List UInt8,upL s=l→wordB ⟨l.toArray⟩=true→WordOk s:=fun l hl hw=>word_up (by rw [upper_of hl]; exact wordB_ok hw)
 unfold resvW at h
 rw [Bool.or_eq_true,Bool.or_eq_true] at h
 rcases h with (h | h) | h
 · left
   unfold operP at h
   rw [Bool.or_eq_true,decide_eq_true_eq,decide_eq_true_eq] at h
   rcases h with h | h
   · unfold dirP dirU at h
     split at h
     · rename_i e; exact hof _ e (hd _ (by simp))
     · split at h
       · rename_i e; exact hof _ e (hd _ (by simp))
       · split at h
         · rename_i e; rcases e with e | e<;>exact hof _ e (hd _ (by simp))
         · split at h
           · rename_i e; rcases e with e | e<;>exact hof _ e (hd _ (by simp))
           · split at h
             · rename_i e; rcases e with e | e<;>exact hof _ e (hd _ (by simp))
             · exact absurd rfl h
   · exact hof _ rfl (ho _ h)
 · unfold resvA at h
   rw [decide_eq_true_eq] at h
   obtain ⟨x,hx⟩:=List.exists_mem_of_length_pos h
   unfold namedL wlist at hx
   obtain ⟨j,_,hx⟩:=List.mem_flatMap.1 hx
   unfold wl at hx
   obtain ⟨r,hr,_⟩:=List.mem_map.1 hx
   obtain ⟨hr1,hr2⟩:=List.mem_filter.1 hr
   rw [Bool.and_eq_true] at hr2
   have hk:=kindAt_bd j
   have hne:(nm (kindAt j) r).toList.isEmpty=false:=by simpa using hr2.1
   obtain ⟨_,_,hp⟩:=nm_parts (k:=kindAt j) (r:=r) (by omega) (List.mem_range.1 hr1) hne
   have heq:nm (kindAt j) r=upper s:=by
    have:=hr2.2
    rw [beq_iff_eq,ByteArray.toList_eq,ByteArray.toList_eq] at this
    exact ba_ext this
   have hkk:kindAt j≠4∧kindAt j≠5∧¬ (kindAt j=6∨kindAt j=7∨kindAt j=10):=by
    unfold kindAt
    split<;>decide
   rw [if_neg hkk.1,if_neg hkk.2.1,if_neg hkk.2.2,heq] at hp
   rcases hp.1 with h | h
   · exact .inl (word_up h)
   · exact .inr h
 · left
   rw [decide_eq_true_eq] at h
   exact hof _ h (hd _ (by simp))
def lineA:ByteArray:=⟨#[120,32,100,115,32,53,32,59,32,99]⟩
def lineB:ByteArray:=⟨#[120,32,61,32,53]⟩
def toksA:List Tok:=[⟨1,⟨#[120]⟩,0,0⟩,⟨1,⟨#[100,115]⟩,0,2⟩,⟨2,⟨#[]⟩,5,5⟩]
def toksB:List Tok:=[⟨1,⟨#[120]⟩,0,0⟩,⟨4,⟨#[61]⟩,0,2⟩,⟨2,⟨#[]⟩,5,4⟩]
theorem toksA_eq:(match toksP lineA with | .ok l=>l.dropLast | .error _=>[])=toksA∧(match toksP lineA with | .ok _=>true | .error _=>false)=true:=by
 constructor<;>kernel_rfl
theorem toksB_eq:(match toksP lineB with | .ok l=>l.dropLast | .error _=>[])=toksB∧(match toksP lineB with | .ok _=>true | .error _=>false)=true:=by
 constructor<;>kernel_rfl
theorem lineP_of {s:ByteArray} {l:List Tok} (h:(match toksP s with | .ok l=>l.dropLast | .error _=>[])=l∧(match toksP s with | .ok _=>true | .error _=>false)=true):lineP s=stmtP l:=by
 unfold lineP
 cases hx:toksP s with
 | error c=>rw [hx] at h; exact absurd h.2 (by simp)
 | ok m=>rw [hx] at h; dsimp only at h ⊢; rw [h.1]
def stmA:Stm:=⟨⟨#[120]⟩,wDEFS,[],[⟨⟨#[]⟩,some (.num 5)⟩]⟩
def stmB:Stm:=⟨⟨#[120]⟩,wEQU,[],[⟨⟨#[]⟩,some (.num 5)⟩]⟩
theorem dataNum {lab:ByteArray} {d:List UInt8} (i:Int) (hs:splitP [⟨2,⟨#[]⟩,5,i⟩]=[[⟨2,⟨#[]⟩,5,i⟩]]) (hd:d≠wDEFB) (hc:countP d 1=true) (hl:¬ lab.size=0):dataP lab d [⟨2,⟨#[]⟩,5,i⟩]=(⟨lab,d,[],[⟨⟨#[]⟩,some (.num 5)⟩]⟩,0):=by
 have hp:partP d [⟨2,⟨#[]⟩,5,i⟩]=(⟨⟨#[]⟩,some (.num 5)⟩,0):=by
  unfold partP
  rw [if_neg (fun h=>hd h.2.1),parse_num]
 have hg:partsGo d [[⟨2,⟨#[]⟩,5,i⟩]]=([⟨⟨#[]⟩,some (.num 5)⟩],0):=by
  unfold partsGo
  rw [hp]
  simp [partsGo]
 unfold dataP
 rw [hs,hg]
 dsimp only
 rw [if_neg (by decide),if_neg (by rw [show ([⟨⟨#[]⟩,some (.num 5)⟩]:List Pt).length=1 from rfl,hc]; decide),if_neg (fun h=>hl h.2)]
theorem lab_x:labelP toksA=(⟨#[120]⟩,1)∧labelP toksB=(⟨#[120]⟩,1)∧resvW ⟨#[120]⟩=false:=by decide +kernel
theorem lineA_eq:lineP lineA=(stmA,0):=by
 rw [lineP_of toksA_eq]
 unfold stmtP
 rw [lab_x.1]
 dsimp only
 rw [if_neg (fun h=>by rw [lab_x.2.2] at h; exact absurd h.2 (by decide))]
 show restP ⟨#[120]⟩ [⟨1,⟨#[100,115]⟩,0,2⟩,⟨2,⟨#[]⟩,5,5⟩]=_
 have e:restP ⟨#[120]⟩ [⟨1,⟨#[100,115]⟩,0,2⟩,⟨2,⟨#[]⟩,5,5⟩]=if signIs (⟨1,⟨#[100,115]⟩,0,2⟩:Tok) [61]=true then dataP ⟨#[120]⟩ wEQU [⟨2,⟨#[]⟩,5,5⟩] else if (1:Int)≠1 then (stm0,3) else if dirP ⟨#[100,115]⟩≠[] then dataP ⟨#[120]⟩ (dirP ⟨#[100,115]⟩) [⟨2,⟨#[]⟩,5,5⟩] else if upL ⟨#[100,115]⟩∉opsL then (stm0,12) else codeP ⟨#[120]⟩ ⟨#[100,115]⟩ [⟨2,⟨#[]⟩,5,5⟩]:=rfl
 rw [e,if_neg (by decide +kernel),if_neg (by decide),show dirP ⟨#[100,115]⟩=wDEFS by decide +kernel,if_pos (by decide)]
 exact dataNum 5 (by kernel_rfl) (by decide) (by decide) (by decide)
theorem lineB_eq:lineP lineB=(stmB,0):=by
 rw [lineP_of toksB_eq]
 unfold stmtP
 rw [lab_x.2.1]
 dsimp only
 rw [if_neg (fun h=>by rw [lab_x.2.2] at h; exact absurd h.2 (by decide))]
 show restP ⟨#[120]⟩ [⟨4,⟨#[61]⟩,0,2⟩,⟨2,⟨#[]⟩,5,4⟩]=_
 have e:restP ⟨#[120]⟩ [⟨4,⟨#[61]⟩,0,2⟩,⟨2,⟨#[]⟩,5,4⟩]=if signIs (⟨4,⟨#[61]⟩,0,2⟩:Tok) [61]=true then dataP ⟨#[120]⟩ wEQU [⟨2,⟨#[]⟩,5,4⟩] else if (4:Int)≠1 then (stm0,3) else if dirP ⟨#[61]⟩≠[] then dataP ⟨#[120]⟩ (dirP ⟨#[61]⟩) [⟨2,⟨#[]⟩,5,4⟩] else if upL ⟨#[61]⟩∉opsL then (stm0,12) else codeP ⟨#[120]⟩ ⟨#[61]⟩ [⟨2,⟨#[]⟩,5,4⟩]:=rfl
 rw [e,if_pos (by decide +kernel)]
 exact dataNum 4 (by kernel_rfl) (by decide) (by decide) (by decide)
end Go.Proofs.YtkldoojonnkfgaaGreatDoor
