/- Joined texts: Lex, LexP, LexAt. -/
import Derived.Test.YtkldoojonnkfgaaGreatDoorAX2
namespace Go.Proofs.YtkldoojonnkfgaaGreatDoor
open Go.RowKit Go.Sort
def isLet (c:UInt8):Bool:=decide (97≤c.toNat∧c.toNat≤122) || decide (65≤c.toNat∧c.toNat≤90) || c == 95 || c == 46 || c == 63 || c == 64
def isDig (c:UInt8):Bool:=decide (48≤c.toNat∧c.toNat≤57)
def isW (c:UInt8):Bool:=isLet c || isDig c
def runEnd (s:ByteArray) (i:Nat):Nat:=if h:i<s.size then (if isW s[i] then runEnd s (i+1) else i) else i
termination_by s.size - i
theorem runEnd_go (s:ByteArray) (i:Nat) (h:i<s.size) (hw:isW s[i]=true):runEnd s i=runEnd s (i+1):=by
 rw [runEnd,dif_pos h,if_pos hw]
theorem runEnd_no (s:ByteArray) (i:Nat) (h:i<s.size) (hw:isW s[i]=false):runEnd s i=i:=by
 rw [runEnd,dif_pos h,if_neg (by rw [hw]; simp)]
theorem runEnd_out (s:ByteArray) (i:Nat) (h:¬ i<s.size):runEnd s i=i:=by
 rw [runEnd,dif_neg h]
theorem runEnd_ge (s:ByteArray) (i:Nat):i≤runEnd s i:=by
 by_cases h:i<s.size
 · cases hw:isW s[i] with
   | true=>rw [runEnd_go s i h hw]; have:=runEnd_ge s (i+1); omega
   | false=>rw [runEnd_no s i h hw]; exact Nat.le_refl _
 · rw [runEnd_out s i h]; exact Nat.le_refl _
termination_by s.size - i
theorem runEnd_le (s:ByteArray) (i:Nat) (hi:i≤s.size):runEnd s i≤s.size:=by
 by_cases h:i<s.size
 · cases hw:isW s[i] with
   | true=>rw [runEnd_go s i h hw]; exact runEnd_le s (i+1) h
   | false=>rw [runEnd_no s i h hw]; exact hi
 · rw [runEnd_out s i h]; exact hi
termination_by s.size - i
def skipEnd (s:ByteArray) (i:Nat):Nat:=if h:i<s.size then (if s[i]=32∨s[i]=9 then skipEnd s (i+1) else i) else i
termination_by s.size - i
theorem skipEnd_go (s:ByteArray) (i:Nat) (h:i<s.size) (hw:s[i]=32∨s[i]=9):skipEnd s i=skipEnd s (i+1):=by
 rw [skipEnd,dif_pos h,if_pos hw]
theorem skipEnd_no (s:ByteArray) (i:Nat) (h:i<s.size) (hw:¬ (s[i]=32∨s[i]=9)):skipEnd s i=i:=by
 rw [skipEnd,dif_pos h,if_neg hw]
theorem skipEnd_out (s:ByteArray) (i:Nat) (h:¬ i<s.size):skipEnd s i=i:=by
 rw [skipEnd,dif_neg h]
theorem skipEnd_ge (s:ByteArray) (i:Nat):i≤skipEnd s i:=by
 by_cases h:i<s.size
 · by_cases hw:s[i]=32∨s[i]=9
   · rw [skipEnd_go s i h hw]; have:=skipEnd_ge s (i+1); omega
   · rw [skipEnd_no s i h hw]; exact Nat.le_refl _
 · rw [skipEnd_out s i h]; exact Nat.le_refl _
termination_by s.size - i
theorem skipEnd_le (s:ByteArray) (i:Nat) (hi:i≤s.size):skipEnd s i≤s.size:=by
 by_cases h:i<s.size
 · by_cases hw:s[i]=32∨s[i]=9
   · rw [skipEnd_go s i h hw]; exact skipEnd_le s (i+1) h
   · rw [skipEnd_no s i h hw]; exact hi
 · rw [skipEnd_out s i h]; exact hi
termination_by s.size - i
abbrev sub (s:ByteArray) (i j:Nat):ByteArray:=s.extract i j
def wordEnd (s:ByteArray) (i:Nat):Nat :=
 if h:i<s.size then
  (if isLet s[i] then
   (if h2:runEnd s i<s.size then (if (upper (sub s i (runEnd s i))).toList=[65,70]∧s[runEnd s i]=39 then runEnd s i+1 else runEnd s i) else runEnd s i)
  else i)
 else i
def signs1:List UInt8:=[44,40,41,43,45,42,47,38,124,94,126,58,61,36]
def signLen (s:ByteArray) (i:Nat):Nat :=
 if i+1<s.size∧((sub s i (i+2)).toList=[60,60]∨(sub s i (i+2)).toList=[62,62]) then 2
 else if h:i<s.size then (if s[i]∈signs1 then 1 else 0) else 0
def quotedGo (s:ByteArray) (mark:UInt8) (i:Nat) (acc:ByteArray):Option (ByteArray × Nat) :=
 if h:i<s.size then
  (if s[i]=mark then (if i+1<s.size∧bat s (i+1)=mark then quotedGo s mark (i+2) (acc++sub s i (i+1)) else some (acc,i+1)) else quotedGo s mark (i+1) (acc++sub s i (i+1)))
 else none
termination_by s.size - i
def quotedP (s:ByteArray) (i:Nat):Option (ByteArray × Nat):=quotedGo s (bat s i) (i+1) ⟨#[]⟩
theorem quotedGo_out (s:ByteArray) (m:UInt8) (i:Nat) (acc:ByteArray) (h:¬ i<s.size):quotedGo s m i acc=none:=by
 rw [quotedGo,dif_neg h]
theorem quotedGo_step (s:ByteArray) (m:UInt8) (i:Nat) (acc:ByteArray) (h:i<s.size) (hm:s[i]≠m):quotedGo s m i acc=quotedGo s m (i+1) (acc++sub s i (i+1)):=by
 rw [quotedGo,dif_pos h,if_neg hm]
theorem quotedGo_two (s:ByteArray) (m:UInt8) (i:Nat) (acc:ByteArray) (h:i<s.size) (hm:s[i]=m) (h2:i+1<s.size) (hm2:bat s (i+1)=m):quotedGo s m i acc=quotedGo s m (i+2) (acc++sub s i (i+1)):=by
 rw [quotedGo,dif_pos h,if_pos hm,if_pos ⟨h2,hm2⟩]
theorem quotedGo_end (s:ByteArray) (m:UInt8) (i:Nat) (acc:ByteArray) (h:i<s.size) (hm:s[i]=m) (h2:¬ (i+1<s.size∧bat s (i+1)=m)):quotedGo s m i acc=some (acc,i+1):=by
 rw [quotedGo,dif_pos h,if_pos hm,if_neg h2]
theorem quotedGo_bd (s:ByteArray) (m:UInt8) (i:Nat) (acc t:ByteArray) (n:Nat) (h:quotedGo s m i acc=some (t,n)):i<n∧n≤s.size∧t.size+i≤acc.size+n:=by
 by_cases h1:i<s.size
 · by_cases h2:s[i]=m
   · by_cases h3:i+1<s.size∧bat s (i+1)=m
     · rw [quotedGo_two s m i acc h1 h2 h3.1 h3.2] at h
       have:=quotedGo_bd s m (i+2) _ t n h
       rw [ByteArray.size_append,ByteArray.size_extract] at this
       omega
     · rw [quotedGo_end s m i acc h1 h2 h3] at h
       simp only [Option.some.injEq,Prod.mk.injEq] at h
       obtain ⟨rfl,rfl⟩:=h
       omega
   · rw [quotedGo_step s m i acc h1 h2] at h
     have:=quotedGo_bd s m (i+1) _ t n h
     rw [ByteArray.size_append,ByteArray.size_extract] at this
     omega
 · rw [quotedGo_out s m i acc h1] at h; cases h
termination_by s.size - i
theorem wordEnd_le (s:ByteArray) (i:Nat) (hi:i≤s.size):wordEnd s i≤s.size:=by
 have:=runEnd_le s i hi
 unfold wordEnd
 repeat' split
 all_goals omega
theorem signLen_le (s:ByteArray) (i:Nat) (hi:i<s.size):i+signLen s i≤s.size∧signLen s i≤2:=by
 unfold signLen
 repeat' split
 all_goals omega
def isNumAt (s:ByteArray) (i:Nat):Bool:=isDig (bat s i) || bat s i == 37 || (bat s i == 36 && decide (i+1<runEnd s (i+1)))
def nextP (s:ByteArray) (i:Nat):Except Int (Tok × Nat) :=
 if i<wordEnd s i then .ok (⟨1,sub s i (wordEnd s i),0,i⟩,wordEnd s i)
 else if isNumAt s i=true then (match numP (sub s i (runEnd s (i+1))) with | some x=>.ok (⟨2,⟨#[]⟩,x,i⟩,runEnd s (i+1)) | none=>.error 3)
 else if bat s i=34∨bat s i=39 then (match quotedP s i with | some (t,e)=>.ok (⟨3,t,0,i⟩,e) | none=>.error 3)
 else if signLen s i=0 then .error 20 else .ok (⟨4,sub s i (i+signLen s i),0,i⟩,i+signLen s i)
theorem nextP_bd (s:ByteArray) (i:Nat) (hi:i<s.size) (t:Tok) (n:Nat) (h:nextP s i=.ok (t,n)):i<n∧n≤s.size∧t.text.size≤s.size∧0≤t.n∧t.n≤65535:=by
 have h1:=wordEnd_le s i (by omega)
 have h2:=runEnd_le s (i+1) (by omega)
 have h2':=runEnd_ge s (i+1)
 have h3:=signLen_le s i hi
 unfold nextP at h
 split at h
 · cases h; simp only; rw [ByteArray.size_extract]; omega
 · split at h
   · split at h
     · rename_i x hx
       cases h
       have:=numU_le (u:=(upper (sub s i (runEnd s (i+1)))).data.toList) (m:=x) hx
       simp only
       exact ⟨by omega,h2,Nat.zero_le _,by omega,by omega⟩
     · cases h
   · split at h
     · split at h
       · rename_i t' e' hq
         cases h
         have:=quotedGo_bd s _ _ _ _ _ hq
         simp only
         have hz:(⟨#[]⟩:ByteArray).size=0:=rfl
         rw [hz] at this
         refine ⟨?_,?_,?_,?_,?_⟩<;>omega
       · cases h
     · split at h
       · cases h
       · cases h; simp only; rw [ByteArray.size_extract]; omega
theorem nextP_err (s:ByteArray) (i:Nat) (e:Int) (h:nextP s i=.error e):e=3∨e=20:=by
 unfold nextP at h
 split at h
 · cases h
 · split at h
   · split at h
     · cases h
     · cases h; exact .inl rfl
   · split at h
     · split at h
       · cases h
       · cases h; exact .inl rfl
     · split at h
       · cases h; exact .inr rfl
       · cases h
def moreAt (s:ByteArray) (i:Nat):Bool:=decide (i<s.size) && bat s i != 59
def toksGo (s:ByteArray) (i:Nat) (acc:List Tok):Except Int (List Tok) :=
 if moreAt s (skipEnd s i)=true then
  (match nextP s (skipEnd s i) with
  | .error e=>.error e
  | .ok (t,n)=>if i<n∧n≤s.size then toksGo s n (acc++[t]) else .error 99)
 else .ok (acc++[⟨0,⟨#[]⟩,0,skipEnd s i⟩])
termination_by s.size - i
def toksP (s:ByteArray):Except Int (List Tok):=if 1024<s.size then .error 19 else toksGo s 0 []
theorem toksGo_end (s:ByteArray) (i:Nat) (acc:List Tok) (h:moreAt s (skipEnd s i)=false):toksGo s i acc=.ok (acc++[⟨0,⟨#[]⟩,0,skipEnd s i⟩]):=by
 rw [toksGo,if_neg (by rw [h]; decide)]
theorem toksGo_err (s:ByteArray) (i:Nat) (acc:List Tok) (e:Int) (h:moreAt s (skipEnd s i)=true) (hn:nextP s (skipEnd s i)=.error e):toksGo s i acc=.error e:=by
 rw [toksGo,if_pos h,hn]
theorem moreAt_lt {s:ByteArray} {i:Nat} (h:moreAt s i=true):i<s.size:=by
 unfold moreAt at h; simp at h; exact h.1
theorem toksGo_step (s:ByteArray) (i:Nat) (acc:List Tok) (t:Tok) (n:Nat) (h:moreAt s (skipEnd s i)=true) (hn:nextP s (skipEnd s i)=.ok (t,n)):toksGo s i acc=toksGo s n (acc++[t]):=by
 have hl:=moreAt_lt h
 have hb:=nextP_bd s _ hl t n hn
 have hg:=skipEnd_ge s i
 rw [toksGo,if_pos h,hn]
 simp only
 rw [if_pos ⟨by omega,hb.2.1⟩]
theorem toksGo_all (s:ByteArray) (i:Nat) (acc l:List Tok) (h:toksGo s i acc=.ok l) (p:Tok→Prop) (ha:∀ t∈acc,p t) (he:∀ j:Nat,p ⟨0,⟨#[]⟩,0,j⟩) (hp:∀ (j n:Nat) t,j<s.size→nextP s j=.ok (t,n)→p t):∀ t∈l,p t:=by
 by_cases h1:moreAt s (skipEnd s i)=true
 · cases hn:nextP s (skipEnd s i) with
   | error e=>rw [toksGo_err s i acc e h1 hn] at h; cases h
   | ok x =>
     obtain ⟨t,n⟩:=x
     have hl:=moreAt_lt h1
     have hb:=nextP_bd s _ hl t n hn
     have hg:=skipEnd_ge s i
     rw [toksGo_step s i acc t n h1 hn] at h
     refine toksGo_all s n (acc++[t]) l h p ?_ he hp
     intro u hu
     rcases List.mem_append.1 hu with hu | hu
     · exact ha u hu
     · rw [List.mem_singleton] at hu; subst hu; exact hp _ _ _ hl hn
 · rw [toksGo_end s i acc (by simpa using h1)] at h
   cases h
   intro u hu
   rcases List.mem_append.1 hu with hu | hu
   · exact ha u hu
   · rw [List.mem_singleton] at hu; subst hu; exact he _
termination_by s.size - i
theorem toksGo_len (s:ByteArray) (i:Nat) (acc l:List Tok) (hi:i≤s.size) (h:toksGo s i acc=.ok l):acc.length+1≤l.length∧l.length+i≤acc.length+1+s.size:=by
 by_cases h1:moreAt s (skipEnd s i)=true
 · cases hn:nextP s (skipEnd s i) with
   | error e=>rw [toksGo_err s i acc e h1 hn] at h; cases h
   | ok x =>
     obtain ⟨t,n⟩:=x
     have hl:=moreAt_lt h1
     have hb:=nextP_bd s _ hl t n hn
     have hg:=skipEnd_ge s i
     rw [toksGo_step s i acc t n h1 hn] at h
     have:=toksGo_len s n (acc++[t]) l hb.2.1 h
     simp only [List.length_append,List.length_singleton] at this
     omega
 · rw [toksGo_end s i acc (by simpa using h1)] at h
   cases h
   simp only [List.length_append,List.length_singleton]
   omega
termination_by s.size - i
def At (s:ByteArray) (i:Nat) (u:ByteArray):Prop:=∀ k,k<u.size→i+k<s.size∧bat s (i+k)=bat u k
theorem bat_append (u v:ByteArray) (k:Nat):bat (u++v) k=if k<u.size then bat u k else bat v (k - u.size):=by
 unfold bat
 rw [ByteArray.data_append,Array.getElem?_append]
 split<;>rename_i h<;>(first | rw [if_pos (by exact h)] | rw [if_neg (by exact h)])
 rfl
theorem At.left {s:ByteArray} {i:Nat} {u v:ByteArray} (h:At s i (u++v)):At s i u:=fun k hk=>by
 have:=h k (by rw [ByteArray.size_append]; omega)
 rw [bat_append,if_pos hk] at this
 exact this
theorem At.right {s:ByteArray} {i:Nat} {u v:ByteArray} (h:At s i (u++v)):At s (i+u.size) v:=fun k hk=>by
 have:=h (u.size+k) (by rw [ByteArray.size_append]; omega)
 rw [bat_append,if_neg (by omega),show u.size+k - u.size=k by omega,←Nat.add_assoc] at this
 exact this
theorem At.le {s:ByteArray} {i:Nat} {u:ByteArray} (h:At s i u) (hu:0<u.size):i+u.size≤s.size:=by
 have:=(h (u.size - 1) (by omega)).1
 omega
theorem At.one {s:ByteArray} {i:Nat} {c:UInt8} (h:At s i ⟨#[c]⟩):i<s.size∧bat s i=c:=by
 have:=h 0 (by show 0<1; decide)
 exact this
def Lx (s:ByteArray) (i:Nat) (l:List Tok) (j:Nat):Prop:=∀ acc,toksGo s i acc=toksGo s j (acc++l)
theorem Lx.trans {s:ByteArray} {i j k:Nat} {l m:List Tok} (h:Lx s i l j) (h2:Lx s j m k):Lx s i (l++m) k:=fun acc=>by
 rw [h acc,h2 (acc++l),List.append_assoc]
def WordOk (u:ByteArray):Prop:=0<u.size∧isLet (bat u 0)=true∧∀ k,k<u.size→isW (bat u k)=true
end Go.Proofs.YtkldoojonnkfgaaGreatDoor
