/- Joined texts: NumP, NumQ. -/
import Derived.Test.YtkldoojonnkfgaaGreatDoorC01
namespace Go.Proofs.YtkldoojonnkfgaaGreatDoor
open Go.RowKit Go.Sort
def digU (c:UInt8):Nat:=if 48≤c.toNat∧c.toNat≤57 then c.toNat - 48 else if 65≤c.toNat∧c.toNat≤70 then c.toNat - 55 else 99
def valGo (b:Nat):Nat→List UInt8→Option Nat
 | n,[]=>some n
 | n,c::l=>if b≤digU c then none else if 65535<n * b+digU c then none else valGo b (n * b+digU c) l
def valU (b:Nat) (l:List UInt8):Option Nat:=if l=[] then none else valGo b 0 l
theorem valGo_cons (b n:Nat) (c:UInt8) (l:List UInt8):valGo b n (c::l)=if b≤digU c then none else if 65535<n * b+digU c then none else valGo b (n * b+digU c) l:=rfl
theorem valGo_nil (b n:Nat):valGo b n []=some n:=rfl
theorem valGo_le (b:Nat):∀ (l:List UInt8) (n m:Nat),n≤65535→valGo b n l=some m→m≤65535
 | [],n,m,h,hv=>by simp [valGo] at hv; omega
 | c::l,n,m,h,hv=>by
   unfold valGo at hv
   split at hv
   · cases hv
   · split at hv
     · cases hv
     · exact valGo_le b l _ m (by omega) hv
theorem valU_le {b:Nat} {l:List UInt8} {m:Nat} (h:valU b l=some m):m≤65535:=by
 unfold valU at h
 split at h
 · cases h
 · exact valGo_le b l 0 m (by omega) h
def numU (u:List UInt8):Option Nat :=
 (valU 10 u).or ((if [48,88].isPrefixOf u then valU 16 (u.drop 2) else none).or ((if [36].isPrefixOf u then valU 16 (u.drop 1) else none).or
  ((if u.getLast? = some 72∧(u.dropLast.headD 99).toNat≤57 then valU 16 u.dropLast else none).or ((if u.getLast? = some 66 then valU 2 u.dropLast else none).or (if [37].isPrefixOf u then valU 2 (u.drop 1) else none)))))
def numP (s:ByteArray):Option Nat:=numU (upper s).data.toList
theorem numU_le {u:List UInt8} {m:Nat} (h:numU u=some m):m≤65535:=by
 unfold numU at h
 simp only [Option.or_eq_some_iff] at h
 rcases h with h | ⟨_,h | ⟨_,h | ⟨_,h | ⟨_,h | ⟨_,h⟩⟩⟩⟩⟩
 all_goals
  first
   | exact valU_le h
   | (split at h
      · exact valU_le h
      · cases h)
theorem digU_up_dec (c:UInt8) (h:digU c<10):digU (up c)=digU c:=by
 have hn:48≤c.toNat∧c.toNat≤57:=by unfold digU at h; split at h; assumption; split at h<;>omega
 unfold up; rw [if_neg (by omega)]
theorem digU_dec_up (c:UInt8) (h:digU (up c)<10):digU (up c)=digU c:=by
 by_cases hc:97≤c.toNat∧c.toNat≤122
 · exfalso
   have:=up_toNat c
   rw [if_pos (by omega)] at this
   unfold digU at h; split at h
   · omega
   · split at h<;>omega
 · unfold up; rw [if_neg hc]
theorem valGo_up:∀ (l:List UInt8) (n:Nat),valGo 10 n (l.map up)=valGo 10 n l
 | [],n=>rfl
 | c::l,n=>by
   rw [List.map_cons]
   unfold valGo
   by_cases h1:digU c<10
   · rw [digU_up_dec c h1]
     simp only [valGo_up l]
   · have h2:¬ digU (up c)<10:=fun h=>h1 (by rw [←digU_dec_up c h]; exact h)
     rw [if_pos (by omega),if_pos (by omega)]
theorem valU_up (l:List UInt8):valU 10 (l.map up)=valU 10 l:=by
 unfold valU
 rw [valGo_up]
 by_cases h:l=[]
 · subst h; rfl
 · rw [if_neg h,if_neg (by simpa using h)]
def bat (s:ByteArray) (i:Nat):UInt8:=s.data[i]?.getD 0
theorem bat_get (s:ByteArray) (i:Nat) (h:i<s.size):s[i]=bat s i:=by
 unfold bat; rw [Array.getElem?_eq_getElem (by exact h)]; rfl
theorem bat_list (s:ByteArray) (i:Nat):bat s i=s.data.toList[i]?.getD 0:=by
 unfold bat; simp
theorem upper_list (s:ByteArray):(upper s).data.toList=s.data.toList.map up:=by unfold upper; simp
def numR (s:ByteArray):Int × Bool:=match numP s with | some n=>(n,true) | none=>(0,false)
end Go.Proofs.YtkldoojonnkfgaaGreatDoor
