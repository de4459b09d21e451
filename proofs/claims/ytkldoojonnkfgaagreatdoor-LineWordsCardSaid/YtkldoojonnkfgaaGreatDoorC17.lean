/- Joined texts: LexN, Five, TextE, LexT, Lists, TokI. -/
import Derived.Test.YtkldoojonnkfgaaGreatDoorC16
namespace Go.Proofs.YtkldoojonnkfgaaGreatDoor
open Go.RowKit Go.Sort
end Go.Proofs.YtkldoojonnkfgaaGreatDoor
namespace Go.Proofs.YtkldoojonnkfgaaGreatDoor
open Go.RowKit Go.Sort
section
variable {P:Program}
theorem run_equalIn_nil_some (w:World) (d:Nat) (t:TypeId) (p:Addr) (h:P.underlying t=some (.pointer (P.pointee t))) :
 (Op.equalIn (d+1) t (.pointer none) (.pointer (some p))).run P w=.ok false w:=by
 simp [Op.equalIn,run_underlying h]
theorem run_equal_nil_some (w:World) (t:TypeId) (p:Addr) (h:P.underlying t=some (.pointer (P.pointee t))) :
 (Op.equal t (.pointer none) (.pointer (some p))).run P w=.ok false w:=run_equalIn_nil_some w 9999 t p h
@[go_sem] theorem run_eql_nil_some (w:World) (t:TypeId) (p:Addr) (h:P.underlying t=some (.pointer (P.pointee t))) :
 (binOp .eql t (.pointer none) (.pointer (some p))).run P w=.ok (.bool false) w:=by
 simp only [binOp]
 simp [run_equal_nil_some w t p h]
end
def Ex.kd:Ex→Int | .num _=>1 | .sym _=>2 | .here=>3 | .un _ _=>4 | .bin _ _ _=>5
def Ex.nn:Ex→Int | .num n=>n | _=>0
def Ex.nm:Ex→ByteArray | .sym s=>s | .un op _=>op | .bin op _ _=>op | _=>⟨#[]⟩
def Ex.ka:Ex→Option Ex | .un _ a=>some a | .bin _ a _=>some a | _=>none
def Ex.kb:Ex→Option Ex | .bin _ _ b=>some b | _=>none
theorem t54_0 {p:Prop} (h:p:=by
 obtain ⟨g,_,hv,hh⟩:=h
 obtain ⟨e0,e1,e2,e3,e4⟩:=mk hh
 exact ⟨g,_,_,hv,lt_of_block hh,e0,e1,e2,e3,e4,rfl,rfl⟩):p:=h
theorem NodeAt.five {T:TypeId} {B:Nat} {w:World} {x:Ex} {v:Value} (h:NodeAt T B w x v):∃ g a b,v=.pointer (some ⟨g,0,none⟩)∧g<w.heap.size∧w.cell? ⟨g,0,none⟩=some (.int .i64 x.kd)∧w.cell? ⟨g,1,none⟩=some (.int .i64 x.nn)∧w.cell? ⟨g,2,none⟩=some (.string x.nm)∧w.cell? ⟨g,3,none⟩=some a∧w.cell? ⟨g,4,none⟩=some b∧OptAt T w x.ka a∧OptAt T w x.kb b:=by
 have mk:∀ {g:Nat} {c0 c1 c2 c3 c4:Value},w.heap[g]? = some (.cells #[c0,c1,c2,c3,c4] T (0,0))→w.cell? ⟨g,0,none⟩=some c0∧w.cell? ⟨g,1,none⟩=some c1∧w.cell? ⟨g,2,none⟩=some c2∧w.cell? ⟨g,3,none⟩=some c3∧w.cell? ⟨g,4,none⟩=some c4:=fun h=>by
  refine ⟨?_,?_,?_,?_,?_⟩<;>simp [World.cell?,h]
 cases x with
 | num n =>
   exact t54_0
 | sym s =>
   exact t54_0
 | here =>
   exact t54_0
 | un op a =>
   obtain ⟨g,va,_,hv,hh,ha⟩:=h
   obtain ⟨e0,e1,e2,e3,e4⟩:=mk hh
   exact ⟨g,_,_,hv,lt_of_block hh,e0,e1,e2,e3,e4,ha.mono (Nat.zero_le _),rfl⟩
 | bin op a b =>
   obtain ⟨g,va,vb,_,hv,hh,ha,hb⟩:=h
   obtain ⟨e0,e1,e2,e3,e4⟩:=mk hh
   exact ⟨g,_,_,hv,lt_of_block hh,e0,e1,e2,e3,e4,ha.mono (Nat.zero_le _),hb.mono (Nat.zero_le _)⟩
end Go.Proofs.YtkldoojonnkfgaaGreatDoor
namespace Go.Proofs.YtkldoojonnkfgaaGreatDoor
open Go.RowKit Go.Sort
def brk (c:Bool) (s:ByteArray):ByteArray:=if c then ⟨#[40]⟩++s++⟨#[41]⟩ else s
def Ex.text:Ex→ByteArray
 | .num n=>numText n
 | .sym s=>s
 | .here=>⟨#[36]⟩
 | .un op a=>op++brk (a.kd == 5) a.text
 | .bin op a b=>brk (a.kd == 5 && decide (lvlS a.nm<lvlS op)) a.text++⟨#[32]⟩++op++⟨#[32]⟩++brk (b.kd == 5 && decide (lvlS b.nm≤lvlS op)) b.text
theorem brk_size (c:Bool) (s:ByteArray):(brk c s).size≤s.size+2:=by
 cases c
 · exact Nat.le_add_right _ _
 · show (⟨#[40]⟩++s++⟨#[41]⟩:ByteArray).size≤_
   rw [ByteArray.size_append,ByteArray.size_append]
   show 1+s.size+1≤_
   omega
theorem upper_len (l:ByteArray):(upper l).size=l.size:=by show (upper l).data.size=l.data.size; simp [upper]
theorem numText_size (n:Int):(numText n).size≤10:=by
 have h4:=hexDigs_len 4 n.toNat
 have hu:(upper ⟨(hexDigs 4 n.toNat).toArray⟩).size≤4:=by rw [upper_len]; show (hexDigs 4 n.toNat).toArray.size≤4; simpa using h4
 unfold numText
 split
 · show 0≤10; omega
 · split
   · show 1≤10; omega
   · split
     · rw [ByteArray.size_append,ByteArray.size_append]
       show 1+(_+1)≤10
       omega
     · rw [ByteArray.size_append]
       show _+1≤10
       omega
theorem op_size {op:ByteArray} (h:lvlS op≠0):op.size≤3:=by
 have:=lvlL_op _ h
 have e:op.size=op.toList.length:=by rw [ByteArray.toList_eq]; show op.data.size=_; simp
 rw [e]
 rcases this with h | h | h | h | h | h | h | h | h | h<;>rw [h]<;>decide
theorem un_size {op:ByteArray} (h:op.toList=[45]∨op.toList=[43]∨op.toList=[126]):op.size≤3:=by
 have e:op.size=op.toList.length:=by rw [ByteArray.toList_eq]; show op.data.size=_; simp
 rw [e]
 rcases h with h | h | h<;>rw [h]<;>decide
theorem text_size:∀ x:Ex,x.good→x.text.size≤x.nodes * 1000100
 | .num n,_=>by have:=numText_size n; show (numText n).size≤1 * 1000100; omega
 | .sym s,h=>by have h:s.size≤1000000:=h; show s.size≤1 * 1000100; omega
 | .here,_=>by show 1≤1 * 1000100; omega
 | .un op a,h=>by
   have h1:=text_size a h.2
   have h2:=un_size h.1
   have h3:=brk_size (a.kd == 5) a.text
   show (op++brk (a.kd == 5) a.text).size≤(1+a.nodes) * 1000100
   rw [ByteArray.size_append]
   omega
 | .bin op a b,h=>by
   have h1:=text_size a h.2.1
   have h2:=text_size b h.2.2
   have h3:=op_size h.1
   have h4:=brk_size (a.kd == 5 && decide (lvlS a.nm<lvlS op)) a.text
   have h5:=brk_size (b.kd == 5 && decide (lvlS b.nm≤lvlS op)) b.text
   show (brk (a.kd == 5 && decide (lvlS a.nm<lvlS op)) a.text++⟨#[32]⟩++op++⟨#[32]⟩++brk (b.kd == 5 && decide (lvlS b.nm≤lvlS op)) b.text).size≤(1+a.nodes+b.nodes) * 1000100
   rw [ByteArray.size_append,ByteArray.size_append,ByteArray.size_append,ByteArray.size_append]
   show _+1+_+1+_≤_
   omega
end Go.Proofs.YtkldoojonnkfgaaGreatDoor
namespace Go.Proofs.YtkldoojonnkfgaaGreatDoor
open Go.RowKit Go.Sort
def Ex.words:Ex→Prop
 | .num _=>True
 | .sym s=>WordOk s∧(upper s).toList≠[77,79,68]
 | .here=>True
 | .un _ a=>a.words
 | .bin _ a b=>a.words∧b.words
def Reads (s:ByteArray) (i j:Nat) (k:Option Nat) (x:Ex):Prop:=∃ l,Lx s i l j∧G exLang k l x
theorem Reads.one {s:ByteArray} {i j:Nat} {x:Ex} (h:Reads s i j none x) (k:Nat):Reads s i j (some k) x:=by
 obtain ⟨l,h1,h2⟩:=h
 exact ⟨l,h1,.one _ _ _ h2⟩
theorem Reads.mono {s:ByteArray} {i j k m:Nat} {x:Ex} (h:Reads s i j (some m) x) (hk:k≤m):Reads s i j (some k) x:=by
 obtain ⟨l,h1,h2⟩:=h
 exact ⟨l,h1,h2.mono exLang hk⟩
theorem atom_num (n i:Int):tatom ⟨2,⟨#[]⟩,n,i⟩=some (.num n):=by
 have h:(tnm ⟨2,⟨#[]⟩,n,i⟩).toList=[]:=by
  show (⟨#[]⟩:ByteArray).toList=[]
  rw [ByteArray.toList_eq]
 unfold tatom
 rw [h]
 rfl
theorem bat_data (u:ByteArray) (k:Nat):bat u k=u.data.toList[k]?.getD 0:=by unfold bat; rw [Array.getElem?_toList]
end Go.Proofs.YtkldoojonnkfgaaGreatDoor
namespace Go.Proofs.YtkldoojonnkfgaaGreatDoor
open Go.RowKit Go.Sort
end Go.Proofs.YtkldoojonnkfgaaGreatDoor
namespace Go.Proofs.YtkldoojonnkfgaaGreatDoor
open Go.RowKit Go.Sort
theorem parse_gram {l:List Tok} {x:Ex} (h:G exLang (some 1) l x) (hr:(oSyms (some x)).any resv=false):parseR l=(0,some x):=by
 obtain ⟨r,hp⟩:=P.some_res l
 have he:=(P.full exLang hp x).2 h
 subst he
 rw [←parseR_of hp]
 unfold parsed
 dsimp only
 rw [if_pos rfl,any_uniq]
 have e:lSyms [some x]=oSyms (some x):=by simp [lSyms]
 rw [e,hr]
 rfl
theorem sign_eq (c d:UInt8) (n i:Int):signIs ⟨4,⟨#[c]⟩,n,i⟩ [d]=(c == d):=by
 unfold signIs
 have h:(⟨#[c]⟩:ByteArray).toList=[c]:=by rw [ByteArray.toList_eq]
 dsimp only
 rw [h]
 simp
theorem parse_num (n i:Int):parseR [⟨2,⟨#[]⟩,n,i⟩]=(0,some (.num n)) :=
 parse_gram (.one _ _ _ (.atom _ _ (atom_num n i))) rfl
theorem one_size (c:UInt8):(⟨#[c]⟩:ByteArray).size=1:=rfl
def wordB (u:ByteArray):Bool:=decide (0<u.size) && isLet (bat u 0) && (List.range u.size).all fun k=>isW (bat u k)
def afB (u:ByteArray):Bool:=u.data.toList == [65,70,39]
def nmOk (k r:Nat):Bool :=
 (nm k r).toList.isEmpty || ((upper (nm k r)).data.toList == (nm k r).data.toList && (nm k r).data.toList.all (fun c=>c != 32) && (if k=4 then wordB (nm k r) && decide (regP (nm k r)=some (r:Int)) else if k=5 then wordB (nm k r) && decide (regP (nm k r)=some (r:Int)) && ixW (nm k r) else if k=6∨k=7∨k=10 then true else (wordB (nm k r) || afB (nm k r)) && resvA (nm k r)))
set_option maxRecDepth 100000 in
theorem nms_ok:∀ k:Fin 11,∀ r:Fin 9,nmOk k.val r.val=true:=by decide +kernel
theorem wordB_ok {u:ByteArray} (h:wordB u=true):WordOk u:=by
 unfold wordB at h
 simp only [Bool.and_eq_true,decide_eq_true_eq,List.all_eq_true,List.mem_range] at h
 exact ⟨h.1.1,h.1.2,h.2⟩
theorem ba_of {a:ByteArray} {l:List UInt8} (h:a.data.toList=l):a=⟨l.toArray⟩:=by
 subst h
 cases a; simp
theorem nm_parts {k r:Nat} (hk:k<11) (hr:r<9) (h:(nm k r).toList.isEmpty=false):upper (nm k r)=nm k r∧(∀ c∈(nm k r).data.toList,c≠32) ∧
 (if k=4 then WordOk (nm k r)∧regP (nm k r)=some (r:Int) else if k=5 then WordOk (nm k r)∧regP (nm k r)=some (r:Int)∧ixW (nm k r)=true else if k=6∨k=7∨k=10 then True else (WordOk (nm k r)∨nm k r=⟨#[65,70,39]⟩)∧resvA (nm k r)=true):=by
 have hh:=nms_ok ⟨k,hk⟩ ⟨r,hr⟩
 unfold nmOk at hh
 dsimp only at hh
 rw [h,Bool.false_or,Bool.and_eq_true,Bool.and_eq_true] at hh
 obtain ⟨⟨h1,h2⟩,h3⟩:=hh
 refine ⟨ba_ext (by simpa using h1),?_,?_⟩
 · intro c hc
   rw [List.all_eq_true] at h2
   simpa using h2 c hc
 · split
   · rename_i e
     rw [if_pos e,Bool.and_eq_true] at h3
     exact ⟨wordB_ok h3.1,by simpa using h3.2⟩
   · rename_i e
     rw [if_neg e] at h3
     split
     · rename_i e
       rw [if_pos e,Bool.and_eq_true,Bool.and_eq_true] at h3
       exact ⟨wordB_ok h3.1.1,by simpa using h3.1.2,h3.2⟩
     · rename_i e
       rw [if_neg e] at h3
       split
       · trivial
       · rename_i e
         rw [if_neg e,Bool.and_eq_true,Bool.or_eq_true] at h3
         refine ⟨h3.1.imp wordB_ok (fun h=>?_),h3.2⟩
         unfold afB at h
         exact ba_of (by simpa using h)
theorem end_tok (s:ByteArray) (acc:List Tok):toksGo s s.size acc=.ok (acc++[⟨0,⟨#[]⟩,0,skipEnd s s.size⟩]):=by
 refine toksGo_end s s.size acc ?_
 rcases h:moreAt s (skipEnd s s.size) with _ | _
 · rfl
 · have h1:=moreAt_lt h
   have h2:=skipEnd_ge s s.size
   omega
end Go.Proofs.YtkldoojonnkfgaaGreatDoor
