/- Joined texts: LexN, Five, TextE, LexT. -/
import Derived.Test.YtkldoojonnkfgaaGreatDoorB05
import Derived.Test.YtkldoojonnkfgaaGreatDoorB15
import Derived.Test.YtkldoojonnkfgaaGreatDoorB17
namespace Go.Proofs.YtkldoojonnkfgaaGreatDoor
open Go.RowKit Go.Sort
theorem valGo_snoc (b:Nat) (c:UInt8):∀ (l:List UInt8) (n m:Nat),valGo b n l=some m→valGo b n (l++[c])=valGo b m [c]
 | [],n,m,h=>by rw [valGo_nil] at h; cases h; rfl
 | a::l,n,m,h=>by
   rw [valGo_cons] at h
   rw [List.cons_append,valGo_cons]
   split at h
   · cases h
   · rename_i h1
     split at h
     · cases h
     · rename_i h2
       rw [if_neg h1,if_neg h2]
       exact valGo_snoc b c l _ m h
theorem digU_hex:∀ d:Fin 16,digU (up (hexLow d.val))=d.val:=by decide
theorem hexU_in:∀ d:Fin 16,(48≤(up (hexLow d.val)).toNat∧(up (hexLow d.val)).toNat≤57∨65≤(up (hexLow d.val)).toNat∧(up (hexLow d.val)).toNat≤70)∧up (up (hexLow d.val))=up (hexLow d.val):=by decide
theorem digs_in:∀ (f u:Nat) (c:UInt8),c∈(hexDigs f u).map up→(48≤c.toNat∧c.toNat≤57∨65≤c.toNat∧c.toNat≤70)∧up c=c
 | 0,u,c,h=>by simp [hexDigs] at h
 | f+1,u,c,h=>by
   by_cases hu:u<16
   · rw [hexDigs_small f u hu] at h
     simp at h
     subst h
     exact hexU_in ⟨u,hu⟩
   · rw [hexDigs_big f u (by omega),List.map_append,List.mem_append] at h
     rcases h with h | h
     · exact digs_in f (u / 16) c h
     · simp at h
       subst h
       exact hexU_in ⟨u % 16,Nat.mod_lt _ (by decide)⟩
theorem val_hex:∀ (f u:Nat),u<16 ^ f→u≤65535→1≤f→valGo 16 0 ((hexDigs f u).map up)=some u
 | 0,u,_,_,h=>by omega
 | f+1,u,h1,h2,_=>by
   by_cases hu:u<16
   · rw [hexDigs_small f u hu]
     have hd:=digU_hex ⟨u,hu⟩
     simp only at hd
     simp only [List.map_cons,List.map_nil]
     rw [valGo_cons,hd,if_neg (by omega),if_neg (by omega),valGo_nil]
     simp
   · have hf:1≤f:=by
      rcases f with _ | f
      · simp at h1; omega
      · omega
     have h3:u / 16<16 ^ f:=by rw [Nat.pow_succ] at h1; omega
     rw [hexDigs_big f u (by omega),List.map_append]
     simp only [List.map_cons,List.map_nil]
     rw [valGo_snoc 16 _ _ 0 (u / 16) (val_hex f (u / 16) h3 (by omega) hf)]
     have hd:=digU_hex ⟨u % 16,Nat.mod_lt _ (by decide)⟩
     simp only at hd
     rw [valGo_cons,hd,if_neg (by omega),if_neg (by omega),valGo_nil]
     congr 1
     omega
theorem hex_ne (f u:Nat) (hf:1≤f):hexDigs f u≠[]:=by
 rcases f with _ | f
 · omega
 · by_cases hu:u<16
   · rw [hexDigs_small f u hu]; simp
   · rw [hexDigs_big f u (by omega)]; simp
theorem numText_bytes (n:Int) (h0:0≤n) (h1:n≤65535):(numText n).data.toList=if n≤9 then [UInt8.ofNat (48+n.toNat)] else
 if 57<(((hexDigs 4 n.toNat).map up).headD 0).toNat then 48::((hexDigs 4 n.toNat).map up++[72]) else (hexDigs 4 n.toNat).map up++[72]:=by
 have hl:(upper ⟨(hexDigs 4 n.toNat).toArray⟩++(⟨#[72]⟩:ByteArray)).data.toList=(hexDigs 4 n.toNat).map up++[72]:=by
  rw [ByteArray.data_append]; simp [upper]
 have hg:(upper ⟨(hexDigs 4 n.toNat).toArray⟩++(⟨#[72]⟩:ByteArray)).data[0]?.getD 0=((hexDigs 4 n.toNat).map up).headD 0:=by
  rw [←Array.getElem?_toList,hl]
  have hne:=hex_ne 4 n.toNat (by decide)
  cases h:hexDigs 4 n.toNat with
  | nil=>exact absurd h hne
  | cons a l=>simp
 unfold numText
 rw [if_neg (by omega),hg]
 split
 · rfl
 · split
   · rw [ByteArray.data_append,Array.toList_append,hl]; rfl
   · exact hl
theorem numU_hex (u:List UInt8) (D:List UInt8) (hu:u=D++[72]) (hD:∀ c∈D,48≤c.toNat∧c.toNat≤57∨65≤c.toNat∧c.toNat≤70) (hh:(D.headD 99).toNat≤57) (hne:D≠[]) (n:Nat) (hv:valGo 16 0 D=some n):numU u=some n:=by
 have hm:∀ c∈u,c.toNat≠88∧c.toNat≠36:=by
  intro c hc
  rw [hu] at hc
  rcases List.mem_append.1 hc with h | h
  · have:=hD c h; omega
  · rw [List.mem_singleton] at h; subst h; decide
 have h10:valU 10 u=none:=by
  rcases hx:valU 10 u with _ | m
  · rfl
  · have:=(valU_mem hx).2 72 (by rw [hu]; simp)
    exact absurd this (by decide)
 have hp1:([48,88]:List UInt8).isPrefixOf u=false:=by
  rcases h:([48,88]:List UInt8).isPrefixOf u with _ | _
  · rfl
  · obtain ⟨t,ht⟩:=List.isPrefixOf_iff_prefix.1 h
    exact absurd rfl ((hm 88 (by rw [←ht]; simp)).1)
 have hp2:([36]:List UInt8).isPrefixOf u=false:=by
  rcases h:([36]:List UInt8).isPrefixOf u with _ | _
  · rfl
  · obtain ⟨t,ht⟩:=List.isPrefixOf_iff_prefix.1 h
    exact absurd rfl ((hm 36 (by rw [←ht]; simp)).2)
 unfold numU
 rw [h10,hp1,hp2]
 have hlast:u.getLast? = some 72:=by rw [hu]; simp
 have hdl:u.dropLast=D:=by rw [hu]; simp
 rw [if_neg (by decide),if_neg (by decide),if_pos ⟨hlast,by rw [hdl]; exact hh⟩,hdl]
 have:valU 16 D=some n:=by unfold valU; rw [if_neg hne]; exact hv
 rw [this]
 rfl
theorem dig9:∀ d:Fin 10,numU [up (UInt8.ofNat (48+d.val))]=some d.val:=by decide +kernel
theorem numP_text (n:Int) (h0:0≤n) (h1:n≤65535):numP (numText n)=some n.toNat:=by
 unfold numP
 have hU:(upper (numText n)).data.toList=(numText n).data.toList.map up:=by simp [upper]
 rw [hU,numText_bytes n h0 h1]
 have hin:=digs_in 4 n.toNat
 have hne:(hexDigs 4 n.toNat).map up≠[]:=by simpa using hex_ne 4 n.toNat (by decide)
 have hv:=val_hex 4 n.toNat (by omega) (by omega) (by decide)
 have hmm:((hexDigs 4 n.toNat).map up).map up=(hexDigs 4 n.toNat).map up:=by
  rw [List.map_map]
  apply List.map_congr_left
  intro c hc
  exact (hin (up c) (List.mem_map_of_mem hc)).2
 split
 · have:=dig9 ⟨n.toNat,by omega⟩
   simpa using this
 · split
   · rename_i h57
     rw [List.map_cons,List.map_append,hmm]
     refine numU_hex _ (48::(hexDigs 4 n.toNat).map up) rfl (fun c hc=>?_) (by show (48:UInt8).toNat≤57; decide) (by simp) n.toNat ?_
     · rcases List.mem_cons.1 hc with rfl | hc
       · exact .inl (by decide)
       · exact (hin c hc).1
     · rw [valGo_cons,show digU 48=0 from rfl,if_neg (by decide),if_neg (by decide)]
       exact hv
   · rename_i h57
     rw [List.map_append,hmm]
     refine numU_hex _ ((hexDigs 4 n.toNat).map up) rfl (fun c hc=>(hin c hc).1) ?_ hne n.toNat hv
     cases h:(hexDigs 4 n.toNat).map up with
     | nil=>exact absurd h hne
     | cons a l=>rw [h] at h57; simpa using h57
end Go.Proofs.YtkldoojonnkfgaaGreatDoor
namespace Go.Proofs.YtkldoojonnkfgaaGreatDoor
open Go.RowKit Go.Sort
section
variable {P:Program}
theorem run_equalIn_nil_some (w:World) (d:Nat) (t:TypeId) (p:Addr) (h:P.underlying t=some (.pointer (P.pointee t))) :
 (Op.equalIn (d+1) t (.pointer none) (.pointer (some p))).run P w=.ok false w:=by
 simp [Op.equalIn,run_underlying h]
theorem run_equal_nil_some (w:World) (t:TypeId) (p:Addr) (h:P.underlying t=some (.pointer (P.pointee t))) :
 (Op.equal t (.pointer none) (.pointer (some p))).run P w=.ok false w:=run_equalIn_nil_some w 9999 t p h
@[go_sem] theorem run_eql_nil_some (w:World) (t:TypeId) (p:Addr) (h:P.underlying t=some (.pointer (P.pointee t))) :
 (binOp .eql t (.pointer none) (.pointer (some p))).run P w=.ok (.bool false) w:=by
 simp only [binOp]
 simp [run_equal_nil_some w t p h]
end
def Ex.kd:Ex→Int | .num _=>1 | .sym _=>2 | .here=>3 | .un _ _=>4 | .bin _ _ _=>5
def Ex.nn:Ex→Int | .num n=>n | _=>0
def Ex.nm:Ex→ByteArray | .sym s=>s | .un op _=>op | .bin op _ _=>op | _=>⟨#[]⟩
def Ex.ka:Ex→Option Ex | .un _ a=>some a | .bin _ a _=>some a | _=>none
def Ex.kb:Ex→Option Ex | .bin _ _ b=>some b | _=>none
theorem t54_0 {p:Prop} (h:p:=by
 obtain ⟨g,_,hv,hh⟩:=h
 obtain ⟨e0,e1,e2,e3,e4⟩:=mk hh
 exact ⟨g,_,_,hv,lt_of_block hh,e0,e1,e2,e3,e4,rfl,rfl⟩):p:=h
theorem NodeAt.five {T:TypeId} {B:Nat} {w:World} {x:Ex} {v:Value} (h:NodeAt T B w x v):∃ g a b,v=.pointer (some ⟨g,0,none⟩)∧g<w.heap.size∧w.cell? ⟨g,0,none⟩=some (.int .i64 x.kd)∧w.cell? ⟨g,1,none⟩=some (.int .i64 x.nn)∧w.cell? ⟨g,2,none⟩=some (.string x.nm)∧w.cell? ⟨g,3,none⟩=some a∧w.cell? ⟨g,4,none⟩=some b∧OptAt T w x.ka a∧OptAt T w x.kb b:=by
 have mk:∀ {g:Nat} {c0 c1 c2 c3 c4:Value},w.heap[g]? = some (.cells #[c0,c1,c2,c3,c4] T (0,0))→w.cell? ⟨g,0,none⟩=some c0∧w.cell? ⟨g,1,none⟩=some c1∧w.cell? ⟨g,2,none⟩=some c2∧w.cell? ⟨g,3,none⟩=some c3∧w.cell? ⟨g,4,none⟩=some c4:=fun h=>by
  refine ⟨?_,?_,?_,?_,?_⟩<;>simp [World.cell?,h]
 cases x with
 | num n =>
   exact t54_0
 | sym s =>
   exact t54_0
 | here =>
   exact t54_0
 | un op a =>
   obtain ⟨g,va,_,hv,hh,ha⟩:=h
   obtain ⟨e0,e1,e2,e3,e4⟩:=mk hh
   exact ⟨g,_,_,hv,lt_of_block hh,e0,e1,e2,e3,e4,ha.mono (Nat.zero_le _),rfl⟩
 | bin op a b =>
   obtain ⟨g,va,vb,_,hv,hh,ha,hb⟩:=h
   obtain ⟨e0,e1,e2,e3,e4⟩:=mk hh
   exact ⟨g,_,_,hv,lt_of_block hh,e0,e1,e2,e3,e4,ha.mono (Nat.zero_le _),hb.mono (Nat.zero_le _)⟩
end Go.Proofs.YtkldoojonnkfgaaGreatDoor
namespace Go.Proofs.YtkldoojonnkfgaaGreatDoor
open Go.RowKit Go.Sort
def brk (c:Bool) (s:ByteArray):ByteArray:=if c then ⟨#[40]⟩++s++⟨#[41]⟩ else s
def Ex.text:Ex→ByteArray
 | .num n=>numText n
 | .sym s=>s
 | .here=>⟨#[36]⟩
 | .un op a=>op++brk (a.kd == 5) a.text
 | .bin op a b=>brk (a.kd == 5 && decide (lvlS a.nm<lvlS op)) a.text++⟨#[32]⟩++op++⟨#[32]⟩++brk (b.kd == 5 && decide (lvlS b.nm≤lvlS op)) b.text
end Go.Proofs.YtkldoojonnkfgaaGreatDoor
namespace Go.Proofs.YtkldoojonnkfgaaGreatDoor
open Go.RowKit Go.Sort
def Ex.words:Ex→Prop
 | .num _=>True
 | .sym s=>WordOk s∧(upper s).toList≠[77,79,68]
 | .here=>True
 | .un _ a=>a.words
 | .bin _ a b=>a.words∧b.words
def Reads (s:ByteArray) (i j:Nat) (k:Option Nat) (x:Ex):Prop:=∃ l,Lx s i l j∧G exLang k l x
theorem Reads.one {s:ByteArray} {i j:Nat} {x:Ex} (h:Reads s i j none x) (k:Nat):Reads s i j (some k) x:=by
 obtain ⟨l,h1,h2⟩:=h
 exact ⟨l,h1,.one _ _ _ h2⟩
theorem Reads.mono {s:ByteArray} {i j k m:Nat} {x:Ex} (h:Reads s i j (some m) x) (hk:k≤m):Reads s i j (some k) x:=by
 obtain ⟨l,h1,h2⟩:=h
 exact ⟨l,h1,h2.mono exLang hk⟩
theorem atom_num (n i:Int):tatom ⟨2,⟨#[]⟩,n,i⟩=some (.num n):=by
 have h:(tnm ⟨2,⟨#[]⟩,n,i⟩).toList=[]:=by
  show (⟨#[]⟩:ByteArray).toList=[]
  rw [ByteArray.toList_eq]
 unfold tatom
 rw [h]
 rfl
theorem atom_here (i:Int):tatom ⟨4,⟨#[36]⟩,0,i⟩=some .here:=by
 have h:(tnm ⟨4,⟨#[36]⟩,0,i⟩).toList=[36]:=by
  show (⟨#[36]⟩:ByteArray).toList=[36]
  rw [ByteArray.toList_eq]
 unfold tatom
 rw [h]
 rfl
theorem hexW (c:UInt8) (h:48≤c.toNat∧c.toNat≤57∨65≤c.toNat∧c.toNat≤70):isW c=true:=by
 unfold isW isLet isDig
 rcases h with h | h
 · simp [h]
 · have:decide (65≤c.toNat∧c.toNat≤90)=true:=by rw [decide_eq_true_eq]; omega
   rw [this]; simp
theorem bat_data (u:ByteArray) (k:Nat):bat u k=u.data.toList[k]?.getD 0:=by unfold bat; rw [Array.getElem?_toList]
theorem numText_ok (n:Int) (h0:0≤n) (h1:n≤65535):0<(numText n).size∧isDig (bat (numText n) 0)=true∧∀ k,k<(numText n).size→isW (bat (numText n) k)=true:=by
 have hin:=digs_in 4 n.toNat
 have hne:=hex_ne 4 n.toNat (by decide)
 have hb:=numText_bytes n h0 h1
 have hsz:(numText n).size=(numText n).data.toList.length:=by rw [Array.length_toList]; rfl
 have key:∀ l:List UInt8,(numText n).data.toList=l→l≠[]→isDig (l.headD 0)=true→(∀ c∈l,isW c=true)→0<(numText n).size∧isDig (bat (numText n) 0)=true∧∀ k,k<(numText n).size→isW (bat (numText n) k)=true:=by
  intro l hl hn hd hw
  rw [hl] at hsz
  refine ⟨by rw [hsz]; exact List.length_pos_iff.2 hn,?_,fun k hk=>?_⟩
  · rw [bat_data,hl]
    cases l with
    | nil=>exact absurd rfl hn
    | cons a l=>exact hd
  · rw [hsz] at hk
    rw [bat_data,hl,List.getElem?_eq_getElem hk]
    exact hw _ (List.getElem_mem hk)
 have hw:∀ c∈(hexDigs 4 n.toNat).map up++[72],isW c=true:=by
  intro c hc
  rcases List.mem_append.1 hc with h | h
  · exact hexW c (hin c h).1
  · rw [List.mem_singleton] at h; subst h; rfl
 split at hb
 · refine key _ hb (by simp) ?_ ?_
   · have:∀ d:Fin 10,isDig (UInt8.ofNat (48+d.val))=true:=by decide
     exact this ⟨n.toNat,by omega⟩
   · intro c hc
     rw [List.mem_singleton] at hc
     subst hc
     have:∀ d:Fin 10,isW (UInt8.ofNat (48+d.val))=true:=by decide
     exact this ⟨n.toNat,by omega⟩
 · split at hb
   · refine key _ hb (by simp) (by show isDig 48=true; rfl) (fun c hc=>?_)
     rcases List.mem_cons.1 hc with rfl | hc
     · rfl
     · exact hw c hc
   · rename_i h57
     refine key _ hb (by simp) ?_ hw
     cases h:(hexDigs 4 n.toNat).map up with
     | nil=>simp at h; exact absurd h hne
     | cons a l =>
       rw [h] at h57
       have ha:=(hin a (by rw [h]; simp)).1
       show isDig a=true
       have h57:¬ 57<a.toNat:=h57
       unfold isDig
       rw [decide_eq_true_eq]
       omega
end Go.Proofs.YtkldoojonnkfgaaGreatDoor
