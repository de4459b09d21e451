/- Joined. -/
import Derived.Test.YtoigglljnklhlaaGreatDoorD28
import Derived.Test.YtoigglljnklhlaaGreatDoorDX3
import Derived.Test.YtoigglljnklhlaaGreatDoorDX4
import Derived.Test.YtoigglljnklhlaaGreatDoorDX5
set_option maxHeartbeats 8000000
set_option maxRecDepth 100000
namespace Go.Proofs.YtoigglljnklhlaaGreatDoor
open Go.RowKit Go.Sort
open Go.Proofs.Tryz
theorem Uk (page op:Nat) (hp:page<7) (hop:op<256) (w:World):Calls prog 53 #[.int .i64 page,.int .u8 op] w (pY (atR page op) w):=by
 rcases (by omega:page=0∨page=1∨page=2∨page=3∨page=4∨page=5∨page=6) with rfl|rfl|rfl|rfl|rfl|rfl|rfl
 · exact aGG op hop w
 · exact aGF op hop w
 · exact aGE op hop w
 · exact aGD op hop w
 · exact aGC op hop w
 · exact aGB op hop w
 · exact aGA op hop w
end Go.Proofs.YtoigglljnklhlaaGreatDoor
namespace Go.Proofs.YtoigglljnklhlaaGreatDoor
open Go.RowKit Go.Sort
def aIg (i:aY):ByteArray:=if (aHx i).2=0 then (if (bV i).2=[] then ⟨i.1.toArray⟩ else (⟨i.1.toArray⟩:ByteArray)++⟨#[32]⟩++mP (bV i).2) else ⟨#[]⟩
def aHq (u:ByteArray):Prop:=∀ c∈u.data.toList,c≠32
theorem aGX {u v:ByteArray} (h:aHq u) (h2:aHq v):aHq (u++v):=by
 intro c hc;rw[ByteArray.data_append,Array.toList_append] at hc;rcases List.mem_append.1 hc with hc|hc
 · exact h c hc
 · exact h2 c hc
theorem aGY {c:UInt8} (h:c≠32):aHq ⟨#[c]⟩:=by
 intro d hd;simp at hd
 subst hd;exact h
theorem aIs:∀ u:Fin 16,up (jL u.val)≠32:=by decide +kernel
theorem aHw:∀ (f u:Nat),∀ c∈(bL f u).map up,c≠32
 | 0,u,c,h=>by simp[bL] at h
 | f+1,u,c,h=>by
   by_cases hu:u<16
   · rw[tV f u hu] at h;simp at h;subst h
     exact aIs ⟨u,hu⟩
   · rw[zG f u om,List.map_append,List.mem_append] at h;rcases h with h|h
     · exact aHw f _ c h
     · simp at h;subst h
       exact aIs ⟨u%16,om⟩
theorem aHR (u:Nat):aHq (cH ⟨(bL 4 u).toArray⟩++(⟨#[72]⟩:ByteArray)):=by
 refine aGX (fun c hc=>?_) (aGY dc);unfold cH at hc;exact aHw 4 u c (by simpa using hc)
theorem aJI:∀ n:Fin 10,UInt8.ofNat (48+n.val)≠32:=by decide +kernel
theorem aHG (n:Int):aHq (aX n):=by
 unfold aX;split
 · intro c hc;simp at hc
 · split
   · exact aGY (aJI ⟨n.toNat,om⟩)
   · split
     · exact aGX (aGY dc) (aHR _)
     · exact aHR _
theorem aHl (n:Int):aHq (eI n):=by
 unfold eI;split<;>exact aGX (aGY dc) (aHG _)
theorem aJE:∀ k:Fin 11,∀ r:Fin 9,(nm k.val r.val).data.toList.all (fun c=>c != 32)=true:=by decide +kernel
theorem aHA (o:Op3):aHq (eT o.1 o.2.1 o.2.2):=by
 unfold eT;split
 · rename_i h;unfold bP at h;simp only[Bool.and_eq_true,decide_eq_true_eq] at h;obtain⟨⟨⟨⟨⟨⟨a1,a2⟩,a3⟩,a4⟩,_⟩,_⟩,_⟩:=h;have hn:aHq (nm o.1.toNat o.2.1.toNat):=fun c hc=>by
    have:=List.all_eq_true.1 (aJE ⟨o.1.toNat,om⟩ ⟨o.2.1.toNat,om⟩) c hc
    simpa using this
   unfold zJ;split
   · exact aGX (aGX (aGY dc) hn) (aGY dc)
   · split
     · exact aGX (aGX (aGX (aGY dc) hn) (aHl _)) (aGY dc)
     · split
       · split
         · exact aHl _
         · exact aHG _
       · split
         · exact aGX (aGX (aGY dc) (aHG _)) (aGY dc)
         · split
           · exact aGX (aGY dc) (aHl _)
           · exact hn
 · intro c hc;simp at hc
theorem aHB (o p:Op3) (l:List Op3):mP (o::p::l)=eT o.1 o.2.1 o.2.2++(⟨#[44]⟩++mP (p::l)):=by
 apply aFA
 simp[mP,eZ,Lib.join_cons,Lib.joinTail]
theorem aHJ (o:Op3):mP [o]=eT o.1 o.2.1 o.2.2:=by
 apply aFA
 simp[mP,eZ,Lib.join_one]
theorem aHK:∀ (l:List Op3),aHq (mP l)
 | []=>fun c hc=>by simp[mP,eZ,Lib.join_nil] at hc
 | [o]=>by rw[aHJ];exact aHA o
 | o::p::l=>by
   rw[aHB];exact aGX (aHA o) (aGX (aGY dc) (aHK (p::l)))
theorem aJY (n:Int) (h0:0≤n) (h1:n≤65535):0<(aX n).size:=by
 unfold aX;rw[if_neg om];split
 · exact Nat.zero_lt_one
 · split
   · rw[ByteArray.size_append,ByteArray.size_append];show 0<1+(_+1);omega
   · rw[ByteArray.size_append];show 0<_+1;omega
theorem aIC (n:Int):0<(eI n).size:=by
 unfold eI;split<;>(rw[ByteArray.size_append];show 0<1+_;omega)
theorem aIL {o:Op3} (h:bP o.1 o.2.1 o.2.2=true):0<(eT o.1 o.2.1 o.2.2).size:=by
 unfold eT;rw[if_pos h];unfold bP at h;simp only[Bool.and_eq_true,decide_eq_true_eq] at h;obtain⟨⟨⟨_,a5⟩,a6⟩,a7⟩:=h;have hnz:0<(nm o.1.toNat o.2.1.toNat).size:=by
  rcases Nat.eq_zero_or_pos (nm o.1.toNat o.2.1.toNat).size with h0|h0
  · have:(nm o.1.toNat o.2.1.toNat).toList=[]:=by
     rw[ByteArray.toList_eq]
     have:(nm o.1.toNat o.2.1.toNat).data=#[]:=Array.eq_empty_of_size_eq_zero (by exact h0)
     rw[this]
    rw[this] at a5;cases a5
  · exact h0
 unfold zJ;split
 · rw[ByteArray.size_append,ByteArray.size_append];show 0<1+_+1;omega
 · split
   · rw[ByteArray.size_append,ByteArray.size_append,ByteArray.size_append];show 0<1+_+_+1;omega
   · split
     · rename_i h6;split
       · exact aIC _
       · rw[h6] at a6 a7
         have:(o.2.2:Int)≤65535:=a7
         exact aJY _ om this
     · split
       · rw[ByteArray.size_append,ByteArray.size_append];show 0<1+_+1;omega
       · split
         · rw[ByteArray.size_append];show 0<1+_;omega
         · exact hnz
theorem aIK (w:Nat) (x:Op3) (h:bP x.1 x.2.1 x.2.2=true):bP (sC w x).1 (sC w x).2.1 (sC w x).2.2=true:=by
 unfold sC;split
 · rename_i hc;obtain⟨h6,hn,hw⟩:=hc;unfold bP at h ⊢;simp only[Bool.and_eq_true,decide_eq_true_eq] at h ⊢;obtain⟨⟨h',_⟩,_⟩:=h;refine⟨⟨h',?_⟩,?_⟩
   · rw[h6];show (-32768:Int)≤_
     split<;>omega
   · rw[h6];show _≤(65535:Int)
     split<;>omega
 · exact h
theorem aIx {i:aY} (h:iR i=0):∀ o∈(bV i).2,bP o.1 o.2.1 o.2.2=true:=by
 intro o ho;unfold bV at ho;obtain⟨x,hx,rfl⟩:=List.mem_map.1 ho;refine aIK _ x ?_;rcases Qv (To hx) with rfl|hx
 · decide +kernel
 · unfold iR at h;split at h
   · cases h
   · split at h
     · cases h
     · split at h
       · cases h
       · rename_i hn;rw[List.any_eq_true] at hn;cases hb:bP x.1 x.2.1 x.2.2 with
         | true=>rfl
         | false=>exact absurd ⟨x,hx,by rw[hb];rfl⟩ hn
theorem aJg (l:List UInt8):Lib.trimSuffix (l++[32]) [32]=l:=by
 unfold Lib.trimSuffix Lib.hasSuffix;rw[if_pos (by rw[List.isSuffixOf_iff_suffix];exact⟨l,rfl⟩)];simp
theorem aIB (l m:List UInt8) (h:m≠[]) (h2:∀ c∈m,c≠32):Lib.trimSuffix (l++m) [32]=l++m:=by
 unfold Lib.trimSuffix Lib.hasSuffix;rw[if_neg];intro e;rw[List.isSuffixOf_iff_suffix] at e;obtain⟨t,ht⟩:=e;have h3:(l++m).getLast? = some 32:=by rw[←ht];simp
 rw[List.getLast?_append] at h3;cases hg:m.getLast? with
 | none=>exact h (List.getLast?_eq_none_iff.1 hg)
 | some c =>
   rw[hg] at h3;simp at h3
   subst h3;exact h2 _ (List.mem_of_getLast? hg) rfl
theorem aJz (i:aY):aIg i=xR i:=by
 unfold aIg xR;rw[aJw];by_cases hf:(aHx i).2=0
 · rw[if_pos hf,if_pos hf];have hc:iR i=0:=by
    unfold aHx at hf;split at hf
    · assumption
    · exact hf
   have hv:=aIx hc;have e:∀ C:List Op3,((⟨i.1.toArray⟩:ByteArray)++⟨#[32]⟩++mP C).data.toList=(i.1++[32])++(mP C).data.toList:=fun C=>by
    rw[ByteArray.data_append,ByteArray.data_append,Array.toList_append,Array.toList_append]
   cases hC:(bV i).2 with
   | nil =>
     rw[if_pos rfl,e]
     have:(mP []).data.toList=[]:=by simp[mP,eZ,Lib.join_nil]
     rw[this,List.append_nil,aJg]
   | cons o l =>
     rw[if_neg sm,e,aIB _ _ _ (aHK _)]
     · apply aFA
       rw[e]
     · intro h0;rw[hC] at hv;have hp:=aIL (hv o List.mem_cons_self);have hz:0<(mP (o::l)).size:=by
        cases l with
        | nil=>rw[aHJ];exact hp
        | cons p l=>rw[aHB,ByteArray.size_append];omega
       rw[Lib.size_eq,h0] at hz;exact absurd hz dc
 · rw[if_neg hf,if_neg hf]
end Go.Proofs.YtoigglljnklhlaaGreatDoor
