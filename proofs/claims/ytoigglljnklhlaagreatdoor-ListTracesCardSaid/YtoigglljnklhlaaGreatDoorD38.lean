/- Joined. -/
import Derived.Test.YtoigglljnklhlaaGreatDoorD37
set_option maxHeartbeats 8000000
set_option maxRecDepth 100000
namespace Go.Proofs.YtoigglljnklhlaaGreatDoor
section
open Go.RowKit Go.Sort
open Go.Proofs.Tryz
theorem aBJ {w:World} {v:Value} {bs:List UInt8} (h:Row w v bs.length (aT bs)):(convert 33 9 v).run prog w=.ok (.string ⟨bs.toArray⟩) w:=by
 obtain⟨a,c,rfl,_,hr⟩:=h;by_cases hnil:bs=[]
 · subst hnil;rw[Qz,run_convert_bytes_string (P:=prog) w 33 9 5 a 0 c underlying33 underlying5 underlying9];cases a with
   | none=>rfl
   | some a=>rfl
 · obtain⟨g,o,rfl,hg,hcs⟩:=hr (by intro e;have h2:=fS bs;rw[e] at h2;exact hnil (Xc h2.symm))
   exact run_convert_bytes_back (P:=prog) w 33 9 5 ⟨g,o,none⟩ c bs underlying33 underlying5 underlying9 (fun j hj=>by
    rw[bD,hcs j (by rw[fS];exact hj)];simp[aT,hj])
theorem aFz (l:List UInt8) (i:Nat) (c:UInt8):(aT l).set i (.int .u8 c.toNat)=aT (l.set i c):=by simp[aT,List.map_set]
theorem aGM (y:Nat) (hy:y<16) (h:y<(⟨#[48,49,50,51,52,53,54,55,56,57,65,66,67,68,69,70]⟩:ByteArray).size):(⟨#[48,49,50,51,52,53,54,55,56,57,65,66,67,68,69,70]⟩:ByteArray)[y]'h=aCR y:=by
 have:y=0∨y=1∨y=2∨y=3∨y=4∨y=5∨y=6∨y=7∨y=8∨y=9∨y=10∨y=11∨y=12∨y=13∨y=14∨y=15:=om
 rcases this with rfl|rfl|rfl|rfl|rfl|rfl|rfl|rfl|rfl|rfl|rfl|rfl|rfl|rfl|rfl|rfl<;>rfl
theorem aFm (n k j:Nat) (h:j<k):(List.replicate (k - j) 0++hx j n).set (k - 1 - j) (aCR (n/16 ^ j%16))=List.replicate (k - (j+1)) (0:UInt8)++hx (j+1) n:=by
 obtain⟨d,rfl⟩:∃ d,k=j+1+d:=⟨k - (j+1),om⟩
 rw[show j+1+d - j=d+1 by omega,show j+1+d - 1 - j=d by omega,show j+1+d - (j+1)=d by omega,List.replicate_succ',Yc,List.set_append_right _ _ sm]
 simp[hx]
theorem aGL:madeCells (Value.int .u8 0).cells 2=(aT (List.replicate 2 0)).toArray:=by kernel_rfl
theorem aGK:madeCells (Value.int .u8 0).cells 4=(aT (List.replicate 4 0)).toArray:=by kernel_rfl
theorem aDk (n k:Nat) (w:World) (hn:n<1000000) (hk:k=2∨k=4) :
 Calls prog 63 #[n,k] w fun e w'=>e=.returned (hx k n)∧Below w w w':=by
 obtain⟨i0,hi,hz0,hz1,hz2⟩:=info_parts Tryz.infoByte;have hrun:(Instr.makeSlice 33 (.int .i64 k) (.int .i64 k)).run prog w=.ok (.slice w k k) (w.alloc (.cells (aT (List.replicate k 0)).toArray 5)):=by
  have:=run_makeSlice (P:=prog) (w:=w) 33 5 i0 (.int .u8 0) underlying33 hi hz0 .i64 .i64 k k om (Int.le_refl _) (by rw[hz1];omega) (by rw[hz2];omega) om
  rw[hz1,Xl,Nat.mul_one] at this;rw[this];rcases hk with rfl|rfl
  · rw[aGL]
  · rw[aGK]
 have h4:k≤4:=om
 have h0:0<k:=om
 have hmx:max (k:Int) 0=k:=om
 have hkk:(k:Int)≤4:=om
 have hkp:(0:Int)<(k:Int):=om
 have HH4:=Hh h4;have HH0:=Hh h0;have hlit:∀ W:World,W.heap[w.heap.size]? = some (.cells (aT (List.replicate k 0)).toArray 5 (0,0))→WRow W w (.slice w k k) k (aT (List.replicate k 0)):=fun W h=>⟨_,_,rfl,Qk _,fun _=>⟨w,0,rfl,Qk _,aA h,fun j _=>by rw[Lib.cell_of_heap h];simp,fun j _=>Lib.frozen_of_heap h _⟩⟩
 have HLIT:=Hh (hlit _ (aF w _));clear hlit hk h4 h0;go_enter func63,ntmps63
 go_wp2_with fail
 clear hrun;go_loopw [0,6] (fun x i wr=>∃ (j:Nat) (q:Int),j≤k∧x=.int .i64 (n/16 ^ j:Nat)∧i=.int .i64 q∧Hid (q=(k:Int) - 1 - j)∧Hid (WRow wr w (.slice w k k) k (aT (List.replicate (k - j) 0++hx j n)))∧Hid (Below w w wr)) (fun _ i _=>(intOf i+1).toNat)
 case atStart=>exact⟨0,(k:Int) - 1,Qi _,by simp,by go_num,Hh sm,Hh (by simpa[hx] using HLIT.out),Hh (bl)⟩
 case round =>
  obtain⟨j,q,hj,rfl,rfl,HQ,HW,HB⟩:=hrel;obtain⟨x,hx0⟩:∃ x,n/16 ^ j=x:=⟨_,rfl⟩;have hx1:x≤n:=by rw[←hx0];exact Nat.div_le_self _ _
  rw[hx0];have HX:=Hh hx0;clear hx0;by_cases hlt:j<k
  · have hb:=aDL x om;obtain⟨y,hy⟩:∃ y,x%16=y:=⟨_,rfl⟩;have hy1:y<16:=om
    rw[hy] at hb;have HY:=Hh hy;clear hy;have hlen:(aT (List.replicate (k - j) 0++hx j n)).length=k:=by rw[fS,Qc,List.length_replicate,aCI];omega
    have hq:=HQ.out;obtain⟨q,rfl⟩:∃ r:Nat,q=(r:Int):=⟨k - 1 - j,om⟩
    have hq1:(q:Int)<(k:Int):=om
    have hq0:(0:Int)≤(q:Int):=om
    obtain⟨_,_,hv,_,hh⟩:=HW.out;cases hv
    obtain⟨_,_,he,_,hgl,hcs,hfs⟩:=hh (by intro e;rw[e] at hlen;have:=HH0.out;simp at hlen;omega);cases he
    have hfz:wr.frozen? ⟨w,q,none⟩=false:=(congrArg (fun t=>wr.frozen? ⟨w,t,none⟩) (Xb q)).symm.trans (hfs q (by rw[hlen];omega));obtain⟨u,hu⟩:∃ u,(aT (List.replicate (k - j) 0++hx j n))[q]? = some u:=⟨_,Qb (by rw[hlen];omega)⟩;have hcz:wr.cell? ⟨w,q,none⟩=some u:=(congrArg (fun t=>wr.cell? ⟨w,t,none⟩) (Xb q)).symm.trans ((hcs q (by rw[hlen];omega)).trans hu);have HHL:=Hh hlen;have HJ:=Hh (show q=k - 1 - j by omega);clear hq hlen hh hcs hfs hu;go_wp2_with fail
    go_roundw
    case rel =>
     have h1:=WRow.set (u:=.int .u8 (aCR y).toNat) HW.out (i:=q) (by rw[HHL.out];omega);rw[aFz,HJ.out,←HY.out,←HX.out,aFm n k j hlt,Xb,←HJ.out,HX.out,HY.out] at h1;refine⟨j+1,(q:Int) - 1,om,?_,by go_num,Hh (by have:=HQ.out;omega),Hh ?_,Hh (HB.out.setCell (p:=⟨w,q,none⟩) lr _)⟩
     · rw[Nat.pow_succ,←Nat.div_div_eq_div_mul,HX.out];go_num
     · rw[aGM y hy1];exact h1
    case measure=>simp[intOf]
  · obtain rfl:j=k:=om
    have hq:=HQ.out;obtain rfl:q=-1:=om
    have hr:=HW.out;rw[Nat.sub_self,List.replicate_zero,Ye] at hr;have hcv:=aBJ (bs:=hx j n) (show Row wr (.slice w j j) (hx j n).length _ by rw[aCI];exact hr.row)
    clear hq hr;go_wp2_with fail
    go_ret;exact⟨rfl,HB.out⟩
end
section
open Go.RowKit Go.Sort
theorem Fs (u p:List UInt8):(Lib.trimSuffix u p).length≤u.length:=by unfold Lib.trimSuffix;split<;>(try rw[Qt])<;>omega
def Vw (p op:Nat):Bool:=match (atP p op).1 with|some e=>decide (e.mn.length≤100) && decide (e.args.length≤100)|none=>true
theorem Ta:∀ p:Fin 7,∀ op:Fin 256,Vw p.val op.val=true:=by decide +kernel
def Am (x:It):Prop:=x.ins.1.length≤100∧x.ins.2.length≤100
theorem uX {b:List UInt8} {e:Ent} {early:Bool} {rest:List UInt8} {d:Int} {x:It} (h1:e.mn.length≤100) (h2:e.args.length≤100) (h:lM b e early rest d=some x):Am x:=by
 unfold lM at h;obtain⟨y,_,rfl⟩:=Qr.1 h;unfold Am bU;split
 · exact⟨h1,by show (qT _ _ _).length≤_;rw[Pb];exact h2⟩
 · exact⟨by show ([]:List UInt8).length≤_;simp,by show ([]:List Op3).length≤_;simp⟩
theorem Si {p:Nat} (op:UInt8):cR p op<7:=by unfold cR;split<;>(try omega);split<;>(try omega);split<;>(try omega);split<;>(try omega);split<;>omega
theorem zB:∀ (f p:Nat) (b r:List UInt8) (x:It),p<7→dW f p b r=some x→Am x
 | 0,p,b,r,x,hp,h=>by simp[dW] at h
 | f+1,p,b,r,x,hp,h=>by
   rw[dW] at h;split at h
   · cases h
   · cases h
   · rename_i d op r2 _;split at h
     · exact zB f _ b r2 x (Si op) h
     · split at h
       · cases h;exact⟨by simp,by simp⟩
       · split at h
         · cases h;exact⟨by simp,by simp⟩
         · have hk:=Ta ⟨p,hp⟩ ⟨op.toNat,op.toNat_lt⟩;unfold Vw at hk;dsimp only at hk;cases he:(atP p op.toNat).1 with
           | none=>rw[he] at h;exact uX sm sm h
           | some e =>
             rw[he] at h hk;simp only[Qe,Qf] at hk;exact uX hk.1 hk.2 h
theorem Ik (b:List UInt8):Am (bX b):=by
 unfold bX;split
 · exact⟨by simp,by simp⟩
 · cases h:dW 3 0 b b with
   | none=>exact⟨by simp,by simp⟩
   | some x=>exact zB 3 0 b b x om h
theorem xA:∀ (f:Nat) (b:List UInt8),∀ x∈oO f b,Am x
 | 0,b,x,h=>by simp[oO] at h
 | f+1,b,x,h=>by
   rw[oO] at h;split at h
   · simp at h
   · rcases Xg.1 h with rfl|h
     · exact Ik b
     · exact xA f _ x h
def tS (a:Nat):List UInt8:=[9,79,82,71,32]++(aX (a:Int)).data.toList++[10]
theorem Bc (i:aY) (h1:i.1.length≤100) (h2:i.2.length≤100):(xR i).size≤20000:=by
 unfold xR;split
 · have h3:=Fs ((⟨i.1.toArray⟩:ByteArray)++⟨#[32]⟩++mP (bV i).2).data.toList [32];have h4:=uW (bV i).2;have h5:(bV i).2.length≤i.2.length+1:=kM i;have e:((⟨i.1.toArray⟩:ByteArray)++⟨#[32]⟩++mP (bV i).2).data.toList.length=i.1.length+1+(mP (bV i).2).size:=by
    rw[Xv];show ((⟨i.1.toArray⟩:ByteArray)++⟨#[32]⟩++mP (bV i).2).size=_
    rw[Qm,Qm];show i.1.toArray.size+1+_=_
    simp
   rw[e] at h3;show (Lib.trimSuffix _ _).toArray.size≤_
   rw[Qx];omega
 · show 0≤_;omega
theorem Cp (x:It) (h:Am x):(dH x).size≤20005+x.raw.length*7:=by
 unfold dH;split
 · have:=Bc x.ins h.1 h.2;omega
 · have:=Dj x.raw;omega
def lnG (tx:Nat→It→ByteArray) (a:Nat) (x:It):List UInt8:=[9]++(tx a x).data.toList++[10]
def mJ (tx:Nat→It→ByteArray) (l:List (Nat × It)):List UInt8:=l.flatMap fun p=>lnG tx p.1 p.2
def Gg (tx:Nat→It→ByteArray) (r:Rn):List UInt8:=tS r.1++mJ tx (iT r.1 (dI r.2))
def eD (tx:Nat→It→ByteArray) (R:List Rn):List UInt8:=R.flatMap (Gg tx)
theorem xI {tx:Nat→It→ByteArray} {R:List Rn} {j:Nat} {r:Rn} (h:R[j]? = some r):eD tx (R.take (j+1))=eD tx (R.take j)++Gg tx r:=by rw[Qo,h];simp[eD]
theorem Hp (tx:Nat→It→ByteArray) (l:List (Nat × It)) (p:Nat × It):mJ tx (l++[p])=mJ tx l++lnG tx p.1 p.2:=by simp[mJ]
theorem Eu (tx:Nat→It→ByteArray) (a:Nat) (x:It):(lnG tx a x).length=(tx a x).size+2:=by
 unfold lnG;rw[Qc,Qc,Xv];show 1+(tx a x).size+1=_
 omega
def TxS (tx:Nat→It→ByteArray):Prop:=∀ a x,Am x→(tx a x).size≤20030+x.raw.length*10
theorem zA {tx:Nat→It→ByteArray} (ht:TxS tx):∀ (l:List (Nat × It)),(∀ p∈l,Am p.2)→(mJ tx l).length≤l.length*20032+dJ (l.map Prod.snd)*10
 | [],_=>by simp[mJ]
 | p::l,h=>by
   have h1:=ht p.1 p.2 (h p (Qq ..));have h2:=zA ht l fun y hy=>h y (Qv _ hy);have h3:=Eu tx p.1 p.2;unfold mJ at h2 ⊢;rw[Xz,Qc,Qp,Xt,jP,Zc,Nat.add_mul];omega
theorem vQ:∀ (a:Nat) (l:List It) (p:Nat × It),p∈iT a l→p.2∈l
 | _,[],_,h=>by simp[iT] at h
 | a,x::l,p,h=>by
   rw[iT] at h;rcases Xg.1 h with rfl|h
   · exact Qq ..
   · exact Qv _ (vQ _ l p h)
theorem Md {tx:Nat→It→ByteArray} (ht:TxS tx) (r:Rn) (hr:r.2.length≤60000) (hn:(aX (r.1:Int)).size≤1000):(Gg tx r).length≤1300000000:=by
 have hrn:dJ (dI r.2)=r.2.length:=jO r.2;have h1:=zA ht (iT r.1 (dI r.2)) (fun p hp=>xA _ _ p.2 (vQ _ _ p hp));have h2:=kK r.2;rw[vR,pX,hrn] at h1;unfold Gg tS;rw[Qc,Qc,Qc,Xv];show 5+(aX (r.1:Int)).size+1+_≤_
 have:(dI r.2).length*20032≤60000*20032:=Ze _ om
 omega
theorem rH {tx:Nat→It→ByteArray}:∀ (R:List Rn),(∀ r∈R,(Gg tx r).length≤1300000000)→(eD tx R).length≤R.length*1300000000
 | [],_=>by simp[eD]
 | r::R,h=>by
   have h1:=h r (Qq ..);have h2:=rH R fun y hy=>h y (Qv _ hy);unfold eD at h2 ⊢;rw[Xz,Qc,Qp,Zc];omega
def aEs (l:List UInt8):List UInt8:=l.flatMap fun b=>32::hx 2 b.toNat
theorem aDZ:∀ l:List UInt8,(aEs l).length=l.length*3
 | []=>rfl
 | b::l=>by
   have:=aDZ l
   simp only[aEs,Xz,Qc,Qp,aCI] at this ⊢;omega
end
section
open Go.RowKit Go.Sort
open Go.Proofs.Tryz
def aKI:List UInt8→List UInt8
 | []=>[]
 | b::t=>hx 2 b.toNat++t.flatMap fun c=>32::hx 2 c.toNat
def aKR (a:Nat) (x:It):List UInt8:=hx 4 a++[32,32]++aKI x.raw++[32,32]
def aLR (a:Nat) (x:It):List UInt8:=(aKR a x++List.replicate (18 - (aKR a x).length) 32)++(dH x).data.toList++if x.alias then [32,32,59,32]++(xR x.ins).data.toList else []
def aLi (ad:Int) (x:It):ByteArray:=if ad<0∨65535<ad then ⟨#[]⟩ else ⟨(aLR ad.toNat x).toArray⟩
theorem aNh (l:List UInt8) (b:UInt8):aKI (l++[b])=if l=[] then hx 2 b.toNat else aKI l++(32::hx 2 b.toNat):=by
 cases l with
 | nil=>simp[aKI]
 | cons c t=>simp[aKI]
theorem aLe:∀ l:List UInt8,(aKI l).length≤l.length*3
 | []=>by simp[aKI]
 | b::t=>by
   have h:(t.flatMap fun c=>32::hx 2 c.toNat).length=t.length*3:=aDZ t;rw[aKI,Qc,aCI,h,Qp];omega
def aOM:Value→Nat
 | .string s=>s.size
 | _=>0
def rwT (a:Nat) (x:It) (k:Nat):ByteArray:=⟨(hx 4 a++[32,32]++aKI (x.raw.take k)).toArray⟩
def rwU (a:Nat) (x:It) (n:Nat):ByteArray:=⟨(aKR a x++List.replicate n 32).toArray⟩
theorem aNM (a:Nat) (x:It):(⟨(hx 4 a).toArray⟩:ByteArray)++⟨#[32,32]⟩=rwT a x 0:=by
 apply aFA
 simp[rwT,aKI]
theorem aOn {a:Nat} {x:It} {b:UInt8} (h:x.raw[0]? = some b):rwT a x 0++⟨(hx 2 b.toNat).toArray⟩=rwT a x 1:=by
 apply aFA
 have:x.raw.take 1=[b]:=by rw[List.take_one,List.head?_eq_getElem?,h];rfl
 simp[rwT,aKI,this]
theorem aNO {a:Nat} {x:It} {k:Nat} {b:UInt8} (h:x.raw[k]? = some b) (hk:k≠0):rwT a x k++⟨#[32]⟩++⟨(hx 2 b.toNat).toArray⟩=rwT a x (k+1):=by
 apply aFA
 unfold rwT;have hne:x.raw.take k≠[]:=fun e=>by
  have h1:=congrArg List.length e
  have:=(Qd.1 h).1
  rw[Qt,Qz] at h1;omega
 rw[Qo,h,Zo,aNh,if_neg hne];simp
theorem aNK (a:Nat) (x:It):rwT a x x.raw.length++⟨#[32,32]⟩=rwU a x 0:=by
 apply aFA
 simp[rwT,rwU,aKR]
theorem aNL (a:Nat) (x:It) (n:Nat):rwU a x n++⟨#[32]⟩=rwU a x (n+1):=by
 apply aFA
 simp[rwU,List.replicate_succ']
theorem aMm (a:Nat) (x:It) (n:Nat):(rwU a x n).size=(aKR a x).length+n:=by
 show (_:List UInt8).toArray.size=_
 rw[Qx,Qc,List.length_replicate]
theorem aNN (a:Nat) (x:It) (k:Nat):(rwT a x k).size≤6+x.raw.length*3:=by
 show (_:List UInt8).toArray.size≤_
 have h1:=aLe (x.raw.take k);have h2:(x.raw.take k).length≤x.raw.length:=by rw[Qt];omega
 rw[Qx,Qc,Qc,aCI];show 4+2+_≤_
 omega
theorem aNI {a:Nat} {x:It} (h:x.alias=false):rwU a x (18 - (aKR a x).length)++dH x=⟨(aLR a x).toArray⟩:=by
 apply aFA
 simp[rwU,aLR,h]
theorem aNJ {a:Nat} {x:It} (h:x.alias=true):rwU a x (18 - (aKR a x).length)++dH x++⟨#[32,32,59,32]⟩++xR x.ins=⟨(aLR a x).toArray⟩:=by
 apply aFA
 simp[rwU,aLR,h]
theorem aNg (ad:Int) (x:It) (vr va:Value) (B0:Nat) (w:World) (hI:ItAt B0 x vr va w) (hi:Am x) (hrl:x.raw.length≤1000) :
 Calls prog 43 #[ad,itV x vr va] w fun e w'=>e=.returned (.string (aLi ad x))∧Below w w w':=by
 have hi9:x.ins.2.length≤900∧x.ins.1.length≤1000:=⟨Qn hi.2 dc,Qn hi.1 dc⟩;have hIT:=fun X (hb:Below w w X)=>aKt x vr va B0 X (hI.below hb) hi9 om;have hSH:=fun X (hb:Below w w X)=>aJl x.ins.1 va x.ins.2 X (hI.args.row.row.below hb) (aHz (aKs hI.args.own) hb) hi9.1 hi9.2;have hxi:(x.ins.1,x.ins.2)=x.ins:=rfl;rw[hxi,aJz] at hSH;have his:=Cp x hi;have hss:=Bc x.ins hi.1 hi.2;have his2:(dH x).size≤100000:=om
 have hrr:=Row.of_owns hI.raw;obtain⟨R,hR⟩:∃ R,aLi ad x=R:=⟨_,rfl⟩;rw[hR];unfold aLi at hR;obtain⟨X0,hX0⟩:∃ y:It,x=y:=⟨_,rfl⟩;have hraw:x.raw=X0.raw:=by rw[hX0]
 have hal:x.alias=X0.alias:=by rw[hX0]
 have hits:itV x vr va=.agg #[x.kind,vr,x.ins.1,va,.bool x.alias]:=rfl;rw[hits] at hIT ⊢;rw[hX0] at hR;have hIT2:∀ X,Below w w X→Calls prog 33 #[.agg #[x.kind,vr,x.ins.1,va,.bool x.alias]] X fun e w'=>e=.returned (.string (dH X0))∧Below X X w':=by rw[←hX0];exact hIT
 have hSH2:∀ X,Below w w X→Calls prog 61 #[eU x.ins.1 va] X fun e w'=>e=.returned (.string (xR X0.ins))∧Below X X w':=by rw[←hX0];exact hSH
 rw[hX0] at his2 hss;clear hIT hSH hits his hxi hi9 hi;obtain⟨ki,ra,⟨im,ia⟩,ial⟩:=x;dsimp only at hraw hal hrr hrl hIT2 hSH2;obtain⟨ar,cr,rfl,hcr,hcs⟩:=hrr;obtain⟨aa,ca,hva⟩:=aI hI.args.own;dsimp only at hva;subst hva;unfold eU at hSH2;have HH:=Hh hcs;have HIT:=Hh hIT2;have HSH:=Hh hSH2;have HR:=Hh hR;have HRAW:=Hh hraw;have HAL:=Hh hal;obtain⟨IS,hIS⟩:∃ s,dH X0=s:=⟨_,rfl⟩;obtain⟨SS,hSS⟩:∃ s,xR X0.ins=s:=⟨_,rfl⟩;rw[hIS] at HIT his2;rw[hSS] at HSH hss;have HIS:=Hh hIS;have HSS:=Hh hSS;have hcrI:(ra.length:Int)≤(cr:Int):=om
 clear hcs hIT2 hSH2 hR hX0 hraw hal hI hIS hSS;dsimp only;by_cases h1:ad<0
 · obtain rfl:⟨#[]⟩=R:=by rw[←HR.out,if_pos (.inl h1)]
   go_enter func43,ntmps43
   go_wp2_with fail
   go_ret;exact⟨rfl,br.alloc lr _⟩
 by_cases h2:65535<ad
 · obtain rfl:⟨#[]⟩=R:=by rw[←HR.out,if_pos (.inr h2)]
   go_enter func43,ntmps43
   go_wp2_with fail
   go_ret;exact⟨rfl,br.alloc lr _⟩
 obtain⟨a,rfl⟩:∃ a:Nat,ad=a:=⟨ad.toNat,om⟩
 have hr:=HR.out;rw[if_neg om,Xl] at hr;have HR2:=Hh hr;have hx4:∀ W,Calls prog 34 #[a,(4:Int)] W fun e w'=>e=.returned (hx 4 a)∧W=w':=fun W=>aEF a 4 W om dc;have hs4:(⟨(hx 4 a).toArray⟩:ByteArray).size≤4:=by show (hx 4 a).toArray.size≤4;rw[Qx,aCI];exact Qk _
 have HT0:=Hh (aNM a X0);have HX4:=Hh hx4;generalize (⟨(hx 4 a).toArray⟩:ByteArray)=H4 at hs4 HT0 HX4;obtain⟨W0,hW0⟩:∃ W,w.alloc (.cells #[ki,.slice ar ra.length cr,im,.slice aa ia.length ca,.bool ial] 55)=W:=⟨_,rfl⟩;have hb0:Below w w W0:=by rw[←hW0];exact br.alloc lr _
 have hx0:W0.heap[w.heap.size]? = some (.cells #[ki,.slice ar ra.length cr,im,.slice aa ia.length ca,.bool ial] 55 (0,0)):=by rw[←hW0];exact aF _ _
 have HB0:=Hh hb0;have HX0:=Hh hx0;have HW0:=Hh hW0;clear hr HR hx4 h1 hb0 hx0 hW0;go_enter func43,ntmps43
 go_wp2_with fail
 rw[HW0.out];refine (HX4.out _).mono ?_;rintro e w1 ⟨rfl,rfl⟩;obtain⟨⟨p0,p1,p2,p3,p4⟩,_⟩:=bJ HX0.out;have hl0:=aA HX0.out;go_wp2_with fail
 rw[HT0.out];clear HT0 hs4;go_loopw [5,6] (fun s i wr=>∃ j:Nat,j≤ra.length∧s=.string (rwT a X0 j)∧i=.int .i64 j∧wr=W0) (fun _ i _=>ra.length - (intOf i).toNat)
 case atStart=>exact⟨0,Qi _,rfl,rfl,rfl⟩
 case round =>
  obtain⟨j,hj,rfl,rfl,rfl⟩:=hrel;have hts:=aNN a X0 j;rw[←HRAW.out] at hts;by_cases hlt:j<ra.length
  · obtain⟨b,hb⟩:∃ b,ra[j]? = some b:=⟨_,Qb hlt⟩;obtain⟨g,o,rfl,hg,hcs⟩:=HH.out (by intro e;have h1:=fS ra;rw[e] at h1;simp at h1;omega);have k0:wr.cell? ⟨g,o+j,none⟩=some (.int .u8 b.toNat):=by
     have h1:=hcs j (by rw[fS];exact hlt);rw[oS hb] at h1;exact (HB0.out.cell (p:=⟨g,o+j,none⟩) hg).trans h1
    have hwb:wrap64 (b.toNat:Int)=(b.toNat:Int):=IntWalk.wrap64_in _ (by have:=b.toNat_lt;omega);have hx2:∀ W,Calls prog 34 #[b.toNat,(2:Int)] W fun e w'=>e=.returned (hx 2 b.toNat)∧W=w':=fun W=>aEF b.toNat 2 W (by have:=b.toNat_lt;omega) dc;have hs2:(⟨(hx 2 b.toNat).toArray⟩:ByteArray).size≤2:=by show (hx 2 b.toNat).toArray.size≤2;rw[Qx,aCI];exact Qk _
    have hbx:X0.raw[j]? = some b:=by rw[←HRAW.out];exact hb
    have hi0:(0:Int)≤(j:Int):=om
    have hi1:(j:Int)<(ra.length:Int):=om
    by_cases hz:j=0
    · subst hz;have hst:=aOn (a:=a) hbx;obtain⟨T,hT⟩:∃ s,rwT a X0 0=s:=⟨_,rfl⟩;obtain⟨H2,hH2⟩:∃ s,(⟨(hx 2 b.toNat).toArray⟩:ByteArray)=s:=⟨_,rfl⟩;rw[hT,hH2] at hst;rw[hT] at hts ⊢;rw[hH2] at hs2;have HST:=Hh hst;have hx2':∀ W,Calls prog 34 #[b.toNat,(2:Int)] W fun e w'=>e=.returned (.string H2)∧W=w':=by rw[←hH2];exact hx2
      have HX2:=Hh hx2';rw[Xu] at k0;clear hst hx2 hx2' hH2 hT hb hbx hcs;go_wp2_with fail
      refine (HX2.out _).mono ?_;rintro e w2 ⟨rfl,rfl⟩;go_wp2_with fail
      rw[HST.out];go_roundw
      case rel=>exact⟨1,om,rfl,by go_num,trivial⟩
      case measure=>simp[intOf];omega
    · have hst:=aNO (a:=a) hbx hz;obtain⟨T,hT⟩:∃ s,rwT a X0 j=s:=⟨_,rfl⟩;obtain⟨H2,hH2⟩:∃ s,(⟨(hx 2 b.toNat).toArray⟩:ByteArray)=s:=⟨_,rfl⟩;rw[hT,hH2] at hst;rw[hT] at hts ⊢;rw[hH2] at hs2;have HST:=Hh hst;have hx2':∀ W,Calls prog 34 #[b.toNat,(2:Int)] W fun e w'=>e=.returned (.string H2)∧W=w':=by rw[←hH2];exact hx2
      have HX2:=Hh hx2';have hjp:(0:Int)<(j:Int):=om
      clear hst hx2 hx2' hH2 hT hb hbx hcs hz;go_wp2_with fail
      refine (HX2.out _).mono ?_;rintro e w2 ⟨rfl,rfl⟩;go_wp2_with fail
      rw[HST.out];go_roundw
      case rel=>exact⟨j+1,om,rfl,by go_num,trivial⟩
      case measure=>simp[intOf];omega
  · obtain rfl:j=ra.length:=om
    have hu0:=aNK a X0;rw[←HRAW.out] at hu0;have HU0:=Hh hu0;clear hu0 hlt;go_wp2_with fail
    rw[HU0.out];go_loopw [5] (fun s W=>∃ n:Nat,n≤18 - (aKR a X0).length∧s=.string (rwU a X0 n)∧W=wr) (fun s _=>18 - aOM s)
    case atStart=>exact⟨0,Qi _,rfl,rfl⟩
    case round =>
     obtain⟨n,hn,rfl,rfl⟩:=hrel;have hus:=aMm a X0 n;have hnx:=aNL a X0 n;by_cases hl18:(aKR a X0).length+n<18
     · obtain⟨U,hU⟩:∃ s,rwU a X0 n=s:=⟨_,rfl⟩;rw[hU] at hus hnx ⊢;have HNX:=Hh hnx;have hui:(U.size:Int)<18:=om
       have HUS:=Hh hus;clear hnx hU hus;go_wp2_with fail
       rw[HNX.out];go_roundw
       case rel=>exact⟨n+1,om,rfl,trivial⟩
       case measure =>
        have h1:=HUS.out;have h2:=aMm a X0 (n+1);simp only[aOM];omega
     · obtain rfl:n=18 - (aKR a X0).length:=om
       have hpl:(aKR a X0).length≤3100:=by
        have h1:=aLe X0.raw;rw[←HRAW.out] at h1;unfold aKR;rw[Qc,Qc,Qc,aCI,←HRAW.out];show 4+2+_+2≤_
        omega
       have hfp:=fun h=>aNI (a:=a) (x:=X0) h;have hfa:=fun h=>aNJ (a:=a) (x:=X0) h;rw[HIS.out] at hfp hfa;rw[HSS.out] at hfa;obtain⟨U,hU⟩:∃ s,rwU a X0 (18 - (aKR a X0).length)=s:=⟨_,rfl⟩;rw[hU] at hus hfp hfa ⊢;have hui:¬ (U.size:Int)<18:=om
       have hul:U.size≤4000:=om
       have HFP:=Hh hfp;have HFA:=Hh hfa;clear hnx hU hus hfp hfa hpl hl18;cases ial
       · have hr:U++IS=R:=by rw[←HR2.out];exact HFP.out HAL.out.symm
         have HRR:=Hh hr;clear hr;go_wp2_with fail
         refine (HIT.out _ HB0.out).mono ?_;rintro e w3 ⟨rfl,hb3⟩;have HB3:=Hh (HB0.out.trans (hb3.mono HB0.out.size));have HX3:=Hh (aB HX0.out hb3 (aA HX0.out));clear hb3 p0 p1 p2 p3 p4 hl0;obtain⟨⟨p0,p1,p2,p3,p4⟩,_⟩:=bJ HX3.out;have hl0:=aA HX3.out;go_wp2_with fail
         go_ret;exact⟨by rw[←HRR.out];rfl,HB3.out⟩
       · have hr:U++IS++⟨#[32,32,59,32]⟩++SS=R:=by rw[←HR2.out];exact HFA.out HAL.out.symm
         have HRR:=Hh hr;clear hr;go_wp2_with fail
         refine (HIT.out _ HB0.out).mono ?_;rintro e w3 ⟨rfl,hb3⟩;have HB3:=Hh (HB0.out.trans (hb3.mono HB0.out.size));have HX3:=Hh (aB HX0.out hb3 (aA HX0.out));clear hb3 p0 p1 p2 p3 p4 hl0;obtain⟨⟨p0,p1,p2,p3,p4⟩,_⟩:=bJ HX3.out;have hl0:=aA HX3.out;go_wp2_with fail
         refine (HSH.out _ HB3.out).mono ?_;rintro e w4 ⟨rfl,hb4⟩;have HB4:=Hh (HB3.out.trans (hb4.mono HB3.out.size));clear hb4 p0 p1 p2 p3 p4 hl0;go_wp2_with fail
         go_ret;exact⟨by rw[←HRR.out];rfl,HB4.out⟩
def aOj (C:List Cl) (a:Int):List UInt8:=(aLi a (bX (aKz C a 4))).data.toList++[10]
def aLd (C:List Cl) (L:List Int):List UInt8:=L.flatMap (aOj C)
theorem aNb {C:List Cl} {L:List Int} {j:Nat} {a:Int} (h:L[j]? = some a):(⟨(aLd C (L.take j)).toArray⟩:ByteArray)++aLi a (bX (aKz C a 4))++⟨#[10]⟩=⟨(aLd C (L.take (j+1))).toArray⟩:=by
 apply aFA
 simp[aLd,aOj,Qo,h]
theorem aNS (a:Nat) (x:It) (hi:Am x) (hr:x.raw.length≤100):(aLR a x).length≤100000:=by
 have h1:=Cp x hi;have h2:=Bc x.ins hi.1 hi.2;have h3:=aLe x.raw;have h4:(dH x).data.toList.length=(dH x).size:=by rw[Xv];rfl
 have h5:(xR x.ins).data.toList.length=(xR x.ins).size:=by rw[Xv];rfl
 have hp:(aKR a x).length=8+(aKI x.raw).length:=by
  unfold aKR;rw[Qc,Qc,Qc,aCI];show 4+2+_+2=_
  omega
 unfold aLR;rw[Qc,Qc,Qc,List.length_replicate,hp,h4];split
 · rw[Qc,h5];show _+(4+_)≤_
   omega
 · rw[Qz];omega
theorem aKN (b:List UInt8):(bX b).raw.length≤b.length∧Am (bX b):=⟨by
 by_cases h:b=[]
 · subst h;exact Zw (by rfl)
 · exact (kC b h).2.1,Ik b⟩
theorem aLt (C:List Cl) (a:Int):(aLi a (bX (aKz C a 4))).size≤100000:=by
 have h1:=aKN (aKz C a 4);have h2:=aKF C 4 a;unfold aLi;split
 · exact Qi _
 · show (aLR _ _).toArray.size≤_
   rw[Qx];exact aNS _ _ h1.2 om
theorem aLD (C:List Cl):∀ L:List Int,(aLd C L).length≤L.length*100001
 | []=>by simp[aLd]
 | a::L=>by
   have h1:=aLt C a;have h2:=aLD C L;have h3:(aLi a (bX (aKz C a 4))).data.toList.length=(aLi a (bX (aKz C a 4))).size:=by rw[Xv];rfl
   unfold aLd at h2 ⊢;rw[Xz,Qc,aOj,Qc,h3];show _+1+_≤(L.length+1)*100001
   omega
theorem aMF (C:List Cl) (L:List Int) (v u:Value) (w:World) (hv:Row w v C.length (clc C)) (hC:Asc C) (hl:C.length≤60000) (hL:∀ a∈L,-100000≤a∧a≤100000) (hLl:L.length≤100000)
 (hre:Calls prog 41 #[v,u] w fun e w'=>∃ v',e=.returned v'∧Row w' v' L.length (aBQ L)∧Below w w w') (hu:∃ a n c,u=.slice a n c) :
 Calls prog 21 #[v,u] w fun e w'=>e=.returned (aLd C L)∧Below w w w':=by
 have HIT:=Hh (fun a X (hb:Below w w X) (ha:a∈L)=>aLI C v a X (hv.below hb) hC om (hL a ha).1 (hL a ha).2);have HRW:=Hh (fun a vr va B0 X (hI:ItAt B0 (bX (aKz C a 4)) vr va X)=>aNg a (bX (aKz C a 4)) vr va B0 X hI (Ik _) (by have h1:=aKN (aKz C a 4);have h2:=aKF C 4 a;omega))
 have HSZ:=Hh (fun j=>aLD C (L.take j));have HST:=Hh (fun j a (h:L[j]? = some a)=>aNb (C:=C) h);have HRS:=Hh (fun a=>aLt C a);obtain⟨av,cv,rfl,_,_⟩:=hv;obtain⟨au,nu,cu,rfl⟩:=hu;have HRE:=Hh hre;obtain⟨TT,hTT⟩:∃ TT:Nat→ByteArray,(fun j=>(⟨(aLd C (L.take j)).toArray⟩:ByteArray))=TT:=⟨_,rfl⟩;have hT0:(⟨#[]⟩:ByteArray)=TT 0:=by rw[←hTT];rfl
 have hTE:(⟨(aLd C L).toArray⟩:ByteArray)=TT L.length:=by rw[←hTT];simp
 have hTN:∀ j a,L[j]? = some a→TT j++aLi a (bX (aKz C a 4))++⟨#[10]⟩=TT (j+1):=fun j a h=>by rw[←hTT];exact HST.out j a h
 have hTS:∀ j,(TT j).size≤100000000000:=fun j=>by
  rw[←hTT];show (aLd C (L.take j)).toArray.size≤_
  rw[Qx]
  have:=HSZ.out j
  rw[Qt] at this
  have:min j L.length*100001≤100000*100001:=Ze _ om
  omega
 have HT0:=Hh hT0;have HTN:=Hh hTN;have HTS:=Hh hTS;rw[hTE];clear hre hL hC hl hTT hT0 hTE hTN hTS HST HSZ;go_enter func21,ntmps21
 go_wp2_with fail
 refine HRE.out.mono ?_;rintro e w1 ⟨v',rfl,hrow,hb1⟩;have HROW:=Hh hrow;obtain⟨a',c',rfl,hc',hh⟩:=hrow;have HH:=Hh hh;have HB1:=Hh hb1;have hcc:(L.length:Int)≤(c':Int):=om
 clear hh hb1 HRE;go_wp2_with fail
 rw[HT0.out];go_loopw [5,7] (fun s i wr=>∃ j:Nat,j≤L.length∧s=.string (TT j)∧i=.int .i64 j∧Hid (Below w1 w1 wr)) (fun _ i _=>L.length - (intOf i).toNat)
 case atStart=>exact⟨0,Qi _,rfl,rfl,Hh br⟩
 case round =>
  obtain⟨j,hj,rfl,rfl,HB⟩:=hrel;by_cases hlt:j<L.length
  · obtain⟨a,ha⟩:∃ a,L[j]? = some a:=⟨_,Qb hlt⟩;obtain⟨ax,cx,ex,hcx,hhx⟩:=HROW.out.below HB.out;cases ex
    obtain⟨g,o,rfl,hg,hcs⟩:=hhx (by intro e;have h1:=congrArg List.length e;rw[aBQ,Qs,Qz] at h1;omega);have k0:wr.cell? ⟨g,o+j,none⟩=some (.int .i64 a):=by
     have:=hcs j (by simp[aBQ];exact hlt)
     rw[this];simp[aBQ,ha]
    have hi0:(0:Int)≤(j:Int):=om
    have hi1:(j:Int)<(L.length:Int):=om
    have hit:=HIT.out a wr (HB1.out.trans (HB.out.mono HB1.out.size)) (Qu ha);have htn:=HTN.out j a ha;have hts:=HTS.out j;have hrs:=HRS.out a;obtain⟨S0,hS0⟩:∃ s,TT j=s:=⟨_,rfl⟩;obtain⟨R0,hR0⟩:∃ s,aLi a (bX (aKz C a 4))=s:=⟨_,rfl⟩;have hrw:=fun vr va B0 X hI=>HRW.out a vr va B0 X hI;rw[hS0,hR0] at htn;rw[hS0] at hts ⊢;rw[hR0] at hrs hrw;have HTNJ:=Hh htn;have HITX:=Hh hit;have HRWX:=Hh hrw;have HK0:=Hh k0;have HGL:=Hh hg;clear hhx hcs ha hit htn hrw hS0 hR0;go_wp2_with fail
    refine HITX.out.mono ?_;rintro e w2 ⟨vr,va,rfl,hia,hb2⟩;have hgw:=HGL.out;have k2:w2.cell? ⟨g,o+j,none⟩=some (.int .i64 a):=(hb2.cell (p:=⟨g,o+j,none⟩) hgw).trans HK0.out;have hg2:g<w2:=Qj hgw hb2.size;have HB2:=Hh (HB.out.trans (hb2.mono HB.out.size));have HIA:=Hh hia;obtain⟨x,hx⟩:∃ x,bX (aKz C a 4)=x:=⟨_,rfl⟩;rw[hx] at HRWX HIA ⊢;clear hb2 hia hx k0;obtain⟨ki,ra,⟨im,ia⟩,ial⟩:=x;obtain⟨ar,cr,rfl⟩:=aI HIA.out.raw;obtain⟨aa,ca,rfl⟩:=aI HIA.out.args.own;dsimp only[itV] at HIA HRWX ⊢;obtain⟨W1,hW1⟩:∃ W,w2.alloc (.cells #[ki,.slice ar ra.length cr,im,.slice aa ia.length ca,.bool ial] 55)=W:=⟨_,rfl⟩;have hb3:Below w2 w2 W1:=by rw[←hW1];exact br.alloc lr _
    have HB3:=Hh (HB2.out.trans (hb3.mono HB2.out.size));have HIA3:=Hh (HIA.out.below hb3);have k3:W1.cell? ⟨g,o+j,none⟩=some (.int .i64 a):=(hb3.cell (p:=⟨g,o+j,none⟩) hg2).trans k2;have hg3:g<W1:=Qj hg2 hb3.size;have hrw:=HRWX.out _ _ _ W1 HIA3.out;have HRWY:=Hh (fun X (hb:Below W1 W1 X)=>HRWX.out (.slice ar ra.length cr) (.slice aa ia.length ca) _ X (HIA3.out.below hb));have HW1:=Hh hW1;clear hW1 hb3 hrw k2 hg2;go_wp2_with fail
    rw[HW1.out];have hx3:W1.heap[w2.heap.size]? = some (.cells #[ki,.slice ar ra.length cr,im,.slice aa ia.length ca,.bool ial] 55 (0,0)):=by rw[←HW1.out];exact aF _ _
    obtain⟨⟨p0,p1,p2,p3,p4⟩,_⟩:=bJ hx3;have hl3:=aA hx3;clear hx3 HW1;refine bO kr kr ?_;repeat (go_big_quiet_step (first|exact eG (HRWY.out _ (bl))))
    refine wpQuiet_nil ?_;rintro W3 ⟨p5,hW3⟩;have hb5:Below W1 W1 W3:=by rw[hW3];exact bl
    have HB5:=Hh (HB3.out.trans (hb5.mono HB3.out.size));clear hW3 p5 hb5;go_wp2_with fail
    rw[HTNJ.out];go_roundw
    case rel=>exact⟨j+1,om,rfl,by go_num,HB5⟩
    case measure=>simp[intOf];omega
  · obtain rfl:j=L.length:=om
    go_wp2_with fail
    go_ret;exact⟨rfl,HB1.out.trans (HB.out.mono HB1.out.size)⟩
end
section
open Go.RowKit Go.Sort
open Go.ChangeMaps Go.Maps
open Go.Proofs.Tryz
def aMW (w:World) (b:Nat):Nat:=match w.heap[b]? with|some (.map es _)=>es.size|_=>0
def aOp (w:World) (g:Nat):Nat:=match w.heap[g]? with|some (.cells c _ _)=>(match c[0]? with|some (Value.slice _ n _)=>n|_=>0)|_=>0
theorem IMap.sz {w:World} {b:Nat} {l:List Int} (h:IMap w b l):aMW w b=l.length:=by
 obtain⟨es,c,hb,he,_⟩:=h;unfold aMW;rw[hb]
 have:=congrArg List.length he
 simpa[aBQ] using this
theorem QAt.len {base g:Nat} {l:List Int} {m:Value} {w:World} (h:QAt base g l m w):aOp w g=l.length:=by
 obtain⟨v,hb,ho⟩:=h;obtain⟨a,c,rfl⟩:=aI ho;unfold aOp;rw[hb];rfl
theorem QAt.below {base g:Nat} {l:List Int} {m:Value} {w w':World} (h:QAt base g l m w) (hb:Below w w w'):QAt base g l m w':=by
 obtain⟨v,h1,h2⟩:=h;exact⟨v,aB h1 hb (aA h1),bK h2 hb⟩
theorem QAt.kb {base g b:Nat} {l:List Int} {m:Value} {w w':World} (h:QAt base g l m w) (hk:Kb b w w') (hm:∃ es c,w.heap[b]? = some (.map es c)):QAt base g l m w':=by
 obtain⟨v,h1,h2⟩:=h;obtain⟨es,c,hb⟩:=hm;have hne:b≠g:=fun e=>by subst e;rw[hb] at h1;cases h1
 refine⟨v,(hk.block g (aA h1) (Ne.symm hne)).trans h1,Kb.owns h2 hk fun e=>?_⟩;rcases h2.2 with⟨h3,_⟩|⟨g',cap',cur',h3,_,h4,_⟩
 · rw[h3] at e;cases e
 · rw[h3] at e;simp only[Value.ownBlock,Option.some.injEq] at e;subst e;rw[hb] at h4;cases h4
theorem aOq (base g:Nat) (st:List Int) (m:Value) (w:World) (hg:base≤g) (hq:QAt base g st m w) (hl:st.length≤1000000) :
 Calls prog 104 #[.pointer g] w fun e w'=>∃ x ok st',e=.returned (.tuple #[.int .i64 x,.bool ok])∧QAt base g st' m w'∧st=(if ok=true then st'++[x] else st')∧(ok=false→st'=[])∧KQ base w w':=by
 rcases List.eq_nil_or_concat st with rfl|⟨st',x,rfl⟩
 · refine (aCn base g m w hq).mono ?_;rintro e w' ⟨rfl,rfl⟩;exact⟨0,false,[],rfl,hq,rfl,(fun _=>rfl),⟨Below.refl _ _,fun _ _ h _=>h⟩⟩
 · rw[List.concat_eq_append] at *;rw[Qc] at hl;refine (aCo base g st' x m w hg hq om).mono ?_;rintro e w' ⟨rfl,h1,h2⟩;exact⟨x,true,st',rfl,h1,rfl,(fun h=>Bool.noConfusion h),h2⟩
structure WkAt (C:List Cl) (S:List Int) (w:World) (st:List Int) (x:Int) (ok:Bool) (seen:List Int) (W:World):Prop where
 q:QAt w.heap.size (w.heap.size+1) st (.map (some w.heap.size)) W
 mp:IMap W w.heap.size seen
 d:Dfs C S (if ok=true then st++[x] else st) seen
 nil:ok=false→st=[]
 below:Below w.heap.size w W
theorem WkAt.kq {C:List Cl} {S seen st st':List Int} {x:Int} {ok:Bool} {w W W':World} (h1:QAt w (w.heap.size+1) st' (.map (some w.heap.size)) W') (h2:st=(if ok=true then st'++[x] else st')) (h3:ok=false→st'=[]) (h4:KQ w W W') (hm:IMap W w seen) (hd:Dfs C S st seen) (hb:Below w w W):WkAt C S w st' x ok seen W' :=
 ⟨h1,hm.maps h4.maps,by rw[←h2];exact hd,h3,hb.trans h4.below⟩
theorem WkAt.meas {C:List Cl} {S seen st:List Int} {x:Int} {ok:Bool} {w W:World} (h:WkAt C S w st x ok seen W):3*(C.length - aMW W w)+aOp W (w.heap.size+1)+(match Value.bool ok with | .bool true=>1|_=>0)=3*(C.length - seen.length)+(if ok=true then st++[x] else st).length:=by
 rw[h.mp.sz,h.q.len];cases ok
 · simp
 · simp;omega
theorem aOz {C:List Cl} {S pend seen:List Int} (h:Dfs C S pend seen) (hS:S.length≤1000) (hC:C.length≤60000):pend.length≤121000∧seen.length≤C.length:=by
 have h1:=aLq h.nodup h.hit;have h2:=h.len;omega
theorem aNt {p:Prop} (h:p:=by
 have h1:=HN9.out.meas;have h2:=HW.out.meas;rw[←H29.out] at h1;rw[if_pos rfl,Qc,Xw] at h2;omega):p:=h
theorem aNa (b:Nat) (C:List Cl) (S:List Int) (u:Value) (w:World) (hIm:ImgAt b C w) (hT:∀ W,Below w w W→TabsA W) (hu:eR w u S.length (aBQ S)) (hS:∀ a∈S,-100000≤a∧a≤100000) (hSl:S.length≤1000) (hCl:C.length≤60000) :
 Calls prog 66 #[.pointer b,u] w fun e w'=>∃ m seen,e=.returned (.map (some m))∧w.heap.size≤m∧IMap w' m seen∧seen.Nodup∧(∀ y,y∈seen↔Hit C S y)∧Below w w w':=by
 have hmk:∀ w:World,(Instr.makeMap 123 none).run prog w=.ok (.map (some w.heap.size)) (w.alloc (.map #[] 0)):=fun w=>by simp[Instr.makeMap]
 have HLK:=Hh (fun W l (h:IMap W w l) n=>aNQ (P:=prog) underlying123 underlying3 Tryz.zeroValue55 ⟨_,_,_,_,_,_,_,_,_,rfl⟩ h n);have HIT:=Hh (fun a W (hb:Below w w W) (h1:-100000≤a) (h2:a≤100000)=>aLX b C a W (hIm.below hb hIm.raw.lt) (fun W' hb'=>hT W' (hb.trans (hb'.mono hb.size))) h1 h2);have HNX:=Hh (fun a vr va B0 W (hb:Below w w W) (hI:ItAt B0 (bX (aKz C a 4)) vr va W)=>aNi a (bX (aKz C a 4)) vr va B0 W (hT W hb) hI (Qn (Ik _).2 dc) (by have h1:=aKN (aKz C a 4);have h2:=aKF C 4 a;omega))
 have HLEN:=Hh (fun pend seen (h:Dfs C S pend seen)=>aOz h hSl hCl);have HCI:=Hh (fun a h=>aMZ (C:=C) (a:=a) hS h);have HU:=Hh hu;have HS:=Hh hSl;have hus:∃ a n c,u=.slice a n c:=by
  rcases hu with⟨_,h⟩|⟨ad,c,h,_⟩
  · exact⟨_,_,_,h⟩
  · exact⟨_,_,_,h⟩
 obtain⟨au,nu,cu,rfl⟩:=hus;clear hu hT hIm hS hSl hCl;go_enter func66,ntmps66
 go_wp2_with fail
 obtain⟨W1,hW1⟩:∃ W,(w.alloc (.map #[] 0)).alloc (.cells #[zz,.map (some w.heap.size)] 168)=W:=⟨_,rfl⟩;have hb1:Below w w W1:=by rw[←hW1];exact bl
 have hm1:W1.heap[w.heap.size]? = some (.map #[] 0):=by rw[←hW1];exact aE (aF _ _)
 have hq1:W1.heap[w.heap.size+1]? = some (.cells #[zz,.map (some w.heap.size)] 168 (0,0)):=by
  rw[←hW1]
  have:=aF (w.alloc (.map #[] 0)) (.cells #[zz,.map (some w.heap.size)] 168)
  rwa [Qa] at this
 rw[hW1];clear hW1;have hsrc:eR W1 (.slice au nu cu) S.length (aBQ S):=aHz HU.out hb1;have hqa:QAt w (w.heap.size+1) [] (.map (some w.heap.size)) W1:=⟨_,hq1,Xa _ _ _ _⟩;refine (aCi w (w.heap.size+1) [] S _ _ W1 om hqa hsrc (by have:=HS.out;simp;omega)).mono ?_;rintro e w2 ⟨rfl,hq2,hk2⟩;rw[Ye] at hq2;have HM2:=Hh ((IMap.new hm1).maps hk2.maps);have HB2:=Hh (hb1.trans hk2.below);clear hb1 hm1 hq1 hsrc hk2 hqa;go_wp2_with fail
 refine (aOq w (w.heap.size+1) S _ w2 om hq2 (by have:=HS.out;omega)).mono ?_;rintro e w3 ⟨x0,ok0,st0,rfl,h1,h2,h3,h4⟩;have H3:=Hh (WkAt.kq h1 h2 h3 h4 HM2.out (Dfs.zero C S) HB2.out);clear hq2 h1 h2 h3 h4;go_wp2_with fail
 go_loopw [6,7] (fun a k wr=>∃ (x:Int) (ok:Bool) (st seen:List Int),a=.int .i64 x∧k=.bool ok∧Hid (WkAt C S w st x ok seen wr)) (fun _ k wr=>3*(C.length - aMW wr w)+aOp wr (w.heap.size+1)+(match k with | .bool true=>1|_=>0))
 case atStart=>exact⟨x0,ok0,st0,[],rfl,rfl,H3⟩
 case round =>
  obtain⟨x,ok,st,seen,rfl,rfl,HW⟩:=hrel;obtain⟨vq,hqb,hqo⟩:=HW.out.q;obtain⟨q0,q1,f0,f1⟩:=aL hqb;have hlq:=aA hqb;cases ok
  · have hd:=HW.out.d;rw[if_neg dc,HW.out.nil rfl] at hd;have HD:=Hh hd;clear hd hqb hqo;go_wp2_with fail
    go_ret;exact⟨_,seen,rfl,Qk _,HW.out.mp,HD.out.nodup,HD.out.end,HW.out.below⟩
  · have hd:=HW.out.d;rw[if_pos rfl] at hd;have hci:=HCI.out x (hd.cand x (List.mem_append_right _ Qq));have hln:=HLEN.out _ _ hd;rw[Qc,Xw] at hln;have HD:=Hh hd;have HCX:=Hh hci;have HLN:=Hh hln;have hms:=HW.out.mp.sz;have hql:=HW.out.q.len;have HMS:=Hh hms;have HQL:=Hh hql;obtain⟨v,⟨ki,ar,nr,cr,im,aa,na,ca,al,rfl⟩,hlk⟩:=HLK.out wr seen HW.out.mp x;clear hd hci hln hqb hqo hms hql;obtain⟨W5,hW5⟩:∃ W,wr.alloc (.cells #[ki,.slice ar nr cr,.string im,.slice aa na ca,.bool al] 55)=W:=⟨_,rfl⟩;have hb5:Below wr wr W5:=by rw[←hW5];exact br.alloc lr _
    have HB5:=Hh hb5;have HW5:=Hh hW5;clear hW5 hb5;by_cases hsn:x∈seen
    · rw[Qh hsn] at hlk;have HN:=Hh (HD.out.skip (.inr hsn));clear hsn;go_wp2_with fail
      rw[HW5.out];have hpop:=aOq w (w.heap.size+1) (st) _ W5 om (HW.out.q.below HB5.out) (by have:=HLN.out;omega);refine hpop.mono ?_;rintro e w9 ⟨x9,ok9,st9,rfl,h1,h2,h3,h4⟩;have HN9:=Hh (WkAt.kq h1 h2 h3 h4 (HW.out.mp.below HB5.out) HN.out (HW.out.below.trans (HB5.out.mono HW.out.below.size)));have H29:=Hh h2;clear h1 h2 h3 h4 hpop;go_wp2_with fail
      go_roundw
      case rel=>exact⟨x9,ok9,st9,seen,rfl,rfl,HN9⟩
      case measure =>
       exact aNt
    · rw[Qg hsn] at hlk;have HSN:=Hh hsn;clear hsn;go_wp2_with fail
      rw[HW5.out];clear q0 q1 f0 f1 hlq hlk;have HBX5:=Hh (HW.out.below.trans (HB5.out.mono HW.out.below.size));have HQ5:=Hh (HW.out.q.below HB5.out);have HM5:=Hh (HW.out.mp.below HB5.out);refine (HIT.out x W5 HBX5.out HCX.out.1 HCX.out.2).mono ?_;rintro e w6 ⟨vr,va,rfl,hia,hb6⟩;have HBX6:=Hh (HBX5.out.trans (hb6.mono HBX5.out.size));have HQ6:=Hh (HQ5.out.below hb6);have HM6:=Hh (HM5.out.below hb6);have HNX6:=Hh (fun B0 W hb hI=>HNX.out x vr va B0 W hb hI);have hne:aLG x (bX (aKz C x 4))=aKQ C x:=aOt _ _;rw[hne] at HNX6;obtain⟨it,hit⟩:∃ it,bX (aKz C x 4)=it:=⟨_,rfl⟩;rw[hit] at HNX6 hia ⊢;have HIA:=Hh hia;obtain⟨IC,hic⟩:∃ c,(!(aKz C x 4).isEmpty)=c:=⟨_,rfl⟩;rw[hic];have HIC:=Hh (show isC C x=IC from hic);obtain⟨ki',ra,⟨im',ia⟩,al'⟩:=it;obtain⟨ar',cr',rfl⟩:=aI hia.raw;obtain⟨aa',ca',rfl⟩:=aI hia.args.own;clear hb6 hit hic hia hne HQ5 HM5;dsimp only[itV] at HNX6 HIA ⊢;obtain⟨W7,hW7⟩:∃ W,w6.alloc (.cells #[ki',.slice ar' ra.length cr',im',.slice aa' ia.length ca',.bool al'] 55)=W:=⟨_,rfl⟩;have hb7:Below w6 w6 W7:=by rw[←hW7];exact br.alloc lr _
      have hx7:W7.heap[w6.heap.size]? = some (.cells #[ki',.slice ar' ra.length cr',im',.slice aa' ia.length ca',.bool al'] 55 (0,0)):=by rw[←hW7];exact aF _ _
      have HW7:=Hh hW7;have HX7:=Hh hx7;have HBX7:=Hh (HBX6.out.trans (hb7.mono HBX6.out.size));have HQ7:=Hh (HQ6.out.below hb7);have HM7:=Hh (HM6.out.below hb7);have HIA7:=Hh (HIA.out.below hb7);clear hW7 hx7 hb7;cases IC
      · have HN:=Hh (HD.out.skip (.inl HIC.out));go_wp2_with fail
        rw[HW7.out];have hpop:=aOq w (w.heap.size+1) (st) _ W7 om HQ7.out (by have:=HLN.out;omega);refine hpop.mono ?_;rintro e w9 ⟨x9,ok9,st9,rfl,h1,h2,h3,h4⟩;have HN9:=Hh (WkAt.kq h1 h2 h3 h4 HM7.out HN.out HBX7.out);have H29:=Hh h2;clear h1 h2 h3 h4 hpop;go_wp2_with fail
        go_roundw
        case rel=>exact⟨x9,ok9,st9,seen,rfl,rfl,HN9⟩
        case measure =>
         exact aNt
      · have HN:=Hh (HD.out.add HIC.out HSN.out);go_wp2_with fail
        rw[HW7.out];obtain⟨vq7,hqb,hqo⟩:=HQ7.out;obtain⟨q0,q1,f0,f1⟩:=aL hqb;have hlq:=aA hqb;obtain⟨⟨p0,p1,p2,p3,p4⟩,_⟩:=bJ HX7.out;have hlx:=aA HX7.out;clear hqb hqo;go_still_tail 6,kr
        go_wp2_with (at_mapUpdate;refine aMf rfl _ _ _ 123 rfl 3 55 underlying123 underlying3 w seen x _ rfl rfl rfl ⟨_,_,_,_,_,_,_,_,_,rfl⟩ (show IMap W7.drew w seen from HM7.out) HSN.out ?_)
        intro w8 hm8 hk8 hs8;have hdr7:Below W7 W7 W7.drew:=Below.drew br;have hmx:∃ es c,W7.drew.heap[w.heap.size]? = some (.map es c):=by obtain⟨es,c,h,_⟩:=HM7.out;exact⟨es,c,h⟩
        have HQ8:=Hh ((HQ7.out.below hdr7).kb hk8 hmx);have hne:w6.heap.size≠w.heap.size:=fun e=>by obtain⟨es,c,h⟩:=hmx;have h1:=HX7.out;rw[e] at h1;have h2:=h.symm.trans h1;cases h2
        have HX8:=Hh ((hk8.block _ hlx hne).trans HX7.out);have HBX8:=Hh (bS (HBX7.out.trans (hdr7.mono HBX7.out.size)) HBX7.out.size hk8 lr);have HM8:=Hh hm8;have hml:w.heap.size<W5.heap.size:=HBX5.out.size |> fun h=>Qj (HW.out.mp.lt) HB5.out.size;have hia8:ItAt W5 ⟨ki',ra,(im',ia),al'⟩ (.slice ar' ra.length cr') (.slice aa' ia.length ca') w8:=⟨Kb.owns (HIA7.out.below hdr7).raw hk8 (fun e=>by have:=((HIA7.out.below hdr7).raw.lt _ e).1;omega),dV (HIA7.out.below hdr7).args hk8 hml,fun _=>.inr trivial⟩
        have HNX8:=Hh (fun W (hb:Below w8 w8 W)=>HNX6.out _ W (HBX8.out.trans (hb.mono HBX8.out.size)) (hia8.below hb));clear q0 q1 f0 f1 hlq p0 p1 p2 p3 p4 hlx hdr7 hmx hne hk8 hm8 hs8;clear hia8 hml;go_wp2_with fail
        have hdr:Below w8 w8 w8.drew:=Below.drew br;have hl8:=aA HX8.out;have hs8:=HBX8.out.size;have K8:=(bJ (aB HX8.out hdr hl8)).1;go_region_held3 (fun X=>X.cell? w6=some (.int .i64 ki')∧X.cell? ⟨w6,1,none⟩=some (.slice ar' ra.length cr')∧X.cell? ⟨w6,2,none⟩=some (.string ⟨im'.toArray⟩)∧X.cell? ⟨w6,3,none⟩=some (.slice aa' ia.length ca')∧X.cell? ⟨w6,4,none⟩=some (.bool al')) (first|exact K8|exact K9|exact K10) (first|((with_reducible refine (HNX8.out _ hdr).mono ?_);rintro e w9 ⟨v9,rfl,ho9,hb9⟩;have hb89:=hdr.trans hb9;have hx9:=aB HX8.out hb89 hl8;have K9:=(bJ hx9).1;obtain⟨a9,c9,rfl⟩:=aI ho9)|((with_reducible refine (aCi w (w.heap.size+1) st (aKQ C x) _ _ w9 om (HQ8.out.below hb89) (qV ho9) (by have:=HLN.out;have:=aKS x (bX (aKz C x 4));unfold aKQ;omega)).mono ?_);rintro e w11 ⟨rfl,hq11,hk11⟩;have K10:=(bJ (hk11.keep _ _ hx9 rfl)).1))
        have HQ9:=Hh hq11;have HM9:=Hh ((HM8.out.below hb89).maps hk11.maps);have HBX9:=Hh ((HBX8.out.trans (hb89.mono HBX8.out.size)).trans hk11.below);clear K8 K9 K10 hq11 hk11 hb89 hx9 ho9 hb9 hdr hl8 hs8;go_wp2_with fail
        have hpop:=aOq w (w.heap.size+1) (st++aKQ C x) _ w11 om HQ9.out (by have:=HLN.out;have:=aKS x (bX (aKz C x 4));rw[Qc];unfold aKQ;omega)
        refine hpop.mono ?_;rintro e w10 ⟨x9,ok9,st9,rfl,h1,h2,h3,h4⟩;have HN9:=Hh (WkAt.kq h1 h2 h3 h4 HM9.out HN.out HBX9.out);have H29:=Hh h2;clear h1 h2 h3 h4 hpop;go_wp2_with fail
        go_roundw
        case rel=>exact⟨x9,ok9,st9,seen++[x],rfl,rfl,HN9⟩
        case measure =>
         have h1:=HN9.out.meas;have h2:=HW.out.meas;rw[←H29.out,Qc,Qc,Xw] at h1;rw[if_pos rfl,Qc,Xw] at h2;have h3:=aKS x (bX (aKz C x 4));have h4:=aLq HN.out.nodup HN.out.hit;rw[Qc,Xw] at h4;unfold aKQ at h1;omega
theorem aMG (b:Nat) (C:List Cl) (S L:List Int) (u:Value) (w:World) (hIm:ImgAt b C w) (hT:∀ W,Below w w W→TabsA W) (hu:eR w u S.length (aBQ S)) (hS:∀ a∈S,-100000≤a∧a≤100000) (hSl:S.length≤1000) (hCl:C.length≤60000) (hL:HitL C S L) :
 Calls prog 36 #[.pointer b,u] w fun e w'=>∃ v,e=.returned v∧w'.ownsRow w 3 1 v L.length (aBQ L)∧Below w w w':=by
 have HW:=Hh (aNa b C S u w hIm hT hu hS hSl hCl);have hasc:=hIm.asc;have HL:=Hh hL;have HC:=Hh hCl;have HA:=Hh hasc;have hus:∃ a n c,u=.slice a n c:=by
  rcases hu with⟨_,h⟩|⟨ad,c,h,_⟩
  · exact⟨_,_,_,h⟩
  · exact⟨_,_,_,h⟩
 obtain⟨au,nu,cu,rfl⟩:=hus;clear hu hT hIm hS hSl hCl hL hasc;go_enter func36,ntmps36
 go_wp2_with fail
 refine HW.out.mono ?_;rintro e w1 ⟨m,seen,rfl,hml,hm,hn,hh,hb1⟩;have HB1:=Hh hb1;have hsl:seen.length≤60000:=Qn (aLq hn fun a ha=>(hh a).1 ha) HC.out;obtain⟨D,hown,hsz,hperm⟩:=hm.own (P:=prog) underlying3 (by unfold maxLen;omega) (fun x hx=>by
  have:=aMJ HA.out ((hh x).1 hx).is
  have h1:=this.1;have h2:=this.2;show (decide _ && decide _)=true
  rw[Qe,Qf,Qf];constructor
  · show (-9223372036854775808:Int)≤x
    omega
  · show x≤(9223372036854775807:Int)
    omega)
 have HS:=Hh (aBV m _ _ w1 hown (by rw[hsz];omega));have HP:=Hh hperm;have HN:=Hh hn;have HH:=Hh hh;clear hm hb1 hown hsz hperm hn hh hml;go_wp2_with fail
 refine (aCf _ _).mono ?_;rintro e w2 ⟨rfl,rfl⟩;go_wp2_with fail
 refine HS.out.mono ?_;rintro e w3 ⟨v,ss,rfl,hp,hrow,_,hb3⟩;have hpp:=hp.trans HP.out;have hsl2:ss.mergeSort (fun x y=>decide (x≤y))=L:=HitL.uniq (C:=C) (S:=S) ⟨aNH hpp HN.out,fun y=>by rw[List.mem_mergeSort,hpp.mem_iff];exact HH.out y⟩ HL.out
 have hlen:ss.length=L.length:=by rw[←hsl2,List.length_mergeSort]
 rw[hsl2,hlen] at hrow;have HR:=Hh (bR hrow HB1.out.size);obtain⟨av,cv,rfl⟩:=aI hrow;have HB3:=Hh (HB1.out.trans (hb3.mono HB1.out.size));clear hp hrow hb3 hpp hsl2 hlen;go_wp2_with fail
 go_ret;exact⟨_,rfl,HR.out,HB3.out⟩
end
section
open Go.RowKit Go.Sort
open Go.Proofs.Tryz
def aLp (l:List UInt8):List ByteArray:=l.map fun b=>⟨(hx 2 b.toNat).toArray⟩
theorem aLV (l:List UInt8):Lib.join ((aLp l).map (·.data.toList)) [32]=aKI l:=by
 cases l with
 | nil=>rfl
 | cons b t =>
   simp only[aLp,Xt,Zk];rw[Lib.join_cons];simp only[aKI,Lib.joinTail,Zk,List.flatMap_def];congr 1
theorem aNk (l:List ByteArray) (v:Value) (sep:UInt8) (w:World) (hr:Row w v l.length (fH l)) (hl:l.length≤1000000) (hj:(Lib.join (l.map (·.data.toList)) [sep]).length≤100000000000000) :
 Calls prog 109 #[v,.string ⟨#[sep]⟩] w fun e w'=>e=.returned (Lib.join (l.map (·.data.toList)) [sep])∧Below w w w':=by
 obtain⟨a,k,rfl,hk,hc⟩:=hr;by_cases hnil:l=[]
 · subst hnil;exact (Tryz.strings_Join_none a k ⟨#[sep]⟩ w).mono fun e w' ⟨he,hw⟩=>⟨he,hw ▸ Below.refl _ _⟩
 · obtain⟨g,o,rfl,hg,hcs⟩:=hc (by intro e;have h2:=jN l;rw[e] at h2;exact hnil (Xc h2.symm))
   exact Tryz.strings_Join g o k l ⟨#[sep]⟩ w (fun j x hx=>by
    have hjl:=(Qd.1 hx).1;rw[hcs j (by rw[jN];exact hjl)];simp[fH,hx]) hg om om (by show (Lib.join (l.map (·.data.toList)) [sep]).length≤_;omega)
theorem aOl (W:World) (s:ByteArray):eR (W.alloc (.cells #[.string s] 9)) (.slice W 1 1) 1 (fH [s]):=.inr ⟨⟨W,0,none⟩,1,rfl,fun j u hu=>by
 rw[bD,Xb,aC (aF _ _)];match j,hu with
 | 0,hu=>simpa[fH] using hu⟩
theorem aNd (l:List ByteArray):∀ u∈fH l,u.oneCell'=true:=fun u hu=>by
 simp only[fH,Yo] at hu;obtain⟨b,_,rfl⟩:=hu;rfl
theorem aNW (ad:Int) (x:It) (vr va:Value) (B0:Nat) (w:World) (hI:ItAt B0 x vr va w) (hrl:x.raw.length≤1000) :
 Calls prog 72 #[ad,itV x vr va] w fun e w'=>e=.returned (aKI x.raw)∧Below w w w':=by
 obtain⟨i0,hji,hz0,hz1,hz2⟩:=info_parts Tryz.infoString;obtain⟨ki,ra,⟨im,ia⟩,ial⟩:=x;obtain⟨ar,cr,hvr,hcr,hcs⟩:=Row.of_owns hI.raw;obtain⟨aa,ca,hva⟩:=aI hI.args.own;dsimp only at hrl hvr hva hcr hcs;subst hvr hva;have hjl:=aLe ra;have HH:=Hh hcs;have HJL:=Hh hjl;have hcrI:(ra.length:Int)≤(cr:Int):=om
 dsimp only[itV];obtain⟨W0,hW0⟩:∃ W,w.alloc (.cells #[ki,.slice ar ra.length cr,im,.slice aa ia.length ca,.bool ial] 55)=W:=⟨_,rfl⟩;have hb0:Below w w W0:=by rw[←hW0];exact br.alloc lr _
 have HB0:=Hh hb0;have HW0:=Hh hW0;clear hcs hjl hI hb0 hW0;go_enter func72,ntmps72
 go_wp2_with fail
 rw[HW0.out];clear HW0;go_loopw [5,11] (fun t i wr=>∃ (j:Nat) (ao:Option Addr) (co:Nat),j≤ra.length∧i=.int .i64 j∧t=.slice ao (aLp (ra.take j)).length co∧Hid (wr.ownsRow w 9 1 (.slice ao (aLp (ra.take j)).length co) (aLp (ra.take j)).length (fH (aLp (ra.take j))))∧Hid (Below w w wr)) (fun _ i _=>ra.length - (intOf i).toNat)
 case atStart=>exact⟨0,none,0,Qi _,rfl,rfl,Hh (Xa _ _ _ _),HB0⟩
 case round =>
  obtain⟨j,ao,co,hj,rfl,rfl,HO,HB⟩:=hrel;have hxl:(aLp (ra.take j)).length=j:=by simp[aLp];omega
  by_cases hlt:j<ra.length
  · obtain⟨b,hb⟩:∃ b,ra[j]? = some b:=⟨_,Qb hlt⟩;obtain⟨g,o,rfl,hg,hcs⟩:=HH.out (by intro e;have h1:=fS ra;rw[e] at h1;simp at h1;omega);have k0:wr.cell? ⟨g,o+j,none⟩=some (.int .u8 b.toNat):=by
     have h1:=hcs j (by rw[fS];exact hlt);rw[oS hb] at h1;exact (HB.out.cell (p:=⟨g,o+j,none⟩) hg).trans h1
    have hstep:aLp (ra.take (j+1))=aLp (ra.take j)++[⟨(hx 2 b.toNat).toArray⟩]:=by rw[Qo,hb];simp[aLp]
    have hwb:wrap64 (b.toNat:Int)=(b.toNat:Int):=IntWalk.wrap64_in _ (by have:=b.toNat_lt;omega);have HX2:=Hh (fun W=>(show Calls prog 63 #[b.toNat,(2:Int)] W _ from aDk b.toNat 2 W (by have:=b.toNat_lt;omega) (.inl rfl)))
    have hi0:(0:Int)≤(j:Int):=om
    have hi1:(j:Int)<(ra.length:Int):=om
    obtain⟨XS,hXS⟩:∃ s,aLp (ra.take j)=s:=⟨_,rfl⟩;rw[hXS] at hxl HO hstep ⊢;obtain⟨H2,hH2⟩:∃ s,(⟨(hx 2 b.toNat).toArray⟩:ByteArray)=s:=⟨_,rfl⟩;have hx2:=HX2.out;rw[hH2] at hstep hx2;have HST:=Hh hstep;have HXX:=Hh hx2;have hxb:XS.length≤1000:=om
    clear hstep hx2 hH2 hXS hb hcs hxl HX2;go_wp2_with fail
    refine (HXX.out _).mono ?_;rintro e w1 ⟨rfl,hb1⟩;have HB1:=Hh (HB.out.trans (hb1.mono HB.out.size));have HO1:=Hh (bK HO.out hb1);have hbs:=HB1.out.size;clear hb1 k0;go_wp2_with (at_builtin;refine fK rfl _ _ 177 rfl w 9 i0 (.string ⟨#[]⟩) 1 16 underlying177 hji hz0 hz1 hz2 rfl dc _ _ _ rfl (bK HO1.out ((Below.refl w1 w1).alloc lr _)) _ _ _ rfl (aOl _ _) rfl (aNd _) (by unfold maxLen;omega) om (by rw[Qa];omega) ?_)
    intro v' w2 ho2 hg2 _;obtain⟨a2,c2,rfl⟩:=aI ho2;have hb2:=(HB1.out.alloc (o:=.cells #[.string H2] 9) hbs).grown hg2 (by rw[Qa];omega) (fun q hq=>(HO1.out.lt q hq).1);rw[←qA] at ho2;have HO2:=Hh ho2;have HB2:=Hh hb2;clear ho2 hg2 hb2;go_wp2_with fail
    go_roundw
    case rel=>exact⟨j+1,a2,c2,om,by go_num,by rw[HST.out,Qc];rfl,Hh (by rw[HST.out,Qc];exact HO2.out),HB2⟩
    case measure=>simp[intOf];omega
  · obtain rfl:j=ra.length:=om
    rw[Qy] at HO hxl ⊢;have hjn:=aNk (aLp ra) (.slice ao (aLp ra).length co) 32 wr (Row.of_owns HO.out) om (by rw[aLV];have:=HJL.out;omega);rw[aLV] at hjn;have HJN:=Hh hjn;clear hjn hxl;go_wp2_with fail
    refine HJN.out.mono ?_;rintro e w1 ⟨rfl,hb1⟩;have HB1:=Hh (HB.out.trans (hb1.mono HB.out.size));clear hb1;go_wp2_with fail
    go_ret;exact⟨rfl,HB1.out⟩
end
end Go.Proofs.YtoigglljnklhlaaGreatDoor
