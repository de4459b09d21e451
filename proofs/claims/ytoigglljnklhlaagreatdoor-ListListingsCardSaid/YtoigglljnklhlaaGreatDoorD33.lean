/- Joined. -/
import Derived.Test.YtoigglljnklhlaaGreatDoorD32
set_option maxHeartbeats 8000000
set_option maxRecDepth 100000
namespace Go.Proofs.YtoigglljnklhlaaGreatDoor
open Go.RowKit Go.Sort
open Go.Proofs.Tryz
def aCR (d:Nat):UInt8:=if d<10 then UInt8.ofNat (48+d) else UInt8.ofNat (55+d)
def hx:Nat→Nat→List UInt8
 | 0,_=>[]
 | i+1,n=>aCR (n/16 ^ i%16)::hx i n
theorem aCI:∀ i n,(hx i n).length=i
 | 0,_=>rfl
 | i+1,n=>by simp[hx,aCI i n]
theorem aED:∀ (i n:Nat),hx (i+1) n=hx i (n/16)++[aCR (n%16)]
 | 0,n=>by simp[hx]
 | i+1,n=>by
   rw[hx,aED i n,hx,Nat.div_div_eq_div_mul,Nat.pow_succ,Nat.mul_comm (16 ^ i) 16];rfl
theorem aEC:∀ i,hx i 0=List.replicate i 48
 | 0=>rfl
 | i+1=>by rw[hx,aEC i,Nat.zero_div];rfl
theorem aCY:∀ d:Fin 16,up (jL d.val)=aCR d.val:=dc
theorem aFn:∀ d:Fin 16,d.val≠0→(aCR d.val≠48∧((aCR d.val).toNat≤57∨65≤(aCR d.val).toNat)):=dc
theorem aEE:∀ (f n:Nat),1≤n→n<16 ^ f→hx f n=List.replicate (f - (bL f n).length) 48++(bL f n).map up∧∃ c t,(bL f n).map up=c::t∧(c≠48∧(c.toNat≤57∨65≤c.toNat))
 | 0,n,h1,h2=>by simp at h2;omega
 | f+1,n,h1,h2=>by
   rw[aED];by_cases h:n<16
   · rw[tV f n h,Nat.div_eq_of_lt h,aEC,Nat.mod_eq_of_lt h];refine⟨by simp[aCY ⟨n,h⟩],up (jL n),[],rfl,?_⟩
     rw[aCY ⟨n,h⟩];exact aFn ⟨n,h⟩ (by show n≠0;omega)
   · obtain⟨h3,c,t,h4,h5⟩:=aEE f (n/16) om (by rw[Nat.pow_succ] at h2;omega);have hy:n%16<16:=om
     rw[zG f n om,h3];refine⟨?_,c,t++[up (jL (n%16))],by rw[List.map_append,h4];rfl,h5⟩
     have hu:=aCY ⟨n%16,hy⟩;simp only at hu;rw[List.map_append,List.length_append,List.map_cons,List.map_nil,hu,List.append_assoc];simp
def aGo:Value→Nat | .string b=>b.size|_=>0
theorem aEu:∀ d:Fin 16,(({ data:=#[48,49,50,51,52,53,54,55,56,57,65,66,67,68,69,70] }:ByteArray).extract d.val (d.val+1))=⟨#[aCR d.val]⟩:=dc
theorem aDL (u:Nat) (h:u<9223372036854775808):bits BinOp.and IntKind.i64 (u:Int) 15=((u%16:Nat):Int):=by
 have h1:=bits_mask IntKind.i64 63 dc (fun n h0 h1=>IntWalk.i64_in n om) 4 dc u om om;simpa using h1
theorem aEF (n k:Nat) (w:World) (hn:n<1000000) (hk:k≤8) :
 Calls prog 34 #[.int .i64 n,.int .i64 k] w fun e w'=>e=.returned (.string ⟨(hx k n).toArray⟩)∧w=w':=by
 go_enter func34,ntmps34
 go_wp2
 go_loop [0,5,6,7] (fun x s i _=>∃ j:Nat,j≤k∧x=.int .i64 (n/16 ^ j:Nat)∧s=.string ⟨(hx j n).toArray⟩∧i=.int .i64 j) (fun _ _ i _=>k - (intOf i).toNat)
 case atStart=>exact⟨0,Nat.zero_le _,by simp,rfl,rfl⟩
 case round =>
  obtain⟨j,hj,rfl,rfl,rfl⟩:=hrel;obtain⟨x,hx0⟩:∃ x,n/16 ^ j=x:=⟨_,rfl⟩;have hx1:x≤n:=by rw[←hx0];exact Nat.div_le_self _ _
  obtain⟨l,hl⟩:∃ l,hx j n=l:=⟨_,rfl⟩;have hll:l.length≤8:=by rw[←hl,aCI];omega
  rw[hx0,hl];have Hx0:=Hh hx0;clear hx0;have Hl:=Hh hl;clear hl;by_cases hlt:j<k
  · have hb:=aDL x om;obtain⟨y,hy⟩:∃ y,x%16=y:=⟨_,rfl⟩;have hy1:y<16:=om
    have hext:=aEu ⟨y,hy1⟩;simp only at hext;rw[hy] at hb;have Hy:=Hh hy;clear hy;go_wp2
    go_round
    case rel =>
     refine⟨j+1,om,?_,?_,by go_num⟩
     · rw[Nat.pow_succ,←Nat.div_div_eq_div_mul,Hx0.out];go_num
     · rw[hx,Hx0.out,Hy.out,Hl.out];rfl
    case measure=>simp[intOf];omega
  · obtain rfl:j=k:=om
    go_wp2
    go_ret;exact⟨by rw[Hl.out];rfl,rfl⟩
theorem aDA (n:Int) (w:World) :
 Calls prog 32 #[.int .i64 n] w fun e w'=>e=.returned (.string (aX n))∧w=w':=by
 by_cases h0:n<0∨65535<n
 · have hr:aX n=⟨#[]⟩:=by unfold aX;rw[if_pos h0]
   rw[hr];rcases h0 with h0|h0
   · go_enter func32,ntmps32
     go_wp2
     go_ret;exact⟨rfl,rfl⟩
   · have:0≤n:=om
     go_enter func32,ntmps32
     go_wp2
     go_ret;exact⟨rfl,rfl⟩
 · obtain⟨m,rfl⟩:=Int.eq_ofNat_of_zero_le (show 0≤n by omega);have hf1:m≤65535:=om
   by_cases h9:m≤9
   · have hr:aX m=⟨(hx 1 m).toArray⟩:=by
      have:m=0∨m=1∨m=2∨m=3∨m=4∨m=5∨m=6∨m=7∨m=8∨m=9:=om
      rcases this with rfl|rfl|rfl|rfl|rfl|rfl|rfl|rfl|rfl|rfl<;>rfl
     rw[hr];clear h0;go_enter func32,ntmps32
     go_wp2_with fail
     refine (aEF m 1 _ om om).mono ?_;rintro e w2 ⟨rfl,rfl⟩;go_wp2_with fail
     go_ret;exact⟨rfl,rfl⟩
   · have hr:aX m=if 57<((cH ⟨(bL 4 m).toArray⟩++(⟨#[72]⟩:ByteArray)).data[0]?.getD 0).toNat then (⟨#[48]⟩:ByteArray)++(cH ⟨(bL 4 m).toArray⟩++(⟨#[72]⟩:ByteArray)) else cH ⟨(bL 4 m).toArray⟩++(⟨#[72]⟩:ByteArray):=by
      unfold aX;rw[if_neg h0,if_neg om];rfl
     obtain⟨hd,c,t,hct,hc,hc2⟩:=aEE 4 m om (by show m<65536;omega);have hup:cH ⟨(bL 4 m).toArray⟩=⟨(c::t).toArray⟩:=by
      unfold cH;rw[←hct]
     have htl:t.length≤3:=by
      have:=gM 4 m
      have h2:((bL 4 m).map up).length=t.length+1:=by rw[hct];rfl
      rw[List.length_map] at h2;omega
     rw[hup] at hr;rw[hct] at hd;have hdl:(hx 4 m).length=4:=aCI 4 m;generalize hq:4 - (bL 4 m).length=q at hd;have hq4:q≤4:=om
     clear hup hct hq h0;have Hr:=Hh hr;clear hr;have Hc:=Hh hc;clear hc;have Hc2:=Hh hc2;clear hc2;have Hdl:=Hh hdl;clear hdl;have hX:(⟨(hx 4 m).toArray⟩:ByteArray)=⟨(List.replicate q 48++c::t).toArray⟩:=by rw[hd]
     clear hd;have HX:=Hh hX;clear hX;have h9i:¬ (m:Int)<10:=om
     go_enter func32,ntmps32
     go_wp2_with fail
     refine (aEF m 4 _ om om).mono ?_;rintro e w2 ⟨rfl,rfl⟩;rw[HX.out];go_wp2_with fail
     go_loop [3] (fun s=>∃ j:Nat,j≤4∧s=.string ⟨(List.replicate j 48++c::t).toArray⟩) aGo
     case atStart=>exact⟨q,hq4,rfl⟩
     case round =>
      obtain⟨j,hj,rfl⟩:=hrel;rcases j with _|j
      · go_wp2
        · rename_i h1;exfalso
          have h2:((c.toNat:Int) == 48)=true:=h1;have h3:(c.toNat:Int)=48:=by simpa using h2
          exact Hc.out (UInt8.toNat_inj.1 (by show c.toNat=48;omega))
        · go_ret;refine⟨?_,rfl⟩;have h2:(65:Int)≤(c.toNat:Int):=by assumption
          rw[Hr.out,if_pos (by show 57<c.toNat;omega),ByteArray.append_assoc];rfl
        · go_ret;refine⟨?_,rfl⟩;have h2:¬ (65:Int)≤(c.toNat:Int):=by
           intro h3;have h4:((⟨(c::t).toArray⟩:ByteArray)[0]'(by show 0<t.length+1;omega)).toNat=c.toNat:=rfl;omega
          rw[Hr.out,if_neg (by show ¬ 57<c.toNat;have:=Hc2.out;omega)];rfl
      · go_wp2
        · have hx1:((⟨(List.replicate (j+1) 48++c::t).toArray⟩:ByteArray).extract 1 (j+1+(t.length+1)))=⟨(List.replicate j 48++c::t).toArray⟩:=by
           apply ByteArray.ext
           rw[ByteArray.data_extract];show ((48::(List.replicate j 48++c::t)).toArray.extract 1 (j+1+(t.length+1)))=_
           rw[List.extract_toArray,List.extract_eq_take_drop];simp only[List.drop_succ_cons,List.drop_zero];rw[List.take_of_length_le (by simp;omega)]
          rw[hx1];go_round
          case rel=>exact⟨j,om,rfl⟩
          case measure=>show (List.replicate j 48++c::t).toArray.size<(List.replicate (j+1) 48++c::t).toArray.size;simp
        all_goals
         exfalso
         have h2:(((48:UInt8).toNat:Int) == 48)=false:=by assumption
         exact absurd h2 dc
end Go.Proofs.YtoigglljnklhlaaGreatDoor
namespace Go.Proofs.YtoigglljnklhlaaGreatDoor
open Go.RowKit Go.Sort
theorem Wx {a b:ByteArray} (h:a≠b):(a.toList == b.toList)=false:=by
 rw[beq_eq_false_iff_ne];intro e;rw[ByteArray.toList_eq,ByteArray.toList_eq] at e;exact h (ByteArray.ext (Array.toList_inj.1 e))
end Go.Proofs.YtoigglljnklhlaaGreatDoor
namespace Go.Proofs.YtoigglljnklhlaaGreatDoor
open Go.RowKit Go.Sort
open Go.Proofs.Tryz
theorem aBJ {w:World} {v:Value} {bs:List UInt8} (h:Row w v bs.length (aT bs)):(convert 33 9 v).run prog w=.ok (.string ⟨bs.toArray⟩) w:=by
 obtain⟨a,c,rfl,_,hr⟩:=h;by_cases hnil:bs=[]
 · subst hnil;rw[List.length_nil,run_convert_bytes_string (P:=prog) w 33 9 5 a 0 c underlying33 underlying5 underlying9];cases a with
   | none=>rfl
   | some a=>rfl
 · obtain⟨g,o,rfl,hg,hcs⟩:=hr (by intro e;have h2:=fS bs;rw[e] at h2;exact hnil (List.eq_nil_of_length_eq_zero h2.symm))
   exact run_convert_bytes_back (P:=prog) w 33 9 5 ⟨g,o,none⟩ c bs underlying33 underlying5 underlying9 (fun j hj=>by
    rw[bD,hcs j (by rw[fS];exact hj)];simp[aT,hj])
theorem aFz (l:List UInt8) (i:Nat) (c:UInt8):(aT l).set i (.int .u8 c.toNat)=aT (l.set i c):=by simp[aT,List.map_set]
theorem aGM (y:Nat) (hy:y<16) (h:y<(⟨#[48,49,50,51,52,53,54,55,56,57,65,66,67,68,69,70]⟩:ByteArray).size):(⟨#[48,49,50,51,52,53,54,55,56,57,65,66,67,68,69,70]⟩:ByteArray)[y]'h=aCR y:=by
 have:y=0∨y=1∨y=2∨y=3∨y=4∨y=5∨y=6∨y=7∨y=8∨y=9∨y=10∨y=11∨y=12∨y=13∨y=14∨y=15:=om
 rcases this with rfl|rfl|rfl|rfl|rfl|rfl|rfl|rfl|rfl|rfl|rfl|rfl|rfl|rfl|rfl|rfl<;>rfl
theorem aFm (n k j:Nat) (h:j<k):(List.replicate (k - j) 0++hx j n).set (k - 1 - j) (aCR (n/16 ^ j%16))=List.replicate (k - (j+1)) (0:UInt8)++hx (j+1) n:=by
 obtain⟨d,rfl⟩:∃ d,k=j+1+d:=⟨k - (j+1),om⟩
 rw[show j+1+d - j=d+1 by omega,show j+1+d - 1 - j=d by omega,show j+1+d - (j+1)=d by omega,List.replicate_succ',List.append_assoc,List.set_append_right _ _ sm]
 simp[hx]
theorem aGL:madeCells (Value.int .u8 0).cells 2=(aT (List.replicate 2 0)).toArray:=by kernel_rfl
theorem aGK:madeCells (Value.int .u8 0).cells 4=(aT (List.replicate 4 0)).toArray:=by kernel_rfl
theorem aDk (n k:Nat) (w:World) (hn:n<1000000) (hk:k=2∨k=4) :
 Calls prog 63 #[.int .i64 n,.int .i64 k] w fun e w'=>e=.returned (.string ⟨(hx k n).toArray⟩)∧Below w.heap.size w w':=by
 obtain⟨i0,hi,hz0,hz1,hz2⟩:=info_parts Tryz.infoByte;have hrun:(Instr.makeSlice 33 (.int .i64 k) (.int .i64 k)).run prog w=.ok (.slice (some ⟨w.heap.size,0,none⟩) k k) (w.alloc (.cells (aT (List.replicate k 0)).toArray 5)):=by
  have:=run_makeSlice (P:=prog) (w:=w) 33 5 i0 (.int .u8 0) underlying33 hi hz0 .i64 .i64 k k om (Int.le_refl _) (by rw[hz1];omega) (by rw[hz2];omega) om
  rw[hz1,Int.toNat_natCast,Nat.mul_one] at this;rw[this];rcases hk with rfl|rfl
  · rw[aGL]
  · rw[aGK]
 have h4:k≤4:=om
 have h0:0<k:=om
 have hmx:max (k:Int) 0=k:=om
 have hkk:(k:Int)≤4:=om
 have hkp:(0:Int)<(k:Int):=om
 have HH4:=Hh h4;have HH0:=Hh h0;have hlit:∀ W:World,W.heap[w.heap.size]? = some (.cells (aT (List.replicate k 0)).toArray 5 (0,0))→WRow W w.heap.size (.slice (some ⟨w.heap.size,0,none⟩) k k) k (aT (List.replicate k 0)):=fun W h=>⟨_,_,rfl,Nat.le_refl _,fun _=>⟨w.heap.size,0,rfl,Nat.le_refl _,aA h,fun j _=>by rw[Lib.cell_of_heap h];simp,fun j _=>Lib.frozen_of_heap h _⟩⟩
 have HLIT:=Hh (hlit _ (aF w _));clear hlit hk h4 h0;go_enter func63,ntmps63
 go_wp2_with fail
 clear hrun;go_loopw [0,6] (fun x i wr=>∃ (j:Nat) (q:Int),j≤k∧x=.int .i64 (n/16 ^ j:Nat)∧i=.int .i64 q∧Hid (q=(k:Int) - 1 - j)∧Hid (WRow wr w.heap.size (.slice (some ⟨w.heap.size,0,none⟩) k k) k (aT (List.replicate (k - j) 0++hx j n)))∧Hid (Below w.heap.size w wr)) (fun _ i _=>(intOf i+1).toNat)
 case atStart=>exact⟨0,(k:Int) - 1,Nat.zero_le _,by simp,by go_num,Hh sm,Hh (by simpa[hx] using HLIT.out),Hh (bl)⟩
 case round =>
  obtain⟨j,q,hj,rfl,rfl,HQ,HW,HB⟩:=hrel;obtain⟨x,hx0⟩:∃ x,n/16 ^ j=x:=⟨_,rfl⟩;have hx1:x≤n:=by rw[←hx0];exact Nat.div_le_self _ _
  rw[hx0];have HX:=Hh hx0;clear hx0;by_cases hlt:j<k
  · have hb:=aDL x om;obtain⟨y,hy⟩:∃ y,x%16=y:=⟨_,rfl⟩;have hy1:y<16:=om
    rw[hy] at hb;have HY:=Hh hy;clear hy;have hlen:(aT (List.replicate (k - j) 0++hx j n)).length=k:=by rw[fS,List.length_append,List.length_replicate,aCI];omega
    have hq:=HQ.out;obtain⟨q,rfl⟩:∃ r:Nat,q=(r:Int):=⟨k - 1 - j,om⟩
    have hq1:(q:Int)<(k:Int):=om
    have hq0:(0:Int)≤(q:Int):=om
    obtain⟨_,_,hv,_,hh⟩:=HW.out;cases hv
    obtain⟨_,_,he,_,hgl,hcs,hfs⟩:=hh (by intro e;rw[e] at hlen;have:=HH0.out;simp at hlen;omega);cases he
    have hfz:wr.frozen? ⟨w.heap.size,q,none⟩=false:=(congrArg (fun t=>wr.frozen? ⟨w.heap.size,t,none⟩) (Nat.zero_add q)).symm.trans (hfs q (by rw[hlen];omega));obtain⟨u,hu⟩:∃ u,(aT (List.replicate (k - j) 0++hx j n))[q]? = some u:=⟨_,List.getElem?_eq_getElem (by rw[hlen];omega)⟩;have hcz:wr.cell? ⟨w.heap.size,q,none⟩=some u:=(congrArg (fun t=>wr.cell? ⟨w.heap.size,t,none⟩) (Nat.zero_add q)).symm.trans ((hcs q (by rw[hlen];omega)).trans hu);have HHL:=Hh hlen;have HJ:=Hh (show q=k - 1 - j by omega);clear hq hlen hh hcs hfs hu;go_wp2_with fail
    go_roundw
    case rel =>
     have h1:=WRow.set (u:=.int .u8 (aCR y).toNat) HW.out (i:=q) (by rw[HHL.out];omega);rw[aFz,HJ.out,←HY.out,←HX.out,aFm n k j hlt,Nat.zero_add,←HJ.out,HX.out,HY.out] at h1;refine⟨j+1,(q:Int) - 1,om,?_,by go_num,Hh (by have:=HQ.out;omega),Hh ?_,Hh (HB.out.setCell (p:=⟨w.heap.size,q,none⟩) lr _)⟩
     · rw[Nat.pow_succ,←Nat.div_div_eq_div_mul,HX.out];go_num
     · rw[aGM y hy1];exact h1
    case measure=>simp[intOf]
  · obtain rfl:j=k:=om
    have hq:=HQ.out;obtain rfl:q=-1:=om
    have hr:=HW.out;rw[Nat.sub_self,List.replicate_zero,List.nil_append] at hr;have hcv:=aBJ (bs:=hx j n) (show Row wr (.slice (some ⟨w.heap.size,0,none⟩) j j) (hx j n).length _ by rw[aCI];exact hr.row)
    clear hq hr;go_wp2_with fail
    go_ret;exact⟨rfl,HB.out⟩
def aEs (l:List UInt8):List UInt8:=l.flatMap fun b=>32::hx 2 b.toNat
def aDn (a:Nat) (x:It) (l:List UInt8):List UInt8:=(dH x).data.toList++[9,59,32]++hx 4 a++aEs l
def aCs (a:Nat) (x:It):ByteArray:=⟨(aDn a x x.raw).toArray⟩
theorem aDZ:∀ l:List UInt8,(aEs l).length=l.length*3
 | []=>rfl
 | b::l=>by
   have:=aDZ l
   simp only[aEs,List.flatMap_cons,List.length_append,List.length_cons,aCI] at this ⊢;omega
theorem aEP {l:List UInt8} {j:Nat} {b:UInt8} (h:l[j]? = some b):aEs (l.take (j+1))=aEs (l.take j)++(32::hx 2 b.toNat):=by rw[List.take_add_one,h];simp[aEs]
theorem aDH (a:Nat) (x:It) (l:List UInt8):(aDn a x l).length=(dH x).size+7+l.length*3:=by
 unfold aDn;rw[List.length_append,List.length_append,List.length_append,aCI,aDZ,Array.length_toList];rfl
theorem aDy (l m:List UInt8):(⟨l.toArray⟩:ByteArray)++⟨m.toArray⟩=⟨(l++m).toArray⟩:=by
 apply ByteArray.ext
 rw[ByteArray.data_append];simp
theorem aDi:TxS aCs:=fun a x hx=>by
 have h1:=Cp x hx;show (aDn a x x.raw).toArray.size≤_
 rw[List.size_toArray,aDH];omega
theorem aDB (a:Nat) (x:It) (vr va:Value) (w:World) (hT:TabsA w) (hr:Row w vr x.raw.length (aT x.raw)) (ha:Row w va x.ins.2.length (opc x.ins.2)) (hrl:x.raw.length≤100000) (hal:x.ins.2.length≤900) (hml:x.ins.1.length≤1000) (hn:a≤200000) (hsz:(dH x).size≤10000000) :
 Calls prog 35 #[.int .i64 a,itV x vr va] w fun e w'=>e=.returned (.string (aCs a x))∧Below w.heap.size w w':=by
 have hI:=fun X (hb:Below w.heap.size w X)=>Hq x vr va X (hT.below hb) (hr.below hb) (ha.below hb) hrl hal hml;have HI:=Hh hI;have HRW:=Hh hr;obtain⟨FL,hFL⟩:∃ F:List UInt8→List UInt8,aDn a x=F:=⟨_,rfl⟩;have hfl:∀ l,(FL l).length=(dH x).size+7+l.length*3:=fun l=>by rw[←hFL];exact aDH a x l
 have hf0:(dH x)++⟨#[9,59,32]⟩++⟨(hx 4 a).toArray⟩=(⟨(FL []).toArray⟩:ByteArray):=by
  rw[←hFL];unfold aDn aEs;apply ByteArray.ext
  rw[ByteArray.data_append,ByteArray.data_append];simp
 have hfs:∀ (j:Nat) (b:UInt8),x.raw[j]? = some b→(⟨(FL (x.raw.take j)).toArray⟩:ByteArray)++(⟨#[32]⟩++⟨(hx 2 b.toNat).toArray⟩)=⟨(FL (x.raw.take (j+1))).toArray⟩:=fun j b h=>by
  rw[show (⟨#[32]⟩:ByteArray)=⟨([32]:List UInt8).toArray⟩ from rfl,aDy,aDy,←hFL]
  unfold aDn;rw[aEP h];simp
 have hfx:aCs a x=⟨(FL x.raw).toArray⟩:=by rw[←hFL];rfl
 rw[hfx];have HF0:=Hh hf0;have HFS:=Hh hfs;have HFL:=Hh hfl;have HSZ:=Hh hsz;have HN:=Hh hn;generalize dH x=IS at *;obtain⟨ki,ra,⟨im,ia⟩,ial⟩:=x;dsimp only at *;obtain⟨ar,cr,rfl,hcr,hrr⟩:=hr;obtain⟨aa,ca,rfl,_,_⟩:=ha;clear hI hT hFL hfl hf0 hfs hfx hn;dsimp only[itV] at HI ⊢;have HRR:=Hh hrr;clear hrr;go_enter func35,ntmps35
 go_wp2_with fail
 obtain⟨W0,hW0⟩:∃ W,w.alloc (.cells #[.int .i64 ki,.slice ar ra.length cr,.string ⟨im.toArray⟩,.slice aa ia.length ca,.bool ial] 55)=W:=⟨_,rfl⟩;have hb0:Below w.heap.size w W0:=by rw[←hW0];exact bl
 have hbx:W0.heap[w.heap.size]? = some (.cells #[.int .i64 ki,.slice ar ra.length cr,.string ⟨im.toArray⟩,.slice aa ia.length ca,.bool ial] 55 (0,0)):=by rw[←hW0];exact aF _ _
 rw[hW0];clear hW0;(with_reducible refine (HI.out _ hb0).mono ?_);rintro e w2 ⟨rfl,hb2⟩;have hbx2:=aB hbx hb2 (aA hbx);have HB2:=Hh (hb0.trans (hb2.mono hb0.size));have HBX:=Hh hbx2;have HX4:=Hh (show Calls prog 63 #[.int .i64 a,.int .i64 4] w2 _ from aDk a 4 w2 (by have:=HN.out;omega) (.inr rfl))
 have hs4:(⟨(hx 4 a).toArray⟩:ByteArray).size≤4:=by show (hx 4 a).toArray.size≤4;rw[List.size_toArray,aCI];exact Nat.le_refl _
 have hf4:=HF0.out;have hx4:=HX4.out;generalize (⟨(hx 4 a).toArray⟩:ByteArray)=H4 at hs4 hf4 hx4;have HF4:=Hh hf4;have HX44:=Hh hx4;clear hf4 hx4;have hsi:=HSZ.out;clear hb0 hbx hb2 hbx2;go_wp2_with fail
 (with_reducible refine HX44.out.mono ?_);rintro e w3 ⟨rfl,hb3⟩;have hbx3:=aB HBX.out hb3 (aA HBX.out);have HB3:=Hh (HB2.out.trans (hb3.mono HB2.out.size));have HBX3:=Hh hbx3;obtain⟨⟨_,q1,_,_,_⟩,_⟩:=bJ hbx3;have hl3:=aA hbx3;clear hb3 hbx3;go_wp2_with fail
 rw[HF4.out];clear hs4 hsi;go_loopw [5,17] (fun s i wr=>∃ j:Nat,j≤ra.length∧s=.string ⟨(FL (ra.take j)).toArray⟩∧i=.int .i64 j∧Hid (Below w3.heap.size w3 wr)) (fun _ i _=>ra.length - (intOf i).toNat)
 case atStart=>exact⟨0,Nat.zero_le _,rfl,rfl,Hh br⟩
 case round =>
  obtain⟨j,hj,rfl,rfl,HB⟩:=hrel;by_cases hlt:j<ra.length
  · obtain⟨b,hb⟩:∃ b,ra[j]? = some b:=⟨_,List.getElem?_eq_getElem hlt⟩;obtain⟨g,o,rfl,hg,hcs⟩:=HRR.out (by intro e;have h1:=fS ra;rw[e] at h1;simp at h1;omega);have k0:wr.cell? ⟨g,o+j,none⟩=some (.int .u8 b.toNat):=by
     have h1:=hcs j (by rw[fS];exact hlt);rw[oS hb] at h1;exact ((HB3.out.trans (HB.out.mono HB3.out.size)).cell (p:=⟨g,o+j,none⟩) hg).trans h1
    have HX2:=Hh (fun W=>(show Calls prog 63 #[.int .i64 b.toNat,.int .i64 2] W _ from aDk b.toNat 2 W (by have:=b.toNat_lt;omega) (.inl rfl)))
    have hs2:(⟨(hx 2 b.toNat).toArray⟩:ByteArray).size≤2:=by show (hx 2 b.toNat).toArray.size≤2;rw[List.size_toArray,aCI];exact Nat.le_refl _
    have hsf:(⟨(FL (ra.take j)).toArray⟩:ByteArray).size≤20000000:=by show (FL (ra.take j)).toArray.size≤_;rw[List.size_toArray,HFL.out,List.length_take];have:=HSZ.out;omega
    have hbb:=HFS.out j b hb;have hx2:=HX2.out;generalize (⟨(hx 2 b.toNat).toArray⟩:ByteArray)=H2 at hs2 hbb hx2;generalize (⟨(FL (ra.take j)).toArray⟩:ByteArray)=SJ at *;have HBB:=Hh hbb;have HX22:=Hh hx2;clear hbb hx2;have hwb:wrap64 (b.toNat:Int)=(b.toNat:Int):=IntWalk.wrap64_in _ (by have:=b.toNat_lt;omega);have hi0:(0:Int)≤(j:Int):=om
    have hi1:(j:Int)<(ra.length:Int):=om
    have hcc:(ra.length:Int)≤(cr:Int):=om
    clear hcs hb;go_wp2_with fail
    (with_reducible refine (HX22.out _).mono ?_);rintro e w4 ⟨rfl,hb4⟩;have HB4:=Hh (HB.out.trans (hb4.mono HB.out.size));clear hb4 k0;go_wp2_with fail
    rw[HBB.out];go_roundw
    case rel=>exact⟨j+1,om,rfl,by go_num,HB4⟩
    case measure=>simp[intOf];omega
  · obtain rfl:j=ra.length:=om
    rw[List.take_length];go_wp2_with fail
    go_ret;exact⟨rfl,HB3.out.trans (HB.out.mono HB3.out.size)⟩
end Go.Proofs.YtoigglljnklhlaaGreatDoor
namespace Go.Proofs.YtoigglljnklhlaaGreatDoor
open Go.RowKit Go.Sort Go.Shelf
open Go.Proofs.Tryz
attribute [local go_sem] Oper.semAt_some
theorem aEn (b:Nat) (C:List Cl) (w:World) (hI:ImgAt b C w) (hTB:TabB w) (hT:∀ W,Below w.heap.size w W→TabsA W) (hn:C.length≤60000) :
 Calls prog 31 #[.agg #[.func (.func 35) #[] #[]],.pointer (some ⟨b,0,none⟩)] w fun e w'=>e=.returned (.string ⟨(eD aCs (aS C)).toArray⟩)∧Below w.heap.size w w':=by
 have HRN:=Hh (fun X (hb:Below w.heap.size w X)=>xW b C X (hI.below hb hI.raw.lt) (hTB.below hb) hn);have hrc:=iH C;have HRL:=Hh (fun r (hr:r∈aS C)=>And.intro (Nat.le_trans (Bg hr) hn) (xY hI.asc hr));generalize aS C=R at *;have HT:=Hh hT;have HN:=Hh (And.intro hn hrc);clear hI hTB hT hn hrc;have HWL:=Hh (fun j=>Fp (tx:=aCs) aDi R j (fun r hr=>HRL.out r hr) (Nat.le_trans HN.out.2 HN.out.1));refine (callsIn_wide (n:=3)).1 ?_;refine callsIn_of_wp_marks func31 rfl trivial ?_ rfl;simp only[ntmps31,List.size_toArray,List.length_cons,List.length_nil,Nat.reduceAdd,Nat.reduceSub,Array.replicate_succ,Array.replicate_zero,List.push_toArray,List.append_toArray,List.nil_append,List.cons_append];refine wpIn_wide.2 ?_;go_wp2_with fail
 obtain⟨w1,hw1⟩:∃ w1,(w.alloc (.cells #[.func (.func 35) #[] #[]] 71)).alloc (.cells #[.pointer none,.slice none 0 0] 77)=w1:=⟨_,rfl⟩;have hb1:Below w.heap.size w w1:=by rw[←hw1];exact bl
 have hst1:w1.heap[w.heap.size]? = some (.cells #[.func (.func 35) #[] #[]] 71 (0,0)):=by rw[←hw1];exact aE (aF _ _)
 have hbk1:w1.heap[w.heap.size+1]? = some (.cells #[.pointer none,.slice none 0 0] 77 (0,0)):=by
  rw[←hw1]
  have:=aF (w.alloc (.cells #[.func (.func 35) #[] #[]] 71)) (.cells #[.pointer none,.slice none 0 0] 77)
  rwa [World.size_alloc] at this
 have hs1:w1.heap.size=w.heap.size+2:=by rw[←hw1];simp
 rw[hw1];clear hw1;have HS1:=Hh hs1;clear hs1;(with_reducible refine (HRN.out _ hb1).mono ?_);rintro e w2 ⟨vr,rs,rfl,hrs,hrows,hb2⟩;have hbk2:=aB hbk1 hb2 (aA hbk1);have hst2:=aB hst1 hb2 (aA hst1);have hW2:WrI (w.heap.size+1) w1.heap.size w2 [] w2:=⟨.inl ⟨Nat.le_refl _,_,hbk2,World.ownsRow_nil _ _ _ _,by simp[Value.ownBlock]⟩,(fun k hk=>((fY hbk2 k).1 hk).elim .inl (fun h=>absurd h (by simp[Value.ownBlock]))),fun _ _ _ ho _=>ho,Nat.le_refl _⟩
 have HRS:=Hh hrs;have HROW:=Hh hrows;have hbw2:=hb1.trans (hb2.mono hb1.size);have HSZ2:=Hh hb2.size;have h0:WvInv aCs 35 w.heap.size w1.heap.size w w2 R 0 [] w2:=⟨hW2,hst2,by simp,List.nodup_nil,hbw2⟩
 have H0:=Hh h0;obtain⟨av,cv,rfl⟩:=aI hrows.own;clear hrs hrows hb1 hb2 hbk1 hbk2 hst1 hst2 hW2 hbw2 h0;go_wp2_with fail
 refine (wpIn_wide (n:=3)).1 ?_;refine wpIn_loop_ghost (fun k a' wr=>∃ (j:Nat) (u7 u14 u15 u16 u17 u18 u19 u20 u21 u22 u23 u24 u35:Value) (ds:List Nat),a'={ tmps:=#[.agg #[.func (.func 35) #[] #[]],.pointer (some ⟨b,0,none⟩),.pointer (some ⟨w.heap.size,0,none⟩),undef,.string ⟨#[]⟩,.pointer (some ⟨w.heap.size+1,0,none⟩),undef,u7,undef,undef,.pointer (some ⟨b,0,none⟩),.slice av rs.length cv,.int .i64 rs.length,.int .i64 j,u14,u15,u16,u17,u18,u19,u20,u21,u22,u23,u24,undef,undef,undef,undef,undef,undef,undef,undef,undef,undef,u35,undef],defers:=ds.map mkD }∧j≤rs.length∧WvInv aCs 35 w.heap.size w1.heap.size w w2 R j ds wr∧rs.length - j<k) (rs.length+1) ?start ?round
 case start=>exact⟨0,undef,undef,undef,undef,undef,undef,undef,undef,undef,undef,undef,undef,undef,[],rfl,Nat.zero_le _,H0.out,om⟩
 case round =>
  rintro k a' wr ⟨j,u7,u14,u15,u16,u17,u18,u19,u20,u21,u22,u23,u24,u35,ds,rfl,hj,hinv,hk⟩;have HV:=Hh hinv;clear hinv;by_cases hlt:j<rs.length
  · obtain⟨x,hx⟩:∃ x,rs[j]? = some x:=⟨_,List.getElem?_eq_getElem hlt⟩;have hrw:=HV.out.wr.rows HROW.out;obtain⟨_,_,hv,hcv,hh⟩:=hrw.get;cases hv
    obtain⟨g,o,rfl,_,hg,hcs⟩:=hh (by rintro rfl;exact absurd hlt (Nat.not_lt_zero _))
    obtain⟨k0,k1⟩:=hcs j x hx;have hxm:x.1∈R:=by rw[←HRS.out];exact List.mem_map_of_mem (List.mem_of_getElem? hx)
    have hRj:R[j]? = some x.1:=by rw[←HRS.out,List.getElem?_map,hx];rfl
    have hxo:=hrw.has x (List.mem_of_getElem? hx);obtain⟨⟨ad,bs⟩,vb⟩:=x;dsimp only at k0 k1 hxo hxm hRj;obtain⟨hbl,hadl⟩:=HRL.out _ hxm;dsimp only at hbl hadl;obtain⟨ab,cb,rfl⟩:=aI hxo;have HXO:=Hh hxo;have HRJ:=Hh hRj;have HX:=Hh hx;have hi0:(0:Int)≤(j:Int):=om
    have hi1:(j:Int)<(rs.length:Int):=om
    have hcv1:(rs.length:Int)≤(cv:Int):=om
    have hnt:=nD (ad:Int);clear hh hcs hxo hrw hRj hx;gi_wp2_with fail
    obtain⟨w3,hw3⟩:∃ W,wr.alloc (.cells #[.int .i64 ad,.slice ab bs.length cb] 61)=W:=⟨_,rfl⟩;have hb3:Below wr.heap.size wr w3:=by rw[←hw3];exact br.alloc lr _
    have hr3:w3.heap[wr.heap.size]? = some (.cells #[.int .i64 ad,.slice ab bs.length cb] 61 (0,0)):=by rw[←hw3];exact aF _ _
    have HSB:=Hh (fun W (hb:Below wr.heap.size wr W) (hs:SB (w.heap.size+1) W wr.heap.size)=>Nat.lt_irrefl _ (Lw HV.out.wr.bu _ (rU _ _ (Nat.lt_succ_self _) wr W (lP HV.out.wr.bu) hb _ hs)));have HB3:=Hh hb3;have HR3:=Hh hr3;rw[hw3];clear hw3 hb3 hr3 k0 k1;refine⟨trivial,?_⟩;refine (callsIn_wide.2 (fD _ _ (HT.out w3 (HV.out.below.trans (HB3.out.mono HV.out.below.size))).t)).mono ?_;rintro e w4 ⟨rfl,hb4⟩;have hb34:=HB3.out.trans (hb4.mono HB3.out.size);have hr4:=aB HR3.out hb4 (aA HR3.out);have hv4:=HV.out.below' hb34;have HB4:=Hh hb34;have HR4:=Hh hr4;have HV4:=Hh hv4;clear hb4 hb34 hr4 hv4;gi_wp2_with fail
    have hwl:=HWL.out j;refine⟨trivial,?_⟩;refine (callsIn_wide.2 (rG _ _ _ _ _ w4 HV4.out.wr (by have:=HS1.out;omega) (by rw[ByteArray.size_append,ByteArray.size_append];show _+(5+_+1)≤_;omega))).mono ?_
    rintro e w5 ⟨rfl,hwr5,hb5,hk5⟩;clear hwl;rw[show ((⟨#[9,79,82,71,32]⟩:ByteArray)++aX (ad:Int)++⟨#[10]⟩).data.toList=tS ad by rw[ByteArray.data_append,ByteArray.data_append,Array.toList_append,Array.toList_append];rfl] at hwr5
    have hr5:=hk5.2.1 _ _ HR4.out (HSB.out w4 HB4.out);have hv5:=HV4.out.kpA (by have:=HS1.out;omega) (by have:=HSZ2.out;have:=HS1.out;omega) hk5 (hb5.mono (Nat.le_succ _));have HR5:=Hh hr5;have HV5:=Hh hv5;have HWR5:=Hh hwr5;obtain⟨z0,z1,_,_⟩:=aL hr5;have hlr5:=aA hr5;have hnb5:¬ SB (w.heap.size+1) w5 wr.heap.size:=fun hs=>by
     rcases hk5.2.2 _ hs with h1|h1
     · exact HSB.out w4 HB4.out h1
     · have:=aA HR4.out;omega
    have HNB5:=Hh hnb5;clear hr5 hv5 hwr5 hb5 hk5 hnb5 HV4 HR4 HB4 HSB HR3 HB3;gi_wp2_with fail
    refine⟨trivial,?_⟩;refine (callsIn_wide.2 (mU _ _ _ _ _)).mono ?_;rintro e w6 ⟨rfl,hw6⟩;have h6b:w6.heap[w5.heap.size]? = some (.cells #[.int .i64 ad,.slice ab bs.length cb] 61 (0,0)):=by rw[hw6];exact aF _ _
    have h6l:Below w5.heap.size w5 w6:=by rw[hw6];exact br.alloc lr _
    have h6s:w6.heap.size=w5.heap.size+1:=by rw[hw6];simp
    have h6k:WrI (w.heap.size+1) w1.heap.size w2 (eD aCs (R.take j)++tS ad) w6:=HWR5.out.below h6l;have h6i:WvIn aCs 35 w.heap.size w1.heap.size w w2 (eD aCs (R.take j)++tS ad) [] ds w6.heap.size w6:=⟨by simpa[mJ] using h6k,aB HV5.out.st h6l (aA HV5.out.st),fun D hD=>⟨(HV5.out.marks D hD).1,Nat.lt_of_lt_of_le (aA (HV5.out.marks D hD).2) h6l.size,aB (HV5.out.marks D hD).2 h6l (aA (HV5.out.marks D hD).2)⟩,HV5.out.below.trans (h6l.mono HV5.out.below.size),by simp[mJ],Nat.le_refl _⟩
    have hrow6:Row w6 (.slice ab bs.length cb) bs.length (aT bs):=Row.of_owns ((h6k.rows HROW.out).has _ (List.mem_of_getElem? HX.out));have H6B:=Hh h6b;have H6S:=Hh h6s;have H6I:=Hh h6i;have HROW6:=Hh hrow6;have H6L:=Hh h6l;clear hw6 h6b h6l h6s h6k h6i hrow6 z0 z1 hlr5;gi_wp2_with fail
    refine cM rfl dc (gf:=57) (lb:=#[.pointer (some ⟨w5.heap.size,0,none⟩)]) rfl trivial (enters_of func57 kr rfl)
     (Fi 2 w5.heap.size (w.heap.size+2) ad dc (SB (w.heap.size+1)) (rU _ _ (Nat.lt_succ_self _)) bs (.slice ab bs.length cb) om om)
     ?rdy (fun A B k o h hk _ _=>aB hk h (aA hk)) Vr ?hKb (fun x W l o o' h _ hl hc=>⟨h.1.on (gK (cC (b:=0) W l o o' hl hc)) (Nat.zero_le _),h.2⟩) (fun _=>rfl)
     (fun pre W=>WvIn aCs 35 w.heap.size w1.heap.size w w2 (eD aCs (R.take j)++tS ad) pre ds w6.heap.size W)
     (fun _ _ _=>False)
     ?hI ?hIs (fun c s A B row h _ _=>h) (fun c s A B h _=>h) H6I.out
     (fun x W=>{ tmps:=#[.agg #[.func (.func 35) #[] #[]],.pointer (some ⟨b,0,none⟩),.pointer (some ⟨w.heap.size,0,none⟩),undef,.string ⟨#[]⟩,.pointer (some ⟨w.heap.size+1,0,none⟩),undef,.pointer (some ⟨wr.heap.size,0,none⟩),.int .i64 x.1,.pointer (some ⟨W.heap.size,0,none⟩),.pointer (some ⟨b,0,none⟩),.slice (some ⟨g,o,none⟩) rs.length cv,.int .i64 rs.length,.int .i64 j,.bool true,.pointer (some ⟨g,o+j*2,none⟩),.agg #[.int .i64 ad,.slice ab bs.length cb],.pointer (some ⟨wr.heap.size,0,none⟩),.int .i64 ad,.string (aX (ad:Int)),.string (⟨#[9,79,82,71,32]⟩++aX (ad:Int)),.string (⟨#[9,79,82,71,32]⟩++aX (ad:Int)++⟨#[10]⟩),.tuple #[.int .i64 (5+((aX (ad:Int)).size:Int)+1),.nilIface],.agg #[.int .i64 ad,.slice ab bs.length cb],.func (.func 57) #[] #[.pointer (some ⟨w5.heap.size,0,none⟩)],.int .i64 x.1,itV x.2.1 x.2.2.1 x.2.2.2,undef,undef,undef,undef,undef,undef,undef,undef,u35,undef],defers:=[] })
     (fun x W=>W.alloc (.cells #[.int .i64 x.2.1.kind,x.2.2.1,.string ⟨x.2.1.ins.1.toArray⟩,x.2.2.2,.bool x.2.1.alias] 55))
     (fun x a' W=>∃ q,a'={ tmps:=#[.agg #[.func (.func 35) #[] #[]],.pointer (some ⟨b,0,none⟩),.pointer (some ⟨w.heap.size,0,none⟩),undef,.string ⟨#[]⟩,.pointer (some ⟨w.heap.size+1,0,none⟩),undef,.pointer (some ⟨wr.heap.size,0,none⟩),.int .i64 x.1,.pointer (some ⟨q,0,none⟩),.pointer (some ⟨b,0,none⟩),.slice (some ⟨g,o,none⟩) rs.length cv,.int .i64 rs.length,.int .i64 j,.bool true,.pointer (some ⟨g,o+j*2,none⟩),.agg #[.int .i64 ad,.slice ab bs.length cb],.pointer (some ⟨wr.heap.size,0,none⟩),.int .i64 ad,.string (aX (ad:Int)),.string (⟨#[9,79,82,71,32]⟩++aX (ad:Int)),.string (⟨#[9,79,82,71,32]⟩++aX (ad:Int)++⟨#[10]⟩),.tuple #[.int .i64 (5+((aX (ad:Int)).size:Int)+1),.nilIface],.agg #[.int .i64 ad,.slice ab bs.length cb],.func (.func 57) #[] #[.pointer (some ⟨w5.heap.size,0,none⟩)],.int .i64 x.1,itV x.2.1 x.2.2.1 x.2.2.2,undef,undef,undef,undef,undef,undef,undef,undef,u35,undef],defers:=[] }∧W.heap[q]? = some (.cells #[.int .i64 x.2.1.kind,x.2.2.1,.string ⟨x.2.1.ins.1.toArray⟩,x.2.2.2,.bool x.2.1.alias] 55 (0,0)))
     ?assign (fun x W=>br.alloc lr _) ?kpW (fun x W h=>⟨h.1.below (br.alloc lr _),h.2⟩) (fun x W=>⟨_,rfl,aF _ _⟩) (fun x a' W l o o' ⟨q,h1,h2⟩ _ hl hc=>⟨q,h1,(cC (b:=0) W l o o' hl hc).2 _ _ (Nat.zero_le _) h2 rfl⟩) ?body ?done (fun D cd pre W _ _ h _=>h.elim)
    case rdy =>
     intro o1 o2;have hbl2:Below w6.heap.size w6 ((w6.alloc o1).alloc o2):=(br.alloc lr o1).alloc (by rw[World.size_alloc];omega) o2;have hwi:=H6I.out.wr.below hbl2;exact⟨aB H6B.out hbl2 (aA H6B.out),(fun hs=>by have:=Lw HWR5.out.bu _ (rU _ _ (Nat.lt_succ_self _) w5 _ (lP HWR5.out.bu) (H6L.out.trans (hbl2.mono H6L.out.size)) _ hs);exact Nat.lt_irrefl _ this),HROW6.out.below hbl2,fun W' hb=>HT.out W' (H6I.out.below.trans ((hbl2.mono H6I.out.below.size).trans (hb.mono (Nat.le_trans H6I.out.below.size hbl2.size)))),fun k hk=>Lw hwi.bu k hk,lP hwi.bu⟩
    case hKb=>exact fun W l o1 o2 hwl hl hc _=>⟨(cC (b:=0) W l o1 o2 hl hc).1,fun k u hu hcu _=>(cC (b:=0) W l o1 o2 hl hc).2 k u (Nat.zero_le _) hu hcu,fun k h=>.inl (Xb o2 (by have:=lP H6I.out.wr.bu;omega) k h)⟩
    case hI =>
     intro s A B row h hg hr;exact h.keepC (fG hg hr) (fun D hD=>by
      obtain⟨h1,h2,h3⟩:=h.marks D hD;exact (hg.block D (aA h3) (fun e=>by have:=(hr D e.symm).1;omega)).trans h3) (ownFrom_below lr H6I.out.below.size s A B row h.below hg hr)
    case hIs=>exact fun s A B h hs=>h.keepC (cA hs) (fun D hD=>aB (h.marks D hD).2.2 hs (aA (h.marks D hD).2.2)) (h.below.trans (hs.mono h.below.size))
    case kpW=>exact fun x W=>⟨by rw[World.size_alloc];omega,fun k o ho _ _=>aE ho,fun k hk=>.inl (Ly dc k hk)⟩
    case assign =>
     rintro l ⟨a0,⟨ki,ra,⟨im,ia⟩,ial⟩,vr,va⟩ W K hg hK;dsimp only at hg;obtain⟨ar,cr,rfl⟩:=aI hg.1.raw;obtain⟨aa,ca,rfl⟩:=hg.1.args.slice;dsimp only[itV] at hK ⊢;gi_wp2
     exact hK
    case body =>
     rintro lp pre ⟨a0,⟨ki,ra,⟨im,ia⟩,ial⟩,vr,va⟩ a' W hin ⟨hat,hmem,hab⟩ ⟨q,rfl,hq⟩ hN;dsimp only at hat hmem hab hq;have hral:=tB hmem;have hins:=xA _ _ _ hmem;dsimp only at hral;have hdl:=kK bs;have htx:=aDi a0 ⟨ki,ra,(im,ia),ial⟩ hins;dsimp only at htx;have hCALL:Calls prog 35 #[.int .i64 a0,itV ⟨ki,ra,(im,ia),ial⟩ vr va] W fun e w'=>e=.returned (.string (aCs a0 ⟨ki,ra,(im,ia),ial⟩))∧Below W.heap.size W w' :=
      aDB a0 ⟨ki,ra,(im,ia),ial⟩ vr va W (HT.out W hin.below) (Row.of_owns hat.raw) (WRow.row (ORow.row hat.args)) (by show ra.length≤100000;omega) (by have:=hins.2;dsimp only at this;show ia.length≤900;omega) (by have:=hins.1;dsimp only at this;show im.length≤1000;omega) hab (by have:=Cp ⟨ki,ra,(im,ia),ial⟩ hins;dsimp only at this;omega)
     obtain⟨ar,cr,rfl⟩:=aI hat.raw;obtain⟨aa,ca,rfl⟩:=hat.args.slice;have hsm:=hin.small;have hpre:pre.length≤60000:=om
     have hwl:=HWL.out j;have hnt2:=nD (ad:Int);have hln:(eD aCs (R.take j)++tS ad++mJ aCs (pre.map fun x=>(x.1,x.2.1))).length≤100000000000000:=by
      have h1:pre.length*2000000≤60000*2000000:=Nat.mul_le_mul_right _ hpre;rw[List.length_append,List.length_append,Mw];omega
     have HIN:=Hh hin;have HLN:=Hh hln;have hst:=hin.st;have s0:W.cell? ⟨w.heap.size,0,none⟩=some (.func (.func 35) #[] #[]):=aC hst 0;have hlst:=aA hst;obtain⟨⟨z0,z1,z2,z3,z4⟩,_⟩:=bJ hq;have hlq:=aA hq;dsimp only[itV] at hCALL ⊢;obtain⟨TS,hTS⟩:∃ s,aCs a0 ⟨ki,ra,(im,ia),ial⟩=s:=⟨_,rfl⟩;have hts:TS.size≤700000:=by rw[←hTS];first|omega|(dsimp only;omega)
     have hCALL2:=hCALL.mono (R':=fun e w'=>e=.returned (.string TS)∧Below W.heap.size W w') (fun e w' h=>by rw[←hTS];exact h);have HCALL:=Hh hCALL2;have HTS:=Hh hTS;clear hin hat hab hq hsm hwl hnt2 hln hst hCALL hCALL2 hTS htx hmem hins hN hdl hral;gi_wp2_with fail
     refine⟨trivial,?_⟩;refine (CallsIn.inRound lp (callsIn_wide.2 HCALL.out)).mono ?_;rintro e W3 ⟨rfl,hb3⟩;have HB3:=Hh hb3;have HIN3:=Hh (HIN.out.keepC (cA hb3) (fun D hD=>aB (HIN.out.marks D hD).2.2 hb3 (aA (HIN.out.marks D hD).2.2)) (HIN.out.below.trans (hb3.mono HIN.out.below.size)));clear hb3;gi_wp2_with fail
     refine⟨trivial,?_⟩;refine (CallsIn.inRound lp (callsIn_wide.2 (rG _ _ _ _ _ W3 HIN3.out.wr (by have:=HS1.out;omega) (by rw[ByteArray.size_append,ByteArray.size_append];show _+(1+_+1)≤_;have:=HLN.out;omega)))).mono ?_
     rintro e W4 ⟨rfl,hwr4,hb4,hk4⟩;have hst4:=Ra (vr:=.slice ar ra.length cr) (va:=.slice aa ia.length ca) (by have:=HS1.out;have:=HSZ2.out;omega) HIN.out (Vs (He (rU _ _ (Nat.lt_succ_self _)) (lP HIN.out.wr.bu) HB3.out) hk4) (a0:=a0) (x:=⟨ki,ra,(im,ia),ial⟩) (by
      have e:lnG aCs a0 ⟨ki,ra,(im,ia),ial⟩=((⟨#[9]⟩:ByteArray)++TS++⟨#[10]⟩).data.toList:=by
       rw[ByteArray.data_append,ByteArray.data_append,Array.toList_append,Array.toList_append];exact congrArg (fun s:ByteArray=>[9]++s.data.toList++[10]) HTS.out
      rw[e];exact hwr4) ((HB3.out.mono HIN.out.below.size).trans (hb4.mono (Nat.le_succ _))) (by rw[HTS.out];omega)
     have HST4:=Hh hst4;clear hwr4 hb4 hk4 hst4;gi_wp2_with fail
     exact HST4.out
    case done =>
     rintro D xs W hD hxs hin hK;have hits:xs.map (fun x=>(x.1,x.2.1))=iT ad (dI bs):=hxs;have hwr:=hin.wr;rw[hits,List.append_assoc,show tS ad++mJ aCs (iT ad (dI bs))=Gg aCs (ad,bs) from rfl,←xI HRJ.out] at hwr
     have HNX:=Hh (show WvInv aCs 35 w.heap.size w1.heap.size w w2 R (j+1) (D::ds) W from⟨hwr,hin.st,fun E hE=>by
      rcases List.mem_cons.1 hE with rfl|hE
      · exact⟨Nat.le_trans H6I.out.below.size hD,hK⟩
      · exact⟨(hin.marks E hE).1,(hin.marks E hE).2.2⟩,List.nodup_cons.2 ⟨fun hE=>by have:=(hin.marks D hE).2.1;omega,HV.out.nodup⟩,hin.below⟩)
     clear hin hwr hits hxs hK;have hrl9:rs.length≤60000:=by have h1:=HN.out;have h2:=congrArg List.length HRS.out;rw[List.length_map] at h2;omega
     gi_wp2_with fail
     exact⟨rs.length - j,hk,j+1,_,_,_,_,_,_,_,_,_,_,_,_,_,D::ds,rfl,om,HNX.out,om⟩
  · obtain rfl:j=rs.length:=om
    have hRl:R.take rs.length=R:=List.take_of_length_le (by rw[←HRS.out,List.length_map];exact Nat.le_refl _);have hwr:=HV.out.wr;rw[hRl] at hwr;have HWR:=Hh hwr;clear hwr hRl;gi_wp2_with fail
    go_wp2_with fail
    (with_reducible refine (Tryz.Builder_String_any_k (w.heap.size+1) (w.heap.size+1) _ wr (Lib.IsBuilderF.of HWR.out.bu) (Nat.le_of_lt (lP HWR.out.bu))).mono ?_);rintro e w9 ⟨rfl,_,hb9,hk9⟩;have hbf:Below w.heap.size w w9:=HV.out.below.trans (hb9.mono (Nat.le_succ _));have hmk:∀ D∈ds,w.heap.size≤D∧w9.heap[D]? = some (.deferred (some [])):=fun D hD=>⟨(HV.out.marks D hD).1,hk9 D _ (HV.out.marks D hD).2 (fun e=>by
     have h1:=(HV.out.marks D hD).2;obtain rfl:=Option.some.inj e;rcases HWR.out.bu with⟨_,v,h2,_⟩|⟨_,v,h2,_⟩<;>· rw[h2] at h1;cases h1) (fun c fz e=>by cases e)⟩
    have HBF:=Hh hbf;have HMK:=Hh hmk;clear hbf hmk hb9 hk9;go_wp2_with fail
    refine pK w.heap.size ds w9 HBF.out.size HMK.out HV.out.nodup (fun w' hk hb=>?_);refine⟨.string ⟨(eD aCs R).toArray⟩,?_,rfl,HBF.out.trans hb⟩;simp[results,Tryz.f31,go_sem]
end Go.Proofs.YtoigglljnklhlaaGreatDoor
