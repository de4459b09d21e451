/- Joined. -/
import Derived.Test.YtoigglljnklhlaaGreatDoorD30
set_option maxHeartbeats 8000000
set_option maxRecDepth 100000
namespace Go.Proofs.YtoigglljnklhlaaGreatDoor
open Go.RowKit Go.Sort
def lnG (tx:Nat→It→ByteArray) (a:Nat) (x:It):List UInt8:=[9]++(tx a x).data.toList++[10]
def mJ (tx:Nat→It→ByteArray) (l:List (Nat × It)):List UInt8:=l.flatMap fun p=>lnG tx p.1 p.2
def Gg (tx:Nat→It→ByteArray) (r:Rn):List UInt8:=tS r.1++mJ tx (iT r.1 (dI r.2))
def eD (tx:Nat→It→ByteArray) (R:List Rn):List UInt8:=R.flatMap (Gg tx)
theorem xI {tx:Nat→It→ByteArray} {R:List Rn} {j:Nat} {r:Rn} (h:R[j]? = some r):eD tx (R.take (j+1))=eD tx (R.take j)++Gg tx r:=by rw[List.take_add_one,h];simp[eD]
theorem Hp (tx:Nat→It→ByteArray) (l:List (Nat × It)) (p:Nat × It):mJ tx (l++[p])=mJ tx l++lnG tx p.1 p.2:=by simp[mJ]
theorem Eu (tx:Nat→It→ByteArray) (a:Nat) (x:It):(lnG tx a x).length=(tx a x).size+2:=by
 unfold lnG;rw[List.length_append,List.length_append,Array.length_toList];show 1+(tx a x).size+1=_
 omega
def TxS (tx:Nat→It→ByteArray):Prop:=∀ a x,Am x→(tx a x).size≤20030+x.raw.length*10
theorem zA {tx:Nat→It→ByteArray} (ht:TxS tx):∀ (l:List (Nat × It)),(∀ p∈l,Am p.2)→(mJ tx l).length≤l.length*20032+dJ (l.map Prod.snd)*10
 | [],_=>by simp[mJ]
 | p::l,h=>by
   have h1:=ht p.1 p.2 (h p (List.mem_cons_self ..));have h2:=zA ht l fun y hy=>h y (List.mem_cons_of_mem _ hy);have h3:=Eu tx p.1 p.2;unfold mJ at h2 ⊢;rw[List.flatMap_cons,List.length_append,List.length_cons,List.map_cons,jP,Nat.succ_mul,Nat.add_mul];omega
theorem vQ:∀ (a:Nat) (l:List It) (p:Nat × It),p∈iT a l→p.2∈l
 | _,[],_,h=>by simp[iT] at h
 | a,x::l,p,h=>by
   rw[iT] at h;rcases List.mem_cons.1 h with rfl|h
   · exact List.mem_cons_self ..
   · exact List.mem_cons_of_mem _ (vQ _ l p h)
theorem Md {tx:Nat→It→ByteArray} (ht:TxS tx) (r:Rn) (hr:r.2.length≤60000) (hn:(aX (r.1:Int)).size≤1000):(Gg tx r).length≤1300000000:=by
 have hrn:dJ (dI r.2)=r.2.length:=jO r.2;have h1:=zA ht (iT r.1 (dI r.2)) (fun p hp=>xA _ _ p.2 (vQ _ _ p hp));have h2:=kK r.2;rw[vR,pX,hrn] at h1;unfold Gg tS;rw[List.length_append,List.length_append,List.length_append,Array.length_toList];show 5+(aX (r.1:Int)).size+1+_≤_
 have:(dI r.2).length*20032≤60000*20032:=Nat.mul_le_mul_right _ om
 omega
theorem rH {tx:Nat→It→ByteArray}:∀ (R:List Rn),(∀ r∈R,(Gg tx r).length≤1300000000)→(eD tx R).length≤R.length*1300000000
 | [],_=>by simp[eD]
 | r::R,h=>by
   have h1:=h r (List.mem_cons_self ..);have h2:=rH R fun y hy=>h y (List.mem_cons_of_mem _ hy);unfold eD at h2 ⊢;rw[List.flatMap_cons,List.length_append,List.length_cons,Nat.succ_mul];omega
end Go.Proofs.YtoigglljnklhlaaGreatDoor
namespace Go.Proofs.YtoigglljnklhlaaGreatDoor
open Go.RowKit Go.Sort Go.Shelf
abbrev mkD (D:Nat):Deferred:={ target:=.collected D,args:=#[] }
theorem pK {F:Fence} {n:Nat} {P:Program} {fn:Func} {tmps:Array Value} {R:Ending→World→Prop} (B:Nat):∀ (ds:List Nat) (w:World),B≤w.heap.size→(∀ D∈ds,B≤D∧w.heap[D]? = some (.deferred (some [])))→ds.Nodup →
 (∀ w',fV 0 w w'→Below B w w'→LeavesInM F n P fn tmps R [] .returning w')→LeavesInM F n P fn tmps R (ds.map mkD) .returning w
 | [],w,hB,_,_,h=>h w ⟨Nat.le_refl _,fun _ _ _ h _=>h⟩ br
 | D::ds,w,hB,hd,hn,h=>by
   obtain⟨h1,h2⟩:=hd D (List.mem_cons_self ..);have hk:=cC (b:=0) w D _ (.deferred none) h2 rfl;have hb:Below B w (w.putObj D (.deferred none)):=(Below.refl B w).grown (grownBy_putObj' w D _) (by have:=aA h2;omega) (fun k e=>by cases e;exact h1);have hnd:=List.nodup_cons.1 hn;refine⟨by simp,.inl ⟨D,w.putObj D (.deferred none),rfl,run_takeDeferred h2,?_⟩⟩
   refine pK B ds _ (Nat.le_trans hB hb.size) (fun E hE=>⟨(hd E (List.mem_cons_of_mem _ hE)).1,?_⟩) hnd.2 (fun w' k1 k2=>h w' (wM hk k1) (hb.trans k2));exact (World.putObj_heap_other (fun e:E=D=>hnd.1 (by rw[←e];exact hE))).trans (hd E (List.mem_cons_of_mem _ hE)).2
end Go.Proofs.YtoigglljnklhlaaGreatDoor
namespace Go.Proofs.YtoigglljnklhlaaGreatDoor
open Go.RowKit Go.Sort
theorem xM (s:ByteArray):(cH s).size=s.size:=by
 show (cH s).data.size=s.data.size
 simp[cH]
theorem nD (n:Int):(aX n).size≤6:=by
 have h4:=gM 4 n.toNat;have hu:(cH ⟨(bL 4 n.toNat).toArray⟩++(⟨#[72]⟩:ByteArray)).size≤5:=by
  rw[ByteArray.size_append,xM];show (bL 4 n.toNat).toArray.size+1≤_
  rw[List.size_toArray];omega
 unfold aX;split
 · show 0≤_;omega
 · split
   · show 1≤_;omega
   · split
     · rw[ByteArray.size_append];show 1+_≤_;omega
     · omega
end Go.Proofs.YtoigglljnklhlaaGreatDoor
namespace Go.Proofs.YtoigglljnklhlaaGreatDoor
open Go.RowKit Go.Sort Go.Shelf
theorem aJt {B b:Nat} {bs:List Value} {W W':World} (h:IsB B b bs W) (hk:fV 0 W W'):IsB B b bs W':=by
 rcases h with⟨h1,v,h2,h3,h4⟩|⟨h1,v,h2,h3,h4⟩
 · exact .inl ⟨h1,v,hk.2 _ _ (Nat.zero_le _) h2 rfl,lD h3 (gK hk) (Nat.zero_le _),h4⟩
 · exact .inr ⟨h1,v,hk.2 _ _ (Nat.zero_le _) h2 rfl,lD h3 (gK hk) (Nat.zero_le _),h4⟩
theorem Lx {B b:Nat} {bs:List Value} {W W':World} (h:IsB B b bs W) (hk:fV 0 W W') (k:Nat) (hs:SB b W' k):SB b W k:=by
 rcases h with⟨_,v,h2,_⟩|⟨_,v,h2,_⟩<;>exact (fY h2 k).2 ((fY (hk.2 _ _ (Nat.zero_le _) h2 rfl) k).1 hs)
theorem WrI.keepC {b n1:Nat} {w2 W W':World} {t:List UInt8} (h:WrI b n1 w2 t W) (hk:fV 0 W W'):WrI b n1 w2 t W' :=
 ⟨aJt h.bu hk,fun k hs=>h.buf k (Lx h.bu hk k hs),fun k o h1 ho hc=>hk.2 k o (Nat.zero_le _) (h.kept k o h1 ho hc) hc,Nat.le_trans h.size hk.1⟩
structure WvInv (tx:Nat→It→ByteArray) (F B n1:Nat) (w w2:World) (R:List Rn) (j:Nat) (ds:List Nat) (W:World):Prop where
 wr:WrI (B+1) n1 w2 (eD tx (R.take j)) W
 st:W.heap[B]? = some (.cells #[.func (.func F) #[] #[]] 71 (0,0))
 marks:∀ D∈ds,B≤D∧W.heap[D]? = some (.deferred (some []))
 nodup:ds.Nodup
 below:Below B w W
theorem WvInv.below' {tx:Nat→It→ByteArray} {F B n1:Nat} {w w2:World} {R:List Rn} {j:Nat} {ds:List Nat} {W W':World} (h:WvInv tx F B n1 w w2 R j ds W) (hb:Below W.heap.size W W'):WvInv tx F B n1 w w2 R j ds W' :=
 ⟨h.wr.below hb,aB h.st hb (aA h.st),fun D hD=>⟨(h.marks D hD).1,aB (h.marks D hD).2 hb (aA (h.marks D hD).2)⟩,h.nodup,h.below.trans (hb.mono (Nat.le_of_lt (aA h.st)))⟩
theorem Jq {b n1 D:Nat} {w2 W:World} {t:List UInt8} {o:Obj} (h:WrI b n1 w2 t W) (ho:W.heap[D]? = some o) (hc:o.isCells=false):¬ SB b W D:=fun hs=>by
 obtain⟨o',h1,h2⟩:=xU h.bu D hs;rw[ho] at h1;cases h1;rw[hc] at h2;cases h2
structure aBF (F B:Nat) (w:World) (ds:List Nat) (W:World):Prop where
 st:W.heap[B]? = some (.cells #[.func (.func F) #[] #[]] 71 (0,0))
 marks:∀ D∈ds,B≤D∧W.heap[D]? = some (.deferred (some []))
 below:Below B w W
theorem WvInv.kpA {tx:Nat→It→ByteArray} {F B n1:Nat} {w w2:World} {R:List Rn} {j:Nat} {ds:List Nat} {W W':World} (h:WvInv tx F B n1 w w2 R j ds W) (_hB:B+1<n1) (hn:B<w2.heap.size) (hk:KpA (SB (B+1)) W W') (hb:Below B W W'):aBF F B w ds W' :=
 ⟨hk.2.1 _ _ h.st (fun hs=>by rcases h.wr.buf B hs with h1|h1<;>omega),fun D hD=>⟨(h.marks D hD).1,hk.2.1 _ _ (h.marks D hD).2 (Jq h.wr (h.marks D hD).2 rfl)⟩,h.below.trans hb⟩
structure WvIn (tx:Nat→It→ByteArray) (F B n1:Nat) (w w2:World) (t0:List UInt8) (pre:List AdX) (ds:List Nat) (top:Nat) (W:World):Prop where
 wr:WrI (B+1) n1 w2 (t0++mJ tx (pre.map fun x=>(x.1,x.2.1))) W
 st:W.heap[B]? = some (.cells #[.func (.func F) #[] #[]] 71 (0,0))
 marks:∀ D∈ds,B≤D∧D<top∧W.heap[D]? = some (.deferred (some []))
 below:Below B w W
 small:(mJ tx (pre.map fun x=>(x.1,x.2.1))).length≤pre.length*2000000
 top:top≤W.heap.size
theorem WvIn.keepC {tx:Nat→It→ByteArray} {F B n1:Nat} {w w2:World} {t0:List UInt8} {pre:List AdX} {ds:List Nat} {top:Nat} {W W':World} (h:WvIn tx F B n1 w w2 t0 pre ds top W) (hk:fV 0 W W') (hm:∀ D∈ds,W'.heap[D]? = some (.deferred (some []))) (hb:Below B w W'):WvIn tx F B n1 w w2 t0 pre ds top W' :=
 ⟨h.wr.keepC hk,hk.2 _ _ (Nat.zero_le _) h.st rfl,fun D hD=>⟨(h.marks D hD).1,(h.marks D hD).2.1,hm D hD⟩,hb,h.small,Nat.le_trans h.top hk.1⟩
theorem Ra {tx:Nat→It→ByteArray} {F B n1:Nat} {w w2:World} {t0:List UInt8} {pre:List AdX} {ds:List Nat} {top:Nat} {W W4:World} {a0:Nat} {x:It} {vr va:Value} (hn:B<w2.heap.size) (h:WvIn tx F B n1 w w2 t0 pre ds top W) (hk:KpA (SB (B+1)) W W4)
 (hwr:WrI (B+1) n1 w2 (t0++mJ tx (pre.map fun x=>(x.1,x.2.1))++lnG tx a0 x) W4) (hb:Below B W W4) (hs:(tx a0 x).size≤1900000) :
 KeepsOthers W W4∧KpS (SB (B+1)) W W4∧WvIn tx F B n1 w w2 t0 (pre++[(a0,x,vr,va)]) ds top W4:=by
 have he:mJ tx ((pre++[(a0,x,vr,va)]).map fun x=>(x.1,x.2.1))=mJ tx (pre.map fun x=>(x.1,x.2.1))++lnG tx a0 x:=by
  rw[List.map_append];exact Hp tx _ (a0,x)
 refine⟨Co h.wr.bu hk,Vt hk,by rw[he,←List.append_assoc];exact hwr,hk.2.1 _ _ h.st (fun hs=>by rcases h.wr.buf B hs with h1|h1<;>omega),fun D hD=>⟨(h.marks D hD).1,(h.marks D hD).2.1,hk.2.1 _ _ (h.marks D hD).2.2 (Jq h.wr (h.marks D hD).2.2 rfl)⟩,h.below.trans hb,?_,Nat.le_trans h.top hk.1⟩
 rw[he,List.length_append,Eu,List.length_append,List.length_singleton]
 have:=h.small
 omega
theorem Mw (a:Nat):(tS a).length=5+(aX (a:Int)).size+1:=by
 unfold tS;rw[List.length_append,List.length_append,Array.length_toList];rfl
theorem Fp {tx:Nat→It→ByteArray} (ht:TxS tx) (R:List Rn) (j:Nat) (hR:∀ r∈R,r.2.length≤60000∧r.1<65536) (hl:R.length≤60000):(eD tx (R.take j)).length≤78000000000000:=by
 have h1:=rH (tx:=tx) (R.take j) (fun r hr=>Md ht r (hR r (List.mem_of_mem_take hr)).1 (by have:=nD (r.1:Int);omega))
 have h2:(R.take j).length*1300000000≤60000*1300000000:=Nat.mul_le_mul_right _ (by rw[List.length_take];omega);omega
theorem uF:TxS (fun _ x=>dH x):=fun a x hx=>by
 have:=Cp x hx
 dsimp only;omega
end Go.Proofs.YtoigglljnklhlaaGreatDoor
