/- Joined. -/
import Derived.Test.YtoigglljnklhlaaGreatDoorD43
set_option maxHeartbeats 8000000
set_option maxRecDepth 100000
namespace Go.Proofs.YtoigglljnklhlaaGreatDoor
open Go.RowKit Go.Sort
open Go.Proofs.Tryz
def zZ (c:Cl):List Value:=[.int .i64 c.1,.int .u8 c.2.toNat]
def clc (l:List Cl):List Value:=l.flatMap zZ
theorem kL (l m:List Cl):clc (l++m)=clc l++clc m:=by simp[clc]
theorem fR (l:List Cl):(clc l).length=l.length*2:=iN zZ 2 (fun _=>rfl) l
theorem Row.cls {w:World} {v:Value} {l:List Cl} (h:Row w v l.length (clc l)):∃ a cap,v=.slice a l.length cap∧l.length≤cap∧(l≠[]→∃ g o,a=some ⟨g,o,none⟩∧g<w.heap.size∧∀ i x,l[i]? = some x→w.cell? ⟨g,o+i*2,none⟩=some (.int .i64 x.1)∧w.cell? ⟨g,o+i*2+1,none⟩=some (.int .u8 x.2.toNat)):=by
 obtain⟨a,cap,hv,hn,hh⟩:=h.structs zZ 2 (fun _=>rfl) dc;refine⟨a,cap,hv,hn,fun hl=>?_⟩;obtain⟨g,o,ha,hg,hc⟩:=hh hl;exact⟨g,o,ha,hg,fun i x hx=>⟨hc i x hx 0 dc,hc i x hx 1 dc⟩⟩
theorem Cz (C:List Cl) (v:Value) (a:Nat) (w:World) (hv:Row w v C.length (clc C)) (hl:C.length≤100000):Calls prog 46 #[v,.int .i64 a] w fun e w'=>e=.returned (.int .i64 ((gE C a).length:Nat))∧w=w':=by
 obtain⟨av,cv,rfl,hcap,hh⟩:=hv.cls;have HH:=Hh hh;clear hv hh;go_enter func46,ntmps46
 go_wp2_with fail
 go_loopw [5] (fun i wr=>wr=w∧∃ j:Nat,j≤C.length∧i=.int .i64 j∧Hid (j≤(gE C a).length)) (fun i _=>C.length - (intOf i).toNat)
 case atStart=>exact⟨rfl,0,Nat.zero_le _,rfl,Hh (Nat.zero_le _)⟩
 case round =>
  obtain⟨rfl,j,hj,rfl,HL⟩:=hrel;by_cases hlt:j<C.length
  · obtain⟨c,hc⟩:∃ c,C[j]? = some c:=⟨_,List.getElem?_eq_getElem hlt⟩;obtain⟨g,o,rfl,hg,hcs⟩:=HH.out (by rintro rfl;exact absurd hlt (Nat.not_lt_zero _))
    obtain⟨k0,_⟩:=hcs j c hc;have HC:=Hh hc;have hi0:(0:Int)≤(j:Int):=om
    have hi1:(j:Int)<(C.length:Int):=om
    clear hcs hc;by_cases hca:c.1<a
    · have hca1:(c.1:Int)<(a:Int):=om
      go_wp2_with fail
      go_roundw
      case rel=>exact⟨trivial,j+1,om,by go_num,Hh (Np HL.out HC.out hca)⟩
      case measure=>simp[intOf];omega
    · have hca1:¬ (c.1:Int)<(a:Int):=om
      go_wp2_with fail
      go_ret
      have:=yU HL.out (fun d hd=>by rw[HC.out] at hd;cases hd;omega)
      exact⟨by rw[←this];rfl,rfl⟩
  · obtain rfl:j=C.length:=om
    have hi1:¬ (C.length:Int)<(C.length:Int):=om
    go_wp2_with fail
    go_ret
    have:=yU HL.out (fun d hd=>by rw[List.getElem?_eq_none lr] at hd;cases hd)
    exact⟨by rw[←this];rfl,rfl⟩
theorem Gx (a:Nat) (l:List UInt8) (x:UInt8):bT a (l++[x])=bT a l++[(a+l.length,x)]:=by simp[bT,List.zipIdx_append]
theorem Tryz.infoCell:(prog.info? 63).map (fun i=>(i.zero,i.size,i.bytes))=some (some (.agg #[.int .i64 0,.int .u8 0]),2,16):=by kernel_rfl
theorem aAA {x:Int} {y:Int}:∀ u∈[Value.int .i64 x,.int .u8 y],u.oneCell'=true:=fun u hu=>by
 simp at hu
 rcases hu with rfl|rfl<;>rfl
theorem Fv (W:World) (x0 x1:Value) (T:TypeId):∀ (j:Nat) (u:Value),[x0,x1][j]? = some u→(W.alloc (.cells #[x0,x1] T)).cell? ((⟨W.heap.size,0,none⟩:Addr).add j)=some u:=fun j u hu=>by
 rw[bD,Nat.zero_add,aC (aF _ _)];simpa using hu
theorem Wz {w:World} {g o i n c:Nat} {C:List Cl} (hc:∀ k x,C[k]? = some x→w.cell? ⟨g,o+k*2,none⟩=some (.int .i64 x.1)∧w.cell? ⟨g,o+k*2+1,none⟩=some (.int .u8 x.2.toNat)) (L:List Cl) (hL:∀ k x,L[k]? = some x→C[i+k]? = some x) (_hn:n=L.length) :
 eR w (.slice (some ⟨g,o+i*2,none⟩) n c) n (clc L):=by
 refine .inr ⟨_,_,rfl,fun j u hu=>?_⟩;have hj:=(List.getElem?_eq_some_iff.1 hu).1;rw[fR] at hj;obtain⟨x,hx⟩:∃ x,L[j/2]? = some x:=⟨_,List.getElem?_eq_getElem om⟩;obtain⟨h1,h2⟩:=hc _ x (hL _ x hx);have hf:=oJ zZ 2 (fun _=>rfl) L (j/2) x hx (j%2) (Nat.mod_lt _ dc);rw[show j/2*2+j%2=j by omega] at hf
 rw[bD];have hu2:(zZ x)[j%2]? = some u:=by rw[←hf];exact hu
 rcases (by omega:j%2=0∨j%2=1) with h|h
 · rw[h] at hu2;simp[zZ] at hu2
   subst hu2;rw[show o+i*2+j=o+(i+j/2)*2 by omega]
   exact h1
 · rw[h] at hu2;simp[zZ] at hu2
   subst hu2;rw[show o+i*2+j=o+(i+j/2)*2+1 by omega]
   exact h2
theorem oR {l:List Cl} {u:Value} (h:u∈clc l):u.oneCell'=true:=by
 unfold clc at h;obtain⟨x,_,h⟩:=List.mem_flatMap.1 h;simp[zZ] at h
 rcases h with rfl|rfl<;>rfl
theorem qV {w:World} {b n:Nat} {T:TypeId} {v:Value} {xs:List Value} (h:w.ownsRow b T 2 v n xs):eR w v n xs:=by
 obtain⟨h1,h2⟩:=h;rcases h2 with⟨rfl,rfl⟩|⟨g,cap,cur,rfl,hg,hh,hn,hc,hs,rfl⟩
 · exact .inl ⟨rfl,rfl⟩
 · refine .inr ⟨_,_,rfl,fun j u hu=>?_⟩;rw[bD,Nat.zero_add];have hj:=(List.getElem?_eq_some_iff.1 hu).1;simp only[World.cell?,hh];rw[h1] at hj;rw[List.getElem?_take_of_lt hj,Array.getElem?_toList] at hu;exact hu
def aBH (b0:Nat) (C:List Cl) (w:World) (e:Ending) (w':World):Prop:=∃ v' k,e=.returned (.tuple #[v',.int .i64 k])∧w'.ownsRow b0 63 2 v' C.length (clc C)∧(C=[]→v'=.slice none 0 0)∧Below w.heap.size w w'
theorem aDN {p:Prop} (h:p:=by
 obtain⟨y,hy⟩:∃ y,bs[k]? = some y:=⟨_,List.getElem?_eq_getElem hkl⟩;obtain⟨gb,ob,hab,hgb,hbcs⟩:=HBH.out;have cy:=(HB.out.cell (p:=⟨gb,ob+k,none⟩) hgb).trans (hbcs k y hy);have hsn:bT a (bs.take (k+1))=bT a (bs.take k)++[(a+k,y)]:=by
  rw[List.take_add_one,hy];show bT a (bs.take k++[y])=_
  rw[Gx,List.length_take,Nat.min_eq_left om]
 have HSN:=Hh hsn;subst hab;have hk0:(0:Int)≤(k:Int):=om
 have hk1:(k:Int)<(bs.length:Int):=om
 have hk2:(0:Int)≤(a:Int)+(k:Int):=om
 have hk3:(a:Int)+(k:Int)≤100000:=om
 have hgw:gb<wr.heap.size:=Nat.lt_of_lt_of_le hgb HB.out.size;have hsz:=HB.out.size;clear hsn hy hbcs;go_wp2_with (at_builtin;refine wpList_append_own _ rfl _ _ 24 rfl w.heap.size 63 i0 (.agg #[.int .i64 0,.int .u8 0]) 2 16 underlying24 hin hzz0 hzz1 hzz2 rfl dc _ _ _ rfl (HO.out.alloc _) ⟨wr.heap.size,0,none⟩ 1 1 [.int .i64 ((a:Int)+(k:Int)),.int .u8 y.toNat] rfl rfl (Fv _ _ _ _) aAA (by unfold maxLen;omega) om (by simp;omega) ?_)
 intro v' w4 hown' hg4 _;obtain⟨g',cap',rfl⟩:=ownsRow_succ hown';have hb4:Below w.heap.size w w4:=(HB.out.alloc hsz (.cells #[.int .i64 ((a:Int)+(k:Int)),.int .u8 y.toNat] 63)).grown hg4 (by rw[World.size_alloc];omega) (fun q hq=>(HO.out.lt q hq).1);have HO4:=Hh hown';have HB4:=Hh hb4;clear hown' hg4 hb4 cy;go_wp2_with fail
 go_roundw
 case rel=>exact⟨k+1,om,by go_num,Hh (by rw[HSN.out,kL];exact HO4.out),HB4⟩
 case measure=>simp[intOf];omega):p:=h
theorem aFa {p:Prop} (h:p:=by
 have:=Wz (w:=B1) (g:=g) (o:=o) (i:=0) (n:=i) (c:=cv) (C:=C) (fun k x hx=>⟨(hwb.cell (p:=⟨g,o+k*2,none⟩) hg).trans (HCS.out k x hx).1,(hwb.cell (p:=⟨g,o+k*2+1,none⟩) hg).trans (HCS.out k x hx).2⟩) (C.take i) (fun k x hx=>by rw[Nat.zero_add];have hk:=(List.getElem?_eq_some_iff.1 hx).1;rw[List.length_take] at hk;rw[List.getElem?_take_of_lt om] at hx;exact hx) (by rw[List.length_take];omega)
 simpa using this):p:=h
theorem aEZ {p:Prop} (h:p:=by
 have hb9:Below w.heap.size w w3:=(hwb.grown hg2 hwb.size (fun q hq=>by have:=Option.some.inj hq;omega)).grown hg3 (Nat.le_trans hwb.size hg2.size) (fun q hq=>(ho2.lt q hq).1);exact Wz (fun k x hx=>⟨(hb9.cell (p:=⟨g,o+k*2,none⟩) hg).trans (HCS.out k x hx).1,(hb9.cell (p:=⟨g,o+k*2+1,none⟩) hg).trans (HCS.out k x hx).2⟩) (C.drop i) (fun k x hx=>by rw[List.getElem?_drop] at hx;exact hx) (by rw[List.length_drop])):p:=h
theorem aEY {p:Prop} (h:p:=by
 rw[List.length_append,List.length_append,eE,List.length_take,List.length_drop];have:=HI.out;omega):p:=h
theorem Gk (C:List Cl) (hC:Asc C) (v:Value) (addr:Int) (bs:List UInt8) (vb:Value) (b0:Nat) (w:World) (hv:w.ownsRow b0 63 2 v C.length (clc C)) (hnil:C=[]→v=.slice none 0 0) (hb0:b0≤w.heap.size) (hb:Row w vb bs.length (aT bs)) (hl:C.length≤60000) (hbl:bs.length≤5000) :
 Calls prog 24 #[v,.int .i64 addr,vb] w (aBH b0 (fZ C addr bs) w):=by
 have HV:=Hh hv;have HNIL:=Hh hnil;clear hnil;have HF:=Hh (fun a=>Cz C v a w (Row.of_owns hv) om);obtain⟨av,cv,rfl⟩:=aI hv;obtain⟨ab,cb,rfl,hcb,hbh⟩:=hb.byt;by_cases hlo:addr<0
 · rw[kE (mE om)];clear hv hb hbh hl hbl;go_enter func24,ntmps24
   go_wp2_with fail
   go_ret2;exact⟨_,_,rfl,HV.out,HNIL.out,Below.refl _ _⟩
 obtain⟨a,rfl⟩:=Int.eq_ofNat_of_zero_le (Int.not_lt.1 hlo);by_cases hhi:65535<a
 · rw[kE (mE om)];have h1:(65535:Int)<(a:Int):=om
   have h0:¬ (a:Int)<0:=om
   clear hv hb hbh hl hbl;go_enter func24,ntmps24
   go_wp2_with fail
   go_ret2;exact⟨_,_,rfl,HV.out,HNIL.out,Below.refl _ _⟩
 have h0:¬ (a:Int)<0:=om
 have h1:¬ (65535:Int)<(a:Int):=om
 have h2:(0:Int)≤65536 - (a:Int)∧65536 - (a:Int)≤65536:=om
 obtain⟨h2a,h2b⟩:=h2;by_cases hwr:(bs.length:Int)≤65536 - (a:Int)
 · have h3:¬ 65536 - (a:Int)<(bs.length:Int):=om
   have HF2:=Hh (fun W (h:w=W)=>h ▸ HF.out a);have hlow:(gE C a).length≤C.length:=by have:=congrArg List.length (cE C a);rw[List.length_append] at this;omega
   by_cases hb0n:bs=[]
   · subst hb0n;rw[El];clear hv hb hbh hl hbl;go_enter func24,ntmps24
     go_wp2_with fail
     (with_reducible refine (HF.out a).mono ?_);rintro e w1 ⟨rfl,rfl⟩;go_wp2_with fail
     go_ret2;exact⟨_,_,rfl,HV.out,HNIL.out,Below.refl _ _⟩
   have hbp:0<bs.length:=List.length_pos_iff.2 hb0n;have hz:((bs.length:Int) == 0)=false:=by simp;omega
   obtain⟨i,hi⟩:∃ i,(gE C a).length=i:=⟨_,rfl⟩;have HFI:=Hh (HF.out a);rw[hi] at HFI hlow;have hrow:=(Row.of_owns hv).cls;by_cases hit:∃ c,C[i]? = some c∧c.1<a+bs.length
   · obtain⟨c,hc,hca⟩:=hit;rw[←hi] at hc;rw[kE (Ru hc hca)];rw[hi] at hc;have hlt:=(List.getElem?_eq_some_iff.1 hc).1;obtain⟨_,_,hv1,hcv,hh⟩:=hrow;cases hv1
     obtain⟨g,o,rfl,hg,hcs⟩:=hh (by rintro rfl;exact absurd hlt (Nat.not_lt_zero _))
     obtain⟨k0,_⟩:=hcs i c hc;have hi0:(0:Int)≤(i:Int):=om
     have hi1:(i:Int)<(C.length:Int):=om
     have hi2:(c.1:Int)<(a:Int)+(bs.length:Int):=om
     have hi3:(a:Int)+(bs.length:Int)≤100000:=om
     clear hv hb hbh hl hbl hcs hh HF HF2 hi hc;go_enter func24,ntmps24
     go_wp2_with fail
     (with_reducible refine HFI.out.mono ?_);rintro e w1 ⟨rfl,rfl⟩;go_wp2_with fail
     go_ret2;exact⟨_,_,rfl,HV.out,HNIL.out,Below.refl _ _⟩
   · have hfree:∀ c,C[(gE C a).length]? = some c→a+bs.length≤c.1:=fun c hc=>by
      rw[hi] at hc;rcases Nat.lt_or_ge c.1 (a+bs.length) with h|h
      · exact absurd ⟨c,hc,h⟩ hit
      · exact h
     have hok:=Mn hC (show a<65536 by omega) (show bs.length≤65536 - a by omega) hfree;have hput:fZ C a bs=C.take i++bT a bs++C.drop i:=by rw[Rt hok,←hi,No,Ia]
     rw[hput];have HLEN:=Hh (show (C.take i++bT a bs++C.drop i).length=i+bs.length+(C.length - i) by rw[List.length_append,List.length_append,eE,List.length_take,List.length_drop];omega)
     obtain⟨i0,hin,hzz0,hzz1,hzz2⟩:=info_parts Tryz.infoCell;have hi0:(0:Int)≤(i:Int):=om
     have hi3:(a:Int)+(bs.length:Int)≤100000:=om
     have hi4:(i:Int)≤(C.length:Int):=om
     have HBH:=Hh (hbh hb0n);have HI:=Hh hlow;have hcond:(i<C.length∧∃ c,C[i]? = some c∧a+bs.length≤c.1)∨i=C.length:=by
      rcases Nat.lt_or_ge i C.length with h|h
      · exact .inl ⟨h,_,List.getElem?_eq_getElem h,hfree _ (by rw[hi];exact List.getElem?_eq_getElem h)⟩
      · exact .inr om
     have hbl2:bs.length≤5000:=hbl;have hcl2:C.length≤60000:=hl;clear hv hb hbh hl hbl hfree hok hput hi hit HF HF2 hlow hb0n;rcases hcond with⟨hlt,c,hc,hca⟩|hie
     · obtain⟨_,_,hv1,hcv,hh⟩:=hrow;cases hv1
       obtain⟨g,o,rfl,hg,hcs⟩:=hh (by rintro rfl;exact absurd hlt (Nat.not_lt_zero _))
       obtain⟨k0,_⟩:=hcs i c hc;have hi1:(i:Int)<(C.length:Int):=om
       have hi2:¬ (c.1:Int)<(a:Int)+(bs.length:Int):=om
       have HCS:=Hh hcs;clear hcs hh hc;go_enter func24,ntmps24
       go_wp2_with fail
       (with_reducible refine HFI.out.mono ?_);rintro e w1 ⟨rfl,rfl⟩;go_wp2_with fail
       rw[show decide ((c.1:Int)<(a:Int)+(bs.length:Int))=false from decide_eq_false om]
       go_loopw [9,10] (fun ov kv wr=>∃ k:Nat,k≤bs.length∧kv=.int .i64 k∧Hid (wr.ownsRow w.heap.size 63 2 ov k (clc (bT a (bs.take k))))∧Hid (Below w.heap.size w wr)) (fun _ kv _=>bs.length - (intOf kv).toNat)
       case atStart=>exact⟨0,Nat.zero_le _,rfl,Hh (World.ownsRow_nil _ _ _ _),Hh br⟩
       case round =>
        obtain⟨k,hk,rfl,HO,HB⟩:=hrel;obtain⟨ao,co,rfl⟩:=aI HO.out;by_cases hkl:k<bs.length
        · exact aDN
        · obtain rfl:k=bs.length:=om
          have ho:=HO.out;rw[List.take_length] at ho;have hk1:¬ (bs.length:Int)<(bs.length:Int):=om
          have HO9:=Hh ho;clear ho;have hsz:=HB.out.size;obtain⟨B1,hB1⟩:∃ B1,wr.drew.alloc (.cells #[] 63)=B1:=⟨_,rfl⟩;have hbB:Below wr.heap.size wr B1:=by rw[←hB1];exact (Below.drew br).alloc lr _
          have hwb:=HB.out.trans (hbB.mono hsz);have hs1:eR B1 (.slice (some ⟨g,o,none⟩) i cv) i (clc (C.take i)):=by
           exact aFa
          have hs2:∀ w2,B1.grownBy w2 (some wr.heap.size)→eR w2 (.slice ao bs.length co) bs.length (clc (bT a bs)):=fun w2 hg2=>qV ((bK HO9.out hbB).kept hg2 (by
           rcases HO9.out.2 with⟨h,_⟩|⟨q,_,_,h,_⟩
           · exact .inl (by rw[h];rfl)
           · exact .inr (fun e=>by have:=(HO9.out.lt _ e).2;omega)))
          have hs3:∀ w2 w3 v2 n2 xs2,B1.grownBy w2 (some wr.heap.size)→w2.ownsRow w.heap.size 63 2 v2 n2 xs2→w2.grownBy w3 v2.ownBlock→eR w3 (.slice (some ⟨g,o+i*2,none⟩) (C.length - i) (cv - i)) (C.length - i) (clc (C.drop i)):=fun w2 w3 v2 n2 xs2 hg2 ho2 hg3=>by
           exact aEZ
          have HS1:=Hh hs1;have HS2:=Hh hs2;have HS3:=Hh hs3;have HWB:=Hh hwb;have ho1:B1.ownsRow w.heap.size 63 2 (.slice (some ⟨wr.heap.size,0,none⟩) 0 0) 0 []:=by rw[←hB1];exact iI wr.drew w.heap.size _ 2 hsz
          have HO1:=Hh ho1;have hn1:(clc (C.take i)).length=i*2:=by rw[fR,List.length_take];have:=HI.out;omega
          have hn2:(clc (bT a bs)).length=bs.length*2:=by rw[fR,eE]
          have hn3:(clc (C.drop i)).length=(C.length - i)*2:=by rw[fR,List.length_drop]
          have hne:cv≠i:=om
          have hicv:(i:Int)≤(cv:Int):=om
          have hncv:(C.length:Int)≤(cv:Int):=om
          clear hs1 hs2 hs3 ho1 hwb;go_wp2_with fail
          go_region_law (first
           | (refine aR (by rfl) _ _ 24 (by rfl) w.heap.size 63 i0 (.agg #[.int .i64 0,.int .u8 0]) 2 16 underlying24 hin hzz0 hzz1 hzz2 rfl dc _ 0 [] (by rfl) HO1.out _ i (clc (C.take i)) (by rfl) HS1.out hn1 (fun u hu=>oR hu) (by unfold maxLen;omega) om HWB.out.size ?_;intro v2 w2 hown2 hg2 hnil2)
           | (refine aR (by rfl) _ _ 24 (by rfl) w.heap.size 63 i0 (.agg #[.int .i64 0,.int .u8 0]) 2 16 underlying24 hin hzz0 hzz1 hzz2 rfl dc v2 (0+i) _ (by rfl) hown2 _ bs.length (clc (bT a bs)) (by rfl) (HS2.out w2 hg2) hn2 (fun u hu=>oR hu) (by unfold maxLen;omega) om (Nat.le_trans HWB.out.size hg2.size) ?_;intro v3 w3 hown3 hg3 hnil3)
           | (refine aR (by rfl) _ _ 24 (by rfl) w.heap.size 63 i0 (.agg #[.int .i64 0,.int .u8 0]) 2 16 underlying24 hin hzz0 hzz1 hzz2 rfl dc v3 (0+i+bs.length) _ (by rfl) hown3 _ (C.length - i) (clc (C.drop i)) (by rfl) (HS3.out w2 w3 v2 _ _ hg2 hown2 hg3) hn3 (fun u hu=>oR hu) (by unfold maxLen;omega) om (Nat.le_trans HWB.out.size (Nat.le_trans hg2.size hg3.size)) ?_;intro v4 w4 hown4 hg4 hnil4))
          all_goals
           have hb4:Below w.heap.size w w4:=((HWB.out.grown hg2 HWB.out.size (fun q hq=>by have:=Option.some.inj hq;dsimp only at this;omega)).grown hg3 (Nat.le_trans HWB.out.size hg2.size) (fun q hq=>(hown2.lt q hq).1)).grown hg4 (Nat.le_trans HWB.out.size (Nat.le_trans hg2.size hg3.size)) (fun q hq=>(hown3.lt q hq).1);have hln:0+i+bs.length+(C.length - i)=(C.take i++bT a bs++C.drop i).length:=by
            exact aEY
           have hcl:[]++clc (C.take i)++clc (bT a bs)++clc (C.drop i)=clc (C.take i++bT a bs++C.drop i):=by rw[kL,kL];simp
           rw[hln,hcl] at hown4;have HO4:=Hh (aP hown4 hb0);have HB4:=Hh hb4;clear hb4 hln hcl hown4 hg4 hown3 hg3 hown2 hg2 hnil2 hnil3 hnil4;go_wp2_with fail
           go_ret2;exact⟨v4,_,rfl,HO4.out,fun e=>absurd (congrArg List.length e) (by have:=HLEN.out;simp only[List.length_nil];omega),HB4.out⟩
     · by_cases hCn:C=[]
       · subst hCn;obtain rfl:i=0:=by simpa using hie
         have hz0:av=none∧cv=0:=by have h1:=HNIL.out rfl;injection h1 with h1 h2 h3;exact⟨h1,h3⟩
         obtain⟨rfl,rfl⟩:=hz0;rw[List.take_nil,List.drop_nil,List.nil_append,List.append_nil];clear hie hrow;go_enter func24,ntmps24
         go_wp2_with fail
         refine Calls.mono (show Calls prog 46 #[.slice none 0 0,.int .i64 a] w fun e w'=>e=.returned (.int .i64 (0:Nat))∧w=w' from HFI.out) ?_
         rintro e w1 ⟨rfl,rfl⟩;go_wp2_with fail
         go_loopw [9,10] (fun ov kv wr=>∃ k:Nat,k≤bs.length∧kv=.int .i64 k∧Hid (wr.ownsRow w.heap.size 63 2 ov k (clc (bT a (bs.take k))))∧Hid (Below w.heap.size w wr)) (fun _ kv _=>bs.length - (intOf kv).toNat)
         case atStart=>exact⟨0,Nat.zero_le _,rfl,Hh (World.ownsRow_nil _ _ _ _),Hh br⟩
         case round =>
          obtain⟨k,hk,rfl,HO,HB⟩:=hrel;obtain⟨ao,co,rfl⟩:=aI HO.out;by_cases hkl:k<bs.length
          · exact aDN
          · obtain rfl:k=bs.length:=om
            have ho:=HO.out;rw[List.take_length] at ho;have hk1:¬ (bs.length:Int)<(bs.length:Int):=om
            have HO9:=Hh ho;clear ho;have hsz:=HB.out.size;obtain⟨B1,hB1⟩:∃ B1,wr.drew.alloc (.cells #[] 63)=B1:=⟨_,rfl⟩;have hbB:Below wr.heap.size wr B1:=by rw[←hB1];exact (Below.drew br).alloc lr _
            have hwb:=HB.out.trans (hbB.mono hsz);have hs1:eR B1 (.slice none 0 0) 0 []:=.inl ⟨rfl,rfl⟩;have hnz:([]:List Value).length=0*2:=rfl;have hs2:∀ w2,B1.grownBy w2 (some wr.heap.size)→eR w2 (.slice ao bs.length co) bs.length (clc (bT a bs)):=fun w2 hg2=>qV ((bK HO9.out hbB).kept hg2 (by
             rcases HO9.out.2 with⟨h,_⟩|⟨q,_,_,h,_⟩
             · exact .inl (by rw[h];rfl)
             · exact .inr (fun e=>by have:=(HO9.out.lt _ e).2;omega)))
            have hs3:∀ w3,eR w3 (.slice none 0 0) 0 []:=fun w3=>.inl ⟨rfl,rfl⟩;have HS1:=Hh hs1;have HS2:=Hh hs2;have HS3:=Hh hs3;have HWB:=Hh hwb;have ho1:B1.ownsRow w.heap.size 63 2 (.slice (some ⟨wr.heap.size,0,none⟩) 0 0) 0 []:=by rw[←hB1];exact iI wr.drew w.heap.size _ 2 hsz
            have HO1:=Hh ho1;have hn2:(clc (bT a bs)).length=bs.length*2:=by rw[fR,eE]
            clear hs1 hs2 hs3 ho1 hwb;go_wp2_with fail
            go_region_law (first
             | (refine aR (by rfl) _ _ 24 (by rfl) w.heap.size 63 i0 (.agg #[.int .i64 0,.int .u8 0]) 2 16 underlying24 hin hzz0 hzz1 hzz2 rfl dc _ 0 [] (by rfl) HO1.out _ 0 [] (by rfl) HS1.out hnz (fun u hu=>absurd hu List.not_mem_nil) (by unfold maxLen;omega) om HWB.out.size ?_;intro v2 w2 hown2 hg2 hnil2)
             | (refine aR (by rfl) _ _ 24 (by rfl) w.heap.size 63 i0 (.agg #[.int .i64 0,.int .u8 0]) 2 16 underlying24 hin hzz0 hzz1 hzz2 rfl dc v2 (0+0) _ (by rfl) hown2 _ bs.length (clc (bT a bs)) (by rfl) (HS2.out w2 hg2) hn2 (fun u hu=>oR hu) (by unfold maxLen;omega) om (Nat.le_trans HWB.out.size hg2.size) ?_;intro v3 w3 hown3 hg3 hnil3)
             | (refine aR (by rfl) _ _ 24 (by rfl) w.heap.size 63 i0 (.agg #[.int .i64 0,.int .u8 0]) 2 16 underlying24 hin hzz0 hzz1 hzz2 rfl dc v3 (0+0+bs.length) _ (by rfl) hown3 _ 0 [] (by rfl) (HS3.out w3) hnz (fun u hu=>absurd hu List.not_mem_nil) (by unfold maxLen;omega) om (Nat.le_trans HWB.out.size (Nat.le_trans hg2.size hg3.size)) ?_;intro v4 w4 hown4 hg4 hnil4))
            all_goals
             have hb4:Below w.heap.size w w4:=((HWB.out.grown hg2 HWB.out.size (fun q hq=>by have:=Option.some.inj hq;dsimp only at this;omega)).grown hg3 (Nat.le_trans HWB.out.size hg2.size) (fun q hq=>(hown2.lt q hq).1)).grown hg4 (Nat.le_trans HWB.out.size (Nat.le_trans hg2.size hg3.size)) (fun q hq=>(hown3.lt q hq).1);have hln:0+0+bs.length+0=(bT a bs).length:=by rw[eE];omega
             have hcl:[]++[]++clc (bT a bs)++[]=clc (bT a bs):=by simp
             rw[hln,hcl] at hown4;have HO4:=Hh (aP hown4 hb0);have HB4:=Hh hb4;clear hb4 hln hcl hown4 hg4 hown3 hg3 hown2 hg2 hnil2 hnil3 hnil4;go_wp2_with fail
             go_ret2;exact⟨v4,_,rfl,HO4.out,fun e=>absurd (congrArg List.length e) (by rw[eE];simp only[List.length_nil];omega),HB4.out⟩
       · obtain⟨_,_,hv1,hcv,hh⟩:=hrow;cases hv1
         obtain⟨g,o,rfl,hg,hcs⟩:=hh hCn;have hi1:¬ (i:Int)<(C.length:Int):=om
         have HCS:=Hh hcs;have hic:i=C.length:=hie;have HIE:=Hh hie;have hlt:i≤C.length:=om
         clear hcs hh hie;by_cases hci:cv=i
         · have hdz:C.drop cv=[]:=List.drop_eq_nil_of_le om;have HDZ:=Hh hdz;have HIC:=Hh hic;subst hci;clear hic hdz;go_enter func24,ntmps24
           go_wp2_with fail
           (with_reducible refine HFI.out.mono ?_);rintro e w1 ⟨rfl,rfl⟩;go_wp2_with fail
           go_loopw [9,10] (fun ov kv wr=>∃ k:Nat,k≤bs.length∧kv=.int .i64 k∧Hid (wr.ownsRow w.heap.size 63 2 ov k (clc (bT a (bs.take k))))∧Hid (Below w.heap.size w wr)) (fun _ kv _=>bs.length - (intOf kv).toNat)
           case atStart=>exact⟨0,Nat.zero_le _,rfl,Hh (World.ownsRow_nil _ _ _ _),Hh br⟩
           case round =>
            obtain⟨k,hk,rfl,HO,HB⟩:=hrel;obtain⟨ao,co,rfl⟩:=aI HO.out;by_cases hkl:k<bs.length
            · exact aDN
            · obtain rfl:k=bs.length:=om
              have ho:=HO.out;rw[List.take_length] at ho;have hk1:¬ (bs.length:Int)<(bs.length:Int):=om
              have HO9:=Hh ho;clear ho;have hsz:=HB.out.size;obtain⟨B1,hB1⟩:∃ B1,wr.drew.alloc (.cells #[] 63)=B1:=⟨_,rfl⟩;have hbB:Below wr.heap.size wr B1:=by rw[←hB1];exact (Below.drew br).alloc lr _
              have hwb:=HB.out.trans (hbB.mono hsz);have hs1:eR B1 (.slice (some ⟨g,o,none⟩) cv cv) cv (clc (C.take cv)):=by
               have:=Wz (w:=B1) (g:=g) (o:=o) (i:=0) (n:=cv) (c:=cv) (C:=C) (fun k x hx=>⟨(hwb.cell (p:=⟨g,o+k*2,none⟩) hg).trans (HCS.out k x hx).1,(hwb.cell (p:=⟨g,o+k*2+1,none⟩) hg).trans (HCS.out k x hx).2⟩) (C.take cv) (fun k x hx=>by rw[Nat.zero_add];have hk:=(List.getElem?_eq_some_iff.1 hx).1;rw[List.length_take] at hk;rw[List.getElem?_take_of_lt om] at hx;exact hx) (by rw[List.length_take];omega)
               simpa using this
              have hs2:∀ w2,B1.grownBy w2 (some wr.heap.size)→eR w2 (.slice ao bs.length co) bs.length (clc (bT a bs)):=fun w2 hg2=>qV ((bK HO9.out hbB).kept hg2 (by
               rcases HO9.out.2 with⟨h,_⟩|⟨q,_,_,h,_⟩
               · exact .inl (by rw[h];rfl)
               · exact .inr (fun e=>by have:=(HO9.out.lt _ e).2;omega)))
              have hs3:∀ w3,eR w3 (.slice (some ⟨g,o,none⟩) 0 0) 0 []:=fun w3=>.inr ⟨_,_,rfl,fun j u hu=>by simp at hu⟩
              have hn3z:([]:List Value).length=0*2:=rfl;have HS1:=Hh hs1;have HS2:=Hh hs2;have HS3:=Hh hs3;have HWB:=Hh hwb;have ho1:B1.ownsRow w.heap.size 63 2 (.slice (some ⟨wr.heap.size,0,none⟩) 0 0) 0 []:=by rw[←hB1];exact iI wr.drew w.heap.size _ 2 hsz
              have HO1:=Hh ho1;have hn1:(clc (C.take cv)).length=cv*2:=by rw[fR,List.length_take];have:=HI.out;omega
              have hn2:(clc (bT a bs)).length=bs.length*2:=by rw[fR,eE]
              have hn3:(clc (C.drop cv)).length=(C.length - cv)*2:=by rw[fR,List.length_drop]
              have hicv:(cv:Int)≤(cv:Int):=om
              have hncv:(C.length:Int)≤(cv:Int):=om
              clear hs1 hs2 hs3 ho1 hwb;go_wp2_with fail
              go_region_law (first
               | (refine aR (by rfl) _ _ 24 (by rfl) w.heap.size 63 i0 (.agg #[.int .i64 0,.int .u8 0]) 2 16 underlying24 hin hzz0 hzz1 hzz2 rfl dc _ 0 [] (by rfl) HO1.out _ cv (clc (C.take cv)) (by rfl) HS1.out hn1 (fun u hu=>oR hu) (by unfold maxLen;omega) om HWB.out.size ?_;intro v2 w2 hown2 hg2 hnil2)
               | (refine aR (by rfl) _ _ 24 (by rfl) w.heap.size 63 i0 (.agg #[.int .i64 0,.int .u8 0]) 2 16 underlying24 hin hzz0 hzz1 hzz2 rfl dc v2 (0+cv) _ (by rfl) hown2 _ bs.length (clc (bT a bs)) (by rfl) (HS2.out w2 hg2) hn2 (fun u hu=>oR hu) (by unfold maxLen;omega) om (Nat.le_trans HWB.out.size hg2.size) ?_;intro v3 w3 hown3 hg3 hnil3)
               | (refine aR (by rfl) _ _ 24 (by rfl) w.heap.size 63 i0 (.agg #[.int .i64 0,.int .u8 0]) 2 16 underlying24 hin hzz0 hzz1 hzz2 rfl dc v3 (0+cv+bs.length) _ (by rfl) hown3 _ 0 [] (by rfl) (HS3.out w3) hn3z (fun u hu=>absurd hu List.not_mem_nil) (by unfold maxLen;omega) om (Nat.le_trans HWB.out.size (Nat.le_trans hg2.size hg3.size)) ?_;intro v4 w4 hown4 hg4 hnil4))
              all_goals
               have hb4:Below w.heap.size w w4:=((HWB.out.grown hg2 HWB.out.size (fun q hq=>by have:=Option.some.inj hq;dsimp only at this;omega)).grown hg3 (Nat.le_trans HWB.out.size hg2.size) (fun q hq=>(hown2.lt q hq).1)).grown hg4 (Nat.le_trans HWB.out.size (Nat.le_trans hg2.size hg3.size)) (fun q hq=>(hown3.lt q hq).1);have hln:0+cv+bs.length+0=(C.take cv++bT a bs++C.drop cv).length:=by
                rw[List.length_append,List.length_append,eE,List.length_take,List.length_drop];have:=HI.out;have:=HIC.out;omega
               have hcl:[]++clc (C.take cv)++clc (bT a bs)++[]=clc (C.take cv++bT a bs++C.drop cv):=by rw[kL,kL,HDZ.out];simp[clc]
               rw[hln,hcl] at hown4;have HO4:=Hh (aP hown4 hb0);have HB4:=Hh hb4;clear hb4 hln hcl hown4 hg4 hown3 hg3 hown2 hg2 hnil2 hnil3 hnil4;go_wp2_with fail
               go_ret2;exact⟨v4,_,rfl,HO4.out,fun e=>absurd (congrArg List.length e) (by have:=HLEN.out;simp only[List.length_nil];omega),HB4.out⟩
         · have HCI:=Hh hci;have HIC:=Hh hic;clear hic hci;go_enter func24,ntmps24
           go_wp2_with fail
           (with_reducible refine HFI.out.mono ?_);rintro e w1 ⟨rfl,rfl⟩;go_wp2_with fail
           go_loopw [9,10] (fun ov kv wr=>∃ k:Nat,k≤bs.length∧kv=.int .i64 k∧Hid (wr.ownsRow w.heap.size 63 2 ov k (clc (bT a (bs.take k))))∧Hid (Below w.heap.size w wr)) (fun _ kv _=>bs.length - (intOf kv).toNat)
           case atStart=>exact⟨0,Nat.zero_le _,rfl,Hh (World.ownsRow_nil _ _ _ _),Hh br⟩
           case round =>
            obtain⟨k,hk,rfl,HO,HB⟩:=hrel;obtain⟨ao,co,rfl⟩:=aI HO.out;by_cases hkl:k<bs.length
            · exact aDN
            · obtain rfl:k=bs.length:=om
              have ho:=HO.out;rw[List.take_length] at ho;have hk1:¬ (bs.length:Int)<(bs.length:Int):=om
              have HO9:=Hh ho;clear ho;have hsz:=HB.out.size;obtain⟨B1,hB1⟩:∃ B1,wr.drew.alloc (.cells #[] 63)=B1:=⟨_,rfl⟩;have hbB:Below wr.heap.size wr B1:=by rw[←hB1];exact (Below.drew br).alloc lr _
              have hwb:=HB.out.trans (hbB.mono hsz);have hs1:eR B1 (.slice (some ⟨g,o,none⟩) i cv) i (clc (C.take i)):=by
               exact aFa
              have hs2:∀ w2,B1.grownBy w2 (some wr.heap.size)→eR w2 (.slice ao bs.length co) bs.length (clc (bT a bs)):=fun w2 hg2=>qV ((bK HO9.out hbB).kept hg2 (by
               rcases HO9.out.2 with⟨h,_⟩|⟨q,_,_,h,_⟩
               · exact .inl (by rw[h];rfl)
               · exact .inr (fun e=>by have:=(HO9.out.lt _ e).2;omega)))
              have hs3:∀ w2 w3 v2 n2 xs2,B1.grownBy w2 (some wr.heap.size)→w2.ownsRow w.heap.size 63 2 v2 n2 xs2→w2.grownBy w3 v2.ownBlock→eR w3 (.slice (some ⟨g,o+i*2,none⟩) (C.length - i) (cv - i)) (C.length - i) (clc (C.drop i)):=fun w2 w3 v2 n2 xs2 hg2 ho2 hg3=>by
               exact aEZ
              have HS1:=Hh hs1;have HS2:=Hh hs2;have HS3:=Hh hs3;have HWB:=Hh hwb;have ho1:B1.ownsRow w.heap.size 63 2 (.slice (some ⟨wr.heap.size,0,none⟩) 0 0) 0 []:=by rw[←hB1];exact iI wr.drew w.heap.size _ 2 hsz
              have HO1:=Hh ho1;have hn1:(clc (C.take i)).length=i*2:=by rw[fR,List.length_take];have:=HI.out;omega
              have hn2:(clc (bT a bs)).length=bs.length*2:=by rw[fR,eE]
              have hn3:(clc (C.drop i)).length=(C.length - i)*2:=by rw[fR,List.length_drop]
              have hne:cv≠i:=HCI.out;have hicv:(i:Int)≤(cv:Int):=om
              have hncv:(C.length:Int)≤(cv:Int):=om
              clear hs1 hs2 hs3 ho1 hwb;go_wp2_with fail
              go_region_law (first
               | (refine aR (by rfl) _ _ 24 (by rfl) w.heap.size 63 i0 (.agg #[.int .i64 0,.int .u8 0]) 2 16 underlying24 hin hzz0 hzz1 hzz2 rfl dc _ 0 [] (by rfl) HO1.out _ i (clc (C.take i)) (by rfl) HS1.out hn1 (fun u hu=>oR hu) (by unfold maxLen;omega) om HWB.out.size ?_;intro v2 w2 hown2 hg2 hnil2)
               | (refine aR (by rfl) _ _ 24 (by rfl) w.heap.size 63 i0 (.agg #[.int .i64 0,.int .u8 0]) 2 16 underlying24 hin hzz0 hzz1 hzz2 rfl dc v2 (0+i) _ (by rfl) hown2 _ bs.length (clc (bT a bs)) (by rfl) (HS2.out w2 hg2) hn2 (fun u hu=>oR hu) (by unfold maxLen;omega) om (Nat.le_trans HWB.out.size hg2.size) ?_;intro v3 w3 hown3 hg3 hnil3)
               | (refine aR (by rfl) _ _ 24 (by rfl) w.heap.size 63 i0 (.agg #[.int .i64 0,.int .u8 0]) 2 16 underlying24 hin hzz0 hzz1 hzz2 rfl dc v3 (0+i+bs.length) _ (by rfl) hown3 _ (C.length - i) (clc (C.drop i)) (by rfl) (HS3.out w2 w3 v2 _ _ hg2 hown2 hg3) hn3 (fun u hu=>oR hu) (by unfold maxLen;omega) om (Nat.le_trans HWB.out.size (Nat.le_trans hg2.size hg3.size)) ?_;intro v4 w4 hown4 hg4 hnil4))
              all_goals
               have hb4:Below w.heap.size w w4:=((HWB.out.grown hg2 HWB.out.size (fun q hq=>by have:=Option.some.inj hq;dsimp only at this;omega)).grown hg3 (Nat.le_trans HWB.out.size hg2.size) (fun q hq=>(hown2.lt q hq).1)).grown hg4 (Nat.le_trans HWB.out.size (Nat.le_trans hg2.size hg3.size)) (fun q hq=>(hown3.lt q hq).1);have hln:0+i+bs.length+(C.length - i)=(C.take i++bT a bs++C.drop i).length:=by
                exact aEY
               have hcl:[]++clc (C.take i)++clc (bT a bs)++clc (C.drop i)=clc (C.take i++bT a bs++C.drop i):=by rw[kL,kL];simp
               rw[hln,hcl] at hown4;have HO4:=Hh (aP hown4 hb0);have HB4:=Hh hb4;clear hb4 hln hcl hown4 hg4 hown3 hg3 hown2 hg2 hnil2 hnil3 hnil4;go_wp2_with fail
               go_ret2;exact⟨v4,_,rfl,HO4.out,fun e=>absurd (congrArg List.length e) (by have:=HLEN.out;simp only[List.length_nil];omega),HB4.out⟩
 · rw[kE (mE om)];have h3:65536 - (a:Int)<(bs.length:Int):=om
   clear hv hb hbh hl hbl;go_enter func24,ntmps24
   go_wp2_with fail
   go_ret2;exact⟨_,_,rfl,HV.out,HNIL.out,Below.refl _ _⟩
theorem Tryz.infoRun02:(prog.info? 35).map (fun i=>(i.zero,i.size,i.bytes))=some (some (.agg #[.int .i64 0,.slice none 0 0]),2,32):=by kernel_rfl
structure RsAt (T:TypeId) (w:World) (base:Nat) (v:Value) (q:List RnX) (x:RnX) (bb:Nat):Prop where
 own:w.ownsRow base T 2 v (q.length+1) (rnc (q++[x]))
 old:∀ y∈q,w.ownsRow base 5 1 y.2 y.1.2.length (aT y.1.2)∧∀ k,y.2.ownBlock=some k→k<bb
 last:w.ownsRow bb 5 1 x.2 x.1.2.length (aT x.1.2)
 low:base≤bb
 lw:bb≤w.heap.size
theorem RsAt.below {T:TypeId} {w w':World} {base:Nat} {v:Value} {q:List RnX} {x:RnX} {bb:Nat} (h:RsAt T w base v q x bb) (hb:Below w.heap.size w w'):RsAt T w' base v q x bb :=
 ⟨bK h.own hb,fun y hy=>⟨bK (h.old y hy).1 hb,(h.old y hy).2⟩,bK h.last hb,h.low,Nat.le_trans h.lw hb.size⟩
def RsI (T:TypeId) (w:World) (base:Nat) (v:Value) (rs:List RnX):Prop:=(rs=[]∧v=.slice none 0 0)∨∃ q x bb,rs=q++[x]∧RsAt T w base v q x bb
theorem RsAt.rns {T:TypeId} {w:World} {base:Nat} {v:Value} {q:List RnX} {x:RnX} {bb:Nat} (h:RsAt T w base v q x bb):RnsAt T w base v (q++[x]):=by
 refine⟨by rw[List.length_append];exact h.own,fun y hy=>?_⟩
 rcases List.mem_append.1 hy with hy|hy
 · exact (h.old y hy).1
 · obtain rfl:y=x:=by simpa using hy
   exact aP h.last h.low
theorem RsI.rns {T:TypeId} {w:World} {base:Nat} {v:Value} {rs:List RnX} (h:RsI T w base v rs):RnsAt T w base v rs:=by
 rcases h with⟨rfl,rfl⟩|⟨q,x,bb,rfl,h⟩
 · exact RnsAt.nil _ _ _
 · exact h.rns
theorem RsI.push {T:TypeId} {w w':World} {base:Nat} {v v':Value} {rs:List RnX} {a:Nat} (hT:5≠T) (h:RsI T w base v rs) (hb:base≤w'.heap.size)
 (hown:w'.ownsRow base T 2 v' (rs.length+1) (rnc rs++[.int .i64 a,.slice none 0 0])) (hg:w.grownBy w' v.ownBlock):RsAt T w' base v' rs ((a,[]),.slice none 0 0) w'.heap.size:=by
 refine⟨by rw[lA];exact hown,fun y hy=>?_,World.ownsRow_nil _ _ _ _,hb,Nat.le_refl _⟩
 have h1:=(h.rns.has y hy).kept hg (gB (h.rns.has y hy) h.rns.own hT);exact⟨h1,fun k hk=>(h1.lt k hk).2⟩
theorem Ro (q:List RnX) (x:RnX) (r:Rn) (hr:r.1=x.1.1) (u:Value):(rnc (q++[x])).set (q.length*2+1) u=rnc (q++[(r,u)]):=by
 have hl:(rnc q).length=q.length*2:=iN yC 2 (fun _=>rfl) q;rw[lA,lA,List.set_append_right _ _ om,hl,show q.length*2+1 - q.length*2=1 by omega]
 simp[yC,hr]
theorem RsAt.grow {T:TypeId} {w w':World} {base g cap n:Nat} {v':Value} {q:List RnX} {x:RnX} {bb:Nat} {c:UInt8} (hT:5≠T) (h:RsAt T w base (.slice (some ⟨g,0,none⟩) n cap) q x bb)
 (hn:n=q.length+1) (hown:w'.ownsRow bb 5 1 v' (x.1.2.length+1) (aT x.1.2++[.int .u8 c.toNat])) (hg:w.grownBy w' x.2.ownBlock) :
 RsAt T (w'.setCell ⟨g,q.length*2+1,none⟩ v') base (.slice (some ⟨g,0,none⟩) n cap) q ((x.1.1,x.1.2++[c]),v') bb:=by
 subst hn;have ho:=h.own.kept hg (gB h.own h.last (Ne.symm hT));have hl:(rnc (q++[x])).length=(q++[x]).length*2:=iN yC 2 (fun _=>rfl) _;have hne:∀ {b n:Nat} {u:Value} {xs:List Value},w'.ownsRow b 5 1 u n xs→u.ownBlock≠some g:=fun hu=>by
  rcases gB hu ho hT with h1|h1
  · rw[h1];exact fun e=>by cases e
  · exact h1
 refine⟨?_,fun y hy=>?_,?_,h.low,by rw[setCell_size];exact Nat.le_trans h.lw hg.size⟩
 · have:=jR (u:=v') (i:=q.length*2+1) ho (by rw[hl,List.length_append];simp;omega)
   rwa [Ro q x (x.1.1,x.1.2++[c]) rfl] at this
 · have h1:=(h.old y hy).1.kept hg (by
    rcases he:y.2.ownBlock with _|k
    · exact .inl rfl
    · refine .inr fun e=>?_;have h2:=(h.old y hy).2 k he;have h3:=(h.last.lt k e.symm).1;omega)
   exact⟨Kb.owns h1 ((Kb.refl g w').setCell _ v') (hne h1),(h.old y hy).2⟩
 · have:=Kb.owns hown ((Kb.refl g w').setCell (q.length*2+1) v') (hne hown)
   rw[List.length_append,qL];exact this
theorem lB {T:TypeId} {w:World} {base:Nat} {v:Value} {q:List RnX} {x:RnX} (ho:w.ownsRow base T 2 v (q.length+1) (rnc (q++[x]))):∃ g cap,v=.slice (some ⟨g,0,none⟩) (q.length+1) cap∧q.length+1≤cap∧base≤g∧g<w.heap.size∧w.cell? ⟨g,q.length*2+1,none⟩=some x.2∧w.frozen? ⟨g,q.length*2+1,none⟩=false:=by
 rcases ho.2 with⟨h1,h2⟩|⟨g,cap,cur,h1,hg,hh,hn,hc,hs,ht⟩
 · omega
 · refine⟨g,cap,h1,hn,hg,aA hh,?_,aH hh _⟩;rw[aC hh];have hl:(rnc q).length=q.length*2:=iN yC 2 (fun _=>rfl) q;have hx:(rnc (q++[x]))[q.length*2+1]? = some x.2:=by
    rw[lA,List.getElem?_append_right om,hl,show q.length*2+1 - q.length*2=1 by omega]
    rfl
   rw[←ht,List.getElem?_take_of_lt om,Array.getElem?_toList] at hx;exact hx
theorem RsAt.grow_cell {T:TypeId} {w w':World} {base g cap n:Nat} {q:List RnX} {x:RnX} {bb:Nat} (hT:5≠T) (h:RsAt T w base (.slice (some ⟨g,0,none⟩) n cap) q x bb)
 (hg:w.grownBy w' x.2.ownBlock):w'.cell? ⟨g,q.length*2+1,none⟩=some x.2∧w'.frozen? ⟨g,q.length*2+1,none⟩=false∧g<w'.heap.size:=by
 obtain⟨g',cap',hv,_,_,h1,h2,h3⟩:=lB (h.own.kept hg (gB h.own h.last (Ne.symm hT)));cases hv
 exact⟨h2,h3,h1⟩
theorem RsI.below {T:TypeId} {w w':World} {base:Nat} {v:Value} {rs:List RnX} (h:RsI T w base v rs) (hb:Below w.heap.size w w'):RsI T w' base v rs:=by
 rcases h with⟨rfl,rfl⟩|⟨q,x,bb,rfl,h⟩
 · exact .inl ⟨rfl,rfl⟩
 · exact .inr ⟨q,x,bb,rfl,h.below hb⟩
theorem tJ {B:Nat} {a w:World} (h:Below B a w) (n:Nat):Below B a (w.drewN n):=⟨h.os,h.tape,h.output,h.size,h.block⟩
theorem rT (W:World) (x:Value) (T:TypeId):∀ (j:Nat) (u:Value),[x][j]? = some u→(W.alloc (.cells #[x] T)).cell? ((⟨W.heap.size,0,none⟩:Addr).add j)=some u:=fun j u hu=>by
 rw[bD,Nat.zero_add,aC (aF _ _)];simpa using hu
theorem sK (n:Nat):∀ l:List Nat,n∈l→n≤l.sum
 | x::l,h=>by
   rcases List.mem_cons.1 h with rfl|h
   · simp
   · have:=sK n l h
     rw[List.sum_cons];omega
theorem Gf (C:List Cl) (i:Nat):(aS (C.take i)).length≤C.length∧∀ r∈aS (C.take i),r.2.length≤C.length:=by
 have h1:=iH (C.take i);have h2:=nQ (C.take i);have h3:(C.take i).length≤C.length:=by rw[List.length_take];omega
 refine⟨om,fun r hr=>?_⟩
 have:r.2.length≤((aS (C.take i)).map fun r=>r.2.length).sum:=sK _ _ (List.mem_map_of_mem hr)
 omega
theorem Bf (C:List Cl) (v:Value) (b0:Nat) (w:World) (hv:w.ownsRow b0 63 2 v C.length (clc C)) (hC:Asc C) (hl:C.length≤60000) :
 Calls prog 12 #[v] w fun e w'=>∃ u rs,e=.returned u∧rs.map Prod.fst=aS C∧RnsAt 35 w' w.heap.size u rs∧Below w.heap.size w w':=by
 obtain⟨i0,hi,hz0,hz1,hz2⟩:=info_parts Tryz.infoRun02;obtain⟨i1,hj1,hy0,hy1,hy2⟩:=info_parts Tryz.infoByte;obtain⟨a,cc,rfl,hcap,hh⟩:=(Row.of_owns hv).cls;have HH:=Hh hh;have HC2:=Hh hC.2;clear hv hh hC;go_enter func12,ntmps12
 go_wp2_with fail
 go_loopw [3,4] (fun o i wr=>∃ (j:Nat) (rs:List RnX),j≤C.length∧i=.int .i64 j∧Hid (rs.map Prod.fst=aS (C.take j))∧Hid (RsI 35 wr w.heap.size o rs)∧Hid (Below w.heap.size w wr)) (fun _ i _=>C.length - (intOf i).toNat)
 case atStart=>exact⟨0,[],Nat.zero_le _,rfl,Hh rfl,Hh (.inl ⟨rfl,rfl⟩),Hh br⟩
 case round =>
  obtain⟨j,rs,hj,rfl,HE,HRS,HB⟩:=hrel;obtain⟨ao,co,rfl⟩:=aI HRS.out.rns.own;obtain⟨hs1,hs2⟩:=Gf C j;have hsz:=HB.out.size;by_cases hlt:j<C.length
  · obtain⟨x,hx⟩:∃ x,C[j]? = some x:=⟨_,List.getElem?_eq_getElem hlt⟩;obtain⟨g,o,rfl,hg,hcs⟩:=HH.out (by rintro rfl;exact absurd hlt (Nat.not_lt_zero _))
    obtain⟨k0,k1⟩:=hcs j x hx;have m0:=(HB.out.cell (p:=⟨g,o+j*2,none⟩) hg).trans k0;have m1:=(HB.out.cell (p:=⟨g,o+j*2+1,none⟩) hg).trans k1;have hgw:g<wr.heap.size:=Nat.lt_of_lt_of_le hg hsz;have hi0:(0:Int)≤(j:Int):=om
    have hi1:(j:Int)<(C.length:Int):=om
    have hrl:rs.length≤C.length:=by have:=congrArg List.length HE.out;rw[List.length_map] at this;omega
    have HCS:=Hh hcs;have hcase:(j=0∨∃ i d,j=i+1∧C[i]? = some d∧d.1+1≠x.1)∨∃ i d,j=i+1∧C[i]? = some d∧d.1+1=x.1:=by
     rcases Nat.eq_zero_or_pos j with h|h
     · exact .inl (.inl h)
     · have h1:C[j - 1]? = some (C[j - 1]'om):=List.getElem?_eq_getElem om;by_cases h2:(C[j - 1]'om).1+1=x.1
       · exact .inr ⟨j - 1,_,om,h1,h2⟩
       · exact .inl (.inr ⟨j - 1,_,om,h1,h2⟩)
    obtain⟨xa,xb⟩:=x;clear k0 k1 hcs;rcases hcase with (hj0|⟨i,d,hji,hd,hne⟩)|⟨i,d,hji,hd,heq⟩
    · have hst:aS (C.take (j+1))=aS (C.take j)++[(xa,[xb])]:=by
       subst hj0;exact mN (i:=0) hx (fun d h _=>absurd rfl h)
      have hse:rs.map Prod.fst=aS (C.take j):=HE.out;rw[←hse] at hst;have HST:=Hh hst;have HX:=Hh hx;have hjz:((j:Int) == 0)=true:=by simp;omega
      clear hj0;clear hst hse hx;go_wp2_with fail
      go_quiet (fail)
      obtain⟨wq,hwq⟩:∃ wq,wr.drewN nq=wq:=⟨_,rfl⟩;have hbq:Below wr.heap.size wr wq:=hwq ▸ tJ br _;rw[hwq];have q0:=(hbq.cell (p:=⟨g,o+j*2,none⟩) hgw).trans m0;have q1:=(hbq.cell (p:=⟨g,o+j*2+1,none⟩) hgw).trans m1;have hgq:g<wq.heap.size:=Nat.lt_of_lt_of_le hgw hbq.size;have hsq:w.heap.size≤wq.heap.size:=Nat.le_trans hsz hbq.size;have HRQ:=Hh (HRS.out.below hbq);have HBQ:=Hh (HB.out.trans (hbq.mono hsz));clear hwq hbq m0 m1 hgw HRS HB hjz;go_wp2_with (at_builtin;refine wpList_append_own _ rfl _ _ 22 rfl w.heap.size 35 i0 (.agg #[.int .i64 0,.slice none 0 0]) 2 32 underlying22 hi hz0 hz1 hz2 rfl dc _ _ _ rfl (HRQ.out.rns.own.alloc _) ⟨wq.heap.size,0,none⟩ 1 1 [.int .i64 xa,.slice none 0 0] rfl rfl (rS _ _ _ _) Xm (by unfold maxLen;omega) om (by simp;omega) ?_)
      intro v' w4 hown' hg4 _;have hal:Below wq.heap.size wq (wq.alloc (.cells #[.int .i64 xa,.slice none 0 0] 35)):=br.alloc lr _;have hb4:Below w.heap.size w w4:=(HBQ.out.trans (hal.mono hsq)).grown hg4 (by rw[World.size_alloc];omega) (fun k hk=>(HRQ.out.rns.own.lt k hk).1);have hsa:=(HRQ.out.below hal).push dc hb4.size hown' hg4;have q1b:=((Below.refl w4.heap.size w4).cell (p:=⟨g,o+j*2+1,none⟩) (Nat.lt_of_lt_of_le hg hb4.size)).trans ((hb4.cell (p:=⟨g,o+j*2+1,none⟩) hg).trans (HCS.out j (xa,xb) HX.out).2);have HSA:=Hh hsa;have HB4:=Hh hb4;clear hown' hg4 hal hb4 hsa q0 q1 hgq HRQ HBQ hsq;have hgw4:g<w4.heap.size:=Nat.lt_of_lt_of_le hg HB4.out.size;have hrun:∃ (q:List RnX) (y:RnX) (bb:Nat),q.length≤60000∧y.1.2.length≤60000∧Hid (q.map Prod.fst++[(y.1.1,y.1.2++[xb])]=aS (C.take (j+1)))∧Hid (RsAt 35 w4 w.heap.size v' q y bb) :=
       ⟨rs,((xa,[]),.slice none 0 0),_,om,by simp,Hh HST.out.symm,HSA⟩
      clear HST HSA hrl;obtain⟨q,y,bb,hq1,hq2,HQE,HQ⟩:=hrun;obtain⟨⟨yn,ys⟩,yv⟩:=y;dsimp only at hq2;obtain⟨ya,yc,rfl⟩:∃ a c,yv=.slice a ys.length c:=aI HQ.out.last;obtain⟨g1,cap1,rfl,hcp,hgb,hg1,cx,fx⟩:=lB HQ.out.own;have hkw:IntKind.i64.wrap ((q.length:Int)+1 - 1)=(q.length:Int):=by rw[Int.add_sub_cancel];exact IntWalk.i64_in _ om
      obtain⟨B1,hB1⟩:∃ B1,w4.drew.alloc (.cells #[.int .u8 xb.toNat] 5)=B1:=⟨_,rfl⟩;have hbB:Below w4.heap.size w4 B1:=by rw[←hB1];exact (Below.drew br).alloc lr _
      have HQB:=Hh (HQ.out.below hbB);have HSR:=Hh (show ∀ (k:Nat) (u:Value),[Value.int .u8 xb.toNat][k]? = some u→B1.cell? ((⟨w4.heap.size,0,none⟩:Addr).add k)=some u by rw[←hB1];exact rT w4.drew _ _)
      have HWB:=Hh (HB4.out.trans (hbB.mono HB4.out.size));have HGB:=Hh hgb;have HLO:=Hh HQB.out.last;have HONE:=Hh (show ∀ u∈[Value.int .u8 xb.toNat],u.oneCell'=true from fun u hu=>by simp at hu;subst hu;rfl);have HLB:=Hh HQB.out.lw;have hq0:(0:Int)≤(q.length:Int):=om
      have hqi:(q.length:Int)<(q.length:Int)+1:=om
      have cxB:=(hbB.cell (p:=⟨g1,q.length*2+1,none⟩) hg1).trans cx;have q1B:=(hbB.cell (p:=⟨g,o+j*2+1,none⟩) hgw4).trans q1b;dsimp only at cx cxB;clear hbB hgb;go_wp2_with fail
      go_region_law (refine aR (by rfl) _ _ 33 (by rfl) bb 5 i1 (.int .u8 0) 1 1 underlying33 hj1 hy0 hy1 hy2 rfl dc _ ys.length (aT ys) (by rfl) HLO.out _ 1 [.int .u8 xb.toNat] (by rfl) (.inr ⟨_,1,rfl,HSR.out⟩) (by rfl) HONE.out (by unfold maxLen;omega) om HLB.out ?_;intro v5 w5 hown5 hg5 hnil5;obtain⟨a5,c5,rfl⟩:=aI hown5;obtain⟨p5,f5,l5⟩:=HQB.out.grow_cell dc hg5)
      all_goals
       have hsg:=RsAt.grow dc HQB.out rfl hown5 hg5;have hb5:=(HWB.out.grown hg5 HWB.out.size (fun k hk=>Nat.le_trans HQB.out.low (HQB.out.last.lt k hk).1)).setCell (p:=⟨g1,q.length*2+1,none⟩) HGB.out (.slice a5 (ys.length+1) c5);have HSG:=Hh hsg;have HB5:=Hh hb5;clear hsg hb5 hown5 hg5 hnil5 p5 f5 l5 cx cxB q1b q1B fx hB1;go_wp2_with fail
       go_roundw
       case rel=>exact⟨j+1,q++[((yn,ys++[xb]),_)],om,by go_num,Hh (by rw[←HQE.out];simp),Hh (.inr ⟨_,_,_,rfl,by simpa using HSG.out⟩),HB5⟩
       case measure=>simp[intOf];omega
    · have hst:aS (C.take (j+1))=aS (C.take j)++[(xa,[xb])]:=by
       subst hji;exact mN (i:=i+1) hx (fun d2 _ h=>by rw[Nat.add_sub_cancel,hd] at h;cases h;exact hne)
      have hse:rs.map Prod.fst=aS (C.take j):=HE.out;rw[←hse] at hst;have HST:=Hh hst;have HX:=Hh hx;obtain⟨n0,_⟩:=HCS.out i d hd;have p0:=(HB.out.cell (p:=⟨g,o+i*2,none⟩) hg).trans n0;have hcmp:((xa:Int) != (d.1:Int)+1)=true:=by simp;omega
      have hjw:IntKind.i64.wrap ((j:Int) - 1)=(i:Int):=by rw[IntWalk.i64_in _ om];omega
      have hi2:(0:Int)≤(i:Int):=om
      have hi3:(i:Int)<(C.length:Int):=om
      have hjz:((j:Int) == 0)=false:=by simp;omega
      have hdl:=HC2.out d (List.mem_of_getElem? hd);have hdw:IntKind.i64.wrap ((d.1:Int)+1)=(d.1:Int)+1:=IntWalk.i64_in _ om;have HJI:=Hh hji;clear hji hdl;clear hst hse hx;go_wp2_with fail
      go_quiet (fail)
      obtain⟨wq,hwq⟩:∃ wq,wr.drewN nq=wq:=⟨_,rfl⟩;have hbq:Below wr.heap.size wr wq:=hwq ▸ tJ br _;rw[hwq];have q0:=(hbq.cell (p:=⟨g,o+j*2,none⟩) hgw).trans m0;have q1:=(hbq.cell (p:=⟨g,o+j*2+1,none⟩) hgw).trans m1;have hgq:g<wq.heap.size:=Nat.lt_of_lt_of_le hgw hbq.size;have hsq:w.heap.size≤wq.heap.size:=Nat.le_trans hsz hbq.size;have HRQ:=Hh (HRS.out.below hbq);have HBQ:=Hh (HB.out.trans (hbq.mono hsz));clear hwq hbq m0 m1 hgw HRS HB hjz hcmp hjw hi2 hi3 hdw n0 p0;go_wp2_with (at_builtin;refine wpList_append_own _ rfl _ _ 22 rfl w.heap.size 35 i0 (.agg #[.int .i64 0,.slice none 0 0]) 2 32 underlying22 hi hz0 hz1 hz2 rfl dc _ _ _ rfl (HRQ.out.rns.own.alloc _) ⟨wq.heap.size,0,none⟩ 1 1 [.int .i64 xa,.slice none 0 0] rfl rfl (rS _ _ _ _) Xm (by unfold maxLen;omega) om (by simp;omega) ?_)
      intro v' w4 hown' hg4 _;have hal:Below wq.heap.size wq (wq.alloc (.cells #[.int .i64 xa,.slice none 0 0] 35)):=br.alloc lr _;have hb4:Below w.heap.size w w4:=(HBQ.out.trans (hal.mono hsq)).grown hg4 (by rw[World.size_alloc];omega) (fun k hk=>(HRQ.out.rns.own.lt k hk).1);have hsa:=(HRQ.out.below hal).push dc hb4.size hown' hg4;have q1b:=((Below.refl w4.heap.size w4).cell (p:=⟨g,o+j*2+1,none⟩) (Nat.lt_of_lt_of_le hg hb4.size)).trans ((hb4.cell (p:=⟨g,o+j*2+1,none⟩) hg).trans (HCS.out j (xa,xb) HX.out).2);have HSA:=Hh hsa;have HB4:=Hh hb4;clear hown' hg4 hal hb4 hsa q0 q1 hgq HRQ HBQ hsq;have hgw4:g<w4.heap.size:=Nat.lt_of_lt_of_le hg HB4.out.size;have hrun:∃ (q:List RnX) (y:RnX) (bb:Nat),q.length≤60000∧y.1.2.length≤60000∧Hid (q.map Prod.fst++[(y.1.1,y.1.2++[xb])]=aS (C.take (j+1)))∧Hid (RsAt 35 w4 w.heap.size v' q y bb) :=
       ⟨rs,((xa,[]),.slice none 0 0),_,om,by simp,Hh HST.out.symm,HSA⟩
      clear HST HSA hrl;obtain⟨q,y,bb,hq1,hq2,HQE,HQ⟩:=hrun;obtain⟨⟨yn,ys⟩,yv⟩:=y;dsimp only at hq2;obtain⟨ya,yc,rfl⟩:∃ a c,yv=.slice a ys.length c:=aI HQ.out.last;obtain⟨g1,cap1,rfl,hcp,hgb,hg1,cx,fx⟩:=lB HQ.out.own;have hkw:IntKind.i64.wrap ((q.length:Int)+1 - 1)=(q.length:Int):=by rw[Int.add_sub_cancel];exact IntWalk.i64_in _ om
      obtain⟨B1,hB1⟩:∃ B1,w4.drew.alloc (.cells #[.int .u8 xb.toNat] 5)=B1:=⟨_,rfl⟩;have hbB:Below w4.heap.size w4 B1:=by rw[←hB1];exact (Below.drew br).alloc lr _
      have HQB:=Hh (HQ.out.below hbB);have HSR:=Hh (show ∀ (k:Nat) (u:Value),[Value.int .u8 xb.toNat][k]? = some u→B1.cell? ((⟨w4.heap.size,0,none⟩:Addr).add k)=some u by rw[←hB1];exact rT w4.drew _ _)
      have HWB:=Hh (HB4.out.trans (hbB.mono HB4.out.size));have HGB:=Hh hgb;have HLO:=Hh HQB.out.last;have HONE:=Hh (show ∀ u∈[Value.int .u8 xb.toNat],u.oneCell'=true from fun u hu=>by simp at hu;subst hu;rfl);have HLB:=Hh HQB.out.lw;have hq0:(0:Int)≤(q.length:Int):=om
      have hqi:(q.length:Int)<(q.length:Int)+1:=om
      have cxB:=(hbB.cell (p:=⟨g1,q.length*2+1,none⟩) hg1).trans cx;have q1B:=(hbB.cell (p:=⟨g,o+j*2+1,none⟩) hgw4).trans q1b;dsimp only at cx cxB;clear hbB hgb;go_wp2_with fail
      go_region_law (refine aR (by rfl) _ _ 33 (by rfl) bb 5 i1 (.int .u8 0) 1 1 underlying33 hj1 hy0 hy1 hy2 rfl dc _ ys.length (aT ys) (by rfl) HLO.out _ 1 [.int .u8 xb.toNat] (by rfl) (.inr ⟨_,1,rfl,HSR.out⟩) (by rfl) HONE.out (by unfold maxLen;omega) om HLB.out ?_;intro v5 w5 hown5 hg5 hnil5;obtain⟨a5,c5,rfl⟩:=aI hown5;obtain⟨p5,f5,l5⟩:=HQB.out.grow_cell dc hg5)
      all_goals
       have hsg:=RsAt.grow dc HQB.out rfl hown5 hg5;have hb5:=(HWB.out.grown hg5 HWB.out.size (fun k hk=>Nat.le_trans HQB.out.low (HQB.out.last.lt k hk).1)).setCell (p:=⟨g1,q.length*2+1,none⟩) HGB.out (.slice a5 (ys.length+1) c5);have HSG:=Hh hsg;have HB5:=Hh hb5;clear hsg hb5 hown5 hg5 hnil5 p5 f5 l5 cx cxB q1b q1B fx hB1;go_wp2_with fail
       go_roundw
       case rel=>exact⟨j+1,q++[((yn,ys++[xb]),_)],om,by go_num,Hh (by rw[←HQE.out];simp),Hh (.inr ⟨_,_,_,rfl,by simpa using HSG.out⟩),HB5⟩
       case measure=>simp[intOf];omega
    · have hrun0:∃ q y bb,rs.length=q.length+1∧q.length≤60000∧y.1.2.length≤60000∧q.map Prod.fst++[(y.1.1,y.1.2++[xb])]=aS (C.take (j+1))∧RsAt 35 wr w.heap.size (.slice ao rs.length co) q y bb:=by
       subst hji;obtain⟨R,r,hR⟩:=Ge hd;have hst:=tN hx hd heq hR;have hrr:=HE.out.trans hR;rcases HRS.out with⟨h,_⟩|⟨q,y,bb,h,h2⟩
       · rw[h] at hrr;simp at hrr
       · rw[h,List.map_append] at hrr;obtain⟨h3,h4⟩:=List.append_inj' hrr rfl;have h5:y.1=r:=by simpa using h4
         refine⟨q,y,bb,by rw[h];simp,?_,?_,?_,h2⟩
         · rw[h,List.length_append] at hrl;simp at hrl;omega
         · have:=hs2 r (by rw[hR];simp)
           rw[h5];omega
         · rw[hst,h3,h5]
      obtain⟨q,y,bb,hql,hq1,hq2,hqe,hra⟩:=hrun0;obtain⟨g1,cap1,hv,_,_,_,_,_⟩:=lB hra.own;rw[hv] at hra ⊢;have HRA:=Hh hra;have HQE:=Hh hqe;have HX:=Hh hx;obtain⟨n0,_⟩:=HCS.out i d hd;have p0:=(HB.out.cell (p:=⟨g,o+i*2,none⟩) hg).trans n0;have hcmp:((xa:Int) != (d.1:Int)+1)=false:=by simp;omega
      have hjw:IntKind.i64.wrap ((j:Int) - 1)=(i:Int):=by rw[IntWalk.i64_in _ om];omega
      have hi2:(0:Int)≤(i:Int):=om
      have hi3:(i:Int)<(C.length:Int):=om
      have hjz:((j:Int) == 0)=false:=by simp;omega
      have hdl:=HC2.out d (List.mem_of_getElem? hd);have hdw:IntKind.i64.wrap ((d.1:Int)+1)=(d.1:Int)+1:=IntWalk.i64_in _ om;have HJI:=Hh hji;clear hji hdl hra hqe hx hv heq hd hql;go_wp2_with fail
      go_quiet (fail)
      obtain⟨w4,hwq⟩:∃ w4,wr.drewN nq=w4:=⟨_,rfl⟩;have hbq:Below wr.heap.size wr w4:=hwq ▸ tJ br _;rw[hwq];have HQ:=Hh (HRA.out.below hbq);have HB4:=Hh (HB.out.trans (hbq.mono hsz));have q1b:=(hbq.cell (p:=⟨g,o+j*2+1,none⟩) hgw).trans m1;have hgw4:g<w4.heap.size:=Nat.lt_of_lt_of_le hg HB4.out.size;clear hwq hbq m0 m1 hgw HRS HB hjz HRA hcmp hjw hi2 hi3 hdw n0 p0;obtain⟨⟨yn,ys⟩,yv⟩:=y;dsimp only at hq2;obtain⟨ya,yc,rfl⟩:∃ a c,yv=.slice a ys.length c:=aI HQ.out.last;obtain⟨g2,cap2,hv2,hcp,hgb,hg1,cx,fx⟩:=lB HQ.out.own;obtain⟨rfl,rfl⟩:g1=g2∧cap1=cap2:=by simpa using hv2
      clear hv2;have hkw:IntKind.i64.wrap ((q.length:Int)+1 - 1)=(q.length:Int):=by rw[Int.add_sub_cancel];exact IntWalk.i64_in _ om
      obtain⟨B1,hB1⟩:∃ B1,w4.drew.alloc (.cells #[.int .u8 xb.toNat] 5)=B1:=⟨_,rfl⟩;have hbB:Below w4.heap.size w4 B1:=by rw[←hB1];exact (Below.drew br).alloc lr _
      have HQB:=Hh (HQ.out.below hbB);have HSR:=Hh (show ∀ (k:Nat) (u:Value),[Value.int .u8 xb.toNat][k]? = some u→B1.cell? ((⟨w4.heap.size,0,none⟩:Addr).add k)=some u by rw[←hB1];exact rT w4.drew _ _)
      have HWB:=Hh (HB4.out.trans (hbB.mono HB4.out.size));have HGB:=Hh hgb;have HLO:=Hh HQB.out.last;have HONE:=Hh (show ∀ u∈[Value.int .u8 xb.toNat],u.oneCell'=true from fun u hu=>by simp at hu;subst hu;rfl);have HLB:=Hh HQB.out.lw;have hq0:(0:Int)≤(q.length:Int):=om
      have hqi:(q.length:Int)<(q.length:Int)+1:=om
      have cxB:=(hbB.cell (p:=⟨g1,q.length*2+1,none⟩) hg1).trans cx;have q1B:=(hbB.cell (p:=⟨g,o+j*2+1,none⟩) hgw4).trans q1b;dsimp only at cx cxB;clear hbB hgb;go_wp2_with fail
      go_region_law (refine aR (by rfl) _ _ 33 (by rfl) bb 5 i1 (.int .u8 0) 1 1 underlying33 hj1 hy0 hy1 hy2 rfl dc _ ys.length (aT ys) (by rfl) HLO.out _ 1 [.int .u8 xb.toNat] (by rfl) (.inr ⟨_,1,rfl,HSR.out⟩) (by rfl) HONE.out (by unfold maxLen;omega) om HLB.out ?_;intro v5 w5 hown5 hg5 hnil5;obtain⟨a5,c5,rfl⟩:=aI hown5;obtain⟨p5,f5,l5⟩:=HQB.out.grow_cell dc hg5)
      all_goals
       have hsg:=RsAt.grow dc HQB.out rfl hown5 hg5;have hb5:=(HWB.out.grown hg5 HWB.out.size (fun k hk=>Nat.le_trans HQB.out.low (HQB.out.last.lt k hk).1)).setCell (p:=⟨g1,q.length*2+1,none⟩) HGB.out (.slice a5 (ys.length+1) c5);have HSG:=Hh hsg;have HB5:=Hh hb5;clear hsg hb5 hown5 hg5 hnil5 p5 f5 l5 cx cxB q1b q1B fx hB1;go_wp2_with fail
       go_roundw
       case rel=>exact⟨j+1,q++[((yn,ys++[xb]),_)],om,by go_num,Hh (by rw[←HQE.out];simp),Hh (.inr ⟨_,_,_,rfl,by simpa using HSG.out⟩),HB5⟩
       case measure=>simp[intOf];omega
  · obtain rfl:j=C.length:=om
    have hE:=HE.out;rw[List.take_length] at hE;have HEQ:=Hh hE;clear hE hs1 hs2;go_wp2_with fail
    go_ret;exact⟨_,rs,rfl,HEQ.out,HRS.out.rns,HB.out⟩
end Go.Proofs.YtoigglljnklhlaaGreatDoor
