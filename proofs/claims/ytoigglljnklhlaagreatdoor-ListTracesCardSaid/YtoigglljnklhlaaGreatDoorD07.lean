/- Joined. -/
import Derived.Test.YtoigglljnklhlaaGreatDoorD06
set_option maxHeartbeats 8000000
set_option maxRecDepth 100000
namespace Go.Proofs.YtoigglljnklhlaaGreatDoor
open Go.RowKit Go.Sort
open Go.Proofs.Tryz
def up (c:UInt8):UInt8:=if 97≤c.toNat∧c.toNat≤122 then c - 32 else c
def cH (s:ByteArray):ByteArray:=⟨(s.data.toList.map up).toArray⟩
theorem Jv (c:UInt8):((up c).toNat:Int)=if 97≤(c.toNat:Int)∧(c.toNat:Int)≤122 then (c.toNat:Int) - 97+65 else c.toNat:=by
 unfold up;by_cases h:97≤c.toNat∧c.toNat≤122
 · rw[if_pos h,if_pos om]
   have:(c - 32).toNat=c.toNat - 32:=by
    rw[UInt8.toNat_sub_of_le];rfl;rw[UInt8.le_iff_toNat_le];show 32≤c.toNat;omega
   rw[this];omega
 · rw[if_neg h,if_neg om]
theorem mY (w:World) (C:Array Value) (t:TypeId) (fr:Nat × Nat) (i:Nat) (v:Value) :
 (w.alloc (.cells C t fr)).setCell ⟨w,i,none⟩ v=w.alloc (.cells (C.setIfInBounds i v) t fr):=by
 have hm:∀ (a:Array Obj) (x:Obj) (f:Obj→Obj),(a.push x).modify a.size f=a.push (f x):=by
  intro a x f;apply Array.ext
  · simp
  · intro i h1 h2;simp only[Array.getElem_modify,Array.getElem_push];by_cases h:a.size=i
    · subst h;simp
    · have hi:i<a.size:=by simp at h1;omega
      simp[h,hi]
 show ({ (w.alloc (.cells C t fr)) with heap:=(w.heap.push (.cells C t fr)).modify w.heap.size _ }:World)=_
 rw[hm];rfl
theorem aOL {p:Prop} (h:p:=by
 go_wp2
 go_roundw
 case rel =>
  refine⟨k+1,C,om,by go_num,rfl,HCm.out,?_⟩
  intro j hj;rw[HC.out j hj];by_cases hjk:j=k
  · subst hjk
    have:=Hup.out
    rw[if_neg om] at this;rw[if_neg om,if_pos om,this];rw[Hc.out]
  · by_cases hjk2:j<k
    · rw[if_pos hjk2,if_pos om]
    · rw[if_neg hjk2,if_neg om]
 case measure=>simp[intOf];omega):p:=h
theorem pB (s:ByteArray) (w:World) (hs:s.size≤maxLen) :
 Calls prog 95 #[.string s] w fun e w'=>e=.returned (.string (cH s))∧Below w w w':=by
 unfold maxLen at hs;have hconv:=run_bytes_of_string (P:=prog) w 9 33 5 s underlying9 underlying33 underlying5;obtain⟨cap,hcap⟩:∃ cap,grownCap w s.size 0 5=cap:=⟨_,rfl⟩;obtain⟨C0,hC0⟩:∃ C0,bytesRow s cap=C0:=⟨_,rfl⟩;have hat:∀ j (hj:j<s.size),C0[j]? = some (.int .u8 (s.data[j].toNat:Int)):=fun j hj=>by rw[←hC0];exact bytesRow_at s cap j hj
 have hsz:s.size≤C0.size:=by rw[←hC0];simp[bytesRow]
 rw[hcap,hC0] at hconv;clear hcap hC0;obtain⟨m,hm⟩:∃ m,C0.size=m:=⟨_,rfl⟩;rw[hm] at hconv;have Hm:=Hh hm;clear hm;go_enter func95,ntmps95
 go_wp2
 go_loopw [4,5,10] (fun _ _ i wr=>∃ (k:Nat) (C:Array Value),k≤s.size∧i=.int .i64 k∧wr=(w.alloc (.cells C 5 (m,m+1))).drew∧C.size=m ∧
  (∀ j (hj:j<s.size),C[j]? = some (.int .u8 ((if j<k then up s.data[j] else s.data[j]).toNat:Int))))
  (fun _ _ i _=>s.size - (intOf i).toNat)
 case atStart=>exact⟨0,C0,Qi _,rfl,rfl,Hm.out,by simpa using hat⟩
 case round =>
  obtain⟨k,C,hk,rfl,rfl,hCm,hC⟩:=hrel;by_cases hlt:k<s.size
  · obtain⟨c,hc⟩:∃ c,(s.data[k].toNat:Int)=c:=⟨_,rfl⟩;have hupc:=Jv s.data[k];rw[hc] at hupc;have hc0:0≤c:=om
    have hc1:c≤255:=by have:=s.data[k].toNat_lt;omega
    have hcell:(w.alloc (.cells C 5 (m,m+1))).cell? ⟨w,k,none⟩=some (.int .u8 c):=by
     rw[World.cell?_alloc_mark,hC k hlt,if_neg (Zx k),hc]
    have hfr:(w.alloc (.cells C 5 (m,m+1))).frozen? ⟨w,k,none⟩=false:=by
     rw[World.frozen?_alloc_mark];have:=Hm.out;simp;omega
    have HC:=Hh hC;clear hC;have HCm:=Hh hCm;clear hCm;have Hat:=Hh hat;clear hat;have Hup:=Hh hupc;clear hupc;have Hc:=Hh hc;clear hc hconv;by_cases h1:97≤c
    · by_cases h2:c≤122
      · go_wp2
        go_roundw
        case rel =>
         refine⟨k+1,C.setIfInBounds k (.int .u8 (c - 97+65)),om,by go_num,?_,by rw[Array.size_setIfInBounds];exact HCm.out,?_⟩
         · rw[mY]
         · intro j hj;rw[Array.getElem?_setIfInBounds];by_cases hjk:k=j
           · subst hjk
             have:=HCm.out
             rw[if_pos rfl,if_pos (by rw[this];have:=Hm.out;omega),if_pos om]
             have:=Hup.out
             rw[if_pos ⟨h1,h2⟩] at this;rw[this]
           · rw[if_neg hjk,HC.out j hj];by_cases hjk2:j<k
             · rw[if_pos hjk2,if_pos om]
             · rw[if_neg hjk2,if_neg om]
        case measure=>simp[intOf];omega
      · exact aOL
    · exact aOL
  · obtain rfl:k=s.size:=om
    have hback:=run_convert_bytes_back (P:=prog) (w.alloc (.cells C 5 (m,m+1))).drew 33 9 5 ⟨w,0,none⟩ cap (s.data.toList.map up) underlying33 underlying5 underlying9 (by
     intro j hj;have hj':j<s.size:=by simpa using hj
     show (w.alloc (.cells C 5 (m,m+1))).cell? (Addr.add ⟨w,0,none⟩ j)=_
     rw[show Addr.add ⟨w,0,none⟩ j=⟨w,j,none⟩ from by simp[Addr.add,eq_comm],World.cell?_alloc_mark,hC j hj',if_pos hj']
     simp)
    have hl:(s.data.toList.map up).length=s.size:=by simp
    rw[hl] at hback;have HC:=Hh hC;clear hC hat hconv;go_wp2
    go_ret;exact⟨rfl,(br.alloc lr _).drew⟩
def Cd (s:ByteArray):List (Nat × Nat):=kO (fun x=>x.toList == (cH s).toList) 5
theorem aPJ (s u:ByteArray) (b:Nat) (w:World) (hc:w.cell? b=some (.string u)) :
 Calls prog 306 #[.string s,.pointer b] w fun e w'=>e=.returned (.bool (s.toList == u.toList))∧w=w':=by
 go_enter func306,ntmps306
 go_wp2
 go_ret;exact⟨rfl,rfl⟩
theorem Gy (s:ByteArray) (w:World) (hs:s.size≤maxLen) :
 Calls prog 295 #[.string s] w fun e w'=>∃ v,e=.returned v∧Row w' v (Cd s).length (gG (Cd s))∧Below w w w':=by
 go_enter func295,ntmps295
 go_wp2_with fail
 refine (pB s _ hs).mono ?_;rintro e w1 ⟨rfl,hb⟩;obtain⟨p1,rfl⟩:=aO hb;clear hb;go_wp2_with fail
 refine (Fq (fun x=>x.toList == (cH s).toList) 306 _ _ (enters_of func306 kr rfl) ?hok).mono ?_
 case hok =>
  intro x W hb;refine aPJ x (cH s) _ W ?_;rw[hb.cell (by simp[go_sem])];simp[go_sem]
 rintro e w2 ⟨v,rfl,hown,hb⟩;have HOWN:=Hh hown;clear hown;have HB:=Hh hb;clear hb;go_wp2_with fail
 go_ret;refine⟨_,rfl,Row.of_owns HOWN.out,?_⟩;refine Below.trans (b:=((gw w p1).alloc (.cells #[.string (cH s)] 9))) (bl) (HB.out.mono (by simp[go_sem];omega))
theorem yM (l:List (Nat × Nat)):gG l=opc (l.map fun x=>((x.1:Int),(x.2:Int),(0:Int))):=by
 induction l with
 | nil=>rfl
 | cons a l ih =>
   show[Value.int .i64 a.1,.int .i64 a.2,.int .i64 0]++gG l=[Value.int .i64 a.1,.int .i64 a.2,.int .i64 0]++opc _
   rw[ih]
def gD (s:ByteArray):List Op3:=(Cd s).map fun x=>((x.1:Int),(x.2:Int),(0:Int))
theorem sG (s:ByteArray) (w:World) (hs:s.size≤maxLen) :
 Calls prog 295 #[.string s] w fun e w'=>∃ v,e=.returned v∧Row w' v (gD s).length (opc (gD s))∧Below w w w' :=
 (Gy s w hs).mono fun e w' ⟨v,he,hr,hb⟩=>⟨v,he,by unfold gD;rw[Qs,←yM];exact hr,hb⟩
abbrev opW (o:Op3):Value:=.agg #[o.1,o.2.1,o.2.2]
def Rb (o:Op3):Int:=if o.1=3 then o.2.1 else 8
def eJ (s:List UInt8):Op3 :=
 if Lib.hasPrefix s [40]=false then (gD ⟨s.toArray⟩).headD (0,0,0)
 else (4,Rb ((gD ⟨(Lib.trimSuffix (Lib.trimPrefix s [40]) [41]).toArray⟩).headD (0,0,0)),0)
def rK (s:List UInt8):Bool:=decide (s.length≤100) && if Lib.hasPrefix s [40]=false then decide (gD ⟨s.toArray⟩≠[]) else decide (gD ⟨(Lib.trimSuffix (Lib.trimPrefix s [40]) [41]).toArray⟩≠[])
theorem rJ (s:List UInt8) (w:World) (h:rK s=true):Calls prog 276 #[s] w fun e w'=>e=.returned (opW (eJ s))∧Below w w w':=by
 unfold rK at h;rw[Qe,Qf] at h;obtain⟨hl,h⟩:=h;have hcp:=fun w=>Tryz.strings_CutPrefix ⟨s.toArray⟩ ⟨#[40]⟩ w;simp only at hcp;rcases hp:Lib.hasPrefix s [40] with _|_
 · rw[if_pos hp] at h;have hv:eJ s=(gD ⟨s.toArray⟩).headD (0,0,0):=by unfold eJ;rw[if_pos hp]
   rw[hv];obtain⟨⟨x0,x1,x2⟩,rest,hx⟩:∃ x rest,gD ⟨s.toArray⟩=x::rest:=by
    cases hn:gD ⟨s.toArray⟩ with
    | nil=>rw[hn] at h;simp at h
    | cons x r=>exact⟨x,r,rfl⟩
   have hnm:=sG ⟨s.toArray⟩;rw[hx] at hnm;rw[hx];rw[hp] at hcp;have HCP:=Hh hcp;clear hcp;have HN:=Hh hnm;clear hnm;clear hp hv h hx;go_enter func276,ntmps276
   go_wp2_with fail
   refine (HCP.out _).mono ?_;rintro e w1 ⟨rfl,rfl⟩;go_wp2_with fail
   refine (HN.out _ (by show s.toArray.size≤_;rw[Qx];unfold maxLen;omega)).mono ?_;rintro e w2 ⟨v,rfl,hr,hb⟩;obtain⟨a,c,rfl,hc,hr⟩:=hr.op;obtain⟨g,o,rfl,hg,hr⟩:=hr sm;obtain⟨c0,c1,c2⟩:=hr 0 _ rfl;simp only[Yr,Xu] at c0 c1 c2;obtain⟨k0,k1,k2,f0,f1,f2⟩:=bE (aW hb);have hbw:=aK hb;clear hb;have HR:=Hh hr;clear hr;have HBW:=Hh hbw;clear hbw;have hsz:0<((x0,x1,x2)::rest).length:=by simp
   generalize ((x0,x1,x2)::rest).length=N at *;go_wp2_with fail
   refine bodyPost_ret (v:=opW (x0,x1,x2)) (by simp[results,results276,go_sem,k0,k1,k2]) rfl ⟨rfl,((HBW.out.setCell (p:=w) lr _).setCell (p:=⟨w,1,none⟩) lr _).setCell (p:=⟨w,2,none⟩) lr _⟩
 · rw[if_neg (by rw[hp];decide)] at h;have hv:eJ s=(4,Rb ((gD ⟨(Lib.trimSuffix (Lib.trimPrefix s [40]) [41]).toArray⟩).headD (0,0,0)),0):=by unfold eJ;rw[if_neg (by rw[hp];decide)]
   rw[hv];have hts:=fun w=>Tryz.strings_TrimSuffix ⟨(Lib.trimPrefix s [40]).toArray⟩ ⟨#[41]⟩ w;simp only at hts;have htl:(Lib.trimPrefix s [40]).length≤100:=by unfold Lib.trimPrefix;split<;>(try rw[Xm])<;>omega
   have htl2:(Lib.trimSuffix (Lib.trimPrefix s [40]) [41]).length≤100:=by unfold Lib.trimSuffix;split<;>(try rw[Qt])<;>omega
   generalize Lib.trimSuffix (Lib.trimPrefix s [40]) [41]=q at *;generalize Lib.trimPrefix s [40]=r at *;obtain⟨⟨x0,x1,x2⟩,rest,hx⟩:∃ x rest,gD ⟨q.toArray⟩=x::rest:=by
    cases hn:gD ⟨q.toArray⟩ with
    | nil=>rw[hn] at h;simp at h
    | cons x r=>exact⟨x,r,rfl⟩
   have hnm:=sG ⟨q.toArray⟩;rw[hx] at hnm;rw[hx];rw[hp] at hcp;have HCP:=Hh hcp;clear hcp;have HTS:=Hh hts;clear hts;have HN:=Hh hnm;clear hnm;clear hp hv h hx;simp only[List.headD_cons];by_cases h3:x0=3
   · subst h3;rw[show Rb (3,x1,x2)=x1 from rfl]
     go_enter func276,ntmps276
     go_wp2_with fail
     refine (HCP.out _).mono ?_;rintro e w1 ⟨rfl,rfl⟩;go_wp2_with fail
     refine (HTS.out _ (by show r.toArray.size≤_;rw[Qx];omega)).mono ?_;rintro e w1 ⟨rfl,rfl⟩;go_wp2_with fail
     refine (HN.out _ (by show q.toArray.size≤_;rw[Qx];unfold maxLen;omega)).mono ?_;rintro e w2 ⟨v,rfl,hr,hb⟩;obtain⟨a,c,rfl,hc,hr⟩:=hr.op;obtain⟨g,o,rfl,hg,hr⟩:=hr sm;obtain⟨c0,c1,c2⟩:=hr 0 _ rfl;simp only[Yr,Xu] at c0 c1 c2;obtain⟨k0,k1,k2,f0,f1,f2⟩:=bE (aW hb);have hlt:w.heap.size<w2.heap.size:=by have:=hb.size;rw[Qa] at this;omega
     have hbw:=aK hb;clear hb;have HR:=Hh hr;clear hr;have HBW:=Hh hbw;clear hbw;have hsz:0<((3,x1,x2)::rest:List Op3).length:=by simp
     generalize ((3,x1,x2)::rest:List Op3).length=N at *;go_wp2_with fail
     refine bodyPost_ret (v:=opW (4,x1,0)) (by simp[results,results276,go_sem,k0,k1,k2,hlt]) rfl ⟨rfl,?_⟩;exact (((HBW.out.setCell (p:=w) lr _).setCell (p:=⟨w,1,none⟩) lr _).setCell (p:=⟨w,2,none⟩) lr _).alloc (by simp[World.setCell];omega) _
   · rw[show Rb (x0,x1,x2)=8 from if_neg h3]
     have hb3:(x0 == 3)=false:=by simpa using h3
     clear h3;go_enter func276,ntmps276
     go_wp2_with fail
     refine (HCP.out _).mono ?_;rintro e w1 ⟨rfl,rfl⟩;go_wp2_with fail
     refine (HTS.out _ (by show r.toArray.size≤_;rw[Qx];omega)).mono ?_;rintro e w1 ⟨rfl,rfl⟩;go_wp2_with fail
     refine (HN.out _ (by show q.toArray.size≤_;rw[Qx];unfold maxLen;omega)).mono ?_;rintro e w2 ⟨v,rfl,hr,hb⟩;obtain⟨a,c,rfl,hc,hr⟩:=hr.op;obtain⟨g,o,rfl,hg,hr⟩:=hr sm;obtain⟨c0,c1,c2⟩:=hr 0 _ rfl;simp only[Yr,Xu] at c0 c1 c2;obtain⟨k0,k1,k2,f0,f1,f2⟩:=bE (aW hb);have hlt:w.heap.size<w2.heap.size:=by have:=hb.size;rw[Qa] at this;omega
     have hbw:=aK hb;clear hb;have HR:=Hh hr;clear hr;have HBW:=Hh hbw;clear hbw;have hsz:0<((x0,x1,x2)::rest:List Op3).length:=by simp
     generalize ((x0,x1,x2)::rest:List Op3).length=N at *;go_wp2_with fail
     refine bodyPost_ret (v:=opW (4,8,0)) (by simp[results,results276,go_sem,k0,k1,k2,hlt]) rfl ⟨rfl,?_⟩;exact (((HBW.out.setCell (p:=w) lr _).setCell (p:=⟨w,1,none⟩) lr _).setCell (p:=⟨w,2,none⟩) lr _).alloc (by simp[World.setCell];omega) _
theorem Cc (l:List UInt8) (n:Nat) (x:List UInt8) (w:World) (hT:TabsA w) (hl:l.length≤1000) (ha:l.all (fun b=>decide (b.toNat<128))=true) (hx:(Lib.fields l)[n]? = some x) (hc:rK x=true) :
 Calls prog 296 #[l,n] w fun e w'=>e=.returned (opW (eJ x))∧Below w w w':=by
 have hlt:n<(Lib.fields l).length:=(Qd.1 hx).1;have hwa:=fun w=>rJ x w hc;generalize eJ x=r at *;obtain⟨r0,r1,r2⟩:=r;have hT2:TabsA (w.alloc (.cells #[(0:Int),(0:Int),(0:Int)] 144)):=hT.below (br.alloc lr _);have hfa:=iP l _ hT2 om ha;have hcell:∀ w:World,(w.alloc (.cells ((Lib.fields l).map fun x=>Value.string ⟨x.toArray⟩).toArray 9)).cell? ⟨w,n,none⟩=some (.string ⟨x.toArray⟩):=fun w=>by
  rw[World.cell?_alloc_at _ _ _ _ rfl];simp[hx]
 have hc2:=hcell (w.alloc (.cells #[(0:Int),(0:Int),(0:Int)] 144));simp only[Qa] at hc2;generalize (Lib.fields l).length=N at *;generalize Obj.cells ((Lib.fields l).map fun x=>Value.string ⟨x.toArray⟩).toArray 9=O at *;have HFA:=Hh hfa;clear hfa hcell;have HW:=Hh hwa;clear hwa;have hi:(n:Int)<N:=om
 clear hx hT hT2 ha;go_enter func296,ntmps296
 go_wp2_with fail
 refine HFA.out.mono ?_;rintro e w1 ⟨rfl,rfl⟩;go_wp2_with fail
 refine (HW.out _).mono ?_;rintro e w2 ⟨rfl,hb⟩;have hlt2:=hb.size;simp only[Qa] at hlt2;have hkb:w2.heap[w.heap.size]? = some (.cells #[(0:Int),(0:Int),(0:Int)] 144):=(hb.block _ (by simp;omega)).trans (by rw[Below.heap_alloc _ _ _ sm];show (w.heap.push _)[w.heap.size]? = _;simp)
 obtain⟨k0,k1,k2,f0,f1,f2⟩:=bE hkb;have HBW:=Hh ((show Below w w _ from bl).trans (hb.mono (by simp;omega)));clear hb hkb;go_wp2_with fail
 refine bodyPost_ret (v:=opW (r0,r1,r2)) (by simp[results,results296,go_sem,k0,k1,k2]) rfl ⟨rfl,?_⟩;exact ((HBW.out.setCell (p:=w) lr _).setCell (p:=⟨w,1,none⟩) lr _).setCell (p:=⟨w,2,none⟩) lr _
end Go.Proofs.YtoigglljnklhlaaGreatDoor
