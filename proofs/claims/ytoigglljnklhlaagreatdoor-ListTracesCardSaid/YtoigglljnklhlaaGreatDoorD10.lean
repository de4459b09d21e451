/- Joined. -/
import Derived.Test.YtoigglljnklhlaaGreatDoorD09
set_option maxHeartbeats 8000000
set_option maxRecDepth 100000
namespace Go.Proofs.YtoigglljnklhlaaGreatDoor
section
open Go.RowKit Go.Sort
abbrev cP (e:Ent) (v:Value):Value:=.agg #[e.page,.int .u8 e.op,e.mn,v,e.extra,.bool e.alias]
def ent0:Ent:=⟨0,0,[],[],[],false⟩
theorem aPy {w:World} {g:Nat} {x y z:Value} {T:TypeId} (h:w.heap[g]? = some (.cells #[x,y,z] T (0,0))):∀ (j:Nat) (u:Value),[x,y,z][j]? = some u→w.cell? ((⟨g,0,none⟩:Addr).add j)=some u:=fun j u hu=>by
 rw[bD,Xb];match j,hu with
 | 0,hu=>simp at hu;subst hu;simp[World.cell?,h]
 | 1,hu=>simp at hu;subst hu;simp[World.cell?,h]
 | 2,hu=>simp at hu;subst hu;simp[World.cell?,h]
end
section
open Go.RowKit Go.Sort
open Go.Proofs.Tryz
theorem Tryz.infoString:(prog.info? 9).map (fun i=>(i.zero,i.size,i.bytes))=some (some (.string ⟨#[]⟩),1,16):=by kernel_rfl
theorem iZ {w w':World} {base:Nat} {e:TypeId} {size:Nat} {v:Value} {n:Nat} {xs:List Value} (h:w.ownsRow base e size v n xs) (hb:Below w w w'):w'.ownsRow base e size v n xs:=by
 obtain⟨h1,h2⟩:=h;refine⟨h1,?_⟩;rcases h2 with h2|⟨g,cap,cur,hv,hg,hh,r⟩
 · exact Or.inl h2
 · exact Or.inr ⟨g,cap,cur,hv,hg,by rw[hb.block g (lt_of_block hh)];exact hh,r⟩
def fH (l:List ByteArray):List Value:=l.map Value.string
theorem jN (l:List ByteArray):(fH l).length=l.length:=by simp[fH]
theorem qA (l m:List ByteArray):fH (l++m)=fH l++fH m:=by simp[fH]
def w2T (r:Rule):List UInt8:=(Lib.fields r.text).getD 2 []
def gH (r:Rule):Bool:=decide (2<(Lib.fields r.text).length) && decide (w2T r≠[42])
def Eg (r:Rule):Bool:=if gH r=true then decide (Lib.countB ⟨(w2T r).toArray⟩ ⟨#[44]⟩+1=r.args.length) else decide (r.args=[])
theorem Lk:∀ r∈iU,Eg r=true:=by decide +kernel
theorem kZ (r:RA):∃ rest,Lib.fields r.1.text=r.1.bits::r.1.mn::rest∧((Lib.fields r.1.text).getD ((Lib.fields r.1.text).length - 1) [] == [42])=r.1.alias∧r.1.text.all (fun b=>decide (b.toNat<128))=true∧(gH r.1=true→aPj (w2T r.1)=r.1.args∧Lib.countB ⟨(w2T r.1).toArray⟩ ⟨#[44]⟩+1=r.1.args.length)∧(gH r.1=false→r.1.args=[]):=by
 have h:=mC r;have hs:=Lk r.1 r.2;unfold Eg at hs;unfold iY at h;simp only[Qe,Qf] at h;obtain⟨⟨⟨⟨⟨⟨⟨⟨⟨⟨⟨h1,h2⟩,h3⟩,h4⟩,h5⟩,h6⟩,_⟩,_⟩,_⟩,_⟩,_⟩,_⟩:=h;obtain⟨a,b,rest,hf⟩:∃ a b rest,Lib.fields r.1.text=a::b::rest:=by
  cases hL:Lib.fields r.1.text with
  | nil=>rw[hL] at h1;simp at h1
  | cons a l=>cases l with
    | nil=>rw[hL] at h1;simp at h1
    | cons b l=>exact⟨a,b,l,rfl⟩
 have e1:a=r.1.bits:=by rw[hf] at h2;exact h2
 have e2:b=r.1.mn:=by rw[hf] at h3;exact h3
 refine⟨rest,by rw[hf,e1,e2],?_,h6,fun ha=>?_,fun ha=>?_⟩
 · rw[Yl,Yq];exact h4
 · rw[if_pos ha,Qf] at hs;unfold gH at ha;rw[Qe,Qf,Qf] at ha;unfold w2T at ha;rw[if_pos ha,Qf] at h5;exact⟨h5,hs⟩
 · rw[if_neg (by rw[ha];decide),Qf] at hs;exact hs
theorem sW:∀ r∈iU,(Lib.fields r.text).length≤1000:=by decide +kernel
theorem wW:∀ r∈iU,∀ x∈Lib.fields r.text,x.length≤1000:=by decide +kernel
theorem Bp (r:RA) (w:World) (hT:TabsA w) (ha:gH r.1=false) :
 Calls prog 250 #[r.1.text] w fun e w'=>e=.returned (nR r.1.bits r.1.mn (.slice none 0 0) r.1.alias)∧Below w w w':=by
 obtain⟨rest,hf,hal,hasc,_,_⟩:=kZ r;have hb0:Below w w (w.alloc (.cells #[(),(),zz,.bool false] 312)):=br.alloc lr _;have hfa:=iP r.1.text _ (hT.below hb0) (by have:=(cZ r).2.1;omega) hasc
 obtain⟨O,hO⟩:∃ O,Obj.cells ((Lib.fields r.1.text).map fun x=>Value.string ⟨x.toArray⟩).toArray 9=O:=⟨_,rfl⟩;rw[hO] at hfa;obtain⟨N,hN⟩:∃ N,(Lib.fields r.1.text).length=N:=⟨_,rfl⟩;have hN2:2≤N:=by rw[←hN,hf];simp
 have hNle:N≤1000:=by rw[←hN];exact sW r.1 r.2
 have hha:N≤2∨2<N∧(Lib.fields r.1.text)[2]? = some [42]:=by
  unfold gH w2T at ha;rw[hN] at ha;by_cases h2:2<N
  · right
    refine⟨h2,?_⟩;have hx:(Lib.fields r.1.text)[2]? = some ((Lib.fields r.1.text)[2]'om):=Qb om;rw[Qh h2,Yp,decide_eq_false_iff_not,Decidable.not_not,Xh,hx] at ha;rw[hx,←ha];rfl
  · left;omega
 have hcell:∀ (W:World) (j:Nat) (x:List UInt8),(Lib.fields r.1.text)[j]? = some x→(W.alloc O).cell? ⟨W,j,none⟩=some (.string ⟨x.toArray⟩):=fun W j x hx=>by
  rw[←hO,World.cell?_alloc_at _ _ _ _ rfl];simp[hx]
 have hc0:=hcell (w.alloc (.cells #[(),(),zz,.bool false] 312)) 0 r.1.bits (by rw[hf];rfl);have hc1:=hcell (w.alloc (.cells #[(),(),zz,.bool false] 312)) 1 r.1.mn (by rw[hf];rfl);obtain⟨y,hy⟩:∃ y,(Lib.fields r.1.text)[N - 1]? = some y:=⟨_,Qb om⟩;have hcy:=hcell (w.alloc (.cells #[(),(),zz,.bool false] 312)) (N - 1) y hy;have hyal:(y == [42])=r.1.alias:=by rw[←hal,hN,Xh,hy];rfl
 have hc2:=fun h=>hcell (w.alloc (.cells #[(),(),zz,.bool false] 312)) 2 [42] h;rw[Qa] at hc0 hc1 hcy hc2;rw[hN] at hfa;have HFA:=Hh hfa;clear hfa hO hcell;generalize r.1.alias=al at *;generalize r.1.bits=bs at *;generalize r.1.mn=mn at *;have hN0:(0:Int)<N:=om
 have hN1:(1:Int)<N:=om
 have ws:IntKind.i64.wrap ((N:Int) - 1)=(N:Int) - 1:=IntWalk.i64_in _ om;have ws1:(0:Int)≤(N:Int) - 1:=om
 have ws2:((N:Int) - 1).toNat=N - 1:=om
 clear hf hal hT hb0 hN ha;rcases hha with h2|⟨h2,hs2⟩
 · have hd:decide ((2:Int)<(N:Int))=false:=Qg om;clear hc2;go_enter func250,ntmps250
   go_wp2_with fail
   refine HFA.out.mono ?_;rintro e w1 ⟨rfl,rfl⟩;go_wp2_with fail
   go_region
   go_wp2_with fail
   refine bodyPost_ret (v:=nR bs mn (.slice none 0 0) al) (by simp[results,results250,go_sem]) rfl ⟨rfl,bl⟩
 · have hd:decide ((2:Int)<(N:Int))=true:=Qh om;have hN3:(2:Int)<N:=om
   have hc3:=hc2 hs2;clear hc2 hs2;go_enter func250,ntmps250
   go_wp2_with fail
   refine HFA.out.mono ?_;rintro e w1 ⟨rfl,rfl⟩;go_wp2_with fail
   go_region
   go_wp2_with fail
   refine bodyPost_ret (v:=nR bs mn (.slice none 0 0) al) (by simp[results,results250,go_sem]) rfl ⟨rfl,bl⟩
theorem Bo (r:RA) (w:World) (hT:TabsA w) (ha:gH r.1=true) :
 Calls prog 250 #[r.1.text] w fun e w'=>∃ a c,e=.returned (nR r.1.bits r.1.mn (.slice a r.1.args.length c) r.1.alias)∧Row w' (.slice a r.1.args.length c) r.1.args.length (fH (r.1.args.map fun x=>⟨x.toArray⟩))∧Below w w w':=by
 obtain⟨rest,hf,hal,hasc,hargs,_⟩:=kZ r;obtain⟨hsp,hcnt⟩:=hargs ha;have hb0:Below w w (w.alloc (.cells #[(),(),zz,.bool false] 312)):=br.alloc lr _;have hfa:=iP r.1.text _ (hT.below hb0) (by have:=(cZ r).2.1;omega) hasc
 obtain⟨O,hO⟩:∃ O,Obj.cells ((Lib.fields r.1.text).map fun x=>Value.string ⟨x.toArray⟩).toArray 9=O:=⟨_,rfl⟩;rw[hO] at hfa;obtain⟨N,hN⟩:∃ N,(Lib.fields r.1.text).length=N:=⟨_,rfl⟩;have hN2:2≤N:=by rw[←hN,hf];simp
 have hNle:N≤1000:=by rw[←hN];exact sW r.1 r.2
 have hha:2<N∧(Lib.fields r.1.text)[2]? = some (w2T r.1):=by
  unfold gH at ha;rw[Qe,Qf] at ha;rw[hN] at ha;refine⟨ha.1,?_⟩;unfold w2T;rw[Xh,Qb om];rfl
 have hne:(w2T r.1 == [42])=false:=by
  unfold gH at ha;rw[Qe,Qf,Qf] at ha;simpa using ha.2
 obtain⟨h2,hs2⟩:=hha;have hcell:∀ (W:World) (j:Nat) (x:List UInt8),(Lib.fields r.1.text)[j]? = some x→(W.alloc O).cell? ⟨W,j,none⟩=some (.string ⟨x.toArray⟩):=fun W j x hx=>by
  rw[←hO,World.cell?_alloc_at _ _ _ _ rfl];simp[hx]
 have hc0:=hcell (w.alloc (.cells #[(),(),zz,.bool false] 312)) 0 r.1.bits (by rw[hf];rfl);have hc1:=hcell (w.alloc (.cells #[(),(),zz,.bool false] 312)) 1 r.1.mn (by rw[hf];rfl);obtain⟨y,hy⟩:∃ y,(Lib.fields r.1.text)[N - 1]? = some y:=⟨_,Qb om⟩;have hcy:=hcell (w.alloc (.cells #[(),(),zz,.bool false] 312)) (N - 1) y hy;have hyal:(y == [42])=r.1.alias:=by rw[←hal,hN,Xh,hy];rfl
 have hc2:=fun h=>hcell (w.alloc (.cells #[(),(),zz,.bool false] 312)) 2 (w2T r.1) h;rw[Qa] at hc0 hc1 hcy hc2;rw[hN] at hfa;have hW2:(w2T r.1).length≤1000:=by
  have h3:=Qu hs2;exact wW r.1 r.2 _ h3
 obtain⟨m,hm⟩:=hT.ml;have hspl:=fun (W:World) (hb:Below w w W)=>Tryz.strings_Split ⟨(w2T r.1).toArray⟩ ⟨#[44]⟩ m W (by show (w2T r.1).toArray.size<_;rw[Qx];omega) ((hb.cell (p:=⟨2,0,none⟩) (block_lt_of_cell (a:=⟨2,0,none⟩) hm)).trans hm) dc
 rw[hcnt] at hspl;have hspl2:(Lib.splitB ⟨#[44]⟩ 0 (Lib.countB ⟨(w2T r.1).toArray⟩ ⟨#[44]⟩) ⟨(w2T r.1).toArray⟩)=r.1.args.map fun x=>⟨x.toArray⟩:=by
  unfold aPj at hsp;rw[←hsp,Zk,show ((fun x:List UInt8=>(⟨x.toArray⟩:ByteArray)) ∘ fun b:ByteArray=>b.data.toList)=id from funext fun b=>by cases b;simp,List.map_id]
 rw[hspl2] at hspl;have hc3:=hc2 hs2;clear hc2;generalize w2T r.1=q at *;obtain⟨A,hA⟩:∃ A:List ByteArray,(r.1.args.map fun x=>(⟨x.toArray⟩:ByteArray))=A:=⟨_,rfl⟩;have hAl:A.length=r.1.args.length:=by rw[←hA,Qs]
 rw[hA] at hspl;rw[hA];have hle:r.1.args.length≤3:=by
  have h:=mC r;unfold iY at h;simp only[Qe,Qf] at h;exact h.2
 generalize r.1.args.length=n at *;have HSPL:=Hh hspl;clear hspl hspl2 hA hsp hcnt;have HFA:=Hh hfa;clear hfa hO hcell;generalize r.1.alias=al at *;generalize r.1.bits=bs at *;generalize r.1.mn=mn at *;have hN0:(0:Int)<N:=om
 have hN1:(1:Int)<N:=om
 have ws:IntKind.i64.wrap ((N:Int) - 1)=(N:Int) - 1:=IntWalk.i64_in _ om;have ws1:(0:Int)≤(N:Int) - 1:=om
 have ws2:((N:Int) - 1).toNat=N - 1:=om
 clear hf hal hT hb0 hN ha hs2 hm;have hd:decide ((2:Int)<(N:Int))=true:=Qh om;have hN3:(2:Int)<N:=om
 go_enter func250,ntmps250
 go_wp2_with fail
 refine HFA.out.mono ?_;rintro e w1 ⟨rfl,rfl⟩;go_wp2_with fail
 go_region
 go_wp2_with fail
 refine (HSPL.out _ (bl)).mono ?_;rintro e w1 ⟨rfl,rfl⟩;go_wp2_with fail
 refine bodyPost_ret (v:=nR bs mn (.slice (some ⟨w.heap.size+1+1+1,0,none⟩) n n) al) (by simp[results,results250,go_sem]) rfl ⟨_,_,rfl,⟨_,n,rfl,Qk _,fun _=>⟨w.heap.size+1+1+1,0,rfl,by simp[go_sem],fun j hj=>?_⟩⟩,bl⟩
 rw[Xb,World.cell?_drew,World.cell?_alloc_at _ _ _ _ sm];simp[fH]
theorem Gn (r:RA) (w:World) (hT:TabsA w) :
 Calls prog 250 #[r.1.text] w fun e w'=>∃ a c,e=.returned (nR r.1.bits r.1.mn (.slice a r.1.args.length c) r.1.alias)∧Row w' (.slice a r.1.args.length c) r.1.args.length (fH (r.1.args.map fun x=>⟨x.toArray⟩))∧Below w w w':=by
 rcases ha:gH r.1 with _|_
 · obtain⟨_,_,_,_,_,hn⟩:=kZ r;have hn:=hn ha;rw[hn];exact (Bp r w hT ha).mono fun e w' ⟨he,hb⟩=>⟨none,0,he,Row.nil _,hb⟩
 · exact Bo r w hT ha
end
section
open Go.RowKit Go.Sort Go.Shelf
open Go.Proofs.Tryz
attribute [local go_sem] Oper.semAt_some
def jA (op:Nat) (l:List RA):Option RA:=l.find? fun r=>eH r.1.text op
def uU (o:Option RA):Value:=.tuple #[.string (match o with|some r=>⟨r.1.text.toArray⟩|none=>⟨#[]⟩),.bool o.isSome]
theorem rR {b:Nat} (A B:World) (k:Nat) (o:Obj) (h:StB b A B) (hk:A.heap[k]? = some o) (hc:o.isCells=false):B.heap[k]? = some o:=by
 obtain⟨h,s,hs⟩:=h;by_cases e:k=b
 · subst e;unfold StrB at hs;rw[hs] at hk;cases hk;cases hc
 · exact (h.block k (Ql.1 hk).1 e).trans hk
theorem iS {b k:Nat} {t:TypeId} {v:Value} {A B:World} (h:Boxed A k t v) (hb:Kb b A B) (hne:k≠b):Boxed B k t v:=(hb.block k h.lt hne).trans h
theorem Kb.belowN {b n:Nat} {A B:World} (h:Kb b A B) (hn:n≤b) (hA:n≤A):Below n A B:=⟨h.os,h.tape,h.output,h.size,fun k hk=>h.block k om om⟩
theorem Sv {op:Nat} {l:List RA} (h:∀ y∈l,eH y.1.text op=false):jA op l=none:=by
 unfold jA;rw[List.find?_eq_none];intro y hy;rw[h y hy];decide
theorem Nw {op:Nat} {q l:List RA} {x:RA} (hp:q++[x] <+: l) (h:∀ y∈q,eH y.1.text op=false) (hx:eH x.1.text op=true):jA op l=some x:=by
 obtain⟨r,rfl⟩:=hp;unfold jA;rw[Yc,List.find?_append,List.find?_eq_none.2 (by intro y hy;rw[h y hy];decide)];simp[hx]
theorem uG (s:ByteArray) (w:World):Calls prog 274 #[.string s] w fun e w'=>e=.returned (.func (.func 292) #[] #[.pointer w])∧w'=w.alloc (.cells #[.string s] 9):=by
 go_enter func274,ntmps274
 go_wp2
 go_ret;exact⟨rfl,rfl⟩
theorem nE (r0:RA) (rl:List RA) (op:Nat) (w:World) (hlen:rl.length≤1000) (hop:op<256) :
 Calls prog 249 #[.string (dA (r0::rl)),.int .u8 op] w fun e w'=>e=.returned (uU (jA op (r0::rl)))∧Below w w w':=by
 refine (callsIn_wide (n:=3)).1 ?_;obtain⟨J,hJ⟩:∃ J,dA (r0::rl)=J:=⟨_,rfl⟩;rw[hJ];have HJ:=Hh hJ;clear hJ;refine callsIn_of_wp_marks func249 rfl trivial ?_ rfl;simp only[ntmps249,Qx,Qp,Qz,Nat.reduceAdd,Nat.reduceSub,Array.replicate_succ,Array.replicate_zero,List.push_toArray,List.append_toArray,Ye,Xy];gi_wp2_with (refine⟨trivial,?_⟩;gi_at_call 274;refine (callsIn_wide.2 (uG _ _)).mono ?_;rintro e w' ⟨rfl,rfl⟩)
 obtain⟨c,hc⟩:∃ c:World,(((w.alloc (.cells #[.int .u8 op] 5)).alloc (.cells #[()] 9)).alloc (.cells #[.bool false] 4))=c:=⟨_,rfl⟩;have hcs:c.heap.size=w.heap.size+1+1+1:=by rw[←hc];simp
 have b0:Boxed c w 5 (.int .u8 op):=by rw[←hc];exact ((Boxed.new _ _ _).alloc _).alloc _
 have b1:Boxed c (w.heap.size+1) 9 (.string ⟨#[]⟩):=by rw[←hc];have:=(Boxed.new (w.alloc (.cells #[.int .u8 op] 5)) 9 (.string ⟨#[]⟩)).alloc (.cells #[.bool false] 4);rwa [Qa] at this
 have b2:Boxed c (w.heap.size+1+1) 4 (.bool false):=by rw[←hc];have:=Boxed.new ((w.alloc (.cells #[.int .u8 op] 5)).alloc (.cells #[()] 9)) 4 (.bool false);simp only[Qa] at this;exact this
 have hB0:Below w w c:=by rw[←hc];exact ((((Below.refl _ w).alloc lr _).alloc sm _).alloc (by simp;omega) _)
 rw[hc];clear hc;have hst:StrB (w.heap.size+1+1+1) (c.alloc (.cells #[.string J] 9)) (dA (r0::rl)):=by rw[HJ.out,←hcs];exact Boxed.new _ _ _
 refine gJ rfl dc (gf:=292) (lb:=#[.pointer (some ⟨w.heap.size+1+1+1,0,none⟩)]) rfl trivial (enters_of func292 kr rfl)
  (uH 2 (w.heap.size+1+1+1) dc r0 rl hlen)
  (fun o o'=>(Boxed.alloc (Boxed.alloc hst o) o')) (fun A B k o h hk hc _=>rR A B k o h hk hc) Ev (Ew (by rw[Qa,hcs];omega)) (fun _ _ _ _ _ _ _ _ _=>trivial) (fun _=>rfl)
  (fun pre W=>((∀ y∈pre,eH y.1.text op=false)∧Boxed W w 5 (.int .u8 op)∧Boxed W (w.heap.size+1) 9 (.string ⟨#[]⟩)∧Boxed W (w.heap.size+1+1) 4 (.bool false))∧Below w w W)
  (fun c pre W=>(c=.ret∧∃ q x,pre=q++[x]∧(∀ y∈q,eH y.1.text op=false)∧eH x.1.text op=true∧Boxed W (w.heap.size+1) 9 (.string ⟨x.1.text.toArray⟩)∧Boxed W (w.heap.size+1+1) 4 (.bool true))∧Below w w W)
  ?hI ?hIs ?hIx ?hIxs ⟨⟨by simp,b0.alloc _,b1.alloc _,b2.alloc _⟩,hB0.alloc om _⟩
  (fun x=>{ tmps:=#[.string J,.int .u8 op,undef,.pointer w,.pointer (w+1:Nat),.pointer (some ⟨w.heap.size+1+1,0,none⟩),.string ⟨x.1.text.toArray⟩,.string J,.func (.func 292) #[] #[.pointer (some ⟨w.heap.size+1+1+1,0,none⟩)],.string ⟨x.1.text.toArray⟩,undef,undef,undef,undef],defers:=[] }) ?assign ?body ?done ?stop
 case hI=>exact OwnFrom.and (fun s A B row hs hg hr=>⟨hs.1,(Own.from (boxed_own (β:=Unit) _ _ fun _=>_) _) () A B row hs.2.1 hg hr,(Own.from (boxed_own (β:=Unit) _ _ fun _=>_) _) () A B row hs.2.2.1 hg hr,(Own.from (boxed_own (β:=Unit) _ _ fun _=>_) _) () A B row hs.2.2.2 hg hr⟩) (ownFrom_below lr (by rw[Qa,hcs];omega))
 case hIs=>exact fun s A B ⟨⟨h1,h2,h3,h4⟩,h5⟩ hs=>⟨⟨h1,iS h2 hs.1 om,iS h3 hs.1 om,iS h4 hs.1 om⟩,h5.trans (hs.1.belowN om h5.size)⟩
 case hIx=>exact fun c=>OwnFrom.and (fun s A B row ⟨h0,q,x,h1,h2,h3,h4,h5⟩ hg hr=>⟨h0,q,x,h1,h2,h3,(Own.from (boxed_own (β:=Unit) _ _ fun _=>_) _) () A B row h4 hg hr,(Own.from (boxed_own (β:=Unit) _ _ fun _=>_) _) () A B row h5 hg hr⟩) (ownFrom_below lr (by rw[Qa,hcs];omega))
 case hIxs=>exact fun c s A B ⟨⟨h0,q,x,h1,h2,h3,h4,h5⟩,h6⟩ hs=>⟨⟨h0,q,x,h1,h2,h3,iS h4 hs.1 om,iS h5 hs.1 om⟩,h6.trans (hs.1.belowN om h6.size)⟩
 case assign =>
  intro l x W K hK;gi_wp2
  exact hK
 case body =>
  rintro l pre x W ⟨⟨hp,c0,c1,c2⟩,hB⟩ _ _;have hc0:=c0.cell;have k1:=c1.cell;have f1:=c1.frozen;have k2:=c2.cell;have f2:=c2.frozen;have hfits:=zK x.1.text op W (cZ x).1 (cZ x).2.1 hop;rcases hx:eH x.1.text op with _|_
  · rw[hx] at hfits;have HF:=Hh hfits;clear hfits;have HX:=Hh hx;clear hx;gi_wp2_with (refine⟨trivial,?_⟩;gi_at_call 262;refine (CallsIn.inRound l (callsIn_wide.2 HF.out)).mono ?_;rintro e w' ⟨rfl,rfl⟩)
    exact⟨KeepsOthers.refl _,rfl,⟨fun y hy=>(Xs.1 hy).elim (hp y) (fun e=>by simp at e;subst e;exact HX.out),c0,c1,c2⟩,hB⟩
  · rw[hx] at hfits;have HF:=Hh hfits;clear hfits;have HX:=Hh hx;clear hx;gi_wp2_with (refine⟨trivial,?_⟩;gi_at_call 262;refine (CallsIn.inRound l (callsIn_wide.2 HF.out)).mono ?_;rintro e w' ⟨rfl,rfl⟩)
    exact⟨(KeepsOthers.setCell _ _ _).trans (KeepsOthers.setCell _ _ _),⟨rfl,pre,x,rfl,hp,HX.out,(c1.set _).other om _,(c2.other om _).set _⟩,(hB.setCell (p:=⟨w+1,0,none⟩) sm _).setCell (p:=⟨w.heap.size+1+1,0,none⟩) (by simp;omega) _⟩
 case done =>
  rintro D ys W hD rfl ⟨⟨hp,c0,c1,c2⟩,hB⟩ hK;have k1:=c1.cell;have f1:=c1.frozen;have k2:=c2.cell;have f2:=c2.frozen;have HP:=Hh hp;clear hp;gi_wp2
  have hd:D≠w.heap.size+1:=by rw[Qa,hcs] at hD;omega
  have hd2:D≠w.heap.size+1+1:=by rw[Qa,hcs] at hD;omega
  have hK':=(((KeepsOthers.setCell W ⟨w+1,0,none⟩ (.string ⟨#[]⟩)).trans (KeepsOthers.setCell _ ⟨w.heap.size+1+1,0,none⟩ (.bool false)))).same D _ hK rfl;refine⟨by simp,.inl ⟨_,_,rfl,run_takeDeferred hK',?_⟩⟩
  have e1:=((c1.set (.string ⟨#[]⟩)).other (B':=w.heap.size+1+1) om (.bool false)).kept (grownBy_putObj' _ D (.deferred none)) (fun e=>hd (by cases e;rfl));have e2:=((c2.other (B':=w.heap.size+1) om (.string ⟨#[]⟩)).set (.bool false)).kept (grownBy_putObj' _ D (.deferred none)) (fun e=>hd2 (by cases e;rfl));have g1:=e1.cell;have g2:=e2.cell;refine⟨uU none,?_,by rw[Sv HP.out],((hB.setCell (p:=⟨w+1,0,none⟩) sm _).setCell (p:=⟨w.heap.size+1+1,0,none⟩) (by simp;omega) _).trans (belowK_b (w:=w) lr _ D _ _ (by rw[Qa,hcs] at hD;omega) hK' rfl rfl)⟩
  simp[results,Tryz.f249,go_sem,g1,g2,uU]
 case stop =>
  rintro D c pre W hD hpre ⟨⟨rfl,q,x,rfl,hq,hx,c1,c2⟩,hB⟩ hK;have HP:=Hh (Nw hpre hq hx);clear hpre hq hx;gi_wp2
  have hd:D≠w.heap.size+1:=by rw[Qa,hcs] at hD;omega
  have hd2:D≠w.heap.size+1+1:=by rw[Qa,hcs] at hD;omega
  refine⟨by simp,.inl ⟨_,_,rfl,run_takeDeferred hK,?_⟩⟩
  have g1:=(c1.kept (grownBy_putObj' _ D (.deferred none)) (fun e=>hd (by cases e;rfl))).cell;have g2:=(c2.kept (grownBy_putObj' _ D (.deferred none)) (fun e=>hd2 (by cases e;rfl))).cell;refine⟨uU (some x),?_,by rw[HP.out],hB.trans (belowK_b (w:=w) lr W D _ _ (by rw[Qa,hcs] at hD;omega) hK rfl rfl)⟩
  simp[results,Tryz.f249,go_sem,g1,g2,uU]
end
section
open Go.RowKit Go.Sort
open Go.Proofs.Tryz
theorem jT (w:World) (o:Obj):(w.alloc o).heap[w.heap.size]? = some o:=by show (w.heap.push o)[w.heap.size]? = _;simp
theorem Ca (w:World) (o1 o2:Obj):((w.alloc o1).alloc o2).heap[w.heap.size+1]? = some o2:=by
 rw[show w.heap.size+1=(w.alloc o1).heap.size by simp]
 exact jT _ _
theorem BuAt.setArgs {w:World} {b:Nat} {u:Bu} (h:BuAt w b u) (v:Value):BuAt (w.setCell ⟨b,3,none⟩ v) b { u with va:=v }:=by
 unfold BuAt at *;show (w.heap.modify b _)[b]? = _
 rw[Yk (by rw[Array.size_modify];exact (Ql.1 h).1),Array.getElem_modify_self,(Ql.1 h).2]
 rfl
theorem BuAt.args {w:World} {b:Nat} {u:Bu} (h:BuAt w b u):w.cell? ⟨b,3,none⟩=some u.va∧w.frozen? ⟨b,3,none⟩=false:=by
 unfold BuAt at h;refine⟨?_,?_⟩<;>simp[World.cell?,World.frozen?,h]
theorem BuAt.entry {w:World} {b:Nat} {u:Bu} (h:BuAt w b u):w.cell? b=some (.int .i64 u.page)∧w.cell? ⟨b,1,none⟩=some (.int .u8 u.op)∧w.cell? ⟨b,2,none⟩=some (.string ⟨u.mn.toArray⟩)∧w.cell? ⟨b,3,none⟩=some u.va∧w.cell? ⟨b,4,none⟩=some (.string ⟨u.ex.toArray⟩)∧w.cell? ⟨b,5,none⟩=some (.bool u.al):=by
 unfold BuAt at h;refine⟨?_,?_,?_,?_,?_,?_⟩<;>simp[World.cell?,h]
def aOf (bits:List UInt8) (op:Nat) (l:List (List UInt8)):List Op3:=l.map fun s=>(dS bits op s).1
def xOf (bits:List UInt8) (op:Nat) (l:List (List UInt8)):List UInt8:=l.flatMap fun s=>(dS bits op s).2
theorem Dy (bits:List UInt8) (op:Nat) (s:List UInt8):(dS bits op s).2.length≤1:=by
 unfold dS
 repeat' split
 all_goals first|(simp;done)|(dsimp only;repeat' split)<;>simp
theorem oX (bits:List UInt8) (op:Nat):∀ l:List (List UInt8),(xOf bits op l).length≤l.length
 | []=>by simp[xOf]
 | s::l=>by
   have h1:=Dy bits op s;have h2:=oX bits op l;unfold xOf at *;rw[Xz,Qc,Qp];omega
theorem aPr (bits:List UInt8) (op:Nat) (l:List (List UInt8)) (s:List UInt8):aOf bits op (l++[s])=aOf bits op l++[(dS bits op s).1]:=by simp[aOf]
theorem Jp (bits:List UInt8) (op:Nat) (l:List (List UInt8)) (s:List UInt8):xOf bits op (l++[s])=xOf bits op l++(dS bits op s).2:=by simp[xOf]
theorem In (page:Nat) (r0:RA) (rl:List RA) (op:Nat) (w:World) (hlen:rl.length≤1000) (hop:op<256) (hn:jA op (r0::rl)=none) :
 Calls prog 227 #[page,.string (dA (r0::rl)),.int .u8 op] w fun e w'=>e=.returned (.tuple #[cP ent0 (.slice none 0 0),.bool false])∧Below w w w':=by
 have hlk:=fun W=>nE r0 rl op W hlen hop;rw[hn] at hlk;unfold uU at hlk;generalize dA (r0::rl)=J at *;have HL:=Hh hlk;clear hlk hn;go_enter func227,ntmps227
 go_wp2_with fail
 refine (HL.out _).mono ?_;rintro e w1 ⟨rfl,hb⟩;obtain⟨p1,rfl⟩:=aO hb;clear hb;go_wp2_with fail
 refine bodyPost_ret (v:=.tuple #[cP ent0 (.slice none 0 0),.bool false]) (by simp[results,results227,go_sem,ent0]) rfl ⟨rfl,bl⟩
theorem Ip (page op n:Nat) (J:ByteArray) (tx bs mn:List UInt8) (A:List (List UInt8)) (al:Bool) (w:World) (HT:Hid (TabsA w)) (HA:Hid (A.length=n)) (hn3:n≤3) (H8:Hid (bs.length=8)) (hop:op<256)
 (HARG:Hid (∀ (j:Nat) (s:List UInt8),A[j]? = some s→s∈Un∧Dz bs op s=true))
 (HL:Hid (∀ W,Calls prog 249 #[.string J,.int .u8 op] W fun e w'=>e=.returned (.tuple #[tx,.bool true])∧Below W W w'))
 (HP:Hid (∀ W,TabsA W→Calls prog 250 #[tx] W fun e w'=>∃ a c,e=.returned (nR bs mn (.slice a n c) al)∧Row w' (.slice a n c) n (fH (A.map fun x=>⟨x.toArray⟩))∧Below W W w')) :
 Calls prog 227 #[page,.string J,.int .u8 op] w fun e w'=>∃ v,e=.returned (.tuple #[.agg #[page,.int .u8 op,mn,v,(xOf bs op A),.bool al],.bool true])∧w'.ownsRow w 144 3 v n (opc (aOf bs op A))∧Below w w w':=by
 obtain⟨i0,hi,hz0,hz1,hz2⟩:=info_parts Tryz.infoOperand;go_enter func227,ntmps227
 go_wp2_with fail
 refine (HL.out _).mono ?_;rintro e w1 ⟨rfl,hb⟩;have hb1:=aK hb;have HBX:=Hh (aW hb);have HB1:=Hh hb1;clear hb hb1;go_wp2_with fail
 refine (HP.out w1 (HT.out.below HB1.out)).mono ?_;rintro e w2 ⟨a,c,rfl,hrow,hb2⟩;have hb3:=HB1.out.trans (hb2.mono HB1.out.size);have hbx:=(hb2.block _ (lt_of_block HBX.out)).trans HBX.out;have hl2:=lt_of_block hbx;have HB2:=Hh hb3;clear hb2 hb3;have HBX2:=Hh hbx;clear hbx;have HROW:=Hh hrow;clear hrow;go_wp2_with fail
 obtain⟨W1,hW1⟩:∃ W1,w2.alloc (.cells #[bs,mn,.slice a n c,.bool al] 312)=W1:=⟨_,rfl⟩;have hs1:W1.heap.size=w2.heap.size+1:=by rw[←hW1];simp
 have hb21:Below w2 w2 W1:=by rw[←hW1];exact br.alloc lr _
 rw[hW1,←hs1];have HW1:=Hh hW1;clear hW1;have hnb:=jT W1 (.cells #[page,.int .u8 op,mn,zz,(),.bool al,bs,mn,.slice a n c,.bool al] 316);obtain⟨B,hB⟩:∃ B,W1.heap.size=B:=⟨_,rfl⟩;rw[hB] at hs1 hnb ⊢;have hgB:w2.heap.size<B:=om
 have HS1:=Hh hs1;clear hs1;have HBB:=Hh hB;clear hB;have HNB:=Hh hnb;clear hnb;go_loopw [44] (fun i wr=>∃ (j:Nat) (v:Value),j≤n∧i=.int .i64 j∧Hid (BuAt wr B ⟨page,op,mn,v,xOf bs op (A.take j),al,bs,mn,a,n,c,al⟩)∧Hid (wr.ownsRow (B+1) 144 3 v j (opc (aOf bs op (A.take j))))∧Hid (Below B W1 wr)) (fun i _=>n - (intOf i).toNat)
 case atStart=>exact⟨0,.slice none 0 0,Qi _,rfl,Hh HNB.out,Hh (Xa _ _ _ _),Hh (br.alloc (Zw HBB.out.symm) _)⟩
 case round =>
  obtain⟨j,v,hj,rfl,HBU,HOWN,HBL⟩:=hrel;have hsz:B<wr:=HBU.out.lt;by_cases hlt:j<n
  · obtain⟨s,hs⟩:∃ s,A[j]? = some s:=⟨_,Qb (by rw[HA.out];exact hlt)⟩;obtain⟨hsm,hsc⟩:=HARG.out j s hs;obtain⟨a',c',ha',hc',hrow⟩:=HROW.out;cases ha'
    obtain⟨g,o,ha,hg,hcell⟩:=hrow (by intro e;have:=jN (A.map fun x=>(⟨x.toArray⟩:ByteArray));rw[e,Qs,HA.out] at this;simp at this;omega)
    subst ha;have hc:=hcell j (by rw[jN,Qs,HA.out];exact hlt);have hcs:wr.cell? ⟨g,o+j,none⟩=some (.string ⟨s.toArray⟩):=by
     rw[HBL.out.cell (p:=⟨g,o+j,none⟩) (by show g<_;omega),hb21.cell (p:=⟨g,o+j,none⟩) hg,hc];simp[fH,hs]
    clear hcell hc hrow;have hTr:TabsA wr:=((HT.out.below HB2.out).below hb21).below (by rw[HBB.out];exact HBL.out);have hxl:=oX bs op (A.take j);rw[Qt] at hxl;have harg:=Um B ⟨page,op,mn,v,xOf bs op (A.take j),al,bs,mn,some ⟨g,o,none⟩,n,c,al⟩ s wr hTr HBU.out H8.out hop (by show (xOf bs op (A.take j)).length≤100;omega) hsm hsc
    have hx1:=Jp bs op (A.take j) s;have ha1:=aPr bs op (A.take j) s;rw[show A.take j++[s]=A.take (j+1) by rw[Qo,hs];rfl] at hx1 ha1
    unfold mA at harg;dsimp only at harg;rw[←hx1] at harg;obtain⟨⟨o0,o1,o2⟩,ho⟩:∃ x,(dS bs op s).1=x:=⟨_,rfl⟩;rw[ho] at harg ha1;have HX:=Hh ha1;have HARG2:=Hh harg;clear ha1 hx1 harg ho hs hsm hsc hxl hTr;have hi0:(0:Int)≤(j:Int):=om
    have hi1:(j:Int)<(n:Int):=om
    go_wp2_with fail
    refine HARG2.out.mono ?_;rintro e w3 ⟨rfl,hbu3,hk3⟩;have hown3:=Kb.owns HOWN.out hk3 (gA HOWN.out (k:=B) om).symm;have hbl3:=HBL.out.trans (hk3.belowN lr (Xr hsz));have hl3:=hbu3.lt;obtain⟨c3,f3⟩:=hbu3.args;dsimp only at c3;have HBU3:=Hh hbu3;clear hbu3 hk3;have HOWN3:=Hh hown3;clear hown3;have HBL3:=Hh hbl3;clear hbl3;go_wp2_with fail
    go_region_law ((
     refine aR (by rfl) _ _ 51 (by rfl) (B+1) 144 i0 (.agg #[(0:Int),(0:Int),(0:Int)]) 3 24 underlying51 hi hz0 hz1 hz2 rfl dc v j (opc (aOf bs op (A.take j))) ?_ ?_ (.slice (w3+1:Nat) 1 1) 1 [.int .i64 o0,.int .i64 o1,.int .i64 o2] ?_ ?_ (by rfl) ?_ (by unfold maxLen;omega) om ?_ ?_
     · rfl
     · exact iZ HOWN3.out (bl)
     · rfl
     · exact .inr ⟨_,1,rfl,aPy (Ca w3 _ _)⟩
     · intro u hu;simp at hu;rcases hu with rfl|rfl|rfl<;>rfl
     · exact Qn (Nat.succ_le_of_lt hl3) (Below.size (show Below w3 w3 _ from bl))
     intro v2 w5 hown5 hgrow5 _;have hbu5:BuAt w5 B ⟨page,op,mn,v,xOf bs op (A.take (j+1)),al,bs,mn,some ⟨g,o,none⟩,n,c,al⟩:=(hgrow5.block B (Qj hl3 (Below.size (show Below w3 w3 _ from bl))) (gA HOWN3.out (k:=B) om)).trans ((Below.block (show Below w3 w3 _ from bl) B hl3).trans HBU3.out);obtain⟨a2,c2,rfl⟩:=aI hown5;have hc5:=hbu5.args.1;have hf5:=hbu5.args.2;dsimp only at hc5))
    all_goals
     have hown6:=Kb.owns hown5 ((Kb.refl B w5).setCell 3 (.slice a2 (j+1) c2)) (gA hown5 (k:=B) om).symm;have hbu6:=hbu5.setArgs (.slice a2 (j+1) c2);have hbl5:Below B W1 w5:=(HBL3.out.trans (Below.mono (show Below w3 w3 _ from bl) (Xr hl3))).grown hgrow5 (Qn (Xr hl3) (Below.size (show Below w3 w3 _ from bl))) (by
      intro q hq;rcases HOWN3.out.2 with⟨h,_⟩|⟨g',cap,cur,h,hg',_⟩
      · rw[h] at hq;cases hq
      · rw[h] at hq;have q3:g'=q:=Xi hq;omega)
     have hbl6:=hbl5.setCell (p:=⟨B,3,none⟩) lr (.slice a2 (j+1) c2);have HOWN6:=Hh hown6;have HBU6:=Hh hbu6;have HBL6:=Hh hbl6;clear hown6 hbu6 hbl6 hbl5 hgrow5 hown5;go_wp2_with fail
     go_roundw
     case rel=>exact⟨j+1,_,om,by go_num,Hh HBU6.out,Hh (by rw[HX.out];have h7:=HOWN6.out;rwa [show opc (aOf bs op (A.take j)++[(o0,o1,o2)])=opc (aOf bs op (A.take j))++[.int .i64 o0,.int .i64 o1,.int .i64 o2] by simp[opc]]),Hh HBL6.out⟩
     case measure=>simp[intOf];omega
  · obtain rfl:j=n:=om
    obtain⟨c0,c1,c2,c3,c4,c5⟩:=HBU.out.entry;dsimp only at c0 c1 c2 c3 c4 c5;obtain⟨a2,cc,rfl⟩:=aI HOWN.out;have hbw:Below w w wr:=(HB2.out.trans (hb21.mono HB2.out.size)).trans (HBL.out.mono (by have:=HB2.out.size;omega));have hbx:wr.heap[w.heap.size]? = _:=(HBL.out.block w om).trans ((hb21.block _ hl2).trans HBX2.out);have HBW:=Hh hbw;clear hbw;obtain⟨⟨k0,k1,k2,k3,k4,k5⟩,f0,f1,f2,f3,f4,f5⟩:=aN hbx;clear hbx;have hAj:A.take j=A:=Xj (by rw[HA.out];exact Qk _);rw[hAj] at c4;have HOWN2:Hid (wr.ownsRow (B+1) 144 3 (.slice a2 j cc) j (opc (aOf bs op A))):=Hh (by have:=HOWN.out;rwa [hAj] at this);have hwB:w.heap.size<B:=om
    clear HOWN hAj;have hsl:∃ n2,(Value.slice a2 n2 cc)=.slice a2 j cc:=⟨j,rfl⟩;go_wp2_with fail
    refine bodyPost_ret (v:=.tuple #[.agg #[page,.int .u8 op,mn,.slice a2 j cc,(xOf bs op A),.bool al],.bool true]) (by simp[results,results227,go_sem,k0,k1,k2,k3,k4,k5]) rfl ⟨.slice a2 j cc,rfl,?_,?_⟩
    · exact aP (Kb.owns HOWN2.out (((((((Kb.refl w wr).setCell 0 _).setCell 1 _).setCell 2 _).setCell 3 _).setCell 4 _).setCell 5 _) (gA HOWN2.out (k:=w.heap.size) om).symm) om
    · exact (((((HBW.out.setCell (p:=w) lr _).setCell (p:=⟨w,1,none⟩) lr _).setCell (p:=⟨w,2,none⟩) lr _).setCell (p:=⟨w,3,none⟩) lr _).setCell (p:=⟨w,4,none⟩) lr _).setCell (p:=⟨w,5,none⟩) lr _
theorem Df (page op:Nat) (r:Rule):(iQ page op r).args=aOf r.bits op r.args:=rfl
theorem pO (page op:Nat) (r:Rule):(iQ page op r).args.length=r.args.length:=by rw[Df];simp[aOf]
theorem Im (page:Nat) (r0:RA) (rl:List RA) (op:Nat) (r:RA) (w:World) (hT:TabsA w) (hlen:rl.length≤1000) (hop:op<256) (hn:jA op (r0::rl)=some r) :
 Calls prog 227 #[page,.string (dA (r0::rl)),.int .u8 op] w fun e w'=>∃ v,e=.returned (.tuple #[cP (iQ page op r.1) v,.bool true])∧w'.ownsRow w 144 3 v (iQ page op r.1).args.length (opc (iQ page op r.1).args)∧Below w w w':=by
 have hlk:=fun W=>nE r0 rl op W hlen hop;rw[hn] at hlk;have h:=Ip page op r.1.args.length (dA (r0::rl)) r.1.text r.1.bits r.1.mn r.1.args r.1.alias w (Hh hT) (Hh rfl) (Vj r) (Hh (aAq r)) hop
  (Hh (fun j s hs=>⟨aPk r.1 r.2 s (Qu hs),Uo r.1 r.2 s (Qu hs) ⟨op,hop⟩⟩)) (Hh hlk) (Hh (fun W hT=>Gn r W hT))
 refine h.mono ?_;rintro e w' ⟨v,he,hr,hb⟩;refine⟨v,he,?_,hb⟩;rw[pO];exact hr
def qQ (l:List Rule) (h:∀ r∈l,r∈iU):List RA:=l.pmap (fun r hr=>⟨r,hr⟩) h
theorem uO (l:List Rule) (h:∀ r∈l,r∈iU):(qQ l h).map (·.1.text)=l.map (·.text):=by
 unfold qQ;rw[List.map_pmap];simp
theorem xB:∀ r∈cbR,r∈iU:=fun r h=>by unfold iU;simp[h]
theorem lG:∀ r∈mainR,r∈iU:=fun r h=>by unfold iU;simp[h]
theorem Pk:∀ r∈edR,r∈iU:=fun r h=>by unfold iU;simp[h]
theorem pJ (op:Nat) (hop:op<256):∀ (l:List Rule) (h:∀ r∈l,r∈iU),(jA op (qQ l h)).map (·.1)=qD l op
 | [],_=>rfl
 | r::l,h=>by
   have ih:=pJ op hop l (fun x hx=>h x (Qv _ hx));have hr:r∈iU:=h r Qq;have hf:eH r.text op=r.fits op:=zM r hr ⟨op,hop⟩;unfold jA qD qQ at *;simp only[List.pmap_cons,List.find?_cons,hf];cases r.fits op with
   | true=>rfl
   | false=>exact ih
theorem iD (page:Nat) (l:List Rule) (h:∀ r∈l,r∈iU) (J:ByteArray) (hJ:J=⟨(mQ (l.map (·.text))).toArray⟩) (hne:l≠[]) (hlen:l.length≤1000) (op:Nat) (hop:op<256) (w:World) (hT:TabsA w) :
 Calls prog 227 #[page,.string J,.int .u8 op] w fun e w'=>∃ v,e=.returned (.tuple #[cP ((eB page l op).getD ent0) v,.bool (eB page l op).isSome])∧w'.ownsRow w 144 3 v ((eB page l op).getD ent0).args.length (opc ((eB page l op).getD ent0).args)∧Below w w w':=by
 obtain⟨r0,rl,hc⟩:∃ r0 rl,qQ l h=r0::rl:=by
  cases hx:qQ l h with
  | nil=>exfalso;apply hne;have:=congrArg List.length hx;unfold qQ at this;simp at this;exact this
  | cons a b=>exact⟨a,b,rfl⟩
 have hJ2:J=dA (r0::rl):=by
  rw[hJ,←hc];unfold dA;rw[uO]
 have hl2:rl.length≤1000:=by
  have:=congrArg List.length hc
  unfold qQ at this;simp at this
  omega
 have hlk:=pJ op hop l h;rw[hc] at hlk;rw[hJ2];unfold eB;rw[←hlk];cases hk:jA op (r0::rl) with
 | none =>
   refine (In page r0 rl op w hl2 hop hk).mono ?_;rintro e w' ⟨he,hb⟩;exact⟨_,he,Xa _ _ _ _,hb⟩
 | some r=>exact Im page r0 rl op r w hT hl2 hop hk
theorem aPI:∀ op:Fin 256,bits BinOp.or IntKind.u8 (bits BinOp.andNot IntKind.u8 (op.val:Int) 7) 6=((op.val/8*8+6:Nat):Int)∧bits BinOp.and IntKind.u8 (op.val:Int) 7=((op.val%8:Nat):Int):=by decide +kernel
theorem aPa (bt:Bool) (page op q s:Nat) (mn:List UInt8) (l:List Op3) (al:Bool) (w:World) (hp1:5≤page) (hp2:page≤6) (hq:bits BinOp.or IntKind.u8 (bits BinOp.andNot IntKind.u8 (op:Int) 7) 6=(q:Int)) (hs:bits BinOp.and IntKind.u8 (op:Int) 7=(s:Int)) (hs8:s<8)
 (HF:Hid (∀ W,TabsA W→Calls prog 227 #[page,.string cbS,.int .u8 q] W fun e w'=>∃ v ex,e=.returned (.tuple #[.agg #[page,.int .u8 q,mn,v,.string ex,.bool al],.bool true])∧w'.ownsRow W 144 3 v l.length (opc l)∧Below W W w'))
 (HT:Hid (TabsA w)) (h1:1≤l.length) (h2:l.length≤3) (hc:bt=false∧((s:Int) == 6)=true∨bt=true∧((s:Int) == 6)=false∧(mn == [66,73,84])=true) :
 Calls prog 229 #[page,.int .u8 op] w fun e w'=>∃ v,e=.returned (.agg #[page,.int .u8 op,mn,v,.string ⟨#[100]⟩,.bool (bt || al)])∧w'.ownsRow w 144 3 v l.length (opc (l.set (l.length - 1) (5,page,0)))∧Below w w w':=by
 obtain⟨i0,hi,hz0,hz1,hz2⟩:=info_parts Tryz.infoOperand;rcases hc with⟨rfl,hs6⟩|⟨rfl,hs6,hbit⟩;all_goals
  go_enter func229,ntmps229
  go_wp2_with fail
  refine (HF.out _ (HT.out.below (bl))).mono ?_;rintro e w1 ⟨v,ex,rfl,hown,hb⟩;have h0:=aW hb;have hbw:=aK hb;have hl0:=aA h0;have hown1:=aP hown (b':=w.heap.size+1) sm;rcases hown1.2 with⟨_,hz⟩|⟨g,c1,cur,rfl,hg0,hg1,_⟩
  · omega
  replace hg1:=aA hg1;obtain⟨a1',c1',ha1,_,hcells⟩:=(WRow.of_owns hown1).op;cases ha1
  obtain⟨g',o,ho,_,_,hcells⟩:=hcells (by intro e;rw[e] at h1;simp at h1);cases ho
  obtain⟨x,hx⟩:∃ x,l[l.length - 1]? = some x:=⟨_,Qb om⟩;obtain⟨d0,d1,d2,q0,q1,q2⟩:=hcells _ x hx;simp only[Xb] at d0 d1 d2 q0 q1 q2;obtain⟨⟨r0,r1,r2,r3,r4,r5⟩,e0,e1,e2,e3,e4,e5⟩:=aN h0;have hset:=jQ (x:=(5,(page:Int),0)) hown1 (i:=l.length - 1) om;have HSET:=Hh hset;have HBW:=Hh hbw;have H0:=Hh h0;clear hown hown1 hb h0 hbw hx hcells hset;have ws:IntKind.i64.wrap ((l.length:Int) - 1)=(l.length:Int) - 1:=IntWalk.i64_in _ om;have ws1:(0:Int)≤(l.length:Int) - 1:=om
  have ws2:((l.length:Int) - 1).toNat=l.length - 1:=om
  have ws3:(l.length:Int) - 1<(l.length:Int):=om
  generalize hn:l.length=n at *;have HN:=Hh hn;clear hn;go_wp2_with fail
  first
  | refine bodyPost_ret (v:=.agg #[page,.int .u8 op,mn,.slice g n c1,.string ⟨#[100]⟩,.bool al]) (by simp[results,results229,go_sem,r0,r1,r2,r3,r4,r5,hl0]) rfl ⟨_,rfl,?_,?_⟩
  | refine bodyPost_ret (v:=.agg #[page,.int .u8 op,mn,.slice g n c1,.string ⟨#[100]⟩,.bool true]) (by simp[results,results229,go_sem,r0,r1,r2,r3,r4,r5,hl0]) rfl ⟨_,rfl,?_,?_⟩
  · rw[HN.out];exact aP ((Kb.owns HSET.out (((((((Kb.refl w _).setCell 0 _).setCell 1 _).setCell 2 _).setCell 3 _).setCell 4 _).setCell 5 _) (gA HSET.out (k:=w.heap.size) om).symm).alloc _) om
  · have hb9:=HBW.out;refine Below.alloc ?_ (by rw[setCell_size,setCell_size,setCell_size,setCell_size,setCell_size,setCell_size,setCell_size,setCell_size,setCell_size];omega) _;with_reducible repeat (refine Below.setCell ?_ (by first|exact Qk _|(show w.heap.size≤g;omega)) _)
    exact hb9
theorem aPe (page op q s:Nat) (mn:List UInt8) (l:List Op3) (al:Bool) (w:World) (hp1:5≤page) (hp2:page≤6) (hq:bits BinOp.or IntKind.u8 (bits BinOp.andNot IntKind.u8 (op:Int) 7) 6=(q:Int)) (hs:bits BinOp.and IntKind.u8 (op:Int) 7=(s:Int)) (hs8:s<8)
 (HF:Hid (∀ W,TabsA W→Calls prog 227 #[page,.string cbS,.int .u8 q] W fun e w'=>∃ v ex,e=.returned (.tuple #[.agg #[page,.int .u8 q,mn,v,.string ex,.bool al],.bool true])∧w'.ownsRow W 144 3 v l.length (opc l)∧Below W W w'))
 (HT:Hid (TabsA w)) (h1:1≤l.length) (h2:l.length≤3) (hs6:((s:Int) == 6)=false) (hbit:(mn == [66,73,84])=false) :
 Calls prog 229 #[page,.int .u8 op] w fun e w'=>∃ v,e=.returned (.agg #[page,.int .u8 op,mn,v,.string ⟨#[100]⟩,.bool al])∧w'.ownsRow w 144 3 v (l.length+1) (opc (l.set (l.length - 1) (5,page,0)++[(1,(s:Int),0)]))∧Below w w w':=by
 obtain⟨i0,hi,hz0,hz1,hz2⟩:=info_parts Tryz.infoOperand;go_enter func229,ntmps229
 go_wp2_with fail
 refine (HF.out _ (HT.out.below (bl))).mono ?_;rintro e w1 ⟨v,ex,rfl,hown,hb⟩;have h0:=aW hb;have hbw:=aK hb;have hl0:=aA h0;have hown1:=aP hown (b':=w.heap.size+1) sm;rcases hown1.2 with⟨_,hz⟩|⟨g,c1,cur,rfl,hg0,hg1,_⟩
 · omega
 replace hg1:=aA hg1;obtain⟨a1',c1',ha1,_,hcells⟩:=(WRow.of_owns hown1).op;cases ha1
 obtain⟨g',o,ho,_,_,hcells⟩:=hcells (by intro e;rw[e] at h1;simp at h1);cases ho
 obtain⟨x,hx⟩:∃ x,l[l.length - 1]? = some x:=⟨_,Qb om⟩;obtain⟨d0,d1,d2,q0,q1,q2⟩:=hcells _ x hx;simp only[Xb] at d0 d1 d2 q0 q1 q2;obtain⟨⟨r0,r1,r2,r3,r4,r5⟩,e0,e1,e2,e3,e4,e5⟩:=aN h0;have hset:=jQ (x:=(5,(page:Int),0)) hown1 (i:=l.length - 1) om;have HSET:=Hh hset;have HBW:=Hh hbw;have H0:=Hh h0;clear hown hown1 hb h0 hbw hx hcells hset;have ws:IntKind.i64.wrap ((l.length:Int) - 1)=(l.length:Int) - 1:=IntWalk.i64_in _ om;have ws1:(0:Int)≤(l.length:Int) - 1:=om
 have ws2:((l.length:Int) - 1).toNat=l.length - 1:=om
 have ws3:(l.length:Int) - 1<(l.length:Int):=om
 generalize hn:l.length=n at *;have HN:=Hh hn;clear hn;have hgb:w.heap.size<g:=om
 have hne1:w1.heap.size≠g:=om
 go_wp2_with (at_builtin;refine wpList_append_own _ rfl _ _ 51 rfl (w.heap.size+1) 144 i0 (.agg #[(0:Int),(0:Int),(0:Int)]) 3 24 underlying51 hi hz0 hz1 hz2 rfl dc _ _ _ rfl ((HSET.out.alloc _).alloc _) ⟨w1+1,0,none⟩ 1 1 [.int .i64 1,.int .i64 s,.int .i64 0] rfl rfl ?c1 ?c2 ?c3 ?c4 ?c5 ?_)
 case c1=>exact aPy (by rw[show w1.heap.size+1=(((((w1.setCell ⟨g,(n - 1)*3,none⟩ (.int .i64 5)).setCell ⟨g,(n - 1)*3+1,none⟩ (.int .i64 page)).setCell ⟨g,(n - 1)*3+2,none⟩ (.int .i64 0))).alloc (.cells #[page,.int .u8 op,mn,.slice g n c1,.string ⟨#[100]⟩,.bool al] 211)).heap.size by rw[Qa,setCell_size,setCell_size,setCell_size]];exact jT _ _)
 case c2=>intro u hu;simp at hu;rcases hu with rfl|rfl|rfl<;>rfl
 case c3=>unfold maxLen;omega
 case c4=>omega
 case c5=>rw[Qa,Qa,setCell_size,setCell_size,setCell_size];omega
 intro v2 w3 hown3 hgrow3 _;obtain⟨a2,c2,rfl⟩:=aI hown3;have hX0:=aE (o':=.cells #[(1:Int),s,(0:Int)] 144) (aE (o':=(.cells #[page,.int .u8 op,mn,.slice g n c1,.string ⟨#[100]⟩,.bool al] 211)) (aD (aD (aD H0.out (b:=g) (i:=(n - 1)*3) (v:=.int .i64 5) om) (b:=g) (i:=(n - 1)*3+1) (v:=.int .i64 page) om) (b:=g) (i:=(n - 1)*3+2) (v:=.int .i64 0) om));have hX1:=aE (o':=.cells #[(1:Int),s,(0:Int)] 144) (jT (((w1.setCell ⟨g,(n - 1)*3,none⟩ (.int .i64 5)).setCell ⟨g,(n - 1)*3+1,none⟩ (.int .i64 page)).setCell ⟨g,(n - 1)*3+2,none⟩ (.int .i64 0)) (.cells #[page,.int .u8 op,mn,.slice g n c1,.string ⟨#[100]⟩,.bool al] 211));have hszS:(((w1.setCell ⟨g,(n - 1)*3,none⟩ (.int .i64 5)).setCell ⟨g,(n - 1)*3+1,none⟩ (.int .i64 page)).setCell ⟨g,(n - 1)*3+2,none⟩ (.int .i64 0)).heap.size=w1.heap.size:=by rw[setCell_size,setCell_size,setCell_size]
 rw[hszS] at hX1;have hr3:=(hgrow3.block w (aA hX0) (fun e=>by have q3:w.heap.size=g:=Xi e;omega)).trans hX0;have hn3:=(hgrow3.block w1 (aA hX1) (fun e=>hne1 (Xi e))).trans hX1;have hbX:Below w w (((w1.setCell ⟨g,(n - 1)*3,none⟩ (.int .i64 5)).setCell ⟨g,(n - 1)*3+1,none⟩ (.int .i64 page)).setCell ⟨g,(n - 1)*3+2,none⟩ (.int .i64 0)):=((HBW.out.setCell (p:=⟨g,(n - 1)*3,none⟩) (by show w.heap.size≤g;omega) _).setCell (p:=⟨g,(n - 1)*3+1,none⟩) (by show w.heap.size≤g;omega) _).setCell (p:=⟨g,(n - 1)*3+2,none⟩) (by show w.heap.size≤g;omega) _;have hb3:=((hbX.alloc (by rw[hszS];omega) (.cells #[page,.int .u8 op,mn,.slice g n c1,.string ⟨#[100]⟩,.bool al] 211)).alloc (by rw[Qa,hszS];omega) (.cells #[(1:Int),s,(0:Int)] 144)).grown hgrow3 (by rw[Qa,Qa,hszS];omega) (fun q e=>by have q3:g=q:=Xi e;omega);have hl3:=aA hn3;have hown4:=aP hown3 (b':=w.heap.size+1) lr;have hne3:some w1.heap.size≠(Value.slice a2 (n+1) c2).ownBlock:=fun e=>by
  rcases hown3.2 with⟨h,_⟩|⟨g',cap,cur,h,_,hh,_⟩
  · rw[h] at e;cases e
  · rw[h] at e;have q3:w1.heap.size=g':=Xi e;rw[←q3,hn3] at hh
    have:=Xi hh
    simp at this
 obtain⟨⟨t0,t1,t2,t3,t4,t5⟩,y0,y1,y2,y3,y4,y5⟩:=aN hn3;obtain⟨⟨r0,r1,r2,r3,r4,r5⟩,e0,e1,e2,e3,e4,e5⟩:=aN hr3;have HOWN3:=Hh hown3;have HB3:=Hh hb3;clear hown3 hgrow3 hX0 hX1 hszS hr3 hn3 hbX hb3 hown4;go_wp2_with fail
 refine bodyPost_ret (v:=.agg #[page,.int .u8 op,mn,.slice a2 (n+1) c2,.string ⟨#[100]⟩,.bool al]) (by simp[results,results229,go_sem,r0,r1,r2,r3,r4,r5]) rfl ⟨_,rfl,?_,?_⟩
 · rw[HN.out,show opc (l.set (n - 1) (5,(page:Int),0)++[(1,(s:Int),0)])=opc (l.set (n - 1) (5,(page:Int),0))++[.int .i64 1,.int .i64 s,.int .i64 0] by simp[opc]]
   have h7:=Kb.owns HOWN3.out ((Kb.refl w1 w3).setCell 3 (.slice a2 (n+1) c2)) hne3.symm;exact aP (Kb.owns h7 (((((((Kb.refl w _).setCell 0 _).setCell 1 _).setCell 2 _).setCell 3 _).setCell 4 _).setCell 5 _) (gA h7 (k:=w.heap.size) om).symm) om
 · have hb9:=HB3.out;with_reducible repeat (refine Below.setCell ?_ (by first|exact Qk _|(show w.heap.size≤w1.heap.size;omega)) _)
   exact hb9
end
end Go.Proofs.YtoigglljnklhlaaGreatDoor
