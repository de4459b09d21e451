/- Joined. -/
import Derived.Test.YtoigglljnklhlaaGreatDoorD09
set_option maxHeartbeats 8000000
set_option maxRecDepth 100000
namespace Go.Proofs.YtoigglljnklhlaaGreatDoor
open Go.RowKit Go.Sort
abbrev cP (e:Ent) (v:Value):Value:=.agg #[.int .i64 e.page,.int .u8 e.op,.string ⟨e.mn.toArray⟩,v,.string ⟨e.extra.toArray⟩,.bool e.alias]
def ent0:Ent:=⟨0,0,[],[],[],false⟩
theorem Xa {w:World} {g:Nat} {x y z:Value} {T:TypeId} (h:w.heap[g]? = some (.cells #[x,y,z] T (0,0))):∀ (j:Nat) (u:Value),[x,y,z][j]? = some u→w.cell? ((⟨g,0,none⟩:Addr).add j)=some u:=fun j u hu=>by
 rw[bD,Nat.zero_add];match j,hu with
 | 0,hu=>simp at hu;subst hu;simp[World.cell?,h]
 | 1,hu=>simp at hu;subst hu;simp[World.cell?,h]
 | 2,hu=>simp at hu;subst hu;simp[World.cell?,h]
end Go.Proofs.YtoigglljnklhlaaGreatDoor
namespace Go.Proofs.YtoigglljnklhlaaGreatDoor
open Go.RowKit Go.Sort
open Go.Proofs.Tryz
theorem Tryz.infoString:(prog.info? 9).map (fun i=>(i.zero,i.size,i.bytes))=some (some (.string ⟨#[]⟩),1,16):=by kernel_rfl
theorem iZ {w w':World} {base:Nat} {e:TypeId} {size:Nat} {v:Value} {n:Nat} {xs:List Value} (h:w.ownsRow base e size v n xs) (hb:Below w.heap.size w w'):w'.ownsRow base e size v n xs:=by
 obtain⟨h1,h2⟩:=h;refine⟨h1,?_⟩;rcases h2 with h2|⟨g,cap,cur,hv,hg,hh,r⟩
 · exact Or.inl h2
 · exact Or.inr ⟨g,cap,cur,hv,hg,by rw[hb.block g (lt_of_block hh)];exact hh,r⟩
def fH (l:List ByteArray):List Value:=l.map Value.string
theorem jN (l:List ByteArray):(fH l).length=l.length:=by simp[fH]
theorem qA (l m:List ByteArray):fH (l++m)=fH l++fH m:=by simp[fH]
def w2T (r:Rule):List UInt8:=(Lib.fields r.text).getD 2 []
def gH (r:Rule):Bool:=decide (2<(Lib.fields r.text).length) && decide (w2T r≠[42])
def Eg (r:Rule):Bool:=if gH r=true then decide (Lib.countB ⟨(w2T r).toArray⟩ ⟨#[44]⟩+1=r.args.length) else decide (r.args=[])
theorem Lk:∀ r∈iU,Eg r=true:=by decide +kernel
theorem kZ (r:RA):∃ rest,Lib.fields r.1.text=r.1.bits::r.1.mn::rest∧((Lib.fields r.1.text).getD ((Lib.fields r.1.text).length - 1) [] == [42])=r.1.alias∧r.1.text.all (fun b=>decide (b.toNat<128))=true∧(gH r.1=true→Qp (w2T r.1)=r.1.args∧Lib.countB ⟨(w2T r.1).toArray⟩ ⟨#[44]⟩+1=r.1.args.length)∧(gH r.1=false→r.1.args=[]):=by
 have h:=mC r;have hs:=Lk r.1 r.2;unfold Eg at hs;unfold iY at h;simp only[Bool.and_eq_true,decide_eq_true_eq] at h;obtain⟨⟨⟨⟨⟨⟨⟨⟨⟨⟨⟨h1,h2⟩,h3⟩,h4⟩,h5⟩,h6⟩,_⟩,_⟩,_⟩,_⟩,_⟩,_⟩:=h;obtain⟨a,b,rest,hf⟩:∃ a b rest,Lib.fields r.1.text=a::b::rest:=by
  cases hL:Lib.fields r.1.text with
  | nil=>rw[hL] at h1;simp at h1
  | cons a l=>cases l with
    | nil=>rw[hL] at h1;simp at h1
    | cons b l=>exact⟨a,b,l,rfl⟩
 have e1:a=r.1.bits:=by rw[hf] at h2;exact h2
 have e2:b=r.1.mn:=by rw[hf] at h3;exact h3
 refine⟨rest,by rw[hf,e1,e2],?_,h6,fun ha=>?_,fun ha=>?_⟩
 · rw[Bool.eq_iff_iff,beq_iff_eq];exact h4
 · rw[if_pos ha,decide_eq_true_eq] at hs;unfold gH at ha;rw[Bool.and_eq_true,decide_eq_true_eq,decide_eq_true_eq] at ha;unfold w2T at ha;rw[if_pos ha,decide_eq_true_eq] at h5;exact⟨h5,hs⟩
 · rw[if_neg (by rw[ha];decide),decide_eq_true_eq] at hs;exact hs
theorem sW:∀ r∈iU,(Lib.fields r.text).length≤1000:=by decide +kernel
theorem wW:∀ r∈iU,∀ x∈Lib.fields r.text,x.length≤1000:=by decide +kernel
theorem Bp (r:RA) (w:World) (hT:TabsA w) (ha:gH r.1=false) :
 Calls prog 250 #[.string ⟨r.1.text.toArray⟩] w fun e w'=>e=.returned (nR r.1.bits r.1.mn (.slice none 0 0) r.1.alias)∧Below w.heap.size w w':=by
 obtain⟨rest,hf,hal,hasc,_,_⟩:=kZ r;have hb0:Below w.heap.size w (w.alloc (.cells #[.string ⟨#[]⟩,.string ⟨#[]⟩,.slice none 0 0,.bool false] 312)):=br.alloc lr _;have hfa:=iP r.1.text _ (hT.below hb0) (by have:=(cZ r).2.1;omega) hasc
 obtain⟨O,hO⟩:∃ O,Obj.cells ((Lib.fields r.1.text).map fun x=>Value.string ⟨x.toArray⟩).toArray 9=O:=⟨_,rfl⟩;rw[hO] at hfa;obtain⟨N,hN⟩:∃ N,(Lib.fields r.1.text).length=N:=⟨_,rfl⟩;have hN2:2≤N:=by rw[←hN,hf];simp
 have hNle:N≤1000:=by rw[←hN];exact sW r.1 r.2
 have hha:N≤2∨2<N∧(Lib.fields r.1.text)[2]? = some [42]:=by
  unfold gH w2T at ha;rw[hN] at ha;by_cases h2:2<N
  · right
    refine⟨h2,?_⟩;have hx:(Lib.fields r.1.text)[2]? = some ((Lib.fields r.1.text)[2]'om):=List.getElem?_eq_getElem om;rw[decide_eq_true h2,Bool.true_and,decide_eq_false_iff_not,Decidable.not_not,List.getD_eq_getElem?_getD,hx] at ha;rw[hx,←ha];rfl
  · left;omega
 have hcell:∀ (W:World) (j:Nat) (x:List UInt8),(Lib.fields r.1.text)[j]? = some x→(W.alloc O).cell? ⟨W.heap.size,j,none⟩=some (.string ⟨x.toArray⟩):=fun W j x hx=>by
  rw[←hO,World.cell?_alloc_at _ _ _ _ rfl];simp[hx]
 have hc0:=hcell (w.alloc (.cells #[.string ⟨#[]⟩,.string ⟨#[]⟩,.slice none 0 0,.bool false] 312)) 0 r.1.bits (by rw[hf];rfl);have hc1:=hcell (w.alloc (.cells #[.string ⟨#[]⟩,.string ⟨#[]⟩,.slice none 0 0,.bool false] 312)) 1 r.1.mn (by rw[hf];rfl);obtain⟨y,hy⟩:∃ y,(Lib.fields r.1.text)[N - 1]? = some y:=⟨_,List.getElem?_eq_getElem om⟩;have hcy:=hcell (w.alloc (.cells #[.string ⟨#[]⟩,.string ⟨#[]⟩,.slice none 0 0,.bool false] 312)) (N - 1) y hy;have hyal:(y == [42])=r.1.alias:=by rw[←hal,hN,List.getD_eq_getElem?_getD,hy];rfl
 have hc2:=fun h=>hcell (w.alloc (.cells #[.string ⟨#[]⟩,.string ⟨#[]⟩,.slice none 0 0,.bool false] 312)) 2 [42] h;rw[World.size_alloc] at hc0 hc1 hcy hc2;rw[hN] at hfa;have HFA:=Hh hfa;clear hfa hO hcell;generalize r.1.alias=al at *;generalize r.1.bits=bs at *;generalize r.1.mn=mn at *;have hN0:(0:Int)<N:=om
 have hN1:(1:Int)<N:=om
 have ws:IntKind.i64.wrap ((N:Int) - 1)=(N:Int) - 1:=IntWalk.i64_in _ om;have ws1:(0:Int)≤(N:Int) - 1:=om
 have ws2:((N:Int) - 1).toNat=N - 1:=om
 clear hf hal hT hb0 hN ha;rcases hha with h2|⟨h2,hs2⟩
 · have hd:decide ((2:Int)<(N:Int))=false:=decide_eq_false om;clear hc2;go_enter func250,ntmps250
   go_wp2_with fail
   refine HFA.out.mono ?_;rintro e w1 ⟨rfl,rfl⟩;go_wp2_with fail
   go_region
   go_wp2_with fail
   refine bodyPost_ret (v:=nR bs mn (.slice none 0 0) al) (by simp[results,results250,go_sem]) rfl ⟨rfl,bl⟩
 · have hd:decide ((2:Int)<(N:Int))=true:=decide_eq_true om;have hN3:(2:Int)<N:=om
   have hc3:=hc2 hs2;clear hc2 hs2;go_enter func250,ntmps250
   go_wp2_with fail
   refine HFA.out.mono ?_;rintro e w1 ⟨rfl,rfl⟩;go_wp2_with fail
   go_region
   go_wp2_with fail
   refine bodyPost_ret (v:=nR bs mn (.slice none 0 0) al) (by simp[results,results250,go_sem]) rfl ⟨rfl,bl⟩
theorem Bo (r:RA) (w:World) (hT:TabsA w) (ha:gH r.1=true) :
 Calls prog 250 #[.string ⟨r.1.text.toArray⟩] w fun e w'=>∃ a c,e=.returned (nR r.1.bits r.1.mn (.slice a r.1.args.length c) r.1.alias)∧Row w' (.slice a r.1.args.length c) r.1.args.length (fH (r.1.args.map fun x=>⟨x.toArray⟩))∧Below w.heap.size w w':=by
 obtain⟨rest,hf,hal,hasc,hargs,_⟩:=kZ r;obtain⟨hsp,hcnt⟩:=hargs ha;have hb0:Below w.heap.size w (w.alloc (.cells #[.string ⟨#[]⟩,.string ⟨#[]⟩,.slice none 0 0,.bool false] 312)):=br.alloc lr _;have hfa:=iP r.1.text _ (hT.below hb0) (by have:=(cZ r).2.1;omega) hasc
 obtain⟨O,hO⟩:∃ O,Obj.cells ((Lib.fields r.1.text).map fun x=>Value.string ⟨x.toArray⟩).toArray 9=O:=⟨_,rfl⟩;rw[hO] at hfa;obtain⟨N,hN⟩:∃ N,(Lib.fields r.1.text).length=N:=⟨_,rfl⟩;have hN2:2≤N:=by rw[←hN,hf];simp
 have hNle:N≤1000:=by rw[←hN];exact sW r.1 r.2
 have hha:2<N∧(Lib.fields r.1.text)[2]? = some (w2T r.1):=by
  unfold gH at ha;rw[Bool.and_eq_true,decide_eq_true_eq] at ha;rw[hN] at ha;refine⟨ha.1,?_⟩;unfold w2T;rw[List.getD_eq_getElem?_getD,List.getElem?_eq_getElem om];rfl
 have hne:(w2T r.1 == [42])=false:=by
  unfold gH at ha;rw[Bool.and_eq_true,decide_eq_true_eq,decide_eq_true_eq] at ha;simpa using ha.2
 obtain⟨h2,hs2⟩:=hha;have hcell:∀ (W:World) (j:Nat) (x:List UInt8),(Lib.fields r.1.text)[j]? = some x→(W.alloc O).cell? ⟨W.heap.size,j,none⟩=some (.string ⟨x.toArray⟩):=fun W j x hx=>by
  rw[←hO,World.cell?_alloc_at _ _ _ _ rfl];simp[hx]
 have hc0:=hcell (w.alloc (.cells #[.string ⟨#[]⟩,.string ⟨#[]⟩,.slice none 0 0,.bool false] 312)) 0 r.1.bits (by rw[hf];rfl);have hc1:=hcell (w.alloc (.cells #[.string ⟨#[]⟩,.string ⟨#[]⟩,.slice none 0 0,.bool false] 312)) 1 r.1.mn (by rw[hf];rfl);obtain⟨y,hy⟩:∃ y,(Lib.fields r.1.text)[N - 1]? = some y:=⟨_,List.getElem?_eq_getElem om⟩;have hcy:=hcell (w.alloc (.cells #[.string ⟨#[]⟩,.string ⟨#[]⟩,.slice none 0 0,.bool false] 312)) (N - 1) y hy;have hyal:(y == [42])=r.1.alias:=by rw[←hal,hN,List.getD_eq_getElem?_getD,hy];rfl
 have hc2:=fun h=>hcell (w.alloc (.cells #[.string ⟨#[]⟩,.string ⟨#[]⟩,.slice none 0 0,.bool false] 312)) 2 (w2T r.1) h;rw[World.size_alloc] at hc0 hc1 hcy hc2;rw[hN] at hfa;have hW2:(w2T r.1).length≤1000:=by
  have h3:=List.mem_of_getElem? hs2;exact wW r.1 r.2 _ h3
 obtain⟨m,hm⟩:=hT.ml;have hspl:=fun (W:World) (hb:Below w.heap.size w W)=>Tryz.strings_Split ⟨(w2T r.1).toArray⟩ ⟨#[44]⟩ m W (by show (w2T r.1).toArray.size<_;rw[List.size_toArray];omega) ((hb.cell (p:=⟨2,0,none⟩) (block_lt_of_cell (a:=⟨2,0,none⟩) hm)).trans hm) dc
 rw[hcnt] at hspl;have hspl2:(Lib.splitB ⟨#[44]⟩ 0 (Lib.countB ⟨(w2T r.1).toArray⟩ ⟨#[44]⟩) ⟨(w2T r.1).toArray⟩)=r.1.args.map fun x=>⟨x.toArray⟩:=by
  unfold Qp at hsp;rw[←hsp,List.map_map,show ((fun x:List UInt8=>(⟨x.toArray⟩:ByteArray)) ∘ fun b:ByteArray=>b.data.toList)=id from funext fun b=>by cases b;simp,List.map_id]
 rw[hspl2] at hspl;have hc3:=hc2 hs2;clear hc2;generalize w2T r.1=q at *;obtain⟨A,hA⟩:∃ A:List ByteArray,(r.1.args.map fun x=>(⟨x.toArray⟩:ByteArray))=A:=⟨_,rfl⟩;have hAl:A.length=r.1.args.length:=by rw[←hA,List.length_map]
 rw[hA] at hspl;rw[hA];have hle:r.1.args.length≤3:=by
  have h:=mC r;unfold iY at h;simp only[Bool.and_eq_true,decide_eq_true_eq] at h;exact h.2
 generalize r.1.args.length=n at *;have HSPL:=Hh hspl;clear hspl hspl2 hA hsp hcnt;have HFA:=Hh hfa;clear hfa hO hcell;generalize r.1.alias=al at *;generalize r.1.bits=bs at *;generalize r.1.mn=mn at *;have hN0:(0:Int)<N:=om
 have hN1:(1:Int)<N:=om
 have ws:IntKind.i64.wrap ((N:Int) - 1)=(N:Int) - 1:=IntWalk.i64_in _ om;have ws1:(0:Int)≤(N:Int) - 1:=om
 have ws2:((N:Int) - 1).toNat=N - 1:=om
 clear hf hal hT hb0 hN ha hs2 hm;have hd:decide ((2:Int)<(N:Int))=true:=decide_eq_true om;have hN3:(2:Int)<N:=om
 go_enter func250,ntmps250
 go_wp2_with fail
 refine HFA.out.mono ?_;rintro e w1 ⟨rfl,rfl⟩;go_wp2_with fail
 go_region
 go_wp2_with fail
 refine (HSPL.out _ (bl)).mono ?_;rintro e w1 ⟨rfl,rfl⟩;go_wp2_with fail
 refine bodyPost_ret (v:=nR bs mn (.slice (some ⟨w.heap.size+1+1+1,0,none⟩) n n) al) (by simp[results,results250,go_sem]) rfl ⟨_,_,rfl,⟨_,n,rfl,Nat.le_refl _,fun _=>⟨w.heap.size+1+1+1,0,rfl,by simp[go_sem],fun j hj=>?_⟩⟩,bl⟩
 rw[Nat.zero_add,World.cell?_drew,World.cell?_alloc_at _ _ _ _ sm];simp[fH]
theorem Gn (r:RA) (w:World) (hT:TabsA w) :
 Calls prog 250 #[.string ⟨r.1.text.toArray⟩] w fun e w'=>∃ a c,e=.returned (nR r.1.bits r.1.mn (.slice a r.1.args.length c) r.1.alias)∧Row w' (.slice a r.1.args.length c) r.1.args.length (fH (r.1.args.map fun x=>⟨x.toArray⟩))∧Below w.heap.size w w':=by
 rcases ha:gH r.1 with _|_
 · obtain⟨_,_,_,_,_,hn⟩:=kZ r;have hn:=hn ha;rw[hn];exact (Bp r w hT ha).mono fun e w' ⟨he,hb⟩=>⟨none,0,he,Row.nil _,hb⟩
 · exact Bo r w hT ha
end Go.Proofs.YtoigglljnklhlaaGreatDoor
