/- Joined. -/
import Derived.Test.YtoigglljnklhlaaGreatDoorD02
import Derived.Lib.TrailingZeros
set_option maxHeartbeats 8000000
set_option maxRecDepth 100000
namespace Go.Proofs.YtoigglljnklhlaaGreatDoor
section
open Go.RowKit Go.Sort
open Go.Proofs.Tryz
theorem Tryz.infoByte:(prog.info? 5).map (fun i=>(i.zero,i.size,i.bytes))=some (some (.int .u8 0),1,1):=by kernel_rfl
def aT (l:List UInt8):List Value:=l.map fun c=>.int .u8 (c.toNat:Int)
theorem fS (l:List UInt8):(aT l).length=l.length:=by simp[aT]
theorem qL (l m:List UInt8):aT (l++m)=aT l++aT m:=by simp[aT]
theorem oS {l:List UInt8} {i:Nat} {b:UInt8} (h:l[i]? = some b):(aT l)[i]? = some (.int .u8 (b.toNat:Int)):=by simp[aT,h]
theorem Ad (l:List UInt8):∀ v∈aT l,v.oneCell'=true:=fun v hv=>by
 simp only[aT,Yo] at hv;obtain⟨b,_,rfl⟩:=hv;rfl
end
section
open Go.RowKit Go.Sort
def itV (it:It) (vr va:Value):Value:=.agg #[.int .i64 it.kind,vr,.string ⟨it.ins.1.toArray⟩,va,.bool it.alias]
structure ItAt (B:Nat) (it:It) (vr va:Value) (w:World):Prop where
 raw:w.ownsRow B 5 1 vr it.raw.length (aT it.raw)
 args:ORow w B va it.ins.2.length (opc it.ins.2)
 nil:it.ins.2=[]→va=.slice none 0 0∨True
theorem bR {B base:Nat} {T:TypeId} {sz:Nat} {v:Value} {n:Nat} {xs:List Value} {w:World} (h:w.ownsRow B T sz v n xs) (hb:base≤B):w.ownsRow base T sz v n xs:=by
 obtain⟨h1,h2⟩:=h;refine⟨h1,?_⟩;rcases h2 with h2|⟨g,cap,cur,hv,hg,hh,q⟩
 · exact .inl h2
 · exact .inr ⟨g,cap,cur,hv,Qn hb hg,hh,q⟩
theorem Oc {D:Nat} {a w w':World} {row:Option Nat} (h:Kb D a w) (hg:w.grownBy w' row) (hr:∀ q,row=some q→a.heap.size≤q):Kb D a w' :=
 ⟨hg.os.trans h.os,hg.tape.trans h.tape,hg.output.trans h.output,Qn h.size hg.size,fun k hk hb=>(hg.block k (Qj hk h.size) (fun e=>by have:=hr k e.symm;omega)).trans (h.block k hk hb)⟩
theorem bJ {w:World} {k:Nat} {a b c d e:Value} {T:TypeId} (h:w.heap[k]? = some (.cells #[a,b,c,d,e] T (0,0))) :
 (w.cell? k=some a∧w.cell? ⟨k,1,none⟩=some b∧w.cell? ⟨k,2,none⟩=some c∧w.cell? ⟨k,3,none⟩=some d∧w.cell? ⟨k,4,none⟩=some e)∧w.frozen? ⟨k,0,none⟩=false∧w.frozen? ⟨k,1,none⟩=false∧w.frozen? ⟨k,2,none⟩=false∧w.frozen? ⟨k,3,none⟩=false∧w.frozen? ⟨k,4,none⟩=false :=
 ⟨⟨aC h 0,aC h 1,aC h 2,aC h 3,aC h 4⟩,aH h 0,aH h 1,aH h 2,aH h 3,aH h 4⟩
theorem cN {k:Nat} (w:World) (a b c d e:Value):Kb k w (((((w.setCell k a).setCell ⟨k,1,none⟩ b).setCell ⟨k,2,none⟩ c).setCell ⟨k,3,none⟩ d).setCell ⟨k,4,none⟩ e) :=
 Kb.setCell (Kb.setCell (Kb.setCell (Kb.setCell (Kb.setCell (Kb.refl _ _) 0 _) 1 _) 2 _) 3 _) 4 _
theorem Ls (W:World) (b r i:Nat) (x y z u v:Value) (h:b≠r):(((((W.setCell r x).setCell ⟨r,1,none⟩ y).setCell ⟨r,2,none⟩ z).setCell ⟨r,3,none⟩ u).setCell ⟨r,4,none⟩ v).cell? ⟨b,i,none⟩=W.cell? ⟨b,i,none⟩:=by
 refine World.cell?_of_block (w:=W) ?_;rw[Below.heap_setCell _ ⟨r,4,none⟩ _ _ h,Below.heap_setCell _ ⟨r,3,none⟩ _ _ h,Below.heap_setCell _ ⟨r,2,none⟩ _ _ h,Below.heap_setCell _ ⟨r,1,none⟩ _ _ h,Below.heap_setCell _ ⟨r,0,none⟩ _ _ h]
theorem Ex {D k:Nat} {a w w':World} (h:Kb D a w) (hk:Kb k w w') (hka:a.heap.size≤k):Kb D a w' :=
 ⟨hk.os.trans h.os,hk.tape.trans h.tape,hk.output.trans h.output,Qn h.size hk.size,fun q hq hb=>(hk.block q (Qj hq h.size) om).trans (h.block q hq hb)⟩
theorem Ob {k:Nat} {w w':World} (h:Kb k w w') (hk:w.heap.size≤k):Below w w w':=⟨h.os,h.tape,h.output,h.size,fun q hq=>h.block q hq om⟩
theorem cK {W:World} {k r:Nat} {o:Obj} (h:W.heap[k]? = some o) (hk:k≠r) (a b c d e:Value):(((((W.setCell r a).setCell ⟨r,1,none⟩ b).setCell ⟨r,2,none⟩ c).setCell ⟨r,3,none⟩ d).setCell ⟨r,4,none⟩ e).heap[k]? = some o:=aD (aD (aD (aD (aD h hk) hk) hk) hk) hk
def iO (o:Option aY) (v:Value):Value:=match o with|some i=>.tuple #[.agg #[.string ⟨i.1.toArray⟩,v],.bool true]|none=>.tuple #[.agg #[.string ⟨#[]⟩,.slice none 0 0],.bool false]
def oW (o:Option aY) (w:World) (e:Ending) (w':World):Prop:=∃ v,e=.returned (iO o v)∧(∀ i,o=some i→ORow w' w.heap.size v i.2.length (opc i.2))∧Below w.heap.size w w'
theorem bS {B k:Nat} {a w w':World} (h:Below B a w) (hB:B≤w) (hk:Kb k w w') (hBk:B≤k):Below B a w' :=
 h.trans ⟨hk.os,hk.tape,hk.output,hk.size,fun q hq=>hk.block q om om⟩
end
section
theorem Pv {z:Nat} (h0:z≠0) (hz:z<18446744073709551616):Lib.ctz 64 z<64∧z.testBit (Lib.ctz 64 z)=true∧∀ i,i<Lib.ctz 64 z→z.testBit i=false:=by
 obtain⟨m,hm,hlt⟩:=Lib.ctzFrom_spec 64 z (by omega) hz;have e:Lib.ctz 64 z=Lib.ctzFrom 64 z:=by unfold Lib.ctz;rw[if_neg h0]
 rw[e];generalize Lib.ctzFrom 64 z=t at hm hlt;subst hm;refine⟨hlt,?_,fun i hi=>?_⟩
 · rw[Nat.testBit_two_pow_mul];simp
 · rw[Nat.testBit_two_pow_mul];simp;omega
def gR (D:Nat→Bool) (k x:Nat):Prop:=x<18446744073709551616∧∀ j,j<64→x.testBit j=D (64 * k+j)
theorem Fr (k:Nat):gR (fun _=>false) k 0:=⟨by omega,fun j _=>by simp⟩
theorem Js {D:Nat→Bool} {x a:Nat} (h:gR D (a / 64) x):gR (fun b=>D b || b == a) (a / 64) (x ||| 2 ^ (a % 64)):=by
 have hp:2 ^ (a % 64)<2 ^ 64:=Nat.pow_lt_pow_right (by omega) (by omega);refine⟨Nat.or_lt_two_pow (n:=64) h.1 hp,fun j hj=>?_⟩;rw[Nat.testBit_or,h.2 j hj,Nat.testBit_two_pow];congr 1
 rw[Bool.eq_iff_iff];simp
 omega
theorem Ar {D:Nat→Bool} {k x a:Nat} (h:gR D k x) (hk:a / 64≠k):gR (fun b=>D b || b == a) k x:=by
 refine⟨h.1,fun j hj=>?_⟩;rw[h.2 j hj]
 have:(64 * k+j == a)=false:=by simp;omega
 simp[this]
theorem Jr {D:Nat→Bool} {k x:Nat} (h:gR D k x):gR (fun b=>!D b) k (18446744073709551615 - x):=by
 refine⟨by omega,fun j hj=>?_⟩
 have e:18446744073709551615 - x=2 ^ 64 - (x+1):=by have:=h.1;omega
 rw[e,Nat.testBit_two_pow_sub_succ h.1,h.2 j hj];simp[hj]
def gS (F:Nat→Bool) (a r:Nat):Prop:=a≤r∧r≤65536∧(∀ x,a≤x→x<r→F x=false)∧(r<65536→F r=true)
theorem Nh {F:Nat→Bool} {x a a0:Nat} (h:gR F (a / 64) x) (ha:a<65536) (h0:a0≤a) (hb:∀ y,a0≤y→y<a→F y=false) (hz:x / 2 ^ (a % 64)≠0) :
 gS F a0 (a+Lib.ctz 64 (x / 2 ^ (a % 64))):=by
 have hlt:x / 2 ^ (a % 64)<18446744073709551616:=Nat.lt_of_le_of_lt (Nat.div_le_self _ _) h.1;obtain⟨h1,h2,h3⟩:=Pv hz hlt;generalize Lib.ctz 64 (x / 2 ^ (a % 64))=t at h1 h2 h3;have key:∀ i,(x / 2 ^ (a % 64)).testBit i=x.testBit (a % 64+i):=fun i=>by rw[Nat.testBit_div_two_pow,Nat.add_comm]
 rw[key] at h2;have hs:a % 64+t<64:=by
  rcases Nat.lt_or_ge (a % 64+t) 64 with h' | h'
  · exact h'
  · have:=Nat.testBit_lt_two_pow (x:=x) (i:=a % 64+t) (Nat.lt_of_lt_of_le h.1 (Nat.pow_le_pow_right (n:=2) (by omega) h'))
    rw[this] at h2;cases h2
 have at2:∀ i,a % 64+i<64→x.testBit (a % 64+i)=F (a+i):=fun i hi=>by
  rw[h.2 _ hi];congr 1;omega
 refine⟨by omega,by omega,fun y h4 h5=>?_,fun _=>by rw[←at2 t hs];exact h2⟩
 rcases Nat.lt_or_ge y a with h' | h'
 · exact hb y h4 h'
 · have h6:=h3 (y - a) (by omega);rw[key,at2 _ (by omega)] at h6
   rwa [show a+(y - a)=y by omega] at h6
theorem Gw {F:Nat→Bool} {x a a0:Nat} (h:gR F (a / 64) x) (hb:∀ y,a0≤y→y<a→F y=false) (hz:x / 2 ^ (a % 64)=0) :
 ∀ y,a0≤y→y<(a / 64+1) * 64→F y=false:=by
 intro y h4 h5;rcases Nat.lt_or_ge y a with h' | h'
 · exact hb y h4 h'
 · have key:(x / 2 ^ (a % 64)).testBit (y - a)=x.testBit (a % 64+(y - a)):=by rw[Nat.testBit_div_two_pow,Nat.add_comm]
   rw[hz,h.2 _ (by omega),show 64 * (a / 64)+(a % 64+(y - a))=y by omega] at key
   simpa using key.symm
abbrev Cl:=Nat × UInt8
def inC (C:List Cl) (a:Nat):Bool:=C.any fun c=>c.1 == a
def Asc (C:List Cl):Prop:=C.Pairwise (fun x y=>x.1<y.1)∧∀ c∈C,c.1<65536
def bT (a:Nat) (bs:List UInt8):List Cl:=bs.zipIdx.map fun x=>(a+x.2,x.1)
def gE (C:List Cl) (a:Nat):List Cl:=C.takeWhile fun c=>decide (c.1<a)
def gL (C:List Cl) (a:Nat):List Cl:=C.dropWhile fun c=>decide (c.1<a)
theorem cE (C:List Cl) (a:Nat):gE C a++gL C a=C:=List.takeWhile_append_dropWhile
def eN (C:List Cl) (addr:Int) (bs:List UInt8):Bool :=
 decide (0≤addr) && decide (addr<65536) && decide ((bs.length:Int)≤65536 - addr) && ((List.range bs.length).all fun i=>!inC C (addr.toNat+i))
def fZ (C:List Cl) (addr:Int) (bs:List UInt8):List Cl :=
 if eN C addr bs then gE C addr.toNat++bT addr.toNat bs++gL C addr.toNat else C
theorem eE (a:Nat) (bs:List UInt8):(bT a bs).length=bs.length:=by simp[bT]
theorem iJ {a:Nat} {bs:List UInt8} {c:Cl} (h:c∈bT a bs):a≤c.1∧c.1<a+bs.length∧bs[c.1 - a]? = some c.2:=by
 simp only[bT,List.mem_map] at h;obtain⟨⟨b,i⟩,hm,rfl⟩:=h
 have:=List.mem_zipIdx hm
 simp at this ⊢
 have h2:=List.mem_zipIdx_iff_getElem?.1 hm;simp at h2
 exact⟨this.1,h2⟩
theorem yR (a:Nat) (bs:List UInt8):(bT a bs).Pairwise (fun x y=>x.1<y.1):=by
 rw[List.pairwise_iff_getElem];intro i j hi hj hij;simp[bT]
 exact hij
theorem Tb (a:Nat) (bs:List UInt8) (x:Nat):inC (bT a bs) x=(decide (a≤x) && decide (x<a+bs.length)):=by
 rw[Bool.eq_iff_iff];simp only[inC,List.any_eq_true,beq_iff_eq,Bool.and_eq_true,decide_eq_true_eq];constructor
 · rintro⟨c,hc,rfl⟩
   have:=iJ hc
   exact⟨this.1,this.2.1⟩
 · rintro⟨h1,h2⟩;have hl:x - a<bs.length:=by omega
   refine⟨(x,bs[x - a]),?_,rfl⟩;simp only[bT,List.mem_map];refine⟨(bs[x - a],x - a),?_,by simp;omega⟩
   rw[List.mem_zipIdx_iff_getElem?];simp[hl]
theorem wR (C E:List Cl) (x:Nat):inC (C++E) x=(inC C x || inC E x):=by simp[inC]
theorem xE {C:List Cl} {a:Nat}:∀ c∈gE C a,c.1<a:=fun c hc=>by
 have:=List.all_eq_true.1 (List.all_takeWhile (p:=fun c:Cl=>decide (c.1<a)) (l:=C)) c hc
 simpa using this
theorem Ah {C:List Cl} {a:Nat} (h:Asc C):∀ c∈gL C a,a≤c.1:=by
 obtain⟨h,h2⟩:=h;clear h2;induction C with
 | nil=>intro c hc;cases hc
 | cons x C ih =>
   intro c hc;unfold gL at hc;rw[List.dropWhile_cons] at hc;split at hc
   · exact ih (List.pairwise_cons.1 h).2 c hc
   · rename_i hx;simp at hx
     rcases List.mem_cons.1 hc with rfl|hc
     · exact hx
     · have:=(List.pairwise_cons.1 h).1 c hc;omega
theorem aPB (C:List Cl) (addr:Int) (bs:List UInt8) (h:eN C addr bs=true) (x:Nat):inC (fZ C addr bs) x=(inC C x || (decide (addr.toNat≤x) && decide (x<addr.toNat+bs.length))):=by
 unfold fZ;rw[if_pos h,wR,wR,Tb]
 conv=>rhs;rw[←cE C addr.toNat,wR]
 cases inC (gE C addr.toNat) x<;>cases inC (gL C addr.toNat) x<;>simp
theorem En {C:List Cl} (hC:Asc C) (addr:Int) (bs:List UInt8):Asc (fZ C addr bs):=by
 unfold fZ;split
 · rename_i hk;simp only[eN,Bool.and_eq_true,decide_eq_true_eq,List.all_eq_true,List.mem_range,Bool.not_eq_true'] at hk;obtain⟨⟨⟨h0,h1⟩,h2⟩,h3⟩:=hk;have hsub:∀ c∈gL C addr.toNat,c∈C:=fun c hc=>(cE C addr.toNat) ▸ List.mem_append_right _ hc;have hsubl:∀ c∈gE C addr.toNat,c∈C:=fun c hc=>(cE C addr.toNat) ▸ List.mem_append_left _ hc;have hpw:=hC.1;rw[←cE C addr.toNat,List.pairwise_append] at hpw;have hhi:∀ c∈gL C addr.toNat,addr.toNat+bs.length≤c.1:=fun c hc=>by
    have h4:=Ah hC c hc;rcases Nat.lt_or_ge c.1 (addr.toNat+bs.length) with h' | h'
    · have h5:=h3 (c.1 - addr.toNat) (by omega);rw[show addr.toNat+(c.1 - addr.toNat)=c.1 by omega] at h5
      have:inC C c.1=true:=by
       simp only[inC,List.any_eq_true];exact⟨c,hsub c hc,by simp⟩
      rw[this] at h5;cases h5
    · exact h'
   refine⟨?_,?_⟩
   · rw[List.append_assoc,List.pairwise_append,List.pairwise_append];refine⟨hpw.1,⟨yR _ _,hpw.2.1,fun x hx y hy=>?_⟩,fun x hx y hy=>?_⟩
     · have:=(iJ hx).2.1;have:=hhi y hy;omega
     · have:=xE x hx
       rcases List.mem_append.1 hy with hy|hy
       · have:=(iJ hy).1;omega
       · have:=Ah hC y hy;omega
   · intro c hc;rcases List.mem_append.1 hc with hc|hc
     · rcases List.mem_append.1 hc with hc|hc
       · exact hC.2 c (hsubl c hc)
       · have:=(iJ hc).2.1;omega
     · exact hC.2 c (hsub c hc)
 · exact hC
theorem Em (C:List Cl) (addr:Int) (bs:List UInt8) (h:eN C addr bs=true):(fZ C addr bs).length=C.length+bs.length:=by
 unfold fZ;rw[if_pos h]
 have:=congrArg List.length (cE C addr.toNat)
 simp only[List.length_append,eE] at this ⊢;omega
def nM (C:List Cl) (a:Nat) (b:UInt8):Prop:=(a,b)∈C
theorem wD {C:List Cl} {addr:Int} {bs:List UInt8} (h:eN C addr bs=true) {a:Nat} {b:UInt8} (hb:nM (fZ C addr bs) a b):nM C a b∨(addr.toNat≤a∧bs[a - addr.toNat]? = some b):=by
 unfold nM fZ at hb;rw[if_pos h] at hb;rcases List.mem_append.1 hb with hc|hc
 · rcases List.mem_append.1 hc with hc|hc
   · exact .inl ((cE C addr.toNat) ▸ List.mem_append_left _ hc)
   · have:=iJ hc;exact .inr ⟨this.1,this.2.2⟩
 · exact .inl ((cE C addr.toNat) ▸ List.mem_append_right _ hc)
abbrev Rn:=Nat × List UInt8
def aS:List Cl→List Rn
 | []=>[]
 | c::C=>match aS C with
   | r::rs=>if r.1=c.1+1 then (c.1,c.2::r.2)::rs else (c.1,[c.2])::r::rs
   | []=>[(c.1,[c.2])]
theorem rX (C:List Cl):(aS C).flatMap (fun r=>bT r.1 r.2)=C:=by
 induction C with
 | nil=>rfl
 | cons c C ih =>
   unfold aS;have key:∀ b (l:List UInt8),bT c.1 (b::l)=(c.1,b)::bT (c.1+1) l:=fun b l=>by
    simp only[bT,List.zipIdx_cons,List.map_cons];refine List.cons_eq_cons.2 ⟨by simp,?_⟩
    rw[show (0+1:Nat)=1 from rfl,List.zipIdx_eq_map_add]
    rw[List.map_map];refine List.map_congr_left fun x _=>?_;simp
    omega
   cases hr:aS C with
   | nil =>
     rw[hr] at ih;simp at ih
     simp[←ih,bT]
   | cons r rs =>
     rw[hr] at ih;rw[List.flatMap_cons] at ih;by_cases hc:r.1=c.1+1
     · simp only[hc,if_true,List.flatMap_cons,key,List.cons_append];rw[hc] at ih;rw[ih]
     · simp only[hc,if_false,List.flatMap_cons];rw[key,ih];simp[bT]
theorem uN (c:Cl) (C:List Cl):∃ l rs,aS (c::C)=(c.1,c.2::l)::rs:=by
 unfold aS;cases aS C with
 | nil=>exact⟨[],[],rfl⟩
 | cons r rs =>
   by_cases h:r.1=c.1+1
   · exact⟨r.2,rs,by simp[h]⟩
   · exact⟨[],r::rs,by simp[h]⟩
theorem cU {c:Cl} {C:List Cl} {r:Rn} {rs:List Rn} (h:aS C=r::rs):aS (c::C)=if r.1=c.1+1 then (c.1,c.2::r.2)::rs else (c.1,[c.2])::r::rs:=by
 rw[aS,h]
theorem Lz (a:Nat) (bs:List UInt8) (hb:bs≠[]) (C:List Cl) (h:∀ c,C.head? = some c→a+bs.length<c.1):aS (bT a bs++C)=(a,bs)::aS C:=by
 induction bs generalizing a with
 | nil=>exact absurd rfl hb
 | cons b bs ih =>
   have key:bT a (b::bs)=(a,b)::bT (a+1) bs:=by
    simp only[bT,List.zipIdx_cons,List.map_cons];refine List.cons_eq_cons.2 ⟨by simp,?_⟩
    rw[show (0+1:Nat)=1 from rfl,List.zipIdx_eq_map_add,List.map_map]
    refine List.map_congr_left fun x _=>?_;simp
    omega
   rw[key,List.cons_append];by_cases hbs:bs=[]
   · subst hbs;show aS ((a,b)::([]++C))=_
     rw[List.nil_append];rcases C with _|⟨c,C⟩
     · rfl
     · obtain⟨l,rs,e⟩:=uN c C
       have:=h c rfl
       rw[cU e,e,if_neg (by simp at this;simp;omega)]
   · rw[cU (ih (a+1) hbs (fun c hc=>by have:=h c hc;simp at this;omega)),if_pos rfl]
def gN (C:List Cl) (a:Nat):List Cl:=C.filter fun c=>decide (a≤c.1)
theorem Ie (C:List Cl):gN C 0=C:=by simp[gN]
theorem Ov {C:List Cl} (h:Asc C):gN C 65536=[]:=by
 simp only[gN,List.filter_eq_nil_iff];intro c hc
 have:=h.2 c hc
 simp;omega
theorem wQ {C:List Cl} {c:Cl} (h:c∈C):inC C c.1=true:=by simp only[inC,List.any_eq_true];exact⟨c,h,by simp⟩
theorem vF {C:List Cl} {a r:Nat} (h:gS (inC C) a r):gN C a=gN C r:=by
 unfold gN;refine List.filter_congr fun c hc=>?_
 have:=wQ hc
 obtain⟨h1,_,h3,_⟩:=h;by_cases ha:a≤c.1
 · by_cases hr:r≤c.1
   · simp[ha,hr]
   · have:=h3 c.1 ha (by omega)
     rw[wQ hc] at this;cases this
 · simp[ha];omega
theorem Ou {C:List Cl} (hC:Asc C) {a r:Nat} (h:gS (fun x=>!inC C x) a r) (bs:List UInt8) (hl:bs.length=r - a) (hbs:∀ i b,bs[i]? = some b→nM C (a+i) b) :
 gN C a=bT a bs++gN C r:=by
 obtain⟨h1,h2,h3,h4⟩:=h;have hpw:∀ (l:List Cl),l.Pairwise (fun x y=>x.1<y.1)→∀ (m:List Cl),m.Pairwise (fun x y=>x.1<y.1)→(∀ c,c∈l↔c∈m)→l=m:=by
  intro l hl m hm he;refine List.Perm.eq_of_pairwise (le:=fun x y:Cl=>x.1<y.1) (fun x y _ _ h1 h2=>absurd h1 (by omega)) hl hm ?_;refine (List.perm_ext_iff_of_nodup ?_ ?_).2 he
  · exact hl.imp (fun h e=>by rw[e] at h;omega)
  · exact hm.imp (fun h e=>by rw[e] at h;omega)
 have uniq:∀ x y:Cl,x∈C→y∈C→x.1=y.1→x=y:=by
  intro x y hx hy e;obtain⟨i,hi,rfl⟩:=List.getElem_of_mem hx;obtain⟨j,hj,rfl⟩:=List.getElem_of_mem hy
  have:=List.pairwise_iff_getElem.1 hC.1
  rcases Nat.lt_trichotomy i j with hlt|rfl|hlt
  · have:=this i j hi hj hlt;omega
  · rfl
  · have:=this j i hj hi hlt;omega
 refine hpw _ (hC.1.filter _) _ ?_ ?_
 · rw[List.pairwise_append];refine⟨yR _ _,hC.1.filter _,fun x hx y hy=>?_⟩
   have:=(iJ hx).2.1
   simp[gN] at hy
   omega
 · intro c;rw[List.mem_append];simp only[gN,List.mem_filter,decide_eq_true_eq];constructor
   · rintro⟨hc,ha⟩;by_cases hr:r≤c.1
     · exact .inr ⟨hc,hr⟩
     · refine .inl ?_;have hi:c.1 - a<bs.length:=by omega
       have hb:=hbs (c.1 - a) _ (List.getElem?_eq_getElem hi);rw[show a+(c.1 - a)=c.1 by omega] at hb
       have e:=uniq c (c.1,bs[c.1 - a]) hc hb rfl;simp only[bT,List.mem_map];refine⟨(bs[c.1 - a],c.1 - a),?_,?_⟩
       · rw[List.mem_zipIdx_iff_getElem?];simp[hi]
       · exact Prod.ext (by simp;omega) (congrArg Prod.snd e).symm
   · rintro (hc|⟨hc,hr⟩)
     · have:=iJ hc
       have hb:=hbs (c.1 - a) c.2 this.2.2;rw[show a+(c.1 - a)=c.1 by omega] at hb
       exact⟨hb,this.1⟩
     · exact⟨hc,by omega⟩
theorem Be {C:List Cl} (hC:Asc C) {a r a':Nat} (ha:a<65536) (hin:inC C a=true) (h:gS (fun x=>!inC C x) a r) (h':gS (inC C) r a') (bs:List UInt8) (hl:bs.length=r - a) (hbs:∀ i b,bs[i]? = some b→nM C (a+i) b) :
 aS (gN C a)=(a,bs)::aS (gN C a')∧a<r:=by
 have hlt:a<r:=by
  rcases Nat.lt_or_ge a r with h1|h1
  · exact h1
  · obtain⟨q1,q2,q3,q4⟩:=h;obtain rfl:a=r:=by omega
    have:=q4 ha
    simp[hin] at this
 refine⟨?_,hlt⟩;rw[Ou hC h bs hl hbs,←vF h'];refine Lz a bs (by intro e;rw[e] at hl;simp at hl;omega) _ (fun c hc=>?_);have hm:c∈gN C r:=List.mem_of_mem_head? hc;simp[gN] at hm
 have hr:r<65536:=by have:=hC.2 c hm.1;omega
 have hnr:=h.2.2.2 hr;have hne:c.1≠r:=fun e=>by
  have:=wQ hm.1
  rw[e] at this;simp[this] at hnr
 omega
end
section
open Go.RowKit Go.Sort
def dR (x:It):Bool:=decide (x.kind=1) && !x.alias
def dJ (l:List It):Nat:=(l.map fun x=>x.raw.length).sum
theorem lC (l m:List It):dJ (l++m)=dJ l+dJ m:=by simp[dJ]
theorem jP (x:It) (m:List It):dJ (x::m)=x.raw.length+dJ m:=by simp[dJ]
theorem jO (b:List UInt8):dJ (dI b)=b.length:=by
 have:=congrArg List.length (Pu b)
 rw[List.length_flatMap] at this;exact this
theorem kA {α:Type} (f:α→Nat):∀ (l:List α) (x:α),x∈l→f x≤(l.map f).sum
 | [],x,h=>by cases h
 | y::l,x,h=>by
   rw[Xt,List.sum_cons];rcases Xg.1 h with rfl|h
   · omega
   · have:=kA f l x h;omega
theorem tB {b:List UInt8} {x:It} (h:x∈dI b):x.raw.length≤b.length:=by
 rw[←jO b];exact kA (fun x:It=>x.raw.length) _ _ h
theorem nQ (C:List Cl):((aS C).map fun r=>r.2.length).sum=C.length:=by
 have:=congrArg List.length (rX C)
 rw[List.length_flatMap] at this;rw[←this];congr 1
 exact List.map_congr_left fun r _=>(eE r.1 r.2).symm
def nX:Nat→List It→List Nat
 | _,[]=>[]
 | a,x::l=>a::nX (a+x.raw.length) l
theorem yN:∀ (a:Nat) (l:List It),(nX a l).length=l.length
 | _,[]=>rfl
 | a,x::l=>by simp[nX,yN (a+x.raw.length) l]
theorem uR:∀ (a:Nat) (l:List It) (x:It),nX a (l++[x])=nX a l++[a+dJ l]
 | a,[],x=>by simp[nX,dJ]
 | a,y::l,x=>by simp[nX,uR (a+y.raw.length) l x,dJ,Yb]
theorem yO:∀ (a:Nat) (l:List It) (i:Nat),i<l.length→(nX a l)[i]? = some (a+dJ (l.take i))
 | a,[],i,h=>absurd h (Qw _)
 | a,x::l,0,_=>by simp[nX,dJ]
 | a,x::l,i+1,h=>by
   have:=yO (a+x.raw.length) l i (by simpa using h)
   simp[nX,this,dJ,Yb]
theorem Ek {l m:List It} (h:l <+: m):dJ l≤dJ m:=by
 obtain⟨k,rfl⟩:=h;rw[lC];omega
theorem Fe:∀ (f:Nat) (b:List UInt8),∀ x∈oO f b,1≤x.raw.length
 | 0,b,x,h=>by simp[oO] at h
 | f+1,b,x,h=>by
   unfold oO at h;by_cases hb:b=[]
   · simp[hb] at h
   · rw[if_neg hb] at h;rcases Xg.1 h with rfl|h
     · exact (kC b hb).1
     · exact Fe f _ x h
theorem Ww (l:List It) (h:∀ x∈l,1≤x.raw.length):l.length≤dJ l:=by
 induction l with
 | nil=>exact Qk _
 | cons x l ih =>
   have h1:=h x (Qq ..);have h2:=ih fun y hy=>h y (Qv _ hy);rw[jP,Qp];omega
theorem kK (b:List UInt8):(dI b).length≤b.length:=by
 have:=Ww (dI b) (Fe _ b)
 rwa [jO] at this
theorem xV (C:List Cl):∀ r∈aS C,r.2≠[]:=by
 induction C with
 | nil=>intro r h;simp[aS] at h
 | cons c C ih =>
   intro r h;unfold aS at h
   revert h
   cases hr:aS C with
   | nil=>intro h;simp at h;subst h;simp
   | cons q Q =>
     rw[hr] at ih;intro h;simp only at h;split at h
     · rcases Xg.1 h with rfl|h
       · simp
       · exact ih r (Qv _ h)
     · rcases Xg.1 h with rfl|h
       · simp
       · exact ih r h
theorem Bg {C:List Cl} {r:Rn} (h:r∈aS C):r.2.length≤C.length:=by
 rw[←nQ C];exact kA (fun r:Rn=>r.2.length) _ _ h
theorem xY {C:List Cl} (hA:Asc C) {r:Rn} (h:r∈aS C):r.1<65536:=by
 obtain⟨x,l,hx⟩:=List.exists_cons_of_ne_nil (xV C r h);have hm:(r.1,x)∈bT r.1 r.2:=by
  rw[hx];simp[bT]
 have hc:(r.1,x)∈C:=by
  rw[←rX C];exact Zq.2 ⟨r,h,hm⟩
 exact hA.2 _ hc
theorem iH (C:List Cl):(aS C).length≤C.length:=by
 have h:∀ R:List Rn,(∀ r∈R,r.2≠[])→R.length≤(R.map fun r=>r.2.length).sum:=by
  intro R;induction R with
  | nil=>intro _;exact Qk _
  | cons r R ih =>
    intro h;have h1:=Yu.2 (h r (Qq ..));have h2:=ih fun y hy=>h y (Qv _ hy);rw[Xt,List.sum_cons,Qp];omega
 have:=h _ (xV C)
 rwa [nQ] at this
end
end Go.Proofs.YtoigglljnklhlaaGreatDoor
