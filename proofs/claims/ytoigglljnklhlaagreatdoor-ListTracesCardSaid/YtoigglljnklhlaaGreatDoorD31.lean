/- Joined. -/
import Derived.Test.YtoigglljnklhlaaGreatDoorD03
import Derived.Laws.CopyOwn
set_option maxHeartbeats 8000000
set_option maxRecDepth 100000
namespace Go.Proofs.YtoigglljnklhlaaGreatDoor
section
theorem sL {C:List Cl} {a:Nat} {c:Cl} (h:C[(gE C a).length]? = some c):(gL C a).head? = some c∧a≤c.1:=by
 have e:(gL C a).head? = C[(gE C a).length]? := by
  conv=>rhs;lhs;rw[←cE C a]
  rw[List.getElem?_append_right (Nat.le_refl _),Nat.sub_self,List.head?_eq_getElem?]
 rw[h] at e;refine⟨e,?_⟩
 have:(gL C a)≠[]:=by intro h0;rw[h0] at e;cases e
 have h2:=List.head_dropWhile_not (fun c:Cl=>decide (c.1<a)) this;have h3:(gL C a).head this=c:=by
  have:=List.head?_eq_some_head this
  rw[e] at this;exact (Option.some.inj this).symm
 unfold gL at h3 h2;rw[h3] at h2;simpa using h2
theorem Np {C:List Cl} {a j:Nat} {c:Cl} (hj:j≤(gE C a).length) (h:C[j]? = some c) (hlt:c.1<a):j+1≤(gE C a).length:=by
 rcases Nat.lt_or_ge j (gE C a).length with h' | h'
 · omega
 · obtain rfl:j=(gE C a).length:=by omega
   have:=(sL h).2;omega
theorem yU {C:List Cl} {a j:Nat} (hj:j≤(gE C a).length) (h:∀ c,C[j]? = some c→a≤c.1):j=(gE C a).length:=by
 rcases Nat.lt_or_ge j (gE C a).length with h' | h'
 · have h1:C[j]? = some (gE C a)[j]:=by
    conv=>lhs;lhs;rw[←cE C a]
    rw[List.getElem?_append_left h',List.getElem?_eq_getElem h']
   have:=h _ h1
   have:=xE (C:=C) (a:=a) _ (List.getElem_mem h')
   omega
 · omega
theorem No (C:List Cl) (a:Nat):C.take (gE C a).length=gE C a:=by
 conv=>lhs;rhs;rw[←cE C a]
 simp
theorem Ia (C:List Cl) (a:Nat):C.drop (gE C a).length=gL C a:=by
 conv=>lhs;rhs;rw[←cE C a]
 simp
theorem El (C:List Cl) (a:Int):fZ C a []=C:=by
 unfold fZ;split
 · rw[show bT a.toNat []=[] from rfl,List.append_nil,cE]
 · rfl
theorem mE {C:List Cl} {a:Int} {bs:List UInt8} (h:¬ (0≤a∧a<65536∧(bs.length:Int)≤65536 - a)):eN C a bs=false:=by
 unfold eN;rw[Bool.eq_false_iff];intro h1;simp only[Bool.and_eq_true,decide_eq_true_eq] at h1;exact h ⟨h1.1.1.1,h1.1.1.2,h1.1.2⟩
theorem Ru {C:List Cl} {a:Nat} {bs:List UInt8} {c:Cl} (h:C[(gE C a).length]? = some c) (hlt:c.1<a+bs.length):eN C a bs=false:=by
 obtain⟨h1,h2⟩:=sL h;have hm:c∈C:=List.mem_of_getElem? h;unfold eN;rw[Bool.eq_false_iff];intro h3;simp only[Bool.and_eq_true,List.all_eq_true,List.mem_range,Bool.not_eq_true'] at h3
 have:=h3.2 (c.1 - a) (by omega)
 rw[show ((a:Int).toNat+(c.1 - a))=c.1 by simp;omega,wQ hm] at this
 cases this
theorem Mn {C:List Cl} (hC:Asc C) {a:Nat} {bs:List UInt8} (ha:a<65536) (hl:bs.length≤65536 - a) (h:∀ c,C[(gE C a).length]? = some c→a+bs.length≤c.1):eN C a bs=true:=by
 unfold eN;simp only[Bool.and_eq_true,decide_eq_true_eq,List.all_eq_true,List.mem_range,Bool.not_eq_true'];refine⟨⟨⟨by omega,by omega⟩,by omega⟩,fun i hi=>?_⟩
 rw[Bool.eq_false_iff];intro hin;simp only[inC,List.any_eq_true,beq_iff_eq,Int.toNat_natCast] at hin;obtain⟨c,hc,he⟩:=hin;rw[←cE C a] at hc;rcases List.mem_append.1 hc with hc|hc
 · have:=xE c hc;omega
 · obtain⟨k,hk,rfl⟩:=List.getElem_of_mem hc;have h0:0<(gL C a).length:=by omega
   have hh:C[(gE C a).length]? = some (gL C a)[0]:=by
    conv=>lhs;lhs;rw[←cE C a]
    rw[List.getElem?_append_right (Nat.le_refl _),Nat.sub_self,List.getElem?_eq_getElem h0]
   have h1:=h _ hh;have hpw:(gL C a).Pairwise (fun x y=>x.1<y.1):=by
    have:=hC.1
    rw[←cE C a,List.pairwise_append] at this;exact this.2.1
   rcases Nat.eq_zero_or_pos k with rfl|hk0
   · omega
   · have:=List.pairwise_iff_getElem.1 hpw 0 k h0 hk hk0
     omega
theorem Mm {C:List Cl} {a r:Nat} {bs:List UInt8} (ha:a<65536) (_hl:bs.length≤65536 - a) (h:gS (inC C) a r):eN C a bs=decide (a+bs.length≤r):=by
 obtain⟨h1,h2,h3,h4⟩:=h;rw[Bool.eq_iff_iff];unfold eN;simp only[Bool.and_eq_true,decide_eq_true_eq,List.all_eq_true,List.mem_range,Bool.not_eq_true'];constructor
 · rintro⟨_,h5⟩;rcases Nat.lt_or_ge r (a+bs.length) with h' | h'
   · have:=h5 (r - a) (by omega)
     rw[show ((a:Int).toNat+(r - a))=r by simp;omega,h4 (by omega)] at this
     cases this
   · exact h'
 · intro h5;exact⟨⟨⟨by omega,by omega⟩,by omega⟩,fun i hi=>h3 _ (by simp) (by simp;omega)⟩
theorem Rt {C:List Cl} {a:Nat} {bs:List UInt8} (h:eN C a bs=true):fZ C a bs=gE C a++bT a bs++gL C a:=by
 unfold fZ;rw[if_pos h];rfl
theorem kE {C:List Cl} {a:Int} {bs:List UInt8} (h:eN C a bs=false):fZ C a bs=C:=by
 unfold fZ;rw[h];rfl
theorem Ml (C:List Cl) (a:Int) (bs:List UInt8):(fZ C a bs).length≤C.length+bs.length:=by
 by_cases h:eN C a bs=true
 · rw[Em C a bs h];exact Nat.le_refl _
 · rw[kE (by simpa using h)];omega
end
section
open Go.RowKit Go.Sort
open Go.Proofs.Tryz
def TabB (w:World):Prop:=∀ j,j<64→w.cell? ⟨0,j,none⟩=some (.int .u8 (Lib.deBruijn64tab.getD j 0))
theorem TabB.below {w w':World} (h:TabB w) (hb:Below w w w'):TabB w':=fun j hj =>
 (hb.cell (p:=⟨0,j,none⟩) (block_lt_of_cell (a:=⟨0,j,none⟩) (h j hj))).trans (h j hj)
theorem Wr (x a:Nat) (hx:x<18446744073709551616) (hx0:x≠0) (hlow:x &&& (18446744073709551616 - x)=a) :
 IntKind.u64.wrap (bits BinOp.and IntKind.u64 (x:Int) (IntKind.u64.wrap (-(x:Int)))*285870213051353865)/288230376151711744=((a*285870213051353865%18446744073709551616/288230376151711744:Nat):Int):=by
 have e1:IntKind.u64.wrap (-(x:Int))=((18446744073709551616 - x:Nat):Int):=by rw[IntKind.wrap_u64];omega
 rw[e1,bits_and_u64_nat x _ hx om,hlow,IntKind.wrap_u64];omega
theorem Rc (x k idx:Nat) (w:World) (hx0:((x:Int) == 0)=false)
 (key:IntKind.u64.wrap (bits BinOp.and IntKind.u64 (x:Int) (IntKind.u64.wrap (-(x:Int)))*285870213051353865)/288230376151711744=(idx:Int))
 (hi:idx<64) (hk:k<64) (hcell:w.cell? ⟨0,idx,none⟩=some (.int .u8 k)) :
 Calls prog 80 #[.int .u64 x] w fun e w'=>e=.returned k∧w=w':=by
 go_enter func80,ntmps80
 go_wp2_with (simp only[key])
 go_ret;exact⟨rfl,rfl⟩
theorem Ws (x:Nat) (hx0:x≠0) (hx:x<18446744073709551616) (w:World) (hT:TabB w) :
 Calls prog 80 #[.int .u64 x] w fun e w'=>e=.returned (.int .i64 (Lib.ctz 64 x))∧w=w':=by
 obtain⟨hlow,hk⟩:=Lib.lowest_bit 64 x hx0 hx;obtain⟨hi,htab⟩:=Lib.deBruijn64_at _ hk;have hcell:=hT _ hi;rw[htab] at hcell;exact Rc x _ _ w (by simp;omega) (Wr x _ hx hx0 hlow) hi hk hcell
structure ImgRaw (b:Nat) (D:Nat→Bool) (Bx:Nat→UInt8→Prop) (n:Nat) (w:World):Prop where
 ex:∃ c:Array Value,w.heap[b]? = some (.cells c 94 (0,0))∧c.size=66561 ∧
  (∀ k,k<1024→∃ x:Nat,c[k]? = some (.int .u64 x)∧gR D k x)∧c[1024]? = some (.int .i64 n) ∧
  ∀ a,a<65536→∃ y:UInt8,c[1025+a]? = some (.int .u8 y.toNat)∧∀ q,Bx a q→y=q
theorem ImgRaw.lt {b:Nat} {D:Nat→Bool} {Bx:Nat→UInt8→Prop} {n:Nat} {w:World} (h:ImgRaw b D Bx n w):b<w.heap.size:=by
 obtain⟨c,hc,_⟩:=h.ex;exact aA hc
theorem ImgRaw.below {b:Nat} {D:Nat→Bool} {Bx:Nat→UInt8→Prop} {n:Nat} {w w':World} {m:Nat} (h:ImgRaw b D Bx n w) (hb:Below m w w') (hm:b<m):ImgRaw b D Bx n w':=by
 obtain⟨c,hc,r⟩:=h.ex;exact⟨c,aB hc hb hm,r⟩
theorem ImgRaw.kb {b:Nat} {D:Nat→Bool} {Bx:Nat→UInt8→Prop} {n g:Nat} {w w':World} (h:ImgRaw b D Bx n w) (hb:Kb g w w') (hm:b≠g):ImgRaw b D Bx n w':=by
 obtain⟨c,hc,r⟩:=h.ex;exact⟨c,(hb.block b (aA hc) hm).trans hc,r⟩
theorem ImgRaw.word {b:Nat} {D:Nat→Bool} {Bx:Nat→UInt8→Prop} {n:Nat} {w:World} (h:ImgRaw b D Bx n w) {k:Nat} (hk:k<1024):∃ x:Nat,w.cell? ⟨b,k,none⟩=some (.int .u64 x)∧gR D k x:=by
 obtain⟨c,hc,_,hw,_⟩:=h.ex;obtain⟨x,hx,hd⟩:=hw k hk;exact⟨x,by rw[aC hc];exact hx,hd⟩
theorem Sh (x:Nat) (hx:x<18446744073709551616):bits BinOp.xor IntKind.u64 18446744073709551615 (x:Int)=((18446744073709551615 - x:Nat):Int):=by
 have h:=bits_xor_u64_nat 18446744073709551615 x om hx;have e:18446744073709551615 ^^^ x=18446744073709551615 - x:=by
  refine Nat.eq_of_testBit_eq fun i=>?_;have e2:18446744073709551615 - x=2 ^ 64 - (x+1):=om
  rw[e2,Nat.testBit_two_pow_sub_succ hx,Nat.testBit_xor,show (18446744073709551615:Nat)=2 ^ 64 - 1 from rfl,Nat.testBit_two_pow_sub_one]
  by_cases hi:i<64
  · simp[hi]
  · have:x.testBit i=false:=Nat.testBit_lt_two_pow (Qj hx (Nat.pow_le_pow_right (n:=2) om (Nat.not_lt.1 hi)))
    simp[hi,this]
 rw[e] at h;exact h
def vT (D:Nat→Bool) (a:Nat) (inn:Bool) (r:Nat):Prop:=gS (fun x=>D x == inn) a r
theorem Av {p:Prop} (h:p:=by
 have hk:=HK.out
 have:=HQ.out
 exact⟨(q+1)*64,om,om,by go_num,Hh (fun y h1 h2=>H2.out y h1 om)⟩):p:=h
theorem yQ (b:Nat) (D:Nat→Bool) (Bx:Nat→UInt8→Prop) (n a:Nat) (inn:Bool) (w:World) (hI:ImgRaw b D Bx n w) (hT:TabB w) (ha:a≤65536) :
 Calls prog 44 #[.pointer b,a,.bool inn] w fun e w'=>∃ r:Nat,e=.returned r∧vT D a inn r∧w=w':=by
 have HI:=Hh hI;have HT:=Hh hT;clear hI hT;go_enter func44,ntmps44
 go_wp2_with fail
 go_loop [1,7] (fun s1 _=>∃ k:Nat,k≤65536∧a≤k∧s1=.int .i64 k∧Hid (∀ y,a≤y→y<k→(D y == inn)=false)) (fun s1 _=>65536 - (intOf s1).toNat)
 case atStart=>exact⟨a,ha,Qk _,rfl,Hh (fun y h1 h2=>absurd h1 om)⟩
 case round =>
  obtain⟨k,hk,hak,rfl,HF⟩:=hrel;by_cases hlt:k<65536
  · obtain⟨x,hx,hw⟩:=HI.out.word (k:=k/64) om;obtain⟨z,hz,hn,HW⟩:∃ z:Nat,(inn=true→x=z)∧(inn=false→bits BinOp.xor IntKind.u64 (if IntKind.u64.signed=true then -1 else IntKind.u64.max) (x:Int)=(z:Int))∧Hid (gR (fun y=>D y == inn) (k/64) z):=by
     cases inn
     · exact⟨18446744073709551615 - x,(fun h=>by cases h),fun _=>Sh x hw.1,Hh (by simpa using Jr hw)⟩
     · exact⟨x,fun _=>rfl,(fun h=>by cases h),Hh (by simpa using hw)⟩
    obtain⟨s,hs⟩:∃ s:Nat,z/2 ^ (k%64)=s:=⟨_,rfl⟩;have hs1:(z:Int)/2 ^ (k%64)=(s:Int):=by rw[←hs];simp
    have HS:=Hh hs;obtain⟨q,hq⟩:∃ q,k/64=q:=⟨_,rfl⟩;have HQ:=Hh hq;rw[hq] at hx;have hq1:(k:Int)/64=(q:Int):=om
    have hq3:(q:Int)<1024:=om
    have hltI:(k:Int)<65536:=om
    have h64:(0:Int)≤(k:Int)%64:=om
    have HK:=Hh (And.intro hk (And.intro hak (And.intro hlt ha)));clear hw hq hs hk hak hlt ha;by_cases h0:s=0
    · subst h0;have H2:=Hh (Gw (a0:=a) HW.out HF.out HS.out);have hpow:IntKind.i64.wrap (((q:Int)+1)*64)=((q+1)*64:Int):=IntWalk.i64_in _ om;cases inn
      · have HKX:=Hh (hn rfl);clear hz hn;go_wp2_with (simp only[HKX.out])
        go_round
        case rel =>
         exact Av
        case measure =>
         have hk:=HK.out
         have:=HQ.out
         simp[intOf];omega
      · obtain rfl:=hz rfl;clear hz hn;go_wp2_with fail
        go_round
        case rel =>
         exact Av
        case measure =>
         have hk:=HK.out
         have:=HQ.out
         simp[intOf];omega
    · have hne:((s:Int) != 0)=true:=by simpa using h0
      have H2:=Hh (Nh HW.out HK.out.2.2.1 HK.out.2.1 HF.out (by rw[HS.out];exact h0));rw[HS.out] at H2;have hsl:=Nat.lt_of_le_of_lt (Nat.div_le_self z (2 ^ (k%64))) HW.out.1;rw[HS.out] at hsl;have HC:=Hh (fun W (hb:TabB W)=>Ws s h0 hsl W hb);have hr:=H2.out.2.1;obtain⟨t,ht⟩:∃ t,Lib.ctz 64 s=t:=⟨_,rfl⟩;rw[ht] at H2 HC hr;clear hsl ht;cases inn
      · have HKX:=Hh (hn rfl);clear hz hn;go_wp2_with (first|(simp only[HKX.out])|(go_at_call 80;refine (HC.out _ HT.out).mono ?_;rintro e w' ⟨rfl,rfl⟩))
        go_ret;exact⟨k+t,by simp,H2.out,rfl⟩
      · obtain rfl:=hz rfl;clear hz hn;go_wp2_with (go_at_call 80;refine (HC.out _ HT.out).mono ?_;rintro e w' ⟨rfl,rfl⟩)
        go_ret;exact⟨k+t,by simp,H2.out,rfl⟩
  · have hltI:¬ (k:Int)<65536:=om
    have HK:=Hh (And.intro hk (And.intro hak hlt));clear hk hak hlt;go_wp2_with fail
    go_ret;have hk:=HK.out;exact⟨65536,by simp,⟨om,Qk _,fun y h1 h2=>HF.out y h1 om,fun h=>absurd h om⟩,rfl⟩
theorem aPG (x j:Nat) (hx:x<18446744073709551616) (hj:j<64):bits BinOp.or IntKind.u64 (x:Int) (IntKind.u64.wrap (2 ^ j))=((x ||| 2 ^ j:Nat):Int):=by
 have hp:2 ^ j<2 ^ 64:=Nat.pow_lt_pow_right om hj;have e0:(2:Int) ^ j=((2 ^ j:Nat):Int):=by simp
 have e:IntKind.u64.wrap (2 ^ j)=((2 ^ j:Nat):Int):=by
  rw[IntKind.wrap_u64,e0];generalize (2:Nat) ^ j=p at *;omega
 rw[e,bits_or_u64_nat x (2 ^ j) hx hp]
theorem Cu {b:Nat} {D:Nat→Bool} {Bx:Nat→UInt8→Prop} {n addr x:Nat} {w:World} (h:ImgRaw b D Bx n w) (ha:addr<65536) (hx:w.cell? ⟨b,addr/64,none⟩=some (.int .u64 x)) :
 ImgRaw b (fun y=>D y || y == addr) Bx (n+1) ((w.setCell ⟨b,addr/64,none⟩ (.int .u64 ((x ||| 2 ^ (addr%64):Nat):Int))).setCell ⟨b,1024,none⟩ (.int .i64 ((n:Int)+1))):=by
 obtain⟨c,hc,hsz,hw,hn,hb⟩:=h.ex;rw[aC hc] at hx;refine⟨_,aG (aG hc),by simp[hsz],fun k hk=>?_,?_,fun a ha2=>?_⟩
 · rw[Array.getElem?_setIfInBounds_ne om];obtain⟨y,hy,hd⟩:=hw k hk;by_cases hka:addr/64=k
   · subst hka;rw[hx] at hy;cases hy
     exact⟨_,by rw[Array.getElem?_setIfInBounds_self_of_lt om],Js hd⟩
   · exact⟨y,by rw[Array.getElem?_setIfInBounds_ne hka];exact hy,Ar hd hka⟩
 · rw[Array.getElem?_setIfInBounds_self_of_lt (by simp;omega)];simp
 · rw[Array.getElem?_setIfInBounds_ne om,Array.getElem?_setIfInBounds_ne om];exact hb a ha2
theorem zD {b:Nat} {D:Nat→Bool} {Bx:Nat→UInt8→Prop} {n:Nat} {w:World} (h:ImgRaw b D Bx n w):ImgRaw b D Bx n w.drew:=⟨h.ex⟩
theorem aPl (b:Nat) (D:Nat→Bool) (Bx:Nat→UInt8→Prop) (n addr:Nat) (w:World) (hI:ImgRaw b D Bx n w) (ha:addr<65536) (hn:n≤70000) :
 Calls prog 45 #[.pointer b,addr] w fun e w'=>e=.returned (.tuple #[])∧Hid (ImgRaw b (fun y=>D y || y == addr) Bx (n+1) w')∧Kb b w w':=by
 obtain⟨x,hx,hd⟩:=hI.word (k:=addr/64) om;have HADD:=Hh (Cu hI ha hx);have hor:=aPG x (addr%64) hd.1 om;obtain⟨q,hq⟩:∃ q,addr/64=q:=⟨_,rfl⟩;obtain⟨c,hc,hsz,hw,hcn,hb⟩:=hI.ex;have hlt:=aA hc;have hfr:=fun i=>aH hc i;have c1:=aC hc 1024;rw[hcn] at c1;rw[hq] at hx HADD;have hq1:(addr:Int)/64=(q:Int):=om
 have hq3:(q:Int)<1024:=om
 have hqn:q≠1024:=om
 have h64:(0:Int)≤(addr:Int)%64:=om
 obtain⟨z,hz⟩:∃ z,x ||| 2 ^ (addr%64)=z:=⟨_,rfl⟩;rw[hz] at hor HADD;have f0:=hfr q;have f1:=hfr 1024;have HBLK:=Hh hc;clear hd hq hc hw hcn hb hz hfr hsz;clear hI;go_enter func45,ntmps45
 go_wp2_with fail
 go_region
 all_goals
  go_wp2_with fail
  go_end0
  exact⟨rfl,Hh (zD HADD.out),((Kb.setCell (Kb.setCell (Kb.refl _ _) _ _) _ _).drew)⟩
structure ImgAt (b:Nat) (C:List Cl) (w:World):Prop where
 asc:Asc C
 raw:ImgRaw b (inC C) (nM C) C.length w
theorem ImgAt.below {b:Nat} {C:List Cl} {w w':World} {m:Nat} (h:ImgAt b C w) (hb:Below m w w') (hm:b<m):ImgAt b C w':=⟨h.asc,h.raw.below hb hm⟩
theorem ImgAt.kb {b g:Nat} {C:List Cl} {w w':World} (h:ImgAt b C w) (hb:Kb g w w') (hm:b≠g):ImgAt b C w':=⟨h.asc,h.raw.kb hb hm⟩
theorem zE {b:Nat} {C:List Cl} {n addr:Nat} {w:World} {bs:List UInt8} {c:Array Value} (h:ImgRaw b (inC C) (nM C) n w) (hc:w.heap[b]? = some (.cells c 94 (0,0))) (hok:eN C addr bs=true) (hl:addr+bs.length≤65536) :
 ImgRaw b (inC C) (nM (fZ C addr bs)) n (w.setRow b (c.toList.take (1025+addr)++(aT bs++c.toList.drop (1025+addr+(aT bs).length))).toArray):=by
 obtain⟨c',hc',hsz,hw,hn,hb⟩:=h.ex;rw[hc] at hc';cases hc'
 have hbl:=fS bs;have hlen:(c.toList.take (1025+addr)).length=1025+addr:=by rw[Qt,Xv,hsz];omega
 generalize hP:c.toList.take (1025+addr)=P at hlen;generalize hR:c.toList.drop (1025+addr+(aT bs).length)=R;have hlow:∀ k,k<1025+addr→(P++(aT bs++R)).toArray[k]? = c[k]? := fun k hk=>by
  rw[List.getElem?_toArray,Yi om,←hP,Yt hk,Xo]
 have hmid:∀ k,k<bs.length→(P++(aT bs++R)).toArray[1025+addr+k]? = (aT bs)[k]? := fun k hk=>by
  rw[List.getElem?_toArray,Yf om,Yi om,show 1025+addr+k - P.length=k by omega]
 have hhigh:∀ k,1025+addr+bs.length≤k→(P++(aT bs++R)).toArray[k]? = c[k]? := fun k hk=>by
  rw[List.getElem?_toArray,Yf om,Yf om,←hR,Yh,Xo,show 1025+addr+(aT bs).length+(k - P.length - (aT bs).length)=k by omega]
 have hsize:(P++(aT bs++R)).toArray.size=66561:=by
  have h1:R.length=66561 - (1025+addr+bs.length):=by rw[←hR,Xm,Xv,hsz,hbl]
  rw[Qx,Qc,Qc,hlen,hbl,h1];omega
 have hset:=setRow_heap w b c (P++(aT bs++R)).toArray 94 (0,0) hc;refine⟨_,hset,hsize,fun k hk=>by rw[hlow k om];exact hw k hk,by rw[hlow 1024 om];exact hn,fun a ha=>?_⟩
 by_cases h1:a<addr
 · obtain⟨y,hy,hq⟩:=hb a ha;refine⟨y,by rw[hlow _ om];exact hy,fun q hh=>?_⟩
   rcases wD hok hh with h2|⟨h2,_⟩
   · exact hq q h2
   · simp at h2;omega
 · by_cases h2:a<addr+bs.length
   · have hi:a - addr<bs.length:=om
     refine⟨bs[a - addr],?_,fun q hh=>?_⟩
     · have:=hmid (a - addr) hi
       rw[show 1025+addr+(a - addr)=1025+a by omega] at this
       rw[this];exact oS (Qb hi)
     · rcases wD hok hh with h3|⟨_,h3⟩
       · exfalso
         have hin:inC C a=true:=by simp only[inC,Xx];exact⟨(a,q),h3,by simp⟩
         unfold eN at hok;simp only[Qe,Xk,Yn,Bool.not_eq_true'] at hok
         have:=hok.2 (a - addr) hi
         rw[show (addr:Int).toNat+(a - addr)=a by simp;omega,hin] at this
         cases this
       · simp only[Xl] at h3;rw[Qb hi] at h3;exact Xi h3
   · obtain⟨y,hy,hq⟩:=hb a ha;refine⟨y,by rw[hhigh _ om];exact hy,fun q hh=>?_⟩
     rcases wD hok hh with h3|⟨_,h3⟩
     · exact hq q h3
     · rw[Zf (by simp;omega)] at h3;cases h3
theorem aES {b g:Nat} {u w:World} (h:Kb b u w) (hg:g=b) (cs:Array Value):Kb b u (w.setRow g cs):=by
 subst hg;exact h.trans ⟨rfl,rfl,rfl,by simp[World.setRow],fun k _ hne=>setRow_other w g k cs hne⟩
theorem jZ:prog.arrayLen 92=65536:=by kernel_rfl
theorem mH:prog.elem 92=5:=by kernel_rfl
theorem xQ (b a:Nat) (ha:a<65536) (W:World):(Instr.sliceAt 92 (.pointer (some ⟨b,1025,none⟩)) (some (.int .i64 (a:Int))) none none).run prog W=.ok (.slice (some ⟨b,1025+a,none⟩) (65536 - a) (65536 - a)) W:=by
 have h1:(a:Int)≤(prog.arrayLen 92:Int):=by rw[jZ];omega
 rw[run_sliceAt_array_l W 92 ⟨b,1025,none⟩ (by rw[jZ,mH];exact underlying92) .i64 (a:Int) om h1,mH,Tryz.sizeOf5];simp only[Result.andThen,slicedAt,jZ,Xl];rw[if_neg om,Nat.mul_one,bD]
theorem wA (b l h:Nat) (hl:l<h) (hh:h≤65536) (W:World):(Instr.sliceAt 92 (.pointer (some ⟨b,1025,none⟩)) (some (.int .i64 (l:Int))) (some (.int .i64 (h:Int))) none).run prog W=.ok (.slice (some ⟨b,1025+l,none⟩) (h - l) (65536 - l)) W:=by
 have h1:(h:Int)≤(prog.arrayLen 92:Int):=by rw[jZ];omega
 rw[run_sliceAt_array_lh W 92 ⟨b,1025,none⟩ (by rw[jZ,mH];exact underlying92) .i64 .i64 (l:Int) (h:Int) om om h1,mH,Tryz.sizeOf5];simp only[Result.andThen,slicedAt,jZ,Xl];rw[if_neg om,Nat.mul_one,bD]
theorem qP {P:Program} {w:World} {ops:Array Oper} {rest:List Oper} {o:Oper} {a:Act} {Q:Exit→Act→World→Prop} (hgd:o.guard=none) (d s:Operand) (dT sT:TypeId)
 (ho:o.op=.call { callee:=.builtin .copy,args:=#[d,s],argTypes:=#[dT,sT] }) (elem:TypeId) (hu:P.underlying dT=some (.slice elem)) (hsz:(P.info? elem).map (·.size)=some 1)
 (g off dLen dCap:Nat) (ad:Addr) (sLen sCap:Nat) (hd:a.eval d=.slice (some ⟨g,off,none⟩) dLen dCap) (hs:a.eval s=.slice (some ad) sLen sCap)
 (cur:Array Value) (t:TypeId) (hg:w.heap[g]? = some (.cells cur t (0,0))) (cs:List Value) (hn:cs.length=Nat.min sLen dLen)
 (hsrc:∀ j v,cs[j]? = some v→w.cell? (ad.add j)=some v) (hfit:off+cs.length≤cur.size) (h1:∀ v∈cs,v.oneCell'=true)
 (h:∀ W1,Hid (w.setRow g (cur.toList.take off++(cs++cur.toList.drop (off+cs.length))).toArray=W1)→wpList P ops Q rest (a.put o.dst (goInt cs.length)) W1):wpList P ops Q (o::rest) a w :=
 wpList_copy_own hgd d s dT sT ho elem hu hsz g off dLen dCap ad sLen sCap hd hs cur t hg cs hn hsrc hfit h1 (h _ rfl)
def Dm (C:List Cl) (a i:Nat):Nat→Bool:=fun y=>inC C y || (decide (a≤y) && decide (y<a+i))
theorem Tu (C:List Cl) (a:Nat):inC C=Dm C a 0:=by
 funext y
 unfold Dm
 have:(decide (a≤y) && decide (y<a+0))=false:=by simp
 rw[this,Bool.or_false]
theorem Tv (C:List Cl) (a i:Nat):(fun y=>Dm C a i y || y == a+i)=Dm C a (i+1):=by
 funext y
 unfold Dm;rw[Bool.or_assoc];congr 1
 rw[Yl];simp
 omega
theorem aQa {C:List Cl} {a:Nat} {bs:List UInt8} (h:eN C a bs=true):Dm C a bs.length=inC (fZ C a bs):=by
 funext y
 rw[aPB C a bs h];rfl
theorem Uq (b:Nat) (D:Nat→Bool) (Bx:Nat→UInt8→Prop) (n addr:Nat) (x:Int) (hx:x=addr) (w:World) (hI:ImgRaw b D Bx n w) (ha:addr<65536) (hn:n≤70000) :
 Calls prog 45 #[.pointer b,x] w fun e w'=>e=.returned (.tuple #[])∧Hid (ImgRaw b (fun y=>D y || y == addr) Bx (n+1) w')∧Kb b w w':=hx ▸ aPl b D Bx n addr w hI ha hn
def aAl (b:Nat) (C:List Cl) (w:World) (e:Ending) (w':World):Prop:=∃ k:Int,e=.returned (.int .i64 k)∧ImgAt b C w'∧Kb b w w'
theorem Eo (b:Nat) (C:List Cl) (addr:Int) (bs:List UInt8) (v:Value) (w:World) (hI:ImgAt b C w) (hT:TabB w) (hv:Row w v bs.length (aT bs)) (hn:C.length≤60000) (hl:bs.length≤5000) :
 Calls prog 23 #[.pointer b,addr,v] w (aAl b (fZ C addr bs) w):=by
 obtain⟨a1,c1,rfl,hc1,hv⟩:=hv;by_cases hlo:addr<0
 · rw[kE (mE om)];clear hv;have HI:=Hh hI;clear hI;go_enter func23,ntmps23
   go_wp2_with fail
   go_ret;exact⟨_,rfl,HI.out,Kb.refl _ _⟩
 · obtain⟨a,rfl⟩:=Xf (Int.not_lt.1 hlo);clear hlo;by_cases hhi:a<65536
   · have hd0:decide ((a:Int)<0)=false:=by simp
     have hd1:decide (65536≤(a:Int))=false:=by simp;omega
     by_cases hlen:bs.length≤65536 - a
     · have hlen2:decide (65536 - (a:Int)<(bs.length:Int))=false:=by simp;omega
       have hlen3:(0:Int)≤(a:Int)+(bs.length:Int)∧(a:Int)+(bs.length:Int)≤100000:=om
       obtain⟨hs0,hs1⟩:=hlen3;have hs2:(-70000:Int)≤65536 - (a:Int):=om
       have hs3:65536 - (a:Int)≤70000:=om
       have hsl:=fun W=>xQ b a hhi W;obtain⟨N,hN⟩:∃ N,65536 - a=N:=⟨_,rfl⟩;rw[hN] at hsl;have HN:=Hh hN;clear hN;have HI:=Hh hI;have HT:=Hh hT;have HV:=Hh hv;have HHI:=Hh (And.intro hhi hlen);have HNN:=Hh (And.intro hn hl);clear hI hT hv hhi hlen hn hl;go_enter func23,ntmps23
       go_wp2_with fail
       refine (yQ b (inC C) (nM C) C.length a true _ HI.out.raw HT.out (by have:=HHI.out.1;omega)).mono ?_;rintro e w1 ⟨r,rfl,hr,rfl⟩;have hr2:gS (inC C) a r:=by unfold vT at hr;simpa using hr
       have hok:=Mm HHI.out.1 HHI.out.2 hr2;clear hr hr2;by_cases hk:a+bs.length≤r
       · have hk2:decide ((r:Int)<(a:Int)+(bs.length:Int))=false:=by simp;omega
         have HOK:=Hh (show eN C a bs=true by rw[hok];simpa using hk);clear hok hk;obtain⟨c,hc,hsz,_⟩:=HI.out.raw.ex;have HC:=Hh hc;clear hc;by_cases hb0:bs=[]
         · have HB0:=Hh hb0;have hz:decide ((0:Int)<(bs.length:Int))=false:=by rw[hb0];simp
           have hz2:decide (0<bs.length)=false:=by rw[hb0];simp
           clear hb0;go_wp2_with (refine wpList_copy_nothing (o:=⟨some 41,_,_,_,_,_⟩) rfl (.tmp 39) (.tmp 40) 33 33 rfl 5 underlying33 kr (some ⟨b,1025+a,none⟩) _ N N bs.length c1 rfl rfl (by rw[HB0.out];exact Nat.zero_min _) ?_)
           clear hd0 hd1 hlen2 hs0 hs1 hs2 hs3 hk2 hsl hsz;refine wp_loop_rounds 1 ?_;rw[rounds_succ];go_wp2_with fail
           go_ret;exact⟨_,rfl,by rw[HB0.out,El];exact HI.out,Kb.refl _ _⟩
         · obtain⟨g,o,rfl,hg,hcs⟩:=HV.out (by simpa[aT] using hb0);have hpos:0<bs.length:=Yu.2 hb0;go_wp2_with (refine qP (o:=⟨some 41,_,_,_,_,_⟩) rfl (.tmp 39) (.tmp 40) 33 33 rfl 5 underlying33 kr b (1025+a) N N ⟨g,o,none⟩ bs.length c1 rfl rfl c _ HC.out (aT bs) ?c1 ?c2 ?c3 (Ad bs) (fun W1 HW1=>?_))
           case c1=>rw[fS];have h1:=HN.out;have h2:=HHI.out;exact (Yz om).symm
           case c2 =>
            intro j u hu;have hj:=(Qd.1 hu).1;rw[bD];exact (hcs j hj).trans hu
           case c3=>rw[fS,hsz];have:=HHI.out;omega
           have hraw:=zE HI.out.raw HC.out HOK.out (by have:=HHI.out;omega);have hkb1:Kb b w W1:=by rw[←HW1.out];exact aES (Kb.refl _ _) rfl _
           rw[HW1.out] at hraw;have HRAW:=Hh hraw;have HKB1:=Hh hkb1;clear hraw hkb1 HW1 hcs hd0 hd1 hlen2 hs0 hs1 hs2 hs3 hk2 hsl hsz;go_loopw [7,44] (fun _ k wr=>∃ i:Nat,i≤bs.length∧k=.int .i64 i∧Hid (ImgRaw b (Dm C a i) (nM (fZ C a bs)) (C.length+i) wr)∧Hid (Kb b W1 wr)) (fun _ k _=>bs.length - (intOf k).toNat)
           case atStart=>exact⟨0,Qi _,rfl,Hh (by rw[←Tu];exact HRAW.out),Hh (Kb.refl _ _)⟩
           case round =>
            obtain⟨i,hi,rfl,HR,HK⟩:=hrel;by_cases hlt:i<bs.length
            · have hi1:(i:Int)<(bs.length:Int):=om
              have hs0:(0:Int)≤(a:Int)+(i:Int):=om
              have hs1:(a:Int)+(i:Int)≤70000:=by have:=HHI.out;omega
              go_wp2_with fail
              refine (Uq b (Dm C a i) (nM (fZ C a bs)) (C.length+i) (a+i) _ om _ HR.out (by have:=HHI.out;omega) (by have:=HNN.out;omega)).mono ?_;rintro e w2 ⟨rfl,hr2,hk2⟩;have hr2:=hr2.out;rw[Tv] at hr2;have HR2:=Hh hr2;have HK2:=Hh (HK.out.trans hk2);clear hr2 hk2;go_wp2_with fail
              go_roundw
              case rel=>exact⟨i+1,om,by go_num,HR2,HK2⟩
              case measure=>simp[intOf];omega
            · obtain rfl:i=bs.length:=om
              have hi1:¬ (bs.length:Int)<(bs.length:Int):=om
              go_wp2_with fail
              go_ret;exact⟨_,rfl,⟨En HI.out.asc _ _,by rw[Em _ _ _ HOK.out,←aQa HOK.out];exact HR.out⟩,HKB1.out.trans HK.out⟩
       · have hk2:decide ((r:Int)<(a:Int)+(bs.length:Int))=true:=by simp;omega
         have HNO:=Hh (show eN C a bs=false by rw[hok];simpa using hk);clear hok hk;go_wp2_with fail
         go_ret;exact⟨_,rfl,by rw[kE HNO.out];exact HI.out,Kb.refl _ _⟩
     · rw[kE (mE om)];have hlen2:decide (65536 - (a:Int)<(bs.length:Int))=true:=by simp;omega
       have hs2:(-70000:Int)≤65536 - (a:Int):=om
       have hs3:65536 - (a:Int)≤70000:=om
       have HI:=Hh hI;clear hI hv hhi hlen hn hl;go_enter func23,ntmps23
       go_wp2_with fail
       go_ret;exact⟨_,rfl,HI.out,Kb.refl _ _⟩
   · rw[kE (mE om)];have hd0:decide ((a:Int)<0)=false:=by simp
     have hd1:decide (65536≤(a:Int))=true:=by rw[Qf];omega
     have HI:=Hh hI;clear hI hv hhi hn hl;go_enter func23,ntmps23
     go_wp2_with fail
     go_ret;exact⟨_,rfl,HI.out,Kb.refl _ _⟩
end
end Go.Proofs.YtoigglljnklhlaaGreatDoor
