/- Joined. -/
import Derived.Test.YtoigglljnklhlaaGreatDoorD29
import Derived.Test.YtoigglljnklhlaaGreatDoorD31
set_option maxHeartbeats 8000000
set_option maxRecDepth 100000
namespace Go.Proofs.YtoigglljnklhlaaGreatDoor
section
open Go.RowKit Go.Sort
def aKW (C:List Cl) (a:Int):Option UInt8:=if a<0 then none else (C.find? fun c=>decide (c.1=a.toNat)).map Prod.snd
theorem aOO {C:List Cl} {n:Nat}:∀ c∈gE C n,c.1<n:=fun c h=>by
 have:=Xk.1 (List.all_takeWhile (p:=fun c:Cl=>decide (c.1<n)) (l:=C)) c h
 simpa using this
theorem aOx {C:List Cl} (hC:Asc C) (n:Nat):C.find? (fun c=>decide (c.1=n))=(C[(gE C n).length]?).bind fun c=>if c.1=n then some c else none:=by
 have hs:C=gE C n++gL C n:=(cE C n).symm;have hp:=hC.1;have hlow:(gE C n).find? (fun c=>decide (c.1=n))=none:=List.find?_eq_none.2 fun c hc=>by
  have:=aOO c hc
  simp;omega
 have hget:C[(gE C n).length]? = (gL C n).head? := by
  conv=>lhs;rw[hs]
  rw[Yf (by rw[←hs];exact Qk _),←hs,Nat.sub_self];cases gL C n<;>rfl
 rw[hget]
 conv=>lhs;rw[hs]
 rw[List.find?_append,hlow,Option.none_or];rw[hs,List.pairwise_append] at hp;have hp2:=hp.2.1;have hhd:∀ (D:List Cl) c t,D.dropWhile (fun c:Cl=>decide (c.1<n))=c::t→¬ c.1<n:=by
  intro D;induction D with
  | nil=>intro c t h;cases h
  | cons d D ih =>
    intro c t h;rw[List.dropWhile_cons] at h;split at h
    · exact ih c t h
    · rename_i hd;cases h
      simpa using hd
 cases hh:gL C n with
 | nil=>rfl
 | cons c t =>
   have h1:=hhd C c t hh;rw[hh,Zl] at hp2;rw[List.find?_cons];by_cases hc:c.1=n
   · simp[hc]
   · have hn:t.find? (fun c=>decide (c.1=n))=none:=List.find?_eq_none.2 fun d hd=>by
      have:=hp2.1 d hd
      simp;omega
     simp[hc,hn]
end
section
open Go.RowKit Go.Sort
open Go.Proofs.Tryz
theorem aOP {D:Nat→Bool} {a x:Nat} (h:gR D (a/64) x):(bits BinOp.and IntKind.u64 ((x:Int)/2 ^ (a%64)) 1 == 1)=D a:=by
 have h1:=h.2 (a%64) om;rw[show 64*(a/64)+a%64=a by omega,Nat.testBit_eq_decide_div_mod_eq] at h1
 have hx:(x:Int)/2 ^ (a%64)=((x/2 ^ (a%64):Nat):Int):=by rw[Int.natCast_ediv,Int.natCast_pow];rfl
 have hlt:x/2 ^ (a%64)<18446744073709551616:=Nat.lt_of_le_of_lt (Nat.div_le_self _ _) h.1;have hb:=bits_and_u64_nat (x/2 ^ (a%64)) 1 hlt dc;rw[hx,show (1:Int)=((1:Nat):Int) from rfl,hb,Nat.and_one_is_mod,←h1,Yl]
 simp
 omega
theorem aOw (b:Nat) (D:Nat→Bool) (Bx:Nat→UInt8→Prop) (n a:Nat) (w:World) (hI:ImgRaw b D Bx n w) (ha:a<65536) :
 Calls prog 106 #[.pointer b,a] w fun e w'=>e=.returned (.bool (D a))∧w=w':=by
 obtain⟨c,hc,hsz,hwd,_,_⟩:=hI.ex;obtain⟨x,hx,hwx⟩:=hwd (a/64) om;have k0:w.cell? ⟨b,a/64,none⟩=some (.int .u64 x):=by rw[aC hc];exact hx
 have hlt:=aA hc;have h1:(0:Int)≤((a/64:Nat):Int):=om
 have h2:((a/64:Nat):Int)<1024:=om
 have hq:(a:Int).tdiv 64=((a/64:Nat):Int):=by rw[Int.tdiv_eq_ediv_of_nonneg om];omega
 have hr:(a:Int).tmod 64=((a%64:Nat):Int):=by rw[Int.tmod_eq_emod_of_nonneg om];omega
 have hbit:(bits BinOp.and IntKind.u64 ((x:Int)/2 ^ (a%64)) 1 == 1)=D a:=aOP hwx;have HBIT:=Hh hbit;clear hwd hx hc hwx hbit;go_enter func106,ntmps106
 go_wp2_with fail
 go_ret;exact⟨by rw[←HBIT.out];rfl,rfl⟩
theorem aOy {C:List Cl} (_hC:Asc C) {a:Nat}:(aKW C a).isSome=inC C a∧∀ q,aKW C a=some q→nM C a q:=by
 unfold aKW;rw[if_neg om,Xl];refine⟨?_,fun q hq=>?_⟩
 · rw[Option.isSome_map,Yl,List.find?_isSome];unfold inC;simp
 · obtain⟨c,hc,rfl⟩:=Qr.1 hq;have h1:c.1=a:=by simpa using List.find?_some hc
   have h2:=Za hc;unfold nM;rw[←h1];exact h2
set_option maxRecDepth 4000000 in
theorem aOc (b:Nat) (C:List Cl) (a:Int) (w:World) (hI:ImgAt b C w) :
 Calls prog 67 #[.pointer b,a] w fun e w'=>e=.returned (.tuple #[.int .u8 ((aKW C a).getD 0).toNat,.bool (aKW C a).isSome])∧w=w':=by
 by_cases h1:a<0
 · have hg:aKW C a=none:=by unfold aKW;rw[if_pos h1]
   rw[hg];clear hI;go_enter func67,ntmps67
   go_wp2_with fail
   go_ret2;exact⟨rfl,rfl⟩
 by_cases h2:65536≤a
 · have hg:aKW C a=none:=by
    unfold aKW;rw[if_neg h1,Option.map_eq_none_iff,List.find?_eq_none];intro c hc
    have:=hI.asc.2 c hc
    simp;omega
   rw[hg];clear hI;go_enter func67,ntmps67
   go_wp2_with fail
   go_ret2;exact⟨rfl,rfl⟩
 obtain⟨n,rfl⟩:∃ n:Nat,a=n:=⟨a.toNat,om⟩
 obtain⟨hin,hbq⟩:=aOy hI.asc (a:=n);have hh:=aOw b (inC C) (nM C) C.length n w hI.raw om;rw[←hin] at hh;obtain⟨c,hc,hsz,_,_,hby⟩:=hI.raw.ex;obtain⟨y,hy,hyq⟩:=hby n om;obtain⟨g,hg⟩:∃ g,aKW C n=g:=⟨_,rfl⟩;rw[hg] at hh hbq ⊢;have HH:=Hh hh;have hlt:=aA hc;cases g with
 | none =>
   have g1:(0:Int)≤(n:Int):=om
   clear hh hin hg hI hc hsz hby hy hyq hbq h1;go_enter func67,ntmps67
   go_wp2_with fail
   refine HH.out.mono ?_;rintro e w1 ⟨rfl,rfl⟩;go_wp2_with fail
   go_ret2;exact⟨rfl,rfl⟩
 | some q =>
   obtain rfl:=hyq q (hbq q rfl);have k0:w.cell? ⟨b,1025+n,none⟩=some (.int .u8 y.toNat):=by rw[aC hc];exact hy
   have g1:(0:Int)≤(n:Int):=om
   have g2:(n:Int)<65536:=om
   clear hh hin hg hI hc hsz hby hy hyq hbq h1 h2;go_enter func67,ntmps67
   go_wp2_with fail
   refine HH.out.mono ?_;rintro e w1 ⟨rfl,rfl⟩;go_wp2_with fail
   go_ret2;exact⟨rfl,rfl⟩
end
section
open Go.RowKit Go.Sort
theorem aLu {w:World} {xs:List Value} {T:TypeId} {s n base co:Nat} {ao:Option Addr} (h:w.ownsRow base T s (.slice ao n co) n xs) :
 (ao=none∧n=0∧xs=[]∧co=0)∨∃ g,ao=some ⟨g,0,none⟩∧base≤g∧n≤co∧g<w.heap.size∧∀ i u,xs[i]? = some u→w.cell? ⟨g,i,none⟩=some u:=by
 obtain⟨h1,h2⟩:=h;rcases h2 with⟨h3,h4⟩|⟨g,cap,cur,h3,hg,hh,hn,hcap,hcur,htk⟩
 · simp only[Value.slice.injEq] at h3;subst h4;rw[Yr] at h1;exact .inl ⟨h3.1,rfl,Xc h1,h3.2.2⟩
 · simp only[Value.slice.injEq] at h3;obtain⟨rfl,_,rfl⟩:=h3;refine .inr ⟨g,rfl,hg,hn,aA hh,fun i u hu=>?_⟩;rw[←htk] at hu;simp only[World.cell?,hh];have hi:i<n*s:=by
    have:=(Qd.1 hu).1
    rw[Qt] at this;omega
   rw[Yt hi] at hu;simpa using hu
theorem aMC {w:World} {xs:List Value} {T:TypeId} {s n base co a:Nat} {ao:Option Addr} (h:w.ownsRow base T s (.slice ao n co) n xs) (ha:a≤n):eR w (.slice ao a co) a (xs.take (a*s)):=by
 rcases aLu h with⟨rfl,rfl,rfl,rfl⟩|⟨g,rfl,_,_,_,hc⟩
 · obtain rfl:a=0:=Nat.le_zero.1 ha;exact .inl ⟨rfl,rfl⟩
 · refine .inr ⟨⟨g,0,none⟩,co,rfl,fun j u hj=>?_⟩;rw[bD,Xb];apply hc
   rw[List.getElem?_take] at hj;split at hj
   · exact hj
   · cases hj
theorem aNG {w:World} {xs:List Value} {T:TypeId} {s n base co a:Nat} {ao:Option Addr} (h:w.ownsRow base T s (.slice ao n co) n xs) (ha:a≤n) :
 eR w (.slice (if co=a then ao else ao.map (·.add (a*s))) (n - a) (co - a)) (n - a) (xs.drop (a*s)):=by
 have hxl:=h.1;rcases aLu h with⟨rfl,rfl,rfl,rfl⟩|⟨g,rfl,_,hco,_,hc⟩
 · obtain rfl:a=0:=Nat.le_zero.1 ha;exact .inl ⟨rfl,rfl⟩
 · by_cases hca:co=a
   · obtain rfl:a=n:=om
     refine .inr ⟨⟨g,0,none⟩,co - a,by rw[if_pos hca],fun j u hj=>?_⟩
     have:=(Qd.1 hj).1
     rw[Xm,hxl] at this;omega
   · refine .inr ⟨⟨g,a*s,none⟩,co - a,by rw[if_neg hca,Yx,bD,Xb],fun j u hj=>?_⟩
     rw[bD];apply hc
     rw[Yh] at hj;exact hj
theorem aKY {w:World} {base g s:Nat} {T:TypeId} (h:w.heap[g]? = some (Obj.cells #[] T (0,0))) (hb:base≤g):w.ownsRow base T s (.slice g 0 0) 0 [] :=
 ⟨by simp,.inr ⟨g,0,#[],rfl,hb,h,by simp,by simp,by simp,by simp⟩⟩
theorem aKO {w:World} {base:Nat} {e:TypeId} {size:Nat} {v:Value} {n:Nat} {xs:List Value} (h:w.ownsRow base e size v n xs):∀ k,v.ownBlock=some k→base≤k:=fun k hk=>(h.lt k hk).1
theorem aLa (w:World) (o1 o2:Obj):((w.alloc o1).alloc o2).heap[w.heap.size]? = some o1:=by
 show (Array.push (Array.push w.heap _) _)[_]? = _
 simp only[Array.getElem?_push,Array.size_push];rw[if_neg om];simp
theorem aKZ (w:World) (o1 o2:Obj):((w.alloc o1).alloc o2).heap[w.heap.size+1]? = some o2:=by
 show (Array.push (Array.push w.heap _) _)[_]? = _
 simp only[Array.getElem?_push,Array.size_push];simp
theorem qV {w:World} {b s n:Nat} {T:TypeId} {v:Value} {xs:List Value} (h:w.ownsRow b T s v n xs):eR w v n xs:=by
 obtain⟨a,c,rfl⟩:=aI h
 have:=aMC h lr
 rwa [Xj (Zw h.1)] at this
end
section
open Go.RowKit Go.Sort
open Go.Proofs.Tryz
def zZ (c:Cl):List Value:=[.int .i64 c.1,.int .u8 c.2.toNat]
def clc (l:List Cl):List Value:=l.flatMap zZ
theorem kL (l m:List Cl):clc (l++m)=clc l++clc m:=by simp[clc]
theorem fR (l:List Cl):(clc l).length=l.length*2:=iN zZ 2 (fun _=>rfl) l
theorem Row.cls {w:World} {v:Value} {l:List Cl} (h:Row w v l.length (clc l)):∃ a cap,v=.slice a l.length cap∧l.length≤cap∧(l≠[]→∃ g o,a=some ⟨g,o,none⟩∧g<w.heap.size∧∀ i x,l[i]? = some x→w.cell? ⟨g,o+i*2,none⟩=some (.int .i64 x.1)∧w.cell? ⟨g,o+i*2+1,none⟩=some (.int .u8 x.2.toNat)):=by
 obtain⟨a,cap,hv,hn,hh⟩:=h.structs zZ 2 (fun _=>rfl) dc;refine⟨a,cap,hv,hn,fun hl=>?_⟩;obtain⟨g,o,ha,hg,hc⟩:=hh hl;exact⟨g,o,ha,hg,fun i x hx=>⟨hc i x hx 0 dc,hc i x hx 1 dc⟩⟩
theorem Cz (C:List Cl) (v:Value) (a:Nat) (w:World) (hv:Row w v C.length (clc C)) (hl:C.length≤100000):Calls prog 46 #[v,a] w fun e w'=>e=.returned (.int .i64 ((gE C a).length:Nat))∧w=w':=by
 obtain⟨av,cv,rfl,hcap,hh⟩:=hv.cls;have HH:=Hh hh;clear hv hh;go_enter func46,ntmps46
 go_wp2_with fail
 go_loopw [5] (fun i wr=>wr=w∧∃ j:Nat,j≤C.length∧i=.int .i64 j∧Hid (j≤(gE C a).length)) (fun i _=>C.length - (intOf i).toNat)
 case atStart=>exact⟨rfl,0,Qi _,rfl,Hh (Qi _)⟩
 case round =>
  obtain⟨rfl,j,hj,rfl,HL⟩:=hrel;by_cases hlt:j<C.length
  · obtain⟨c,hc⟩:∃ c,C[j]? = some c:=⟨_,Qb hlt⟩;obtain⟨g,o,rfl,hg,hcs⟩:=HH.out (by rintro rfl;exact absurd hlt (Qw _))
    obtain⟨k0,_⟩:=hcs j c hc;have HC:=Hh hc;have hi0:(0:Int)≤(j:Int):=om
    have hi1:(j:Int)<(C.length:Int):=om
    clear hcs hc;by_cases hca:c.1<a
    · have hca1:(c.1:Int)<(a:Int):=om
      go_wp2_with fail
      go_roundw
      case rel=>exact⟨trivial,j+1,om,by go_num,Hh (Np HL.out HC.out hca)⟩
      case measure=>simp[intOf];omega
    · have hca1:¬ (c.1:Int)<(a:Int):=om
      go_wp2_with fail
      go_ret
      have:=yU HL.out (fun d hd=>by rw[HC.out] at hd;cases hd;omega)
      exact⟨by rw[←this];rfl,rfl⟩
  · obtain rfl:j=C.length:=om
    have hi1:¬ (C.length:Int)<(C.length:Int):=om
    go_wp2_with fail
    go_ret
    have:=yU HL.out (fun d hd=>by rw[Zf lr] at hd;cases hd)
    exact⟨by rw[←this];rfl,rfl⟩
theorem Gx (a:Nat) (l:List UInt8) (x:UInt8):bT a (l++[x])=bT a l++[(a+l.length,x)]:=by simp[bT,List.zipIdx_append]
theorem Tryz.infoCell:(prog.info? 63).map (fun i=>(i.zero,i.size,i.bytes))=some (some (.agg #[(0:Int),.int .u8 0]),2,16):=by kernel_rfl
theorem aAA {x:Int} {y:Int}:∀ u∈[Value.int .i64 x,.int .u8 y],u.oneCell'=true:=fun u hu=>by
 simp at hu
 rcases hu with rfl|rfl<;>rfl
theorem Fv (W:World) (x0 x1:Value) (T:TypeId):∀ (j:Nat) (u:Value),[x0,x1][j]? = some u→(W.alloc (.cells #[x0,x1] T)).cell? ((⟨W,0,none⟩:Addr).add j)=some u:=fun j u hu=>by
 rw[bD,Xb,aC (aF _ _)];simpa using hu
theorem aLM:∀ (C:List Cl) (i:Nat),(clc C).take (i*2)=clc (C.take i)
 | [],i=>by simp[clc]
 | c::C,0=>by simp[clc]
 | c::C,i+1=>by
   rw[Zc];show (Value.int .i64 c.1::.int .u8 c.2.toNat::clc C).take (i*2+1+1)=_
   rw[List.take_succ_cons,List.take_succ_cons,aLM C i];rfl
theorem aLN:∀ (C:List Cl) (i:Nat),(clc C).drop (i*2)=clc (C.drop i)
 | [],i=>by simp[clc]
 | c::C,0=>by simp
 | c::C,i+1=>by
   rw[Zc];show (Value.int .i64 c.1::.int .u8 c.2.toNat::clc C).drop (i*2+1+1)=_
   rw[List.drop_succ_cons,List.drop_succ_cons,aLN C i];rfl
theorem oR {l:List Cl} {u:Value} (h:u∈clc l):u.oneCell'=true:=by
 unfold clc at h;obtain⟨x,_,h⟩:=Zq.1 h;simp[zZ] at h
 rcases h with rfl|rfl<;>rfl
def aBH (b0:Nat) (C:List Cl) (w:World) (e:Ending) (w':World):Prop:=∃ v' k,e=.returned (.tuple #[v',.int .i64 k])∧w'.ownsRow b0 63 2 v' C.length (clc C)∧(C=[]→v'=.slice none 0 0)∧Below w.heap.size w w'
theorem Gk (C:List Cl) (hC:Asc C) (v:Value) (addr:Int) (bs:List UInt8) (vb:Value) (b0:Nat) (w:World) (hv:w.ownsRow b0 63 2 v C.length (clc C)) (hnil:C=[]→v=.slice none 0 0) (hb0:b0≤w) (hb:Row w vb bs.length (aT bs)) (hl:C.length≤60000) (hbl:bs.length≤5000) :
 Calls prog 24 #[v,addr,vb] w (aBH b0 (fZ C addr bs) w):=by
 have HV:=Hh hv;have HNIL:=Hh hnil;clear hnil;have HF:=Hh (fun a=>Cz C v a w (Row.of_owns hv) om);obtain⟨av,cv,rfl⟩:=aI hv;obtain⟨ab,cb,rfl,hcb,hbh⟩:=hb.byt;by_cases hlo:addr<0
 · rw[kE (mE om)];clear hv hb hbh hl hbl;go_enter func24,ntmps24
   go_wp2_with fail
   go_ret2;exact⟨_,_,rfl,HV.out,HNIL.out,Below.refl _ _⟩
 obtain⟨a,rfl⟩:=Xf (Int.not_lt.1 hlo);by_cases hhi:65535<a
 · rw[kE (mE om)];have h1:(65535:Int)<(a:Int):=om
   have h0:¬ (a:Int)<0:=om
   clear hv hb hbh hl hbl;go_enter func24,ntmps24
   go_wp2_with fail
   go_ret2;exact⟨_,_,rfl,HV.out,HNIL.out,Below.refl _ _⟩
 have h0:¬ (a:Int)<0:=om
 have h1:¬ (65535:Int)<(a:Int):=om
 have h2:(0:Int)≤65536 - (a:Int)∧65536 - (a:Int)≤65536:=om
 obtain⟨h2a,h2b⟩:=h2;by_cases hwr:(bs.length:Int)≤65536 - (a:Int)
 · have h3:¬ 65536 - (a:Int)<(bs.length:Int):=om
   have HF2:=Hh (fun W (h:w=W)=>h ▸ HF.out a);have hlow:(gE C a).length≤C.length:=by have:=congrArg List.length (cE C a);rw[Qc] at this;omega
   by_cases hb0n:bs=[]
   · subst hb0n;rw[El];clear hv hb hbh hl hbl;go_enter func24,ntmps24
     go_wp2_with fail
     refine (HF.out a).mono ?_;rintro e w1 ⟨rfl,rfl⟩;go_wp2_with fail
     go_ret2;exact⟨_,_,rfl,HV.out,HNIL.out,Below.refl _ _⟩
   have hbp:0<bs.length:=Yu.2 hb0n;have hz:((bs.length:Int) == 0)=false:=by simp;omega
   obtain⟨i,hi⟩:∃ i,(gE C a).length=i:=⟨_,rfl⟩;have HFI:=Hh (HF.out a);rw[hi] at HFI hlow;have hrow:=(Row.of_owns hv).cls;by_cases hit:∃ c,C[i]? = some c∧c.1<a+bs.length
   · obtain⟨c,hc,hca⟩:=hit;rw[←hi] at hc;rw[kE (Ru hc hca)];rw[hi] at hc;have hlt:=(Qd.1 hc).1;obtain⟨_,_,hv1,hcv,hh⟩:=hrow;cases hv1
     obtain⟨g,o,rfl,hg,hcs⟩:=hh (by rintro rfl;exact absurd hlt (Qw _))
     obtain⟨k0,_⟩:=hcs i c hc;have hi0:(0:Int)≤(i:Int):=om
     have hi1:(i:Int)<(C.length:Int):=om
     have hi2:(c.1:Int)<(a:Int)+(bs.length:Int):=om
     have hi3:(a:Int)+(bs.length:Int)≤100000:=om
     clear hv hb hbh hl hbl hcs hh HF HF2 hi hc;go_enter func24,ntmps24
     go_wp2_with fail
     refine HFI.out.mono ?_;rintro e w1 ⟨rfl,rfl⟩;go_wp2_with fail
     go_ret2;exact⟨_,_,rfl,HV.out,HNIL.out,Below.refl _ _⟩
   · have hfree:∀ c,C[(gE C a).length]? = some c→a+bs.length≤c.1:=fun c hc=>by
      rw[hi] at hc;rcases Zb c.1 (a+bs.length) with h|h
      · exact absurd ⟨c,hc,h⟩ hit
      · exact h
     have hok:=Mn hC (show a<65536 by omega) (show bs.length≤65536 - a by omega) hfree;have hput:fZ C a bs=C.take i++bT a bs++C.drop i:=by rw[Rt hok,←hi,No,Ia]
     rw[hput];have HLEN:=Hh (show (C.take i++bT a bs++C.drop i).length=i+bs.length+(C.length - i) by rw[Qc,Qc,eE,Qt,Xm];omega)
     obtain⟨R,hR⟩:∃ R,C.take i++bT a bs++C.drop i=R:=⟨_,rfl⟩;rw[hR] at HLEN ⊢;have HR:=Hh hR;clear hR;obtain⟨i0,hin,hzz0,hzz1,hzz2⟩:=info_parts Tryz.infoCell;have hi0:(0:Int)≤(i:Int):=om
     have hi3:(a:Int)+(bs.length:Int)≤100000:=om
     have hi4:(i:Int)≤(C.length:Int):=om
     have HBH:=Hh (hbh hb0n);have HI:=Hh hlow;have hcond:(i<C.length∧∃ c,C[i]? = some c∧a+bs.length≤c.1)∨i=C.length:=by
      rcases Zb i C.length with h|h
      · exact .inl ⟨h,_,Qb h,hfree _ (by rw[hi];exact Qb h)⟩
      · exact .inr om
     have hbl2:bs.length≤5000:=hbl;have hcl2:C.length≤60000:=hl;have HROW:=Hh hrow;have hbw0:b0≤w:=hb0;clear hv hb hbh hl hbl hfree hok hput hi hit HF HF2 hlow hb0n hrow;go_enter func24,ntmps24
     go_wp2_with fail
     refine HFI.out.mono ?_;rintro e w1 ⟨rfl,rfl⟩;go_upto_region 8 with fail
     go_cut [46] (fun t wx=>t=.bool false∧w=wx)
     case first =>
      rcases hcond with⟨hlt,c,hc,hca⟩|hie
      · obtain⟨_,_,hv1,hcv,hh⟩:=HROW.out;cases hv1
        obtain⟨g,o,rfl,hg,hcs⟩:=hh (by rintro rfl;exact absurd hlt (Qw _))
        obtain⟨k0,_⟩:=hcs i c hc;have hi1:(i:Int)<(C.length:Int):=om
        have hi2:decide ((c.1:Int)<(a:Int)+(bs.length:Int))=false:=Qg om;clear hcs hh hc hca;go_wp2_with fail
        go_meet
        case rel=>exact⟨rfl,rfl⟩
      · have hi1:¬ (i:Int)<(C.length:Int):=om
        clear hie;go_wp2_with fail
        go_meet
        case rel=>exact⟨rfl,rfl⟩
     case rest =>
     obtain⟨rfl,rfl⟩:=hcut;clear hcond;go_wp2_with fail
     go_loopw [9,10] (fun ov kv wr=>∃ k:Nat,k≤bs.length∧kv=.int .i64 k∧Hid (wr.ownsRow w 63 2 ov k (clc (bT a (bs.take k))))∧Hid (Below w w wr)) (fun _ kv _=>bs.length - (intOf kv).toNat)
     case atStart=>exact⟨0,Qi _,rfl,Hh (Xa _ _ _ _),Hh br⟩
     case round =>
      obtain⟨k,hk,rfl,HO,HB⟩:=hrel;obtain⟨ao,co,rfl⟩:=aI HO.out;by_cases hkl:k<bs.length
      · obtain⟨y,hy⟩:∃ y,bs[k]? = some y:=⟨_,Qb hkl⟩;obtain⟨gb,ob,hab,hgb,hbcs⟩:=HBH.out;have cy:=(HB.out.cell (p:=⟨gb,ob+k,none⟩) hgb).trans (hbcs k y hy);have hsn:bT a (bs.take (k+1))=bT a (bs.take k)++[(a+k,y)]:=by
         rw[Qo,hy];show bT a (bs.take k++[y])=_
         rw[Gx,Qt,Yz om]
        have HSN:=Hh hsn;subst hab;have hk0:(0:Int)≤(k:Int):=om
        have hk1:(k:Int)<(bs.length:Int):=om
        have hk2:(0:Int)≤(a:Int)+(k:Int):=om
        have hk3:(a:Int)+(k:Int)≤100000:=om
        have hgw:gb<wr:=Qj hgb HB.out.size;have hsz:=HB.out.size;clear hsn hy hbcs;go_wp2_with (at_builtin;refine wpList_append_own _ rfl _ _ 24 rfl w 63 i0 (.agg #[(0:Int),.int .u8 0]) 2 16 underlying24 hin hzz0 hzz1 hzz2 rfl dc _ _ _ rfl (HO.out.alloc _) ⟨wr,0,none⟩ 1 1 [.int .i64 ((a:Int)+(k:Int)),.int .u8 y.toNat] rfl rfl (Fv _ _ _ _) aAA (by unfold maxLen;omega) om (by simp;omega) ?_)
        intro v' w4 hown' hg4 _;obtain⟨g',cap',rfl⟩:=ownsRow_succ hown';have hb4:Below w w w4:=(HB.out.alloc hsz (.cells #[.int .i64 ((a:Int)+(k:Int)),.int .u8 y.toNat] 63)).grown hg4 (by rw[Qa];omega) (fun q hq=>(HO.out.lt q hq).1);have HO4:=Hh hown';have HB4:=Hh hb4;clear hown' hg4 hb4 cy;go_wp2_with fail
        go_roundw
        case rel=>exact⟨k+1,om,by go_num,Hh (by rw[HSN.out,kL];exact HO4.out),HB4⟩
        case measure=>simp[intOf];omega
      · obtain rfl:k=bs.length:=om
        have ho:=HO.out;rw[Qy] at ho;have hk1:¬ (bs.length:Int)<(bs.length:Int):=om
        have HO9:=Hh ho;have hsz:=HB.out.size;have hcv:=(aLu HV.out).elim (fun h=>show C.length≤cv by omega) (fun⟨_,_,_,h,_⟩=>h);have hile:i≤C.length:=HI.out;have hicv:(i:Int)≤(cv:Int):=om
        have hncv:(C.length:Int)≤(cv:Int):=om
        clear ho;go_wp2_with fail
        go_region_law (first
         | (refine aR (by rfl) _ _ 24 (by rfl) wr.heap.size 63 i0 (.agg #[(0:Int),.int .u8 0]) 2 16 underlying24 hin hzz0 hzz1 hzz2 rfl dc _ 0 [] (by rfl) (aKY (aF _ _) lr) _ i ((clc C).take (i*2)) (by rfl) (aMC (bK HV.out (HB.out.trans ((show Below wr wr _ from bl).mono hsz))) hile) (by rw[aLM,fR,Qt,Yz hile]) (fun u hu=>oR (List.mem_of_mem_take hu)) (by unfold maxLen;omega) om (Below.size (show Below wr wr _ from bl)) ?_;intro v2 x2 hown2 hgrow2 hnil2;simp only[Xb,Ye] at hown2;have hb2:Below wr wr x2:=Below.grown (show Below wr wr _ from bl) hgrow2 (Below.size (show Below wr wr _ from bl)) (fun q hq=>by have h:=Xi hq;dsimp only at h;omega))
         | (refine aR (by rfl) _ _ 24 (by rfl) wr.heap.size 63 i0 (.agg #[(0:Int),.int .u8 0]) 2 16 underlying24 hin hzz0 hzz1 hzz2 rfl dc v2 i ((clc C).take (i*2)) (by rfl) hown2 _ bs.length (clc (bT a bs)) (by rfl) (qV (bK HO9.out hb2)) (by rw[fR,eE]) (fun u hu=>oR hu) (by unfold maxLen;omega) om hb2.size ?_;intro v3 x3 hown3 hgrow3 hnil3;have hb3:Below wr wr x3:=Below.grown hb2 hgrow3 hb2.size (aKO hown2))
         | (refine aR (by rfl) _ _ 24 (by rfl) wr.heap.size 63 i0 (.agg #[(0:Int),.int .u8 0]) 2 16 underlying24 hin hzz0 hzz1 hzz2 rfl dc v3 (i+bs.length) ((clc C).take (i*2)++clc (bT a bs)) (by rfl) hown3 _ (C.length - i) ((clc C).drop (i*2)) (by rfl) (aNG (bK HV.out (HB.out.trans (hb3.mono hsz))) hile) (by rw[aLN,fR,Xm]) (fun u hu=>oR (List.mem_of_mem_drop hu)) (by unfold maxLen;omega) om hb3.size ?_;intro v4 x4 hown4 hgrow4 hnil4;have hb4:Below wr wr x4:=Below.grown hb3 hgrow4 hb3.size (aKO hown3)))
        all_goals
         rw[aLM,aLN,←kL,←kL,HR.out,←HLEN.out] at hown4;have HO4:=Hh (bR hown4 (Qn hbw0 hsz));have HB4:=Hh (HB.out.trans (hb4.mono hsz));clear hown4 hgrow4 hnil4 hb4 hown3 hgrow3 hnil3 hb3 hown2 hgrow2 hnil2 hb2;go_wp2_with fail
         all_goals
          go_ret2;exact⟨v4,_,rfl,HO4.out,fun e=>absurd (congrArg List.length e) (by have:=HLEN.out;simp only[Qz];omega),HB4.out⟩
 · rw[kE (mE om)];have h3:65536 - (a:Int)<(bs.length:Int):=om
   clear hv hb hbh hl hbl;go_enter func24,ntmps24
   go_wp2_with fail
   go_ret2;exact⟨_,_,rfl,HV.out,HNIL.out,Below.refl _ _⟩
theorem aMN (C:List Cl) (v:Value) (a:Int) (w:World) (hv:Row w v C.length (clc C)) (ha:a<0):Calls prog 46 #[v,a] w fun e w'=>e=.returned (0:Int)∧w=w':=by
 obtain⟨av,cv,rfl,hcap,hh⟩:=hv.cls;have HH:=Hh hh;clear hv hh;go_enter func46,ntmps46
 go_wp2_with fail
 go_loopw [5] (fun i wr=>wr=w∧i=.int .i64 0) (fun i _=>C.length - (intOf i).toNat)
 case atStart=>exact⟨rfl,rfl⟩
 case round =>
  obtain⟨rfl,rfl⟩:=hrel;by_cases hlt:0<C.length
  · obtain⟨c,hc⟩:∃ c,C[0]? = some c:=⟨_,Qb hlt⟩;obtain⟨g,o,rfl,hg,hcs⟩:=HH.out (by rintro rfl;exact absurd hlt (Qw _))
    obtain⟨k0,_⟩:=hcs 0 c hc;rw[Yr,Xu] at k0;have hi1:(0:Int)<(C.length:Int):=om
    have hca1:¬ (c.1:Int)<a:=om
    clear hcs hc hlt;go_wp2_with fail
    go_ret;exact⟨rfl,rfl⟩
  · have hi1:¬ (0:Int)<(C.length:Int):=om
    clear hlt;go_wp2_with fail
    go_ret;exact⟨rfl,rfl⟩
theorem aNn (C:List Cl) (v:Value) (a:Int) (w:World) (hv:Row w v C.length (clc C)) (hC:Asc C) (hl:C.length≤100000) :
 Calls prog 79 #[v,a] w fun e w'=>e=.returned (.tuple #[.int .u8 ((aKW C a).getD 0).toNat,.bool (aKW C a).isSome])∧w=w':=by
 obtain⟨R,hR⟩:∃ R,aKW C a=R:=⟨_,rfl⟩;rw[hR];unfold aKW at hR;by_cases ha:a<0
 · rw[if_pos ha] at hR;subst hR;have HF:=Hh (aMN C v a w hv ha);obtain⟨av,cv,rfl,hcap,hh⟩:=hv.cls;have hcc:(C.length:Int)≤(cv:Int):=om
   by_cases hlt:0<C.length
   · obtain⟨c,hc⟩:∃ c,C[0]? = some c:=⟨_,Qb hlt⟩;obtain⟨g,o,rfl,hg,hcs⟩:=hh (by rintro rfl;exact absurd hlt (Qw _))
     obtain⟨k0,_⟩:=hcs 0 c hc;rw[Yr,Xu] at k0;have hi1:(0:Int)<(C.length:Int):=om
     have hca1:((c.1:Int) == a)=false:=by simp;omega
     clear hcs hc hlt hv hC;go_enter func79,ntmps79
     go_wp2_with fail
     refine HF.out.mono ?_;rintro e w1 ⟨rfl,rfl⟩;go_wp2_with fail
     go_ret2;exact⟨rfl,rfl⟩
   · have hi1:¬ (0:Int)<(C.length:Int):=om
     clear hlt hv hC hh;go_enter func79,ntmps79
     go_wp2_with fail
     refine HF.out.mono ?_;rintro e w1 ⟨rfl,rfl⟩;go_wp2_with fail
     go_ret2;exact⟨rfl,rfl⟩
 · rw[if_neg ha] at hR;obtain⟨n,rfl⟩:∃ n:Nat,a=n:=⟨a.toNat,om⟩
   rw[Xl,aOx hC n] at hR;have HF:=Hh (Cz C v n w hv hl);obtain⟨k,hk⟩:∃ k,(gE C n).length=k:=⟨_,rfl⟩;rw[hk] at hR HF;obtain⟨av,cv,rfl,hcap,hh⟩:=hv.cls;have hcc:(C.length:Int)≤(cv:Int):=om
   by_cases hlt:k<C.length
   · obtain⟨c,hc⟩:∃ c,C[k]? = some c:=⟨_,Qb hlt⟩;obtain⟨g,o,rfl,hg,hcs⟩:=hh (by rintro rfl;exact absurd hlt (Qw _))
     obtain⟨k0,k1⟩:=hcs k c hc;have hi0:(0:Int)≤(k:Int):=om
     have hi1:(k:Int)<(C.length:Int):=om
     rw[hc] at hR;obtain⟨ca,cb⟩:=c;dsimp only[Option.bind_some] at k0 k1 hR;by_cases hcn:ca=n
     · rw[if_pos hcn] at hR;obtain rfl:some cb=R:=hR;subst hcn;clear hcs hc hlt hv hC hk ha;go_enter func79,ntmps79
       go_wp2_with fail
       refine HF.out.mono ?_;rintro e w1 ⟨rfl,rfl⟩;go_wp2_with fail
       go_ret2;exact⟨rfl,rfl⟩
     · rw[if_neg hcn] at hR;obtain rfl:none=R:=hR;have hca1:((ca:Int) == (n:Int))=false:=by simp;omega
       clear hcs hc hlt hv hC hk ha hcn;go_enter func79,ntmps79
       go_wp2_with fail
       refine HF.out.mono ?_;rintro e w1 ⟨rfl,rfl⟩;go_wp2_with fail
       go_ret2;exact⟨rfl,rfl⟩
   · rw[Zf om] at hR;obtain rfl:none=R:=hR;have hi1:¬ (k:Int)<(C.length:Int):=om
     clear hlt hv hC hh hk ha;go_enter func79,ntmps79
     go_wp2_with fail
     refine HF.out.mono ?_;rintro e w1 ⟨rfl,rfl⟩;go_wp2_with fail
     go_ret2;exact⟨rfl,rfl⟩
end
end Go.Proofs.YtoigglljnklhlaaGreatDoor
