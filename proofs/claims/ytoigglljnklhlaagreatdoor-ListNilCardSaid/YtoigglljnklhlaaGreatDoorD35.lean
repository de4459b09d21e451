/- Joined. -/
import Derived.Test.YtoigglljnklhlaaGreatDoorD34
set_option maxHeartbeats 8000000
set_option maxRecDepth 100000
namespace Go.Proofs.YtoigglljnklhlaaGreatDoor
open Go.RowKit Go.Sort
open Go.Proofs.Tryz
abbrev opV (o:Op3):Value:=.agg #[.int .i64 o.1,.int .i64 o.2.1,.int .i64 o.2.2]
abbrev opO (o:Op3):Obj:=.cells #[.int .i64 o.1,.int .i64 o.2.1,.int .i64 o.2.2] 144
theorem Mk (n:Int) (w:World):Calls prog 86 #[.int .i64 n] w fun e w'=>e=.returned (opV (if n=6 then (4,2,0) else (1,n,0)))∧w'=w.alloc (opO (if n=6 then (4,2,0) else (1,n,0))):=by
 by_cases h:n=6
 · subst h;go_enter func86,ntmps86
   go_wp2_with fail
   refine bodyPost_ret (v:=opV (4,2,0)) (by simp[results,results86,go_sem]) rfl ⟨by rfl,by rfl⟩
 · simp only[if_neg h];have hb:(n == 6)=false:=by simpa using h
   clear h;go_enter func86,ntmps86
   go_wp2_with fail
   refine bodyPost_ret (v:=opV (1,n,0)) (by simp[results,results86,go_sem]) rfl ⟨by rfl,by rfl⟩
theorem Rj (n m:Int) (w:World):Calls prog 128 #[.int .i64 n,.int .i64 m] w fun e w'=>e=.returned (opV (if n=3 then (3,m,0) else (3,n,0)))∧w'=w.alloc (opO (if n=3 then (3,m,0) else (3,n,0))):=by
 by_cases h:n=3
 · subst h;go_enter func128,ntmps128
   go_wp2_with fail
   refine bodyPost_ret (v:=opV (3,m,0)) (by simp[results,results128,go_sem]) rfl ⟨by rfl,by rfl⟩
 · simp only[if_neg h];have hb:(n == 3)=false:=by simpa using h
   clear h;go_enter func128,ntmps128
   go_wp2_with fail
   refine bodyPost_ret (v:=opV (3,n,0)) (by simp[results,results128,go_sem]) rfl ⟨by rfl,by rfl⟩
theorem Oj (n:Int) (w:World):Calls prog 127 #[.int .i64 n] w fun e w'=>e=.returned (opV (6,0,n))∧w'=w.alloc (opO (6,0,n)):=by
 go_enter func127,ntmps127
 go_wp2_with fail
 refine bodyPost_ret (v:=opV (6,0,n)) (by simp[results,results127,go_sem]) rfl ⟨by rfl,by rfl⟩
theorem Jw (a b:Op3) (w:World):Calls prog 123 #[opV a,opV b] w fun e w'=>e=.returned (.slice (some ⟨w.heap.size+1+1,0,none⟩) 2 2)∧w'=((w.alloc (opO a)).alloc (opO b)).alloc (.cells (opc [a,b]).toArray 144):=by
 obtain⟨a0,a1,a2⟩:=a;obtain⟨b0,b1,b2⟩:=b;go_enter func123,ntmps123
 go_wp2_with fail
 go_ret;exact⟨rfl,rfl⟩
theorem Og (s:ByteArray) (v:Value) (hv:v=.slice none 0 0∨∃ a n c,v=.slice (some a) n c) (w:World):Calls prog 122 #[.string s,v] w fun e w'=>e=.returned (.agg #[.string s,v])∧w'=w.alloc (.cells #[.string s,v] 53):=by
 rcases hv with rfl|⟨a,n,c,rfl⟩
 · go_enter func122,ntmps122
   go_wp2_with fail
   refine bodyPost_ret (v:=.agg #[.string s,.slice none 0 0]) (by simp[results,results122,go_sem]) rfl ⟨by rfl,by rfl⟩
 · go_enter func122,ntmps122
   go_wp2_with fail
   refine bodyPost_ret (v:=.agg #[.string s,.slice (some a) n c]) (by simp[results,results122,go_sem]) rfl ⟨by rfl,by rfl⟩
theorem My (a:Op3) (w:World):Calls prog 126 #[opV a] w fun e w'=>e=.returned (.slice (some ⟨w.heap.size+1,0,none⟩) 1 1)∧w'=(w.alloc (opO a)).alloc (.cells (opc [a]).toArray 144):=by
 obtain⟨a0,a1,a2⟩:=a;go_enter func126,ntmps126
 go_wp2_with fail
 go_ret;exact⟨rfl,rfl⟩
theorem Nj (w:World):Calls prog 130 #[] w fun e w'=>e=.returned (opV (7,0,0))∧w'=w.alloc (opO (7,0,0)):=by
 go_enter func130,ntmps130
 go_wp2_with fail
 refine bodyPost_ret (v:=opV (7,0,0)) (by simp[results,results130,go_sem]) rfl ⟨by rfl,by rfl⟩
theorem Mh (w:World):Calls prog 168 #[] w fun e w'=>e=.returned (opV (10,0,0))∧w'=w.alloc (opO (10,0,0)):=by
 go_enter func168,ntmps168
 go_wp2_with fail
 refine bodyPost_ret (v:=opV (10,0,0)) (by simp[results,results168,go_sem]) rfl ⟨by rfl,by rfl⟩
theorem Tz (n:Int) (w:World):Calls prog 169 #[.int .i64 n] w fun e w'=>e=.returned (opV (8,n,0))∧w'=w.alloc (opO (8,n,0)):=by
 go_enter func169,ntmps169
 go_wp2_with fail
 refine bodyPost_ret (v:=opV (8,n,0)) (by simp[results,results169,go_sem]) rfl ⟨by rfl,by rfl⟩
theorem Oi (n:Int) (w:World):Calls prog 129 #[.int .i64 n] w fun e w'=>e=.returned (opV (4,n,0))∧w'=w.alloc (opO (4,n,0)):=by
 go_enter func129,ntmps129
 go_wp2_with fail
 refine bodyPost_ret (v:=opV (4,n,0)) (by simp[results,results129,go_sem]) rfl ⟨by rfl,by rfl⟩
theorem Qw (w:World):Calls prog 131 #[] w fun e w'=>e=.returned (opV (1,7,0))∧w'=(w.alloc (opO (1,7,0))).alloc (opO (1,7,0)):=by
 go_enter func131,ntmps131
 go_wp2_with fail
 (with_reducible refine (Mk 7 _).mono ?_);rintro e w1 ⟨rfl,rfl⟩;go_wp2_with fail
 refine bodyPost_ret (v:=opV (1,7,0)) (by simp[results,results131,go_sem]) rfl ⟨by rfl,by rfl⟩
end Go.Proofs.YtoigglljnklhlaaGreatDoor
namespace Go.Proofs.YtoigglljnklhlaaGreatDoor
open Go.RowKit Go.Sort
def InsOwn (x:aY) (w:World) (v:Value) (w':World):Prop:=w'.ownsRow w.heap.size 144 3 v x.2.length (opc x.2)∧(x.2=[]→v=.slice none 0 0)∧Below w.heap.size w w'
def aU (x:aY × List UInt8) (w:World) (e:Ending) (w':World):Prop:=∃ v,e=.returned (.tuple #[.agg #[.string ⟨x.1.1.toArray⟩,v],.string ⟨x.2.toArray⟩])∧InsOwn x.1 w v w'
def dU (x:aY) (w:World) (e:Ending) (w':World):Prop:=∃ v,e=.returned (.agg #[.string ⟨x.1.toArray⟩,v])∧InsOwn x w v w'
theorem nV {W:World} {base g:Nat} {l:List Op3} (h:W.heap[g]? = some (.cells (opc l).toArray 144 (0,0))) (hg:base≤g) (hl:l.length≤1000):W.ownsRow base 144 3 (.slice (some ⟨g,0,none⟩) l.length l.length) l.length (opc l) :=
 ⟨cG l,.inr ⟨g,l.length,(opc l).toArray,rfl,hg,h,Nat.le_refl _,by unfold maxLen;omega,by show (opc l).toArray.size=_;simp[cG],by simp[←cG l]⟩⟩
theorem iL {s:List UInt8} {w W:World} (hb:Below w.heap.size w W):InsOwn (s,[]) w (.slice none 0 0) W:=⟨World.ownsRow_nil _ _ _ _,fun _=>rfl,hb⟩
end Go.Proofs.YtoigglljnklhlaaGreatDoor
namespace Go.Proofs.YtoigglljnklhlaaGreatDoor
open Go.RowKit Go.Sort
open Go.Proofs.Tryz
theorem r9b (n:Int) (w:World):Calls prog 86 #[.int .i64 n] w fun e w'=>e=.returned (opV (if n=6 then (4,2,0) else (1,n,0)))∧Below w.heap.size w w':=by
 refine (Mk n w).mono ?_;rintro e w' ⟨he,rfl⟩;exact⟨he,bl⟩
theorem aAs (n m:Int) (w:World):Calls prog 128 #[.int .i64 n,.int .i64 m] w fun e w'=>e=.returned (opV (if n=3 then (3,m,0) else (3,n,0)))∧Below w.heap.size w w':=by
 refine (Rj n m w).mono ?_;rintro e w' ⟨he,rfl⟩;exact⟨he,bl⟩
theorem fF (n:Int) (w:World):Calls prog 127 #[.int .i64 n] w fun e w'=>e=.returned (opV (6,0,n))∧Below w.heap.size w w':=by
 refine (Oj n w).mono ?_;rintro e w' ⟨he,rfl⟩;exact⟨he,bl⟩
theorem uT  (w:World):Calls prog 130 #[] w fun e w'=>e=.returned (opV (7,0,0))∧Below w.heap.size w w':=by
 refine (Nj w).mono ?_;rintro e w' ⟨he,rfl⟩;exact⟨he,bl⟩
theorem Mg  (w:World):Calls prog 168 #[] w fun e w'=>e=.returned (opV (10,0,0))∧Below w.heap.size w w':=by
 refine (Mh w).mono ?_;rintro e w' ⟨he,rfl⟩;exact⟨he,bl⟩
theorem oV  (w:World):Calls prog 131 #[] w fun e w'=>e=.returned (opV (1,7,0))∧Below w.heap.size w w':=by
 refine (Qw w).mono ?_;rintro e w' ⟨he,rfl⟩;exact⟨he,bl⟩
theorem aBw (n:Int) (w:World):Calls prog 169 #[.int .i64 n] w fun e w'=>e=.returned (opV (8,n,0))∧Below w.heap.size w w':=by
 refine (Tz n w).mono ?_;rintro e w' ⟨he,rfl⟩;exact⟨he,bl⟩
theorem lQ (n:Int) (w:World):Calls prog 129 #[.int .i64 n] w fun e w'=>e=.returned (opV (4,n,0))∧Below w.heap.size w w':=by
 refine (Oi n w).mono ?_;rintro e w' ⟨he,rfl⟩;exact⟨he,bl⟩
theorem fB (a:Op3) (w:World):Calls prog 126 #[opV a] w fun e w'=>∃ g,e=.returned (.slice (some ⟨g,0,none⟩) 1 1)∧w.heap.size≤g∧w'.heap[g]? = some (.cells (opc [a]).toArray 144 (0,0))∧Below w.heap.size w w':=by
 refine (My a w).mono ?_;rintro e w' ⟨he,rfl⟩;refine⟨_,he,om,?_,bl⟩
 have h:=aF (w.alloc (opO a)) (.cells (opc [a]).toArray 144)
 rwa [World.size_alloc] at h
theorem eY (a b:Op3) (w:World):Calls prog 123 #[opV a,opV b] w fun e w'=>∃ g,e=.returned (.slice (some ⟨g,0,none⟩) 2 2)∧w.heap.size≤g∧w'.heap[g]? = some (.cells (opc [a,b]).toArray 144 (0,0))∧Below w.heap.size w w':=by
 refine (Jw a b w).mono ?_;rintro e w' ⟨he,rfl⟩;refine⟨_,he,om,?_,bl⟩
 have h:=aF ((w.alloc (opO a)).alloc (opO b)) (.cells (opc [a,b]).toArray 144);rw[World.size_alloc,World.size_alloc] at h;exact h
theorem bH (s:ByteArray) (v:Value) (hv:v=.slice none 0 0∨∃ a n c,v=.slice (some a) n c) (w:World):Calls prog 122 #[.string s,v] w fun e w'=>e=.returned (.agg #[.string s,v])∧Below w.heap.size w w':=by
 refine (Og s v hv w).mono ?_;rintro e w' ⟨he,rfl⟩;exact⟨he,bl⟩
theorem pD (W:World) (b r i:Nat) (x y:Value) (h:b≠r):((W.setCell ⟨r,0,none⟩ x).setCell ⟨r,1,none⟩ y).cell? ⟨b,i,none⟩=W.cell? ⟨b,i,none⟩ :=
 (World.cell?_of_block (w:=W.setCell ⟨r,0,none⟩ x) (a:=⟨b,i,none⟩) (Below.heap_setCell _ ⟨r,1,none⟩ y b h)).trans (World.cell?_of_block (w:=W) (a:=⟨b,i,none⟩) (Below.heap_setCell _ ⟨r,0,none⟩ x b h))
theorem La {p:Prop} (h:p:=by
 rw[←hW0]
 have:=aF (w.alloc (.cells #[.int .i64 o0,.int .i64 o1,.int .i64 o2] 144)) (.cells #[.string ⟨#[]⟩,.slice none 0 0] 53)
 rw[World.size_alloc] at this;exact aE this):p:=h
theorem lY (y o0 o1 o2:Int) (nm:List UInt8) (hj:y=2∧nm=[83,85,66]∨y=4∧nm=[65,78,68]∨y=5∧nm=[88,79,82]∨y=6∧nm=[79,82]∨y=7∧nm=[67,80]) (w:World):Calls prog 124 #[.int .i64 y,opV (o0,o1,o2)] w (dU (nm,[(o0,o1,o2)]) w):=by
 rcases hj with⟨rfl,hn⟩|⟨rfl,hn⟩|⟨rfl,hn⟩|⟨rfl,hn⟩|⟨rfl,hn⟩;all_goals
  have HN:=Hh hn;clear hn;go_enter func124,ntmps124
  go_wp2_with fail
  obtain⟨W0,hW0⟩:∃ W0,((w.alloc (.cells #[.int .i64 o0,.int .i64 o1,.int .i64 o2] 144)).alloc (.cells #[.string ⟨#[]⟩,.slice none 0 0] 53)).alloc (.cells #[.string ⟨#[65,68,68]⟩,.string ⟨#[65,68,67]⟩,.string ⟨#[83,85,66]⟩,.string ⟨#[83,66,67]⟩,.string ⟨#[65,78,68]⟩,.string ⟨#[88,79,82]⟩,.string ⟨#[79,82]⟩,.string ⟨#[67,80]⟩] 9)=W0:=⟨_,rfl⟩;have hb0:Below w.heap.size w W0:=by rw[←hW0];exact bl
  have hz0:W0.heap.size=w.heap.size+3:=by rw[←hW0];simp
  have h0:W0.heap[w.heap.size]? = some (.cells #[.int .i64 o0,.int .i64 o1,.int .i64 o2] 144 (0,0)):=by rw[←hW0];exact aE (aE (aF _ _))
  have h1:W0.heap[w.heap.size+1]? = some (.cells #[.string ⟨#[]⟩,.slice none 0 0] 53 (0,0)):=by
   exact La
  rw[hW0];have HB0:=Hh hb0;have H0:=Hh h0;have H1:=Hh h1;have HZ:=Hh hz0;have HK:=Hh (fun W (hb:Below W0.heap.size W0 W)=>(⟨aC (aB h0 hb (aA h0)) 0,aC (aB h0 hb (aA h0)) 1,aC (aB h0 hb (aA h0)) 2,aC (aB h1 hb (aA h1)) 0,aC (aB h1 hb (aA h1)) 1,aH (aB h1 hb (aA h1)) 0,aH (aB h1 hb (aA h1)) 1⟩:W.cell? ⟨w.heap.size,0,none⟩=some (.int .i64 o0)∧W.cell? ⟨w.heap.size,1,none⟩=some (.int .i64 o1)∧W.cell? ⟨w.heap.size,2,none⟩=some (.int .i64 o2)∧W.cell? ⟨w.heap.size+1,0,none⟩=some (.string ⟨#[]⟩)∧W.cell? ⟨w.heap.size+1,1,none⟩=some (.slice none 0 0)∧W.frozen? ⟨w.heap.size+1,0,none⟩=false∧W.frozen? ⟨w.heap.size+1,1,none⟩=false));clear hW0 hb0 h0 h1 hz0;(with_reducible refine (fB (o0,o1,o2) _).mono ?_);rintro e w1 ⟨g,rfl,hgg,hgb,hb1⟩;have HB1:=Hh hb1;have HG:=Hh hgb;have HGG:=Hh hgg;clear hb1 hgb hgg;go_wp2_with fail
  (with_reducible refine (bH _ _ (.inr ⟨_,_,_,rfl⟩) _).mono ?_);rintro e w2 ⟨rfl,hb2⟩;have HB2:=Hh (HB1.out.trans (hb2.mono HB1.out.size));have HG2:=Hh (aB HG.out hb2 (aA HG.out));obtain⟨_,_,_,k0,k1,f0,f1⟩:=HK.out _ HB2.out;have hlt:=aA (aB H1.out HB2.out (aA H1.out));clear hb2;go_wp2_with fail
  refine bodyPost_ret (v:=.agg #[.string ⟨nm.toArray⟩,.slice (some ⟨g,0,none⟩) 1 1]) (by rw[HN.out];simp[results,results124,go_sem, *]) rfl ?_;have hne:g≠w.heap.size+1:=by have:=HGG.out;have:=HZ.out;omega
  refine⟨_,rfl,nV (aD (aD HG2.out hne) hne) (by have:=HGG.out;have:=HZ.out;omega) sm,fun h=>(by cases h),?_⟩;have hbb:=HB0.out.trans (HB2.out.mono HB0.out.size)
  (repeat (first|exact Below.refl _ _|refine Below.drew ?_|(refine cD ?_ (by first|omega|(simp[go_sem];done)|(simp[go_sem];omega)) _)|(refine Below.alloc ?_ (by first|omega|(simp[go_sem];done)|(simp[go_sem];omega)) _)|(refine Below.setCell ?_ (by first|omega|(simp[go_sem];done)|(simp[go_sem];omega)) _)))
  exact hbb
theorem tK (y o0 o1 o2:Int) (nm:List UInt8) (hj:y=0∧nm=[65,68,68]∨y=1∧nm=[65,68,67]∨y=3∧nm=[83,66,67]) (w:World):Calls prog 124 #[.int .i64 y,opV (o0,o1,o2)] w (dU (nm,[(1,7,0),(o0,o1,o2)]) w):=by
 rcases hj with⟨rfl,hn⟩|⟨rfl,hn⟩|⟨rfl,hn⟩;all_goals
  have HN:=Hh hn;clear hn;go_enter func124,ntmps124
  go_wp2_with fail
  obtain⟨W0,hW0⟩:∃ W0,((w.alloc (.cells #[.int .i64 o0,.int .i64 o1,.int .i64 o2] 144)).alloc (.cells #[.string ⟨#[]⟩,.slice none 0 0] 53)).alloc (.cells #[.string ⟨#[65,68,68]⟩,.string ⟨#[65,68,67]⟩,.string ⟨#[83,85,66]⟩,.string ⟨#[83,66,67]⟩,.string ⟨#[65,78,68]⟩,.string ⟨#[88,79,82]⟩,.string ⟨#[79,82]⟩,.string ⟨#[67,80]⟩] 9)=W0:=⟨_,rfl⟩;have hb0:Below w.heap.size w W0:=by rw[←hW0];exact bl
  have hz0:W0.heap.size=w.heap.size+3:=by rw[←hW0];simp
  have h0:W0.heap[w.heap.size]? = some (.cells #[.int .i64 o0,.int .i64 o1,.int .i64 o2] 144 (0,0)):=by rw[←hW0];exact aE (aE (aF _ _))
  have h1:W0.heap[w.heap.size+1]? = some (.cells #[.string ⟨#[]⟩,.slice none 0 0] 53 (0,0)):=by
   exact La
  rw[hW0];have HB0:=Hh hb0;have H0:=Hh h0;have H1:=Hh h1;have HZ:=Hh hz0;have HK:=Hh (fun W (hb:Below W0.heap.size W0 W)=>(⟨aC (aB h0 hb (aA h0)) 0,aC (aB h0 hb (aA h0)) 1,aC (aB h0 hb (aA h0)) 2,aC (aB h1 hb (aA h1)) 0,aC (aB h1 hb (aA h1)) 1,aH (aB h1 hb (aA h1)) 0,aH (aB h1 hb (aA h1)) 1⟩:W.cell? ⟨w.heap.size,0,none⟩=some (.int .i64 o0)∧W.cell? ⟨w.heap.size,1,none⟩=some (.int .i64 o1)∧W.cell? ⟨w.heap.size,2,none⟩=some (.int .i64 o2)∧W.cell? ⟨w.heap.size+1,0,none⟩=some (.string ⟨#[]⟩)∧W.cell? ⟨w.heap.size+1,1,none⟩=some (.slice none 0 0)∧W.frozen? ⟨w.heap.size+1,0,none⟩=false∧W.frozen? ⟨w.heap.size+1,1,none⟩=false));clear hW0 hb0 h0 h1 hz0;obtain⟨j0,j1,j2,_,_,_,_⟩:=HK.out W0 br;have hne1:w.heap.size≠w.heap.size+1:=om
  have hdr:Below W0.heap.size W0 W0.drew:=bl;go_region_held3 (fun w'=>(w'.cell? ⟨w.heap.size,0,none⟩=some (.int .i64 o0)∧w'.cell? ⟨w.heap.size,1,none⟩=some (.int .i64 o1)∧w'.cell? ⟨w.heap.size,2,none⟩=some (.int .i64 o2))) (first|exact⟨j0,j1,j2⟩|exact⟨K4.1,K4.2.1,K4.2.2.1⟩|exact⟨K5.1,K5.2.1,K5.2.2.1⟩|exact⟨K6.1,K6.2.1,K6.2.2.1⟩|exact⟨(pD _ _ _ _ _ _ hne1).trans K6.1,(pD _ _ _ _ _ _ hne1).trans K6.2.1,(pD _ _ _ _ _ _ hne1).trans K6.2.2.1⟩) (first
   | ((with_reducible refine (oV _).mono ?_);rintro e w4 ⟨rfl,hb4⟩;have hc4:Below W0.heap.size W0 w4:=hdr.trans hb4;have K4:=HK.out w4 hc4)
   | ((with_reducible refine (eY (1,7,0) (o0,o1,o2) _).mono ?_);rintro e w5 ⟨g,rfl,hgg,hgb,hb5⟩;have hc5:=hc4.trans (hb5.mono hc4.size);have K5:=HK.out w5 hc5)
   | ((with_reducible refine (bH _ _ (.inr ⟨_,_,_,rfl⟩) _).mono ?_);rintro e w6 ⟨rfl,hb6⟩;have hc6:=hc5.trans (hb6.mono hc5.size);have K6:=HK.out w6 hc6;obtain⟨_,_,_,k0,k1,f0,f1⟩:=HK.out w6 hc6;have hlt:=aA (aB H1.out hc6 (aA H1.out))))
  all_goals
   have HB2:=Hh hc6;have HG2:=Hh (aB hgb hb6 (aA hgb));have HGG:=Hh (Nat.le_trans hc4.size hgg);clear hc4 hc5 hc6 hb4 hb5 hb6 K4 K5 hgb hgg hdr;go_wp2_with fail
   refine bodyPost_ret (v:=.agg #[.string ⟨nm.toArray⟩,.slice (some ⟨g,0,none⟩) 2 2]) (by rw[HN.out];simp[results,results124,go_sem, *]) rfl ?_;have hne:g≠w.heap.size+1:=by have:=HGG.out;have:=HZ.out;omega
   refine⟨_,rfl,nV (aD (aD HG2.out hne) hne) (by have:=HGG.out;have:=HZ.out;omega) sm,fun h=>(by cases h),?_⟩;have hbb:=HB0.out.trans (HB2.out.mono HB0.out.size)
   (repeat (first|exact Below.refl _ _|refine Below.drew ?_|(refine cD ?_ (by first|omega|(simp[go_sem];done)|(simp[go_sem];omega)) _)|(refine Below.alloc ?_ (by first|omega|(simp[go_sem];done)|(simp[go_sem];omega)) _)|(refine Below.setCell ?_ (by first|omega|(simp[go_sem];done)|(simp[go_sem];omega)) _)))
   exact hbb
theorem Aj (y:Int) (h0:0≤y) (h7:y≤7) (o:Op3) (w:World):Calls prog 124 #[.int .i64 y,opV o] w (dU (Ai y.toNat o) w):=by
 rcases (by omega:y=0∨y=1∨y=2∨y=3∨y=4∨y=5∨y=6∨y=7) with rfl|rfl|rfl|rfl|rfl|rfl|rfl|rfl
 · exact tK _ o.1 o.2.1 o.2.2 _ dc w
 · exact tK _ o.1 o.2.1 o.2.2 _ dc w
 · exact lY _ o.1 o.2.1 o.2.2 _ dc w
 · exact tK _ o.1 o.2.1 o.2.2 _ dc w
 · exact lY _ o.1 o.2.1 o.2.2 _ dc w
 · exact lY _ o.1 o.2.1 o.2.2 _ dc w
 · exact lY _ o.1 o.2.1 o.2.2 _ dc w
 · exact lY _ o.1 o.2.1 o.2.2 _ dc w
theorem Lt (W:World) (b r i:Nat) (x y:Value) (h:b≠r):((W.setCell ⟨r,0,none⟩ x).setCell ⟨r,1,none⟩ y).cell? ⟨b,i,none⟩=W.cell? ⟨b,i,none⟩ :=
 (World.cell?_of_block (w:=W.setCell ⟨r,0,none⟩ x) (a:=⟨b,i,none⟩) (Below.heap_setCell _ ⟨r,1,none⟩ y b h)).trans (World.cell?_of_block (w:=W) (a:=⟨b,i,none⟩) (Below.heap_setCell _ ⟨r,0,none⟩ x b h))
def dO (n:Int):Op3:=if n=6 then (4,2,0) else (1,n,0)
theorem r9i (n k:Int) (h:n=k) (w:World):Calls prog 86 #[.int .i64 n] w fun e w'=>e=.returned (opV (dO k))∧Below w.heap.size w w':=by
 subst h;exact r9b n w
theorem pE (n k:Int) (h:n=k) (w:World):Calls prog 128 #[.int .i64 n,.int .i64 3] w fun e w'=>e=.returned (opV (3,k,0))∧Below w.heap.size w w':=by
 subst h;have h:=aAs n 3 w;by_cases h3:n=3
 · subst h3;exact h
 · rwa [if_neg h3] at h
theorem Bj (n m:Int) (P:Op3) (h:(if n=3 then (3,m,0) else (3,n,0))=P) (w:World):Calls prog 128 #[.int .i64 n,.int .i64 m] w fun e w'=>e=.returned (opV P)∧Below w.heap.size w w':=by
 rw[←h];exact aAs n m w
theorem Ty (n k:Int) (h:n=k) (w:World):Calls prog 169 #[.int .i64 n] w fun e w'=>e=.returned (opV (8,k,0))∧Below w.heap.size w w':=by
 subst h;exact aBw n w
theorem Vx (n k:Int) (h:n=k) (w:World):Calls prog 129 #[.int .i64 n] w fun e w'=>e=.returned (opV (4,k,0))∧Below w.heap.size w w':=by
 subst h;exact lQ n w
theorem aAD (n k:Int) (h:n=k) (w:World):Calls prog 127 #[.int .i64 n] w fun e w'=>e=.returned (opV (6,0,k))∧Below w.heap.size w w':=by
 subst h;exact fF n w
theorem dC {w w1 w2:World} {o:Obj} (h:Below w.heap.size w w1) (h2:Below (w1.alloc o).heap.size (w1.alloc o) w2):Below w.heap.size w w2 :=
 (h.trans (Below.mono (br.alloc lr _) h.size)).trans (h2.mono (by rw[World.size_alloc];have:=h.size;omega))
theorem cL {w w1:World} {o:Obj} (h2:Below (w.alloc o).heap.size (w.alloc o) w1):Below w.heap.size w w1:=dC br h2
theorem bQ {w w1:World} {o:Obj} (h2:Below (w.alloc o).heap.size (w.alloc o) w1):w1.heap[w.heap.size]? = some o:=aB (aF w o) h2 (by rw[World.size_alloc];omega)
theorem fT {w1 w2:World} {k:Nat} {o o':Obj} (h:w1.heap[k]? = some o) (h2:Below (w1.alloc o').heap.size (w1.alloc o') w2):w2.heap[k]? = some o:=aB (aE h) h2 (by rw[World.size_alloc];have:=aA h;omega)
theorem aAP {W0 v0:World} (h:Below W0.drew.heap.size W0.drew v0):Below W0.heap.size W0 v0:=(Below.drew br).trans h
abbrev C2 (W:World) (b:Nat) (x y:Value):Prop:=W.cell? ⟨b,0,none⟩=some x∧W.cell? ⟨b,1,none⟩=some y∧W.frozen? ⟨b,0,none⟩=false∧W.frozen? ⟨b,1,none⟩=false
abbrev C3 (W:World) (b:Nat) (x y z:Value):Prop:=W.cell? ⟨b,0,none⟩=some x∧W.cell? ⟨b,1,none⟩=some y∧W.cell? ⟨b,2,none⟩=some z
theorem k2 {W W':World} {b:Nat} {x y:Value} {T:TypeId} (h:W.heap[b]? = some (.cells #[x,y] T (0,0))) (hb:Below W.heap.size W W'):C2 W' b x y :=
 have h':=aB h hb (aA h)
 ⟨aC h' 0,aC h' 1,aH h' 0,aH h' 1⟩
theorem k3 {W W':World} {b:Nat} {x y z:Value} {T:TypeId} (h:W.heap[b]? = some (.cells #[x,y,z] T (0,0))) (hb:Below W.heap.size W W'):C3 W' b x y z :=
 have h':=aB h hb (aA h)
 ⟨aC h' 0,aC h' 1,aC h' 2⟩
theorem kk3 {W:World} {b:Nat} {x y z:Value} {T:TypeId} (h:W.heap[b]? = some (.cells #[x,y,z] T (0,0))):W.cell? ⟨b,0,none⟩=some x∧W.cell? ⟨b,1,none⟩=some y∧W.cell? ⟨b,2,none⟩=some z∧W.frozen? ⟨b,0,none⟩=false∧W.frozen? ⟨b,1,none⟩=false∧W.frozen? ⟨b,2,none⟩=false :=
 ⟨aC h 0,aC h 1,aC h 2,aH h 0,aH h 1,aH h 2⟩
theorem aQ {w w1:World} {o:Obj} (h:Below w.heap.size w w1):Below w.heap.size w (w1.alloc o):=h.trans (Below.mono (br.alloc lr _) h.size)
abbrev rW (W:World) (b:Nat) (x y z:Value):World:=((W.setCell ⟨b,0,none⟩ x).setCell ⟨b,1,none⟩ y).setCell ⟨b,2,none⟩ z
theorem hZ (W:World) (b:Nat) (x y z:Value):(rW W b x y z).heap.size=W.heap.size:=by simp
theorem mZ {n b:Nat} (W:World) (x y z:Value) (h:n≤b):Below n W (rW W b x y z):=by
 (repeat (first|exact Below.refl _ _|refine Below.drew ?_|(refine cD ?_ (by first|omega|(simp[go_sem];done)|(simp[go_sem];omega)) _)|(refine Below.alloc ?_ (by first|omega|(simp[go_sem];done)|(simp[go_sem];omega)) _)|(refine Below.setCell ?_ (by first|omega|(simp[go_sem];done)|(simp[go_sem];omega)) _)))
theorem xD {w w1 w2:World} {b:Nat} {x y z:Value} (h:Below w.heap.size w w1) (hb:w.heap.size≤b) (h2:Below (rW w1 b x y z).heap.size (rW w1 b x y z) w2):Below w.heap.size w w2 :=
 (h.trans (mZ _ _ _ _ hb)).trans (h2.mono (by rw[hZ];exact h.size))
theorem wT {w w1:World} {b g:Nat} {x y z:Value} (h:Below w.heap.size w w1) (_:w.heap.size≤b) (h2:(rW w1 b x y z).heap.size≤g):w.heap.size≤g:=Nat.le_trans h.size (by rwa [hZ] at h2)
theorem Qk {w w1 w2:World} {b c:Nat} {x y z x' y' z':Value} (h:Below w.heap.size w w1) (hb:w.heap.size≤b) (hc:w.heap.size≤c) (h2:Below (rW (rW w1 b x y z) c x' y' z').heap.size (rW (rW w1 b x y z) c x' y' z') w2):Below w.heap.size w w2 :=
 ((h.trans (mZ _ _ _ _ hb)).trans (mZ _ _ _ _ hc)).trans (h2.mono (by rw[hZ,hZ];exact h.size))
theorem Ot {w w1:World} {b c g:Nat} {x y z x' y' z':Value} (h:Below w.heap.size w w1) (_:w.heap.size≤b) (_:w.heap.size≤c) (h2:(rW (rW w1 b x y z) c x' y' z').heap.size≤g):w.heap.size≤g:=Nat.le_trans h.size (by rwa [hZ,hZ] at h2)
theorem bA {w W0 W9:World} {r g n:Nat} {s:List UInt8} {x:Op3} {l:List Op3} {a b:Value} (hr:r=w.heap.size) (hw:Below w.heap.size w W0) (h0:w.heap.size<W0.heap.size) (h9:Below W0.heap.size W0 W9) (hg:W0.heap.size≤g) (hgb:W9.heap[g]? = some (.cells (opc (x::l)).toArray 144 (0,0))) (hn:(x::l).length=n) (hl:n≤1000) :
 InsOwn (s,x::l) w (.slice (some ⟨g,0,none⟩) n n) ((W9.setCell ⟨r,0,none⟩ a).setCell ⟨r,1,none⟩ b):=by
 subst hr hn;have hne:g≠w.heap.size:=om
 refine⟨nV (aD (aD hgb hne) hne) om hl,fun h=>(by cases h),?_⟩;have hbb:=hw.trans (h9.mono hw.size)
 (repeat (first|exact Below.refl _ _|refine Below.drew ?_|(refine cD ?_ (by first|omega|(simp[go_sem];done)|(simp[go_sem];omega)) _)|(refine Below.alloc ?_ (by first|omega|(simp[go_sem];done)|(simp[go_sem];omega)) _)|(refine Below.setCell ?_ (by first|omega|(simp[go_sem];done)|(simp[go_sem];omega)) _)))
 exact hbb
theorem gZ {w W0 W9:World} {r:Nat} {s:List UInt8} {a b:Value} (hr:r=w.heap.size) (hw:Below w.heap.size w W0) (h9:Below W0.heap.size W0 W9) :
 InsOwn (s,[]) w (.slice none 0 0) ((W9.setCell ⟨r,0,none⟩ a).setCell ⟨r,1,none⟩ b):=by
 subst hr;refine iL ?_;have hbb:=hw.trans (h9.mono hw.size)
 (repeat (first|exact Below.refl _ _|refine Below.drew ?_|(refine cD ?_ (by first|omega|(simp[go_sem];done)|(simp[go_sem];omega)) _)|(refine Below.alloc ?_ (by first|omega|(simp[go_sem];done)|(simp[go_sem];omega)) _)|(refine Below.setCell ?_ (by first|omega|(simp[go_sem];done)|(simp[go_sem];omega)) _)))
 exact hbb
structure Out (D:Nat→Bool) (a0 a:Act):Prop where
 defers:a.defers=a0.defers
 size:a.tmps.size=a0.tmps.size
 keep:∀ k,D k=false→a.tmps[k]? = a0.tmps[k]?
theorem Out.refl (D:Nat→Bool) (a:Act):Out D a a:=⟨rfl,rfl,fun _ _=>rfl⟩
theorem Out.put {D:Nat→Bool} {a0 a:Act} (h:Out D a0 a) (t:Tmp) (v:Value) (ht:D t=true) (hs:t<a0.tmps.size):Out D a0 (a.put (some t) v)∧(a.put (some t) v).tmps.getD t undef=v:=by
 refine⟨⟨h.defers,?_,fun k hk=>?_⟩,?_⟩
 · show (a.tmps.setIfInBounds t v).size=_
   rw[Array.size_setIfInBounds];exact h.size
 · show (a.tmps.setIfInBounds t v)[k]? = _
   rw[Array.getElem?_setIfInBounds_ne (fun e=>by subst e;rw[ht] at hk;cases hk)];exact h.keep k hk
 · show (a.tmps.setIfInBounds t v).getD t undef=v
   have hs2:t<a.tmps.size:=by rw[h.size];exact hs
   simp[hs2]
theorem Out.get {D:Nat→Bool} {a0 a:Act} (h:Out D a0 a) {k:Nat} {v:Value} (hk:D k=false) (hv:a0.tmps[k]? = some v):a.tmps[k]?.getD undef=v:=by rw[h.keep k hk,hv];rfl
theorem aJ (a:Act) (k:Nat):a.tmps.getD k undef=a.tmps[k]?.getD undef:=by simp
theorem Dx (ts:Array Value) (n:Nat) (h:ts.size=n):∃ v:Nat→Value,ts=((List.range n).map v).toArray∧∀ k,ts[k]?.getD undef=v k:=by
 subst h;refine⟨fun k=>ts[k]?.getD undef,?_,fun _=>rfl⟩;apply Array.ext'
 rw[List.toList_toArray];apply List.ext_getElem
 · simp
 · intro i h1 h2;simp at h1 h2
   simp[h1]
def RowV (B:Nat) (l:List Op3) (v:Value) (w:World):Prop:=∃ g,v=.slice (some ⟨g,0,none⟩) l.length l.length∧B≤g∧w.heap[g]? = some (.cells (opc l).toArray 144 (0,0))
def RowN (B:Nat) (l:List Op3) (v:Value) (w:World):Prop:=(l=[]∧v=.slice none 0 0)∨(l≠[]∧RowV B l v w)
theorem RowN.of {B:Nat} {x:Op3} {l:List Op3} {v:Value} {w:World} (h:RowV B (x::l) v w):RowN B (x::l) v w:=Or.inr ⟨by simp,h⟩
theorem RowN.nil (B:Nat) (w:World):RowN B [] (.slice none 0 0) w:=Or.inl ⟨rfl,rfl⟩
theorem RowN.slice {B:Nat} {l:List Op3} {v:Value} {w:World} (h:RowN B l v w):∃ a n c,v=.slice a n c:=by
 rcases h with⟨_,h⟩|⟨_,g,h,_⟩
 · exact⟨_,_,_,h⟩
 · exact⟨_,_,_,h⟩
def aAC:List (aY × Value)→List Value
 | []=>[]
 | x::L=>.string ⟨x.1.1.toArray⟩::x.2::aAC L
def InssV (B:Nat) (L:List aY) (g:Nat) (w:World):Prop:=∃ us:List (aY × Value),us.map (·.1)=L∧B≤g∧w.heap[g]? = some (.cells (aAC us).toArray 53 (0,0))∧∀ x∈us,RowN B x.1.2 x.2 w
inductive D9
 | val (v:Value)
 | row (l:List Op3)
 | ins (i:aY)
 | inss (L:List aY)
 | insAt (L:List aY) (k:Nat)
 | strs (L:List (List UInt8))
 | strAt (L:List (List UInt8)) (k:Nat)
 | stored (r:Nat) (i:aY)
def D9.plain:D9→Bool | .stored ..=>false|_=>true
def D9.holds (B:Nat):D9→Value→World→Prop
 | .val u,v,_=>v=u
 | .row l,v,w=>RowV B l v w
 | .ins i,v,w=>∃ u,v=.agg #[.string ⟨i.1.toArray⟩,u]∧RowN B i.2 u w
 | .inss L,v,w=>∃ g,v=.slice (some ⟨g,0,none⟩) L.length L.length∧InssV B L g w
 | .insAt L k,v,w=>∃ g,v=.pointer (some ⟨g,2*k,none⟩)∧InssV B L g w
 | .strs L,v,w=>∃ g,v=.slice (some ⟨g,0,none⟩) L.length L.length∧B≤g∧w.heap[g]? = some (.cells (L.map fun x=>Value.string ⟨x.toArray⟩).toArray 9 (0,0))
 | .strAt L k,v,w=>∃ g,v=.pointer (some ⟨g,k,none⟩)∧B≤g∧w.heap[g]? = some (.cells (L.map fun x=>Value.string ⟨x.toArray⟩).toArray 9 (0,0))
 | .stored r i,_,w=>∃ u,w.heap[r]? = some (.cells #[.string ⟨i.1.toArray⟩,u] 53 (0,0))∧RowN B i.2 u w
theorem wN {r B g:Nat} {w w':World} {o:Obj} (hk:Kb r w w') (hr:r<B) (hg:B≤g) (h:w.heap[g]? = some o):w'.heap[g]? = some o:=(hk.block g (aA h) om).trans h
theorem RowV.kb {r B:Nat} {l:List Op3} {v:Value} {w w':World} (h:RowV B l v w) (hr:r<B) (hk:Kb r w w'):RowV B l v w':=by
 obtain⟨g,h1,h2,h3⟩:=h;exact⟨g,h1,h2,wN hk hr h2 h3⟩
theorem RowN.kb {r B:Nat} {l:List Op3} {v:Value} {w w':World} (h:RowN B l v w) (hr:r<B) (hk:Kb r w w'):RowN B l v w':=h.imp id fun⟨h1,h2⟩=>⟨h1,h2.kb hr hk⟩
theorem InssV.kb {r B g:Nat} {L:List aY} {w w':World} (h:InssV B L g w) (hr:r<B) (hk:Kb r w w'):InssV B L g w':=by
 obtain⟨us,h1,h2,h3,h4⟩:=h;exact⟨us,h1,h2,wN hk hr h2 h3,fun x hx=>(h4 x hx).kb hr hk⟩
theorem D9.kb {r B:Nat} {x:D9} {v:Value} {w w':World} (hp:x.plain=true) (h:x.holds B v w) (hr:r<B) (hk:Kb r w w'):x.holds B v w':=by
 cases x with
 | val u=>exact h
 | row l=>exact RowV.kb h hr hk
 | ins i=>obtain⟨u,h1,h2⟩:=h;exact⟨u,h1,h2.kb hr hk⟩
 | inss L=>obtain⟨g,h1,h2⟩:=h;exact⟨g,h1,h2.kb hr hk⟩
 | insAt L k=>obtain⟨g,h1,h2⟩:=h;exact⟨g,h1,h2.kb hr hk⟩
 | strs L=>obtain⟨g,h1,h2,h3⟩:=h;exact⟨g,h1,h2,wN hk hr h2 h3⟩
 | strAt L k=>obtain⟨g,h1,h2,h3⟩:=h;exact⟨g,h1,h2,wN hk hr h2 h3⟩
 | stored r i=>cases hp
theorem RowN.below {B:Nat} {l:List Op3} {v:Value} {w w':World} (h:RowN B l v w) (hb:Below w.heap.size w w'):RowN B l v w':=by
 rcases h with h|⟨h1,g,h2,h3,h4⟩
 · exact .inl h
 · exact .inr ⟨h1,g,h2,h3,aB h4 hb (aA h4)⟩
theorem D9.stored_below {B r:Nat} {i:aY} {v:Value} {w w':World} (h:(D9.stored r i).holds B v w) (hb:Below w.heap.size w w'):(D9.stored r i).holds B v w':=by
 obtain⟨u,h1,h2⟩:=h;exact⟨u,aB h1 hb (aA h1),h2.below hb⟩
theorem RowN.own {B base:Nat} {l:List Op3} {v:Value} {w:World} (h:RowN B l v w) (hB:base≤B) (hl:l.length≤1000):w.ownsRow base 144 3 v l.length (opc l)∧(l=[]→v=.slice none 0 0):=by
 rcases h with⟨rfl,rfl⟩|⟨hne,g,rfl,h2,h3⟩
 · exact⟨World.ownsRow_nil _ _ _ _,fun _=>rfl⟩
 · exact⟨nV h3 om hl,fun e=>absurd e hne⟩
theorem sO {w W1 W':World} (hw:Below w.heap.size w W1) (hk:Kb w.heap.size W1 W'):Below w.heap.size w W' :=
 ⟨hk.os.trans hw.os,hk.tape.trans hw.tape,hk.output.trans hw.output,Nat.le_trans hw.size hk.size,fun k h=>(hk.block k (Nat.lt_of_lt_of_le h hw.size) (Nat.ne_of_lt h)).trans (hw.block k h)⟩
theorem wH {w W0 W1 W':World} {i:aY} {v:Value} (hz:RowN W0.heap.size i.2 v W1) (hb:Below W0.heap.size W0 W1) (hw:Below w.heap.size w W0) (hr:w.heap.size<W0.heap.size) (hl:i.2.length≤1000) (hk:Kb w.heap.size W1 W'):InsOwn i w v W' :=
 have h:=(hz.kb hr hk).own hw.size hl
 ⟨h.1,h.2,sO (hw.trans (hb.mono hw.size)) hk⟩
theorem zO {w W0 W1 W':World} {i:aY} {ex:List UInt8} {v:Value} (hz:RowN W0.heap.size i.2 v W1) (hb:Below W0.heap.size W0 W1) (hw:Below w.heap.size w W0) (hr:w.heap.size<W0.heap.size) (hl:i.2.length≤1000) (hk:Kb w.heap.size W1 W'):aU (i,ex) w (.returned (.tuple #[.agg #[.string ⟨i.1.toArray⟩,v],.string ⟨ex.toArray⟩])) W' :=
 ⟨v,rfl,wH hz hb hw hr hl hk⟩
theorem Ef {w W0 W1:World} {i:aY} {v:Value} (hz:RowN W0.heap.size i.2 v W1) (hw:Below w.heap.size w W0) (hl:i.2.length≤1000) (hk:Kb w.heap.size W0 W1):InsOwn i w v W1 :=
 have h:=hz.own hw.size hl
 ⟨h.1,h.2,sO hw hk⟩
theorem uY {w W1 W':World} {r:Nat} (hr:w.heap.size≤r) (hw:Below w.heap.size w W1) (hk:Kb r W1 W'):Below w.heap.size w W' :=
 ⟨hk.os.trans hw.os,hk.tape.trans hw.tape,hk.output.trans hw.output,Nat.le_trans hw.size hk.size,fun k h=>(hk.block k (Nat.lt_of_lt_of_le h hw.size) (Nat.ne_of_lt (Nat.lt_of_lt_of_le h hr))).trans (hw.block k h)⟩
theorem iF {w W0 W1:World} {i:aY} {v:Value} {r:Nat} (hr:w.heap.size≤r) (hz:RowN W0.heap.size i.2 v W1) (hw:Below w.heap.size w W0) (hl:i.2.length≤1000) (hk:Kb r W0 W1):InsOwn i w v W1 :=
 have h:=hz.own hw.size hl
 ⟨h.1,h.2,uY hr hw hk⟩
theorem InsOwn.kb {x:aY} {w w2 w3 W':World} {v:Value} (h:InsOwn x w2 v w3) (hw:Below w.heap.size w w2) (hr:w.heap.size<w2.heap.size) (hk:Kb w.heap.size w3 W'):InsOwn x w v W':=by
 obtain⟨⟨h1,h2⟩,h3,h4⟩:=h;refine⟨⟨h1,?_⟩,h3,sO (hw.trans (h4.mono hw.size)) hk⟩;rcases h2 with h2|⟨g,cap,cur,hv,hg,hh,r⟩
 · exact .inl h2
 · exact .inr ⟨g,cap,cur,hv,om,(hk.block g (aA hh) om).trans hh,r⟩
theorem InsOwn.slice {x:aY} {w w2:World} {v:Value} (h:InsOwn x w v w2):∃ a n c,v=.slice a n c:=by
 obtain⟨a,c,h⟩:=aI h.1;exact⟨_,_,_,h⟩
theorem aAr (n k m:Int) (P:Op3) (hn:n=k) (h:(if k=3 then (3,m,0) else (3,k,0))=P) (w:World):Calls prog 128 #[.int .i64 n,.int .i64 m] w fun e w'=>e=.returned (opV P)∧Below w.heap.size w w':=by
 subst hn;exact Bj n m P h w
theorem Er (a:Op3) (w:World) (B:Nat) (hB:B≤w.heap.size):Calls prog 126 #[opV a] w fun e w'=>∃ v,e=.returned v∧RowV B [a] v w'∧Below w.heap.size w w' :=
 (fB a w).mono fun _ _ ⟨g,he,h1,h2,h3⟩=>⟨_,he,⟨g,rfl,om,h2⟩,h3⟩
theorem iE (a b:Op3) (w:World) (B:Nat) (hB:B≤w.heap.size):Calls prog 123 #[opV a,opV b] w fun e w'=>∃ v,e=.returned v∧RowV B [a,b] v w'∧Below w.heap.size w w' :=
 (eY a b w).mono fun _ _ ⟨g,he,h1,h2,h3⟩=>⟨_,he,⟨g,rfl,om,h2⟩,h3⟩
theorem dX (s:List UInt8) (l:List Op3) (v:Value) (B:Nat) (w:World) (hv:RowN B l v w):Calls prog 122 #[.string ⟨s.toArray⟩,v] w fun e w'=>∃ u,e=.returned u∧(D9.ins (s,l)).holds B u w'∧Below w.heap.size w w':=by
 have hv2:v=.slice none 0 0∨∃ a n c,v=.slice (some a) n c:=by
  rcases hv with⟨_,h⟩|⟨_,g,h,_⟩
  · exact .inl h
  · exact .inr ⟨_,_,_,h⟩
 refine (bH ⟨s.toArray⟩ v hv2 w).mono ?_;rintro e w' ⟨he,hb⟩;refine⟨_,he,⟨v,rfl,?_⟩,hb⟩;rcases hv with h|⟨h1,g,h2,h3,h4⟩
 · exact .inl h
 · exact .inr ⟨h1,g,h2,h3,aB h4 hb (aA h4)⟩
theorem gQ {ops:Array Oper} (h:((List.range ops.size).all fun i=>((ops[i]?).map fun o=>o.after.all fun e=>!Region.binds .any e || decide (e.on<i)).getD true)=true) (i:Nat) (o:Oper) (ho:ops[i]? = some o):∀ e∈o.after,Region.binds .any e=true→e.on<i:=by
 intro e he hb;rw[List.all_eq_true] at h
 have:=h i (List.mem_range.2 (Array.getElem?_eq_some_iff.1 ho).1)
 rw[ho] at this;simp only[Option.map_some,Option.getD_some,Array.all_eq_true_iff_forall_mem,Bool.or_eq_true,Bool.not_eq_true',decide_eq_true_eq] at this;rcases this e he with h|h
 · rw[hb] at h;cases h
 · exact h
theorem lH (y k j:Int) (nm:List UInt8) (h:y=0∧k=0∧j=0∧nm=[82,76,67,65]∨y=1∧k=0∧j=0∧nm=[82,82,67,65]∨y=2∧k=1∧j=0∧nm=[82,76,65]∨y=3∧k=1∧j=0∧nm=[82,82,65]∨y=4∧k=2∧j=0∧nm=[68,65,65]∨y=5∧k=2∧j=0∧nm=[67,80,76]∨y=6∧k=3∧j=0∧nm=[83,67,70]∨y=7∧k=3∧j=0∧nm=[67,67,70]) (w:World):Calls prog 121 #[.int .i64 y,.int .i64 7] w (aU ((nm,[]),[]) w):=by
 rcases h with⟨rfl,hk,hj,hnm⟩|⟨rfl,hk,hj,hnm⟩|⟨rfl,hk,hj,hnm⟩|⟨rfl,hk,hj,hnm⟩|⟨rfl,hk,hj,hnm⟩|⟨rfl,hk,hj,hnm⟩|⟨rfl,hk,hj,hnm⟩|⟨rfl,hk,hj,hnm⟩;all_goals
  have HJ:=Hh (And.intro hk (And.intro hj hnm));clear hk hj hnm;go_enter func121,ntmps121
  go_wp2_with fail
  (with_reducible refine (pE _ k (by have:=HJ.out;omega) _).mono ?_);rintro e w1 ⟨rfl,hb1⟩;have H0:=Hh (bQ hb1);have HW1:=Hh (cL hb1);have HL0:=Hh (aA (bQ hb1));clear hb1;go_wp2_with fail
  (with_reducible refine (pE _ 2 rfl _).mono ?_);rintro e w2 ⟨rfl,hb2⟩;have h1:=bQ hb2;have h0:=fT H0.out hb2;have hw2:=dC HW1.out hb2;clear hb2;obtain⟨p0,p1,p2⟩:=k3 h1 br;have hpl:=aA h1;have H0:=Hh h0;have H1:=Hh h1;have HW2:=Hh hw2;clear h0 h1 hw2;go_wp2_with fail
  obtain⟨W0,hW0⟩:∃ W0,w2.alloc (.cells #[.int .i64 3,.int .i64 2,.int .i64 0] 144)=W0:=⟨_,rfl⟩;have h2:W0.heap[w2.heap.size]? = some (.cells #[.int .i64 3,.int .i64 2,.int .i64 0] 144 (0,0)):=by rw[←hW0];exact aF _ _
  have h1:W0.heap[w1.heap.size]? = some (.cells #[.int .i64 3,.int .i64 k,.int .i64 0] 144 (0,0)):=by rw[←hW0];exact aE H1.out
  have h0:W0.heap[w.heap.size]? = some (.cells #[.string ⟨#[]⟩,.slice none 0 0] 53 (0,0)):=by rw[←hW0];exact aE H0.out
  have HBW:=Hh (show Below w.heap.size w W0 by rw[←hW0];exact HW2.out.trans (Below.mono (br.alloc lr _) HW2.out.size))
  have HK:=Hh (fun W (hb:Below W0.heap.size W0 W)=>And.intro (k3 h1 hb) (And.intro (k3 h2 hb) (k2 h0 hb)));have HW0:=Hh (aA h0);have HZ:=Hh (show W0.heap.size=w2.heap.size+1 by rw[←hW0,World.size_alloc]);rw[hW0];have HN1:=Hh (Nat.ne_of_gt HL0.out);have HL1:=Hh (aA h1);clear hW0 h0 h1 h2 p0 p1 p2 hpl;(with_reducible refine (bH _ _ (.inl rfl) _).mono ?_);rintro e w3 ⟨rfl,hb3⟩;have HB3:=Hh ((cL hb3));clear hb3;obtain⟨⟨_,_,_⟩,⟨_,_,_⟩,k0,k1,f0,f1⟩:=HK.out _ HB3.out;have hlt:=Nat.lt_of_lt_of_le HW0.out HB3.out.size;go_wp2_with fail
  refine bodyPost_ret (v:=.tuple #[.agg #[.string ⟨nm.toArray⟩,.slice none 0 0],.string ⟨#[]⟩]) (by rw[HJ.out.2.2];simp[results,results121,go_sem, *]) rfl ?_;exact⟨_,rfl,gZ rfl HBW.out HB3.out⟩
theorem eM (y k q z:Int) (R:aY × List UInt8) (hy:y.tdiv 2=k) (hm:y.tmod 2=q) (hy0:0≤y) (hy7:y≤7) (hk0:0≤k) (hk3:k≤3)
 (hD:(z=4∧R=(([73,78,67],[(dO y)]),[]))
  ∨ (z=5∧R=(([68,69,67],[(dO y)]),[]))
  ∨ (z=6∧R=(([76,68],[(dO y),(6,0,0)]),[110]))
  ∨ (z=1∧(q == 0)=false∧R=(([65,68,68],[(3,2,0),(3,k,0)]),[]))
  ∨ (y=0∧z=0∧R=(([78,79,80],[]),[]))
  ∨ (y=1∧z=0∧R=(([69,88],[(3,4,0),(3,7,0)]),[]))
  ∨ (y=2∧z=0∧R=(([68,74,78,90],[(10,0,0)]),[101]))
  ∨ (y=3∧z=0∧R=(([74,82],[(10,0,0)]),[101]))
  ∨ (z=0∧4≤y∧(y == 0)=false∧(y == 1)=false∧(y == 2)=false∧(y == 3)=false∧R=(([74,82],[(8,y - 4,0),(10,0,0)]),[101]))
  ∨ (z=1∧q=0∧R=(([76,68],[(3,k,0),(6,0,0)]),[119]))
  ∨ (z=2∧q=0∧y<4∧R=(([76,68],[(4,k,0),(1,7,0)]),[]))
  ∨ (z=2∧q=1∧y<4∧R=(([76,68],[(1,7,0),(4,k,0)]),[]))
  ∨ (z=2∧q=0∧¬ y<4∧y<6∧R=(([76,68],[(7,0,0),(3,2,0)]),[119]))
  ∨ (z=2∧q=1∧¬ y<4∧y<6∧R=(([76,68],[(3,2,0),(7,0,0)]),[119]))
  ∨ (z=2∧q=0∧¬ y<4∧¬ y<6∧R=(([76,68],[(7,0,0),(1,7,0)]),[119]))
  ∨ (z=2∧q=1∧¬ y<4∧¬ y<6∧R=(([76,68],[(1,7,0),(7,0,0)]),[119])))
 (w:World):Calls prog 121 #[.int .i64 y,.int .i64 z] w (aU R w):=by
 rcases hD with⟨rfl,rfl⟩|⟨rfl,rfl⟩|⟨rfl,rfl⟩|⟨rfl,hq,rfl⟩|⟨rfl,rfl,rfl⟩|⟨rfl,rfl,rfl⟩|⟨rfl,rfl,rfl⟩|⟨rfl,rfl,rfl⟩|⟨rfl,h4,hn0,hn1,hn2,hn3,rfl⟩|⟨rfl,rfl,rfl⟩|⟨rfl,rfl,h4,rfl⟩|⟨rfl,rfl,h4,rfl⟩|⟨rfl,rfl,h4,h6,rfl⟩|⟨rfl,rfl,h4,h6,rfl⟩|⟨rfl,rfl,h4,h6,rfl⟩|⟨rfl,rfl,h4,h6,rfl⟩;all_goals
  go_enter func121,ntmps121
  go_wp2_with fail
  (with_reducible refine (pE _ k (by first|omega|(subst hy;decide)|(subst hk;decide)) _).mono ?_)
  rintro e w1 ⟨rfl,hb1⟩;have H0:=Hh (bQ hb1);have HW1:=Hh (cL hb1);have HL0:=Hh (aA (bQ hb1));clear hb1;go_wp2_with fail
  (with_reducible refine (pE _ 2 rfl _).mono ?_);rintro e w2 ⟨rfl,hb2⟩;have h1:=bQ hb2;have h0:=fT H0.out hb2;have hw2:=dC HW1.out hb2;clear hb2;obtain⟨p0,p1,p2⟩:=k3 h1 br;have hpl:=aA h1;have H0:=Hh h0;have H1:=Hh h1;have HW2:=Hh hw2;clear h0 h1 hw2;go_wp2_with fail
  obtain⟨W0,hW0⟩:∃ W0,w2.alloc (.cells #[.int .i64 3,.int .i64 2,.int .i64 0] 144)=W0:=⟨_,rfl⟩;have h2:W0.heap[w2.heap.size]? = some (.cells #[.int .i64 3,.int .i64 2,.int .i64 0] 144 (0,0)):=by rw[←hW0];exact aF _ _
  have h1:W0.heap[w1.heap.size]? = some (.cells #[.int .i64 3,.int .i64 k,.int .i64 0] 144 (0,0)):=by rw[←hW0];exact aE H1.out
  have h0:W0.heap[w.heap.size]? = some (.cells #[.string ⟨#[]⟩,.slice none 0 0] 53 (0,0)):=by rw[←hW0];exact aE H0.out
  have HBW:=Hh (show Below w.heap.size w W0 by rw[←hW0];exact HW2.out.trans (Below.mono (br.alloc lr _) HW2.out.size))
  have HK:=Hh (fun W (hb:Below W0.heap.size W0 W)=>And.intro (k3 h1 hb) (And.intro (k3 h2 hb) (k2 h0 hb)));have HW0:=Hh (aA h0);have HZ:=Hh (show W0.heap.size=w2.heap.size+1 by rw[←hW0,World.size_alloc]);rw[hW0];have HN1:=Hh (Nat.ne_of_gt HL0.out);have HL1:=Hh (aA h1);clear hW0 h0 h1 h2 p0 p1 p2 hpl
 · (with_reducible refine (r9i _ y om _).mono ?_);rintro e w3 ⟨rfl,hb3⟩;have HB3:=Hh (hb3);clear hb3;obtain⟨⟨_,_,_⟩,⟨_,_,_⟩,k0,k1,f0,f1⟩:=HK.out _ HB3.out;go_wp2_with fail
   (with_reducible refine (fB (dO y) _).mono ?_);rintro e w4 ⟨g,rfl,hgg,hgb,hb4⟩;have HB4:=Hh (HB3.out.trans (hb4.mono HB3.out.size));have HG:=Hh hgb;have HGG:=Hh (Nat.le_trans HB3.out.size hgg);clear hb4 hgb hgg;go_wp2_with fail
   (with_reducible refine (bH _ _ (.inr ⟨_,_,_,rfl⟩) _).mono ?_);rintro e w5 ⟨rfl,hb5⟩;have HG9:=Hh (aB HG.out hb5 (aA HG.out));have HB5:=Hh (HB4.out.trans (hb5.mono HB4.out.size));clear hb5;obtain⟨⟨_,_,_⟩,⟨_,_,_⟩,k0,k1,f0,f1⟩:=HK.out _ HB5.out;have hlt:=Nat.lt_of_lt_of_le HW0.out HB5.out.size;go_wp2_with fail
   refine bodyPost_ret (v:=.tuple #[.agg #[.string ⟨#[73,78,67]⟩,.slice (some ⟨g,0,none⟩) 1 1],.string ⟨#[]⟩]) (by simp[results,results121,go_sem, *]) rfl ?_;exact⟨_,rfl,bA rfl HBW.out HW0.out HB5.out HGG.out HG9.out rfl om⟩
 · (with_reducible refine (r9i _ y om _).mono ?_);rintro e w3 ⟨rfl,hb3⟩;have HB3:=Hh (hb3);clear hb3;obtain⟨⟨_,_,_⟩,⟨_,_,_⟩,k0,k1,f0,f1⟩:=HK.out _ HB3.out;go_wp2_with fail
   (with_reducible refine (fB (dO y) _).mono ?_);rintro e w4 ⟨g,rfl,hgg,hgb,hb4⟩;have HB4:=Hh (HB3.out.trans (hb4.mono HB3.out.size));have HG:=Hh hgb;have HGG:=Hh (Nat.le_trans HB3.out.size hgg);clear hb4 hgb hgg;go_wp2_with fail
   (with_reducible refine (bH _ _ (.inr ⟨_,_,_,rfl⟩) _).mono ?_);rintro e w5 ⟨rfl,hb5⟩;have HG9:=Hh (aB HG.out hb5 (aA HG.out));have HB5:=Hh (HB4.out.trans (hb5.mono HB4.out.size));clear hb5;obtain⟨⟨_,_,_⟩,⟨_,_,_⟩,k0,k1,f0,f1⟩:=HK.out _ HB5.out;have hlt:=Nat.lt_of_lt_of_le HW0.out HB5.out.size;go_wp2_with fail
   refine bodyPost_ret (v:=.tuple #[.agg #[.string ⟨#[68,69,67]⟩,.slice (some ⟨g,0,none⟩) 1 1],.string ⟨#[]⟩]) (by simp[results,results121,go_sem, *]) rfl ?_;exact⟨_,rfl,bA rfl HBW.out HW0.out HB5.out HGG.out HG9.out rfl om⟩
 · (with_reducible refine (r9i _ y om _).mono ?_);rintro e w3 ⟨rfl,hb3⟩;have HB3:=Hh (hb3);clear hb3;obtain⟨⟨_,_,_⟩,⟨_,_,_⟩,k0,k1,f0,f1⟩:=HK.out _ HB3.out;go_wp2_with fail
   (with_reducible refine (fF 0 _).mono ?_);rintro e w4 ⟨rfl,hb4⟩;have HB4:=Hh (HB3.out.trans (hb4.mono HB3.out.size));clear hb4;obtain⟨⟨_,_,_⟩,⟨_,_,_⟩,k0,k1,f0,f1⟩:=HK.out _ HB4.out;go_wp2_with fail
   (with_reducible refine (eY (dO y) (6,0,0) _).mono ?_);rintro e w5 ⟨g,rfl,hgg,hgb,hb5⟩;have HB5:=Hh (HB4.out.trans (hb5.mono HB4.out.size));have HG:=Hh hgb;have HGG:=Hh (Nat.le_trans HB4.out.size hgg);clear hb5 hgb hgg;go_wp2_with fail
   (with_reducible refine (bH _ _ (.inr ⟨_,_,_,rfl⟩) _).mono ?_);rintro e w6 ⟨rfl,hb6⟩;have HG9:=Hh (aB HG.out hb6 (aA HG.out));have HB6:=Hh (HB5.out.trans (hb6.mono HB5.out.size));clear hb6;obtain⟨⟨_,_,_⟩,⟨_,_,_⟩,k0,k1,f0,f1⟩:=HK.out _ HB6.out;have hlt:=Nat.lt_of_lt_of_le HW0.out HB6.out.size;go_wp2_with fail
   refine bodyPost_ret (v:=.tuple #[.agg #[.string ⟨#[76,68]⟩,.slice (some ⟨g,0,none⟩) 2 2],.string ⟨#[110]⟩]) (by simp[results,results121,go_sem, *]) rfl ?_;exact⟨_,rfl,bA rfl HBW.out HW0.out HB6.out HGG.out HG9.out rfl om⟩
 · (with_reducible refine (eY (3,2,0) (3,k,0) _).mono ?_);rintro e w3 ⟨g,rfl,hgg,hgb,hb3⟩;have HB3:=Hh (hb3);have HG:=Hh hgb;have HGG:=Hh hgg;clear hb3 hgb hgg;go_wp2_with fail
   (with_reducible refine (bH _ _ (.inr ⟨_,_,_,rfl⟩) _).mono ?_);rintro e w4 ⟨rfl,hb4⟩;have HG9:=Hh (aB HG.out hb4 (aA HG.out));have HB4:=Hh (HB3.out.trans (hb4.mono HB3.out.size));clear hb4;obtain⟨⟨_,_,_⟩,⟨_,_,_⟩,k0,k1,f0,f1⟩:=HK.out _ HB4.out;have hlt:=Nat.lt_of_lt_of_le HW0.out HB4.out.size;go_wp2_with fail
   refine bodyPost_ret (v:=.tuple #[.agg #[.string ⟨#[65,68,68]⟩,.slice (some ⟨g,0,none⟩) 2 2],.string ⟨#[]⟩]) (by simp[results,results121,go_sem, *]) rfl ?_;exact⟨_,rfl,bA rfl HBW.out HW0.out HB4.out HGG.out HG9.out rfl om⟩
 · (with_reducible refine (bH _ _ (.inl rfl) _).mono ?_);rintro e w3 ⟨rfl,hb3⟩;have HB3:=Hh (hb3);clear hb3;obtain⟨⟨_,_,_⟩,⟨_,_,_⟩,k0,k1,f0,f1⟩:=HK.out _ HB3.out;have hlt:=Nat.lt_of_lt_of_le HW0.out HB3.out.size;go_wp2_with fail
   refine bodyPost_ret (v:=.tuple #[.agg #[.string ⟨#[78,79,80]⟩,.slice none 0 0],.string ⟨#[]⟩]) (by simp[results,results121,go_sem, *]) rfl ?_;exact⟨_,rfl,gZ rfl HBW.out HB3.out⟩
 · (with_reducible refine (Bj 3 4 (3,4,0) dc _).mono ?_);rintro e w3 ⟨rfl,hb3⟩;have HB3:=Hh (hb3);clear hb3;obtain⟨⟨_,_,_⟩,⟨_,_,_⟩,k0,k1,f0,f1⟩:=HK.out _ HB3.out;go_wp2_with fail
   (with_reducible refine (Bj 3 7 (3,7,0) dc _).mono ?_);rintro e w4 ⟨rfl,hb4⟩;have HB4:=Hh (HB3.out.trans (hb4.mono HB3.out.size));clear hb4;obtain⟨⟨_,_,_⟩,⟨_,_,_⟩,k0,k1,f0,f1⟩:=HK.out _ HB4.out;go_wp2_with fail
   (with_reducible refine (eY (3,4,0) (3,7,0) _).mono ?_);rintro e w5 ⟨g,rfl,hgg,hgb,hb5⟩;have HB5:=Hh (HB4.out.trans (hb5.mono HB4.out.size));have HG:=Hh hgb;have HGG:=Hh (Nat.le_trans HB4.out.size hgg);clear hb5 hgb hgg;go_wp2_with fail
   (with_reducible refine (bH _ _ (.inr ⟨_,_,_,rfl⟩) _).mono ?_);rintro e w6 ⟨rfl,hb6⟩;have HG9:=Hh (aB HG.out hb6 (aA HG.out));have HB6:=Hh (HB5.out.trans (hb6.mono HB5.out.size));clear hb6;obtain⟨⟨_,_,_⟩,⟨_,_,_⟩,k0,k1,f0,f1⟩:=HK.out _ HB6.out;have hlt:=Nat.lt_of_lt_of_le HW0.out HB6.out.size;go_wp2_with fail
   refine bodyPost_ret (v:=.tuple #[.agg #[.string ⟨#[69,88]⟩,.slice (some ⟨g,0,none⟩) 2 2],.string ⟨#[]⟩]) (by simp[results,results121,go_sem, *]) rfl ?_;exact⟨_,rfl,bA rfl HBW.out HW0.out HB6.out HGG.out HG9.out rfl om⟩
 · (with_reducible refine (Mg _).mono ?_);rintro e w3 ⟨rfl,hb3⟩;have HB3:=Hh (hb3);clear hb3;obtain⟨⟨_,_,_⟩,⟨_,_,_⟩,k0,k1,f0,f1⟩:=HK.out _ HB3.out;go_wp2_with fail
   (with_reducible refine (fB (10,0,0) _).mono ?_);rintro e w4 ⟨g,rfl,hgg,hgb,hb4⟩;have HB4:=Hh (HB3.out.trans (hb4.mono HB3.out.size));have HG:=Hh hgb;have HGG:=Hh (Nat.le_trans HB3.out.size hgg);clear hb4 hgb hgg;go_wp2_with fail
   (with_reducible refine (bH _ _ (.inr ⟨_,_,_,rfl⟩) _).mono ?_);rintro e w5 ⟨rfl,hb5⟩;have HG9:=Hh (aB HG.out hb5 (aA HG.out));have HB5:=Hh (HB4.out.trans (hb5.mono HB4.out.size));clear hb5;obtain⟨⟨_,_,_⟩,⟨_,_,_⟩,k0,k1,f0,f1⟩:=HK.out _ HB5.out;have hlt:=Nat.lt_of_lt_of_le HW0.out HB5.out.size;go_wp2_with fail
   refine bodyPost_ret (v:=.tuple #[.agg #[.string ⟨#[68,74,78,90]⟩,.slice (some ⟨g,0,none⟩) 1 1],.string ⟨#[101]⟩]) (by simp[results,results121,go_sem, *]) rfl ?_;exact⟨_,rfl,bA rfl HBW.out HW0.out HB5.out HGG.out HG9.out rfl om⟩
 · (with_reducible refine (Mg _).mono ?_);rintro e w3 ⟨rfl,hb3⟩;have HB3:=Hh (hb3);clear hb3;obtain⟨⟨_,_,_⟩,⟨_,_,_⟩,k0,k1,f0,f1⟩:=HK.out _ HB3.out;go_wp2_with fail
   (with_reducible refine (fB (10,0,0) _).mono ?_);rintro e w4 ⟨g,rfl,hgg,hgb,hb4⟩;have HB4:=Hh (HB3.out.trans (hb4.mono HB3.out.size));have HG:=Hh hgb;have HGG:=Hh (Nat.le_trans HB3.out.size hgg);clear hb4 hgb hgg;go_wp2_with fail
   (with_reducible refine (bH _ _ (.inr ⟨_,_,_,rfl⟩) _).mono ?_);rintro e w5 ⟨rfl,hb5⟩;have HG9:=Hh (aB HG.out hb5 (aA HG.out));have HB5:=Hh (HB4.out.trans (hb5.mono HB4.out.size));clear hb5;obtain⟨⟨_,_,_⟩,⟨_,_,_⟩,k0,k1,f0,f1⟩:=HK.out _ HB5.out;have hlt:=Nat.lt_of_lt_of_le HW0.out HB5.out.size;go_wp2_with fail
   refine bodyPost_ret (v:=.tuple #[.agg #[.string ⟨#[74,82]⟩,.slice (some ⟨g,0,none⟩) 1 1],.string ⟨#[101]⟩]) (by simp[results,results121,go_sem, *]) rfl ?_;exact⟨_,rfl,bA rfl HBW.out HW0.out HB5.out HGG.out HG9.out rfl om⟩
 · (with_reducible refine (Ty _ (y - 4) om _).mono ?_);rintro e w3 ⟨rfl,hb3⟩;have HB3:=Hh (hb3);clear hb3;obtain⟨⟨_,_,_⟩,⟨_,_,_⟩,k0,k1,f0,f1⟩:=HK.out _ HB3.out;go_wp2_with fail
   (with_reducible refine (Mg _).mono ?_);rintro e w4 ⟨rfl,hb4⟩;have HB4:=Hh (HB3.out.trans (hb4.mono HB3.out.size));clear hb4;obtain⟨⟨_,_,_⟩,⟨_,_,_⟩,k0,k1,f0,f1⟩:=HK.out _ HB4.out;go_wp2_with fail
   (with_reducible refine (eY (8,y - 4,0) (10,0,0) _).mono ?_);rintro e w5 ⟨g,rfl,hgg,hgb,hb5⟩;have HB5:=Hh (HB4.out.trans (hb5.mono HB4.out.size));have HG:=Hh hgb;have HGG:=Hh (Nat.le_trans HB4.out.size hgg);clear hb5 hgb hgg;go_wp2_with fail
   (with_reducible refine (bH _ _ (.inr ⟨_,_,_,rfl⟩) _).mono ?_);rintro e w6 ⟨rfl,hb6⟩;have HG9:=Hh (aB HG.out hb6 (aA HG.out));have HB6:=Hh (HB5.out.trans (hb6.mono HB5.out.size));clear hb6;obtain⟨⟨_,_,_⟩,⟨_,_,_⟩,k0,k1,f0,f1⟩:=HK.out _ HB6.out;have hlt:=Nat.lt_of_lt_of_le HW0.out HB6.out.size;go_wp2_with fail
   refine bodyPost_ret (v:=.tuple #[.agg #[.string ⟨#[74,82]⟩,.slice (some ⟨g,0,none⟩) 2 2],.string ⟨#[101]⟩]) (by simp[results,results121,go_sem, *]) rfl ?_;exact⟨_,rfl,bA rfl HBW.out HW0.out HB6.out HGG.out HG9.out rfl om⟩
 · have hdr:Below W0.heap.size W0 W0.drew:=bl;go_region_held3 (fun w'=>w'.cell? ⟨w1.heap.size,0,none⟩=some (.int .i64 3)∧w'.cell? ⟨w1.heap.size,1,none⟩=some (.int .i64 k)∧w'.cell? ⟨w1.heap.size,2,none⟩=some (.int .i64 0)) (first|exact (HK.out _ hdr).1|exact (HK.out _ hc0).1|exact (HK.out _ hc1).1|exact (HK.out _ hc2).1|exact⟨(Lt _ _ _ _ _ _ HN1.out).trans (HK.out _ hc2).1.1,(Lt _ _ _ _ _ _ HN1.out).trans (HK.out _ hc2).1.2.1,(Lt _ _ _ _ _ _ HN1.out).trans (HK.out _ hc2).1.2.2⟩) (first
    | ((with_reducible refine ((fF 0 _)).mono ?_);rintro e v0 ⟨rfl,hb0⟩;have hc0:Below W0.heap.size W0 v0:=hdr.trans hb0)
    | ((with_reducible refine (eY (3,k,0) (6,0,0) _).mono ?_);rintro e v1 ⟨g,rfl,hgg,hgb,hb1⟩;have hc1:Below W0.heap.size W0 v1:=hc0.trans (hb1.mono hc0.size);have HGG:=Hh (Nat.le_trans hc0.size hgg))
    | ((with_reducible refine (bH _ _ (.inr ⟨_,_,_,rfl⟩) _).mono ?_);rintro e v2 ⟨rfl,hb2⟩;have hc2:Below W0.heap.size W0 v2:=hc1.trans (hb2.mono hc1.size);have HG9:=Hh (aB hgb hb2 (aA hgb));obtain⟨⟨_,_,_⟩,⟨_,_,_⟩,k0,k1,f0,f1⟩:=HK.out _ hc2;have hlt:=Nat.lt_of_lt_of_le HW0.out hc2.size))
   all_goals
    have HB9:=Hh hc2;clear hb0 hc0 hb1 hc1 hb2 hc2 hgb hgg hdr;go_wp2_with fail
    refine bodyPost_ret (v:=.tuple #[.agg #[.string ⟨#[76,68]⟩,.slice (some ⟨g,0,none⟩) 2 2],.string ⟨#[119]⟩]) (by simp[results,results121,go_sem, *]) rfl ?_;exact⟨_,rfl,bA rfl HBW.out HW0.out HB9.out HGG.out HG9.out rfl om⟩
 · (with_reducible refine (oV _).mono ?_);rintro e w3 ⟨rfl,hb3⟩;have HPL:=Hh (HZ.out ▸ bQ hb3);have HB3:=Hh (cL hb3);clear hb3;go_wp2_with fail
   (with_reducible refine (Vx _ k om _).mono ?_);rintro e w4 ⟨rfl,hb4⟩;have HPB:=Hh (fT HPL.out hb4);have HRB:=Hh (bQ hb4);have HB4:=Hh (dC HB3.out hb4);clear hb4;obtain⟨⟨_,_,_⟩,⟨_,_,_⟩,_,_,_,_⟩:=HK.out _ HB4.out;obtain⟨_,_,_,_,_,_⟩:=kk3 HPB.out;obtain⟨_,_,_,_,_,_⟩:=kk3 HRB.out;have hlp:=Nat.lt_of_lt_of_le HW0.out lr;have hlq:=aA HPL.out;have hlr:=aA HRB.out;go_wp2_with fail
   (with_reducible refine (eY (4,k,0) (1,7,0) _).mono ?_);rintro e w5 ⟨g,rfl,hgg,hgb,hb5⟩;have HB5:=Hh (xD HB4.out (Nat.le_of_eq HZ.out) hb5);have HG:=Hh hgb;have HGG:=Hh (wT HB4.out (Nat.le_of_eq HZ.out) hgg);clear hb5 hgb hgg;go_wp2_with fail
   (with_reducible refine (bH _ _ (.inr ⟨_,_,_,rfl⟩) _).mono ?_);rintro e w6 ⟨rfl,hb6⟩;have HG9:=Hh (aB HG.out hb6 (aA HG.out));have HB6:=Hh (HB5.out.trans (hb6.mono HB5.out.size));clear hb6;obtain⟨⟨_,_,_⟩,⟨_,_,_⟩,k0,k1,f0,f1⟩:=HK.out _ HB6.out;have hlt:=Nat.lt_of_lt_of_le HW0.out HB6.out.size;go_wp2_with fail
   refine bodyPost_ret (v:=.tuple #[.agg #[.string ⟨#[76,68]⟩,.slice (some ⟨g,0,none⟩) 2 2],.string ⟨#[]⟩]) (by simp[results,results121,go_sem, *]) rfl ?_;exact⟨_,rfl,bA rfl HBW.out HW0.out HB6.out HGG.out HG9.out rfl om⟩
 · (with_reducible refine (oV _).mono ?_);rintro e w3 ⟨rfl,hb3⟩;have HPL:=Hh (HZ.out ▸ bQ hb3);have HB3:=Hh (cL hb3);clear hb3;go_wp2_with fail
   (with_reducible refine (Vx _ k om _).mono ?_);rintro e w4 ⟨rfl,hb4⟩;have HPB:=Hh (fT HPL.out hb4);have HRB:=Hh (bQ hb4);have HB4:=Hh (dC HB3.out hb4);clear hb4;obtain⟨⟨_,_,_⟩,⟨_,_,_⟩,_,_,_,_⟩:=HK.out _ HB4.out;obtain⟨_,_,_,_,_,_⟩:=kk3 HPB.out;obtain⟨_,_,_,_,_,_⟩:=kk3 HRB.out;have hlp:=Nat.lt_of_lt_of_le HW0.out lr;have hlq:=aA HPL.out;have hlr:=aA HRB.out;go_wp2_with fail
   (with_reducible refine (eY (1,7,0) (4,k,0) _).mono ?_);rintro e w5 ⟨g,rfl,hgg,hgb,hb5⟩;have HB5:=Hh (xD HB4.out (Nat.le_of_eq HZ.out) hb5);have HG:=Hh hgb;have HGG:=Hh (wT HB4.out (Nat.le_of_eq HZ.out) hgg);clear hb5 hgb hgg;go_wp2_with fail
   (with_reducible refine (bH _ _ (.inr ⟨_,_,_,rfl⟩) _).mono ?_);rintro e w6 ⟨rfl,hb6⟩;have HG9:=Hh (aB HG.out hb6 (aA HG.out));have HB6:=Hh (HB5.out.trans (hb6.mono HB5.out.size));clear hb6;obtain⟨⟨_,_,_⟩,⟨_,_,_⟩,k0,k1,f0,f1⟩:=HK.out _ HB6.out;have hlt:=Nat.lt_of_lt_of_le HW0.out HB6.out.size;go_wp2_with fail
   refine bodyPost_ret (v:=.tuple #[.agg #[.string ⟨#[76,68]⟩,.slice (some ⟨g,0,none⟩) 2 2],.string ⟨#[]⟩]) (by simp[results,results121,go_sem, *]) rfl ?_;exact⟨_,rfl,bA rfl HBW.out HW0.out HB6.out HGG.out HG9.out rfl om⟩
 · (with_reducible refine (oV _).mono ?_);rintro e w3 ⟨rfl,hb3⟩;have HPL:=Hh (HZ.out ▸ bQ hb3);have HB3:=Hh (cL hb3);clear hb3;go_wp2_with fail
   (with_reducible refine (uT _).mono ?_);rintro e w4 ⟨rfl,hb4⟩;have HPB:=Hh (fT HPL.out hb4);have HRB:=Hh (bQ hb4);have HB4:=Hh (dC HB3.out hb4);clear hb4;obtain⟨⟨_,_,_⟩,⟨_,_,_⟩,_,_,_,_⟩:=HK.out _ HB4.out;obtain⟨_,_,_,_,_,_⟩:=kk3 HPB.out;obtain⟨_,_,_,_,_,_⟩:=kk3 HRB.out;have hlp:=Nat.lt_of_lt_of_le HW0.out lr;have hlq:=aA HPL.out;have hlr:=aA HRB.out;go_wp2_with fail
   (with_reducible refine (eY (7,0,0) (3,2,0) _).mono ?_);rintro e w5 ⟨g,rfl,hgg,hgb,hb5⟩;have HB5:=Hh (Qk HB4.out (Nat.le_of_eq HZ.out) (Nat.le_trans (Nat.le_of_eq HZ.out) (Nat.le_of_lt (aA HPL.out))) hb5);have HG:=Hh hgb;have HGG:=Hh (Ot HB4.out (Nat.le_of_eq HZ.out) (Nat.le_trans (Nat.le_of_eq HZ.out) (Nat.le_of_lt (aA HPL.out))) hgg);clear hb5 hgb hgg;go_wp2_with fail
   (with_reducible refine (bH _ _ (.inr ⟨_,_,_,rfl⟩) _).mono ?_);rintro e w6 ⟨rfl,hb6⟩;have HG9:=Hh (aB HG.out hb6 (aA HG.out));have HB6:=Hh (HB5.out.trans (hb6.mono HB5.out.size));clear hb6;obtain⟨⟨_,_,_⟩,⟨_,_,_⟩,k0,k1,f0,f1⟩:=HK.out _ HB6.out;have hlt:=Nat.lt_of_lt_of_le HW0.out HB6.out.size;go_wp2_with fail
   refine bodyPost_ret (v:=.tuple #[.agg #[.string ⟨#[76,68]⟩,.slice (some ⟨g,0,none⟩) 2 2],.string ⟨#[119]⟩]) (by simp[results,results121,go_sem, *]) rfl ?_;exact⟨_,rfl,bA rfl HBW.out HW0.out HB6.out HGG.out HG9.out rfl om⟩
 · (with_reducible refine (oV _).mono ?_);rintro e w3 ⟨rfl,hb3⟩;have HPL:=Hh (HZ.out ▸ bQ hb3);have HB3:=Hh (cL hb3);clear hb3;go_wp2_with fail
   (with_reducible refine (uT _).mono ?_);rintro e w4 ⟨rfl,hb4⟩;have HPB:=Hh (fT HPL.out hb4);have HRB:=Hh (bQ hb4);have HB4:=Hh (dC HB3.out hb4);clear hb4;obtain⟨⟨_,_,_⟩,⟨_,_,_⟩,_,_,_,_⟩:=HK.out _ HB4.out;obtain⟨_,_,_,_,_,_⟩:=kk3 HPB.out;obtain⟨_,_,_,_,_,_⟩:=kk3 HRB.out;have hlp:=Nat.lt_of_lt_of_le HW0.out lr;have hlq:=aA HPL.out;have hlr:=aA HRB.out;go_wp2_with fail
   (with_reducible refine (eY (3,2,0) (7,0,0) _).mono ?_);rintro e w5 ⟨g,rfl,hgg,hgb,hb5⟩;have HB5:=Hh (Qk HB4.out (Nat.le_of_eq HZ.out) (Nat.le_trans (Nat.le_of_eq HZ.out) (Nat.le_of_lt (aA HPL.out))) hb5);have HG:=Hh hgb;have HGG:=Hh (Ot HB4.out (Nat.le_of_eq HZ.out) (Nat.le_trans (Nat.le_of_eq HZ.out) (Nat.le_of_lt (aA HPL.out))) hgg);clear hb5 hgb hgg;go_wp2_with fail
   (with_reducible refine (bH _ _ (.inr ⟨_,_,_,rfl⟩) _).mono ?_);rintro e w6 ⟨rfl,hb6⟩;have HG9:=Hh (aB HG.out hb6 (aA HG.out));have HB6:=Hh (HB5.out.trans (hb6.mono HB5.out.size));clear hb6;obtain⟨⟨_,_,_⟩,⟨_,_,_⟩,k0,k1,f0,f1⟩:=HK.out _ HB6.out;have hlt:=Nat.lt_of_lt_of_le HW0.out HB6.out.size;go_wp2_with fail
   refine bodyPost_ret (v:=.tuple #[.agg #[.string ⟨#[76,68]⟩,.slice (some ⟨g,0,none⟩) 2 2],.string ⟨#[119]⟩]) (by simp[results,results121,go_sem, *]) rfl ?_;exact⟨_,rfl,bA rfl HBW.out HW0.out HB6.out HGG.out HG9.out rfl om⟩
 · (with_reducible refine (oV _).mono ?_);rintro e w3 ⟨rfl,hb3⟩;have HPL:=Hh (HZ.out ▸ bQ hb3);have HB3:=Hh (cL hb3);clear hb3;go_wp2_with fail
   (with_reducible refine (uT _).mono ?_);rintro e w4 ⟨rfl,hb4⟩;have HPB:=Hh (fT HPL.out hb4);have HRB:=Hh (bQ hb4);have HB4:=Hh (dC HB3.out hb4);clear hb4;obtain⟨⟨_,_,_⟩,⟨_,_,_⟩,_,_,_,_⟩:=HK.out _ HB4.out;obtain⟨_,_,_,_,_,_⟩:=kk3 HPB.out;obtain⟨_,_,_,_,_,_⟩:=kk3 HRB.out;have hlp:=Nat.lt_of_lt_of_le HW0.out lr;have hlq:=aA HPL.out;have hlr:=aA HRB.out;go_wp2_with fail
   (with_reducible refine (eY (7,0,0) (1,7,0) _).mono ?_);rintro e w5 ⟨g,rfl,hgg,hgb,hb5⟩;have HB5:=Hh (xD HB4.out (Nat.le_of_eq HZ.out) hb5);have HG:=Hh hgb;have HGG:=Hh (wT HB4.out (Nat.le_of_eq HZ.out) hgg);clear hb5 hgb hgg;go_wp2_with fail
   (with_reducible refine (bH _ _ (.inr ⟨_,_,_,rfl⟩) _).mono ?_);rintro e w6 ⟨rfl,hb6⟩;have HG9:=Hh (aB HG.out hb6 (aA HG.out));have HB6:=Hh (HB5.out.trans (hb6.mono HB5.out.size));clear hb6;obtain⟨⟨_,_,_⟩,⟨_,_,_⟩,k0,k1,f0,f1⟩:=HK.out _ HB6.out;have hlt:=Nat.lt_of_lt_of_le HW0.out HB6.out.size;go_wp2_with fail
   refine bodyPost_ret (v:=.tuple #[.agg #[.string ⟨#[76,68]⟩,.slice (some ⟨g,0,none⟩) 2 2],.string ⟨#[119]⟩]) (by simp[results,results121,go_sem, *]) rfl ?_;exact⟨_,rfl,bA rfl HBW.out HW0.out HB6.out HGG.out HG9.out rfl om⟩
 · (with_reducible refine (oV _).mono ?_);rintro e w3 ⟨rfl,hb3⟩;have HPL:=Hh (HZ.out ▸ bQ hb3);have HB3:=Hh (cL hb3);clear hb3;go_wp2_with fail
   (with_reducible refine (uT _).mono ?_);rintro e w4 ⟨rfl,hb4⟩;have HPB:=Hh (fT HPL.out hb4);have HRB:=Hh (bQ hb4);have HB4:=Hh (dC HB3.out hb4);clear hb4;obtain⟨⟨_,_,_⟩,⟨_,_,_⟩,_,_,_,_⟩:=HK.out _ HB4.out;obtain⟨_,_,_,_,_,_⟩:=kk3 HPB.out;obtain⟨_,_,_,_,_,_⟩:=kk3 HRB.out;have hlp:=Nat.lt_of_lt_of_le HW0.out lr;have hlq:=aA HPL.out;have hlr:=aA HRB.out;go_wp2_with fail
   (with_reducible refine (eY (1,7,0) (7,0,0) _).mono ?_);rintro e w5 ⟨g,rfl,hgg,hgb,hb5⟩;have HB5:=Hh (xD HB4.out (Nat.le_of_eq HZ.out) hb5);have HG:=Hh hgb;have HGG:=Hh (wT HB4.out (Nat.le_of_eq HZ.out) hgg);clear hb5 hgb hgg;go_wp2_with fail
   (with_reducible refine (bH _ _ (.inr ⟨_,_,_,rfl⟩) _).mono ?_);rintro e w6 ⟨rfl,hb6⟩;have HG9:=Hh (aB HG.out hb6 (aA HG.out));have HB6:=Hh (HB5.out.trans (hb6.mono HB5.out.size));clear hb6;obtain⟨⟨_,_,_⟩,⟨_,_,_⟩,k0,k1,f0,f1⟩:=HK.out _ HB6.out;have hlt:=Nat.lt_of_lt_of_le HW0.out HB6.out.size;go_wp2_with fail
   refine bodyPost_ret (v:=.tuple #[.agg #[.string ⟨#[76,68]⟩,.slice (some ⟨g,0,none⟩) 2 2],.string ⟨#[119]⟩]) (by simp[results,results121,go_sem, *]) rfl ?_;exact⟨_,rfl,bA rfl HBW.out HW0.out HB6.out HGG.out HG9.out rfl om⟩
def l3D (i:Nat):Tmp:=match i with
 | 0=>86
 | 1=>87
 | 2=>88
 | 3=>89
 | 4=>90
 | 5=>91
 | 6=>92
 | 8=>5
 | _=>117
def l3K (k:Nat):Bool:=([86,87,88,89,90,91,92,5]:List Nat).contains k
theorem Vq:∀ i,i<9→i≠7→l3K (l3D i)=true∧l3D i<117:=dc
theorem Xr:∀ i,i<9→∀ j,j<9→i≠7→j≠7→l3D i=l3D j→i=j:=dc
def l3P (r:Nat) (k q:Int) (nm:List UInt8) (i:Nat):D9:=match i with
 | 0=>.strs [[73,78,67],[68,69,67]]
 | 1=>.val (.int .i64 q)
 | 2=>.strAt [[73,78,67],[68,69,67]] q.toNat
 | 3=>.val (.string ⟨nm.toArray⟩)
 | 4=>.val (opV (3,k,0))
 | 5=>.row [(3,k,0)]
 | 6=>.ins (nm,[(3,k,0)])
 | 7=>.stored r (nm,[(3,k,0)])
 | 8=>.val (.string ⟨#[]⟩)
 | _=>.val undef
theorem Nz (r:Nat) (k q:Int) (nm:List UInt8):∀ i,i≠7→(l3P r k q nm i).plain=true:=by
 intro i h;unfold l3P;split<;>first|rfl|exact absurd rfl h
theorem lL (y k q:Int) (nm:List UInt8) (hj:q=0∧nm=[73,78,67]∨q=1∧nm=[68,69,67]) (hy:y.tdiv 2=k) (hm:y.tmod 2=q) (_h0:0≤y) (_h7:y≤7) (k0:0≤k) (k3:k≤3) (w:World):Calls prog 121 #[.int .i64 y,.int .i64 3] w (aU ((nm,[(3,k,0)]),[]) w):=by
 have HJ:=Hh hj;clear hj;go_enter func121,ntmps121
 go_wp2_with fail
 (with_reducible refine (pE _ k om _).mono ?_);rintro e w1 ⟨rfl,hb1⟩;have H0:=Hh (bQ hb1);have HW1:=Hh (cL hb1);have HL0:=Hh (aA (bQ hb1));clear hb1;go_wp2_with fail
 (with_reducible refine (pE _ 2 rfl _).mono ?_);rintro e w2 ⟨rfl,hb2⟩;have h1:=bQ hb2;have h0:=fT H0.out hb2;have hw2:=dC HW1.out hb2;clear hb2;have H0:=Hh h0;have H1:=Hh h1;have HW2:=Hh hw2;clear h0 h1 hw2;go_wp2_with fail
 obtain⟨W0,hW0⟩:∃ W0,w2.alloc (.cells #[.int .i64 3,.int .i64 2,.int .i64 0] 144)=W0:=⟨_,rfl⟩;have h1:W0.heap[w1.heap.size]? = some (.cells #[.int .i64 3,.int .i64 k,.int .i64 0] 144 (0,0)):=by rw[←hW0];exact aE H1.out
 have h0:W0.heap[w.heap.size]? = some (.cells #[.string ⟨#[]⟩,.slice none 0 0] 53 (0,0)):=by rw[←hW0];exact aE H0.out
 have HBW:=Hh (show Below w.heap.size w W0 by rw[←hW0];exact HW2.out.trans (Below.mono (br.alloc lr _) HW2.out.size))
 have HB0:=Hh h0;have HRB:=Hh (aA h0);have HN1:=Hh (Nat.ne_of_gt HL0.out);clear H0 H1;have H1:=Hh h1;rw[hW0];clear hW0 h0 h1;refine bN kr w.heap.size 7 l3D (fun i v W=>(l3P w.heap.size k q nm i).holds W0.heap.size v W) (Out l3K _) (fun i v v1 v2 hi h hk=>D9.kb (Nz w.heap.size k q nm i hi) h HRB.out hk) (fun v v1 v2 h hb=>D9.stored_below (B:=W0.heap.size) (r:=w.heap.size) (i:=(nm,[(3,k,0)])) h hb) (Out.refl _ _) (fun i v a hi hne hA=>hA.put _ v (Vq i hi hne).1 (Vq i hi hne).2) (fun i j hi hj=>Xr i hi j hj) ?_ (gQ kr) ?_
 · intro i hi;have hi:i<9:=hi;rcases (by omega:i=0∨i=1∨i=2∨i=3∨i=4∨i=5∨i=6∨i=7∨i=8) with rfl|rfl|rfl|rfl|rfl|rfl|rfl|rfl|rfl
   · refine⟨_,[],rfl,rfl,(fun j hj=>by cases hj),?_⟩;intro R a W hA hk hbw hd hv hs;have ha:=fun o=>(Below.refl W.heap.size W).alloc lr o;go_simp;exact hv dc _ _ (ha _) ⟨_,rfl,hk.size,aF _ _⟩
   · refine⟨_,[],rfl,rfl,(fun j hj=>by cases hj),?_⟩;intro R a W hA hk hbw hd hv hs;have e6:=hA.get (k:=7) (by rfl) (by rfl);go_simp;exact hv dc _ _ br rfl
   · refine⟨_,[0,1],rfl,rfl,(fun j hj=>by simp only[List.mem_cons,List.not_mem_nil,or_false] at hj;rcases hj with rfl|rfl;exact⟨dc,⟨0,.data⟩,by simp,rfl,rfl⟩;exact⟨dc,⟨1,.data⟩,by simp,rfl,rfl⟩),?_⟩;intro R a W hA hk hbw hd hv hs;obtain⟨u1,hu1⟩:∃ u,a.tmps.getD 86 undef=u:=⟨_,rfl⟩;have q1:(D9.strs [[73,78,67],[68,69,67]]).holds W0.heap.size u1 W:=hu1 ▸ hd 0 sm;have e1:=(aJ a 86).symm.trans hu1;have e2:a.tmps[87]?.getD undef=_:=(aJ a 87).symm.trans (hd 1 sm);obtain⟨g,hg,q1⟩:=q1;subst hg;rcases HJ.out with⟨rfl,rfl⟩|⟨rfl,rfl⟩;all_goals
      go_simp;exact hv dc _ _ br ⟨_,rfl,q1⟩
   · refine⟨_,[2],rfl,rfl,(fun j hj=>by obtain rfl:=List.mem_singleton.1 hj;exact⟨dc,⟨2,.data⟩,by simp,rfl,rfl⟩),?_⟩;intro R a W hA hk hbw hd hv hs;obtain⟨u1,hu1⟩:∃ u,a.tmps.getD 88 undef=u:=⟨_,rfl⟩;have q1:(D9.strAt [[73,78,67],[68,69,67]] q.toNat).holds W0.heap.size u1 W:=hu1 ▸ hd 2 sm;have e1:=(aJ a 88).symm.trans hu1;obtain⟨g,hg,q1,q3⟩:=q1;subst hg;rcases HJ.out with⟨rfl,rfl⟩|⟨rfl,rfl⟩;all_goals
      have m0:=aC q3 0;have m1:=aC q3 1;simp only[List.map_cons,List.map_nil,List.getElem?_toArray,List.getElem?_cons_succ,List.getElem?_cons_zero] at m0 m1;go_simp;exact hv dc _ _ br rfl
   · refine⟨_,[],rfl,rfl,(fun j hj=>by cases hj),?_⟩;intro R a W hA hk hbw hd hv hs;have e6:=hA.get (k:=6) (by rfl) (by rfl);have hbk:=(hk.block _ (aA H1.out) HN1.out).trans H1.out;have c0:=aC hbk 0;have c1:=aC hbk 1;have c2:=aC hbk 2;go_simp;exact hv dc _ _ br rfl
   · refine⟨_,[4],rfl,rfl,(fun j hj=>by obtain rfl:=List.mem_singleton.1 hj;exact⟨dc,⟨4,.data⟩,by simp,rfl,rfl⟩),?_⟩;intro R a W hA hk hbw hd hv hs;have e1:a.tmps[90]?.getD undef=_:=(aJ a 90).symm.trans (hd 4 sm);go_simp;(with_reducible refine (Er (3,k,0) _ W0.heap.size hk.size).mono ?_);rintro e w' ⟨v,rfl,hr,hb⟩;exact hv dc _ _ hb hr
   · refine⟨_,[3,5],rfl,rfl,(fun j hj=>by simp only[List.mem_cons,List.not_mem_nil,or_false] at hj;rcases hj with rfl|rfl;exact⟨dc,⟨3,.data⟩,by simp,rfl,rfl⟩;exact⟨dc,⟨5,.data⟩,by simp,rfl,rfl⟩),?_⟩;intro R a W hA hk hbw hd hv hs;have e2:a.tmps[89]?.getD undef=_:=(aJ a 89).symm.trans (hd 3 sm);obtain⟨u1,hu1⟩:∃ u,a.tmps.getD 91 undef=u:=⟨_,rfl⟩;have q1:RowV W0.heap.size [(3,k,0)] u1 W:=hu1 ▸ hd 5 sm;have e1:=(aJ a 91).symm.trans hu1;go_simp;(with_reducible refine (dX nm [(3,k,0)] u1 W0.heap.size _ (RowN.of q1)).mono ?_);rintro e w' ⟨v,rfl,hr,hb⟩;exact hv dc _ _ hb hr
   · refine⟨_,[6],rfl,rfl,(fun j hj=>by obtain rfl:=List.mem_singleton.1 hj;exact⟨dc,⟨6,.data⟩,by simp,rfl,rfl⟩),?_⟩;intro R a W hA hk hbw hd hv hs;obtain⟨u1,hu1⟩:∃ u,a.tmps.getD 92 undef=u:=⟨_,rfl⟩;have q1:(D9.ins (nm,[(3,k,0)])).holds W0.heap.size u1 W:=hu1 ▸ hd 6 sm;have e1:=(aJ a 92).symm.trans hu1;obtain⟨z,hz,q1⟩:=q1;subst hz;obtain⟨z1,z2,z3,rfl⟩:=q1.slice;have hr:=aB HB0.out (hbw rfl) (aA HB0.out);have c0:=aC hr 0;have c1:=aC hr 1;have f0:=aH hr 0;have f1:=aH hr 1;have hlt:=aA hr;have e4:=hA.get (k:=4) (by rfl) (by rfl);go_simp;have hkk:=fun x y=>Kb.setCell (Kb.setCell (Kb.refl w.heap.size W) 0 x) 1 y;exact hs rfl _ (hkk _ _) ⟨_,aG (aG hr),q1.kb HRB.out (hkk _ _)⟩
   · refine⟨_,[],rfl,rfl,(fun j hj=>by cases hj),?_⟩;intro R a W hA hk hbw hd hv hs;go_simp;exact hv dc _ _ br rfl
 · intro a W1 hA hkb _ hd hst;obtain⟨u,hr,hz⟩:(D9.stored w.heap.size (nm,[(3,k,0)])).holds W0.heap.size undef W1:=hst dc;obtain⟨z1,z2,z3,rfl⟩:=hz.slice;have e4:=hA.get (k:=4) (by rfl) (by rfl);have e5:a.tmps[5]?.getD undef=_:=(aJ a 5).symm.trans (hd 8 dc dc);have c0:=aC hr 0;have c1:=aC hr 1;obtain⟨ts,df⟩:=a;obtain rfl:df=[]:=hA.defers;clear hA hst hd;have HZ:=Hh hz;have HKB:=Hh hkb;clear hz hkb hr;go_wp2_with fail
   refine bodyPost_ret (v:=.tuple #[.agg #[.string ⟨((nm,[(3,k,0)])).1.toArray⟩,.slice z1 z2 z3],.string ⟨([]).toArray⟩]) (by simp[results,results121,go_sem, *]) rfl ?_;exact⟨_,rfl,Ef (i:=(nm,[(3,k,0)])) HZ.out HBW.out sm HKB.out⟩
end Go.Proofs.YtoigglljnklhlaaGreatDoor
