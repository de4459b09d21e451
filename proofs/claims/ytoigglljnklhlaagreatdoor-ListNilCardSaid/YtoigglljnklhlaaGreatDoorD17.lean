/- Joined. -/
import Derived.Test.YtoigglljnklhlaaGreatDoorD16
set_option maxHeartbeats 8000000
set_option maxRecDepth 100000
namespace Go.Proofs.YtoigglljnklhlaaGreatDoor
open Go.RowKit Go.Sort
open Go.Proofs.Tryz
def cW (ex:List UInt8) (args:List Op3):Int × Option (Int × Int) :=
 if 101∈ex then (dK [10] args,some (-128,127)) else if 110∈ex then (dK [6,7] args,some (0,255)) else if 119∈ex then (dK [6,7] args,some (0,65535)) else (dK [6,7] args,none)
def Ea (x:Int × Option (Int × Int)) (w:World) (e:Ending) (w':World):Prop :=
 ∃ f,e=.returned (.tuple #[.agg #[.int .i64 x.1,f],.bool (x.2.isSome && decide (0≤x.1))])∧(∀ lo hi,x.2=some (lo,hi)→InF w' w.heap.size lo hi f)∧(x.2=none→f=.nilFunc)∧Below w.heap.size w w'
theorem Rk (W:World) (x y:Value) (T:TypeId):Row (W.alloc (.cells #[x,y] T)) (.slice (some ⟨W.heap.size,0,none⟩) 2 2) 2 [x,y]:=mD W [x,y] T
theorem Rm (W:World) (x:Value) (T:TypeId):Row (W.alloc (.cells #[x] T)) (.slice (some ⟨W.heap.size,0,none⟩) 1 1) 1 [x]:=mD W [x] T
theorem Sg (w:World) (b:Nat) (R lo hi:Int) (w5:World) (v0 v1:Value) (hb:Below w.heap.size w w5) (h1:w.heap.size+1<b) (h2:b<w5.heap.size) (h4:w5.heap[b]? = some (.cells #[v0,v1] 291 (0,0)))
 (h5:w5.heap[w.heap.size+1]? = some (.cells #[.int .i64 0,.nilFunc] 291 (0,0))) :
 ((((w5.setCell ⟨b,0,none⟩ (.int .i64 R)).setCell ⟨b,1,none⟩ (.func (.func 287) #[] #[.pointer (some ⟨w5.heap.size,0,none⟩),.pointer (some ⟨w5.heap.size+1,0,none⟩)])).alloc (.cells #[.int .i64 lo] 3)).alloc (.cells #[.int .i64 hi] 3)).heap[b]? = some (.cells #[.int .i64 R,(.func (.func 287) #[] #[.pointer (some ⟨w5.heap.size,0,none⟩),.pointer (some ⟨w5.heap.size+1,0,none⟩)])] 291 (0,0)) ∧
 ((((w5.setCell ⟨b,0,none⟩ (.int .i64 R)).setCell ⟨b,1,none⟩ (.func (.func 287) #[] #[.pointer (some ⟨w5.heap.size,0,none⟩),.pointer (some ⟨w5.heap.size+1,0,none⟩)])).alloc (.cells #[.int .i64 lo] 3)).alloc (.cells #[.int .i64 hi] 3)).heap[w.heap.size+1]? = some (.cells #[.int .i64 0,.nilFunc] 291 (0,0)) ∧
 ∀ X,X=(((((w5.setCell ⟨b,0,none⟩ (.int .i64 R)).setCell ⟨b,1,none⟩ (.func (.func 287) #[] #[.pointer (some ⟨w5.heap.size,0,none⟩),.pointer (some ⟨w5.heap.size+1,0,none⟩)])).alloc (.cells #[.int .i64 lo] 3)).alloc (.cells #[.int .i64 hi] 3)).setCell ⟨w.heap.size+1,0,none⟩ (.int .i64 R)).setCell ⟨w.heap.size+1,1,none⟩ (.func (.func 287) #[] #[.pointer (some ⟨w5.heap.size,0,none⟩),.pointer (some ⟨w5.heap.size+1,0,none⟩)])→InF X w.heap.size lo hi (.func (.func 287) #[] #[.pointer (some ⟨w5.heap.size,0,none⟩),.pointer (some ⟨w5.heap.size+1,0,none⟩)])∧Below w.heap.size w X:=by
 obtain⟨W,hW⟩:∃ W,(w5.setCell ⟨b,0,none⟩ (.int .i64 R)).setCell ⟨b,1,none⟩ (.func (.func 287) #[] #[.pointer (some ⟨w5.heap.size,0,none⟩),.pointer (some ⟨w5.heap.size+1,0,none⟩)])=W:=⟨_,rfl⟩;have hs:W.heap.size=w5.heap.size:=by rw[←hW,setCell_size,setCell_size]
 have hbw:Below w.heap.size w W:=by rw[←hW];exact (hb.setCell (p:=⟨b,0,none⟩) (by show w.heap.size≤b;omega) _).setCell (p:=⟨b,1,none⟩) (by show w.heap.size≤b;omega) _
 have k4:W.heap[b]? = some (.cells #[.int .i64 R,(.func (.func 287) #[] #[.pointer (some ⟨w5.heap.size,0,none⟩),.pointer (some ⟨w5.heap.size+1,0,none⟩)])] 291 (0,0)):=by rw[←hW];exact aG (aG h4)
 have k5:W.heap[w.heap.size+1]? = some (.cells #[.int .i64 0,.nilFunc] 291 (0,0)):=by rw[←hW];exact aD (aD h5 om) om
 rw[hW];clear hW;have m1:((W.alloc (.cells #[.int .i64 lo] 3)).alloc (.cells #[.int .i64 hi] 3)).heap[w5.heap.size]? = some (.cells #[.int .i64 lo] 3 (0,0)):=by rw[←hs];exact aE (aF _ _)
 have m2:((W.alloc (.cells #[.int .i64 lo] 3)).alloc (.cells #[.int .i64 hi] 3)).heap[w5.heap.size+1]? = some (.cells #[.int .i64 hi] 3 (0,0)):=by
  have:=aF (W.alloc (.cells #[.int .i64 lo] 3)) (.cells #[.int .i64 hi] 3)
  rwa [World.size_alloc,hs] at this
 have hb2:Below w.heap.size w ((W.alloc (.cells #[.int .i64 lo] 3)).alloc (.cells #[.int .i64 hi] 3)):=(hbw.alloc hbw.size _).alloc (by rw[World.size_alloc];have:=hbw.size;omega) _;have hs2:((W.alloc (.cells #[.int .i64 lo] 3)).alloc (.cells #[.int .i64 hi] 3)).heap.size=w5.heap.size+1+1:=by rw[World.size_alloc,World.size_alloc,hs]
 refine⟨aE (aE k4),aE (aE k5),fun X hX=>?_⟩;rw[hX];refine⟨⟨w5.heap.size,w5.heap.size+1,rfl,om,om,by rw[setCell_size,setCell_size,hs2];omega,by rw[setCell_size,setCell_size,hs2];omega,?_,?_⟩,(hb2.setCell (p:=⟨w.heap.size+1,0,none⟩) (by show w.heap.size≤w.heap.size+1;omega) _).setCell (p:=⟨w.heap.size+1,1,none⟩) (by show w.heap.size≤w.heap.size+1;omega) _⟩
 · exact aC (aD (aD m1 om) om) 0
 · exact aC (aD (aD m2 om) om) 0
theorem yP (w:World) (R lo hi:Int) (w3:World) (hb:Below w.heap.size w w3) (h1:w.heap.size+1<w3.heap.size)
 (h5:w3.heap[w.heap.size+1]? = some (.cells #[.int .i64 0,.nilFunc] 291 (0,0))) :
 (((w3.alloc (.cells #[.int .i64 R,(.func (.func 287) #[] #[.pointer (some ⟨w3.heap.size+1,0,none⟩),.pointer (some ⟨w3.heap.size+1+1,0,none⟩)])] 291)).alloc (.cells #[.int .i64 lo] 3)).alloc (.cells #[.int .i64 hi] 3)).heap[w3.heap.size]? = some (.cells #[.int .i64 R,(.func (.func 287) #[] #[.pointer (some ⟨w3.heap.size+1,0,none⟩),.pointer (some ⟨w3.heap.size+1+1,0,none⟩)])] 291 (0,0)) ∧
 (((w3.alloc (.cells #[.int .i64 R,(.func (.func 287) #[] #[.pointer (some ⟨w3.heap.size+1,0,none⟩),.pointer (some ⟨w3.heap.size+1+1,0,none⟩)])] 291)).alloc (.cells #[.int .i64 lo] 3)).alloc (.cells #[.int .i64 hi] 3)).heap[w.heap.size+1]? = some (.cells #[.int .i64 0,.nilFunc] 291 (0,0))∧w.heap.size+1<(((w3.alloc (.cells #[.int .i64 R,(.func (.func 287) #[] #[.pointer (some ⟨w3.heap.size+1,0,none⟩),.pointer (some ⟨w3.heap.size+1+1,0,none⟩)])] 291)).alloc (.cells #[.int .i64 lo] 3)).alloc (.cells #[.int .i64 hi] 3)).heap.size ∧
 ∀ X,X=((((w3.alloc (.cells #[.int .i64 R,(.func (.func 287) #[] #[.pointer (some ⟨w3.heap.size+1,0,none⟩),.pointer (some ⟨w3.heap.size+1+1,0,none⟩)])] 291)).alloc (.cells #[.int .i64 lo] 3)).alloc (.cells #[.int .i64 hi] 3)).setCell ⟨w.heap.size+1,0,none⟩ (.int .i64 R)).setCell ⟨w.heap.size+1,1,none⟩ (.func (.func 287) #[] #[.pointer (some ⟨w3.heap.size+1,0,none⟩),.pointer (some ⟨w3.heap.size+1+1,0,none⟩)])→InF X w.heap.size lo hi (.func (.func 287) #[] #[.pointer (some ⟨w3.heap.size+1,0,none⟩),.pointer (some ⟨w3.heap.size+1+1,0,none⟩)])∧Below w.heap.size w X:=by
 have m1:(((w3.alloc (.cells #[.int .i64 R,(.func (.func 287) #[] #[.pointer (some ⟨w3.heap.size+1,0,none⟩),.pointer (some ⟨w3.heap.size+1+1,0,none⟩)])] 291)).alloc (.cells #[.int .i64 lo] 3)).alloc (.cells #[.int .i64 hi] 3)).heap[w3.heap.size+1]? = some (.cells #[.int .i64 lo] 3 (0,0)):=by
  have:=aF (w3.alloc (.cells #[.int .i64 R,(.func (.func 287) #[] #[.pointer (some ⟨w3.heap.size+1,0,none⟩),.pointer (some ⟨w3.heap.size+1+1,0,none⟩)])] 291)) (.cells #[.int .i64 lo] 3)
  rw[World.size_alloc] at this;exact aE this
 have m2:(((w3.alloc (.cells #[.int .i64 R,(.func (.func 287) #[] #[.pointer (some ⟨w3.heap.size+1,0,none⟩),.pointer (some ⟨w3.heap.size+1+1,0,none⟩)])] 291)).alloc (.cells #[.int .i64 lo] 3)).alloc (.cells #[.int .i64 hi] 3)).heap[w3.heap.size+1+1]? = some (.cells #[.int .i64 hi] 3 (0,0)):=by
  have:=aF ((w3.alloc (.cells #[.int .i64 R,(.func (.func 287) #[] #[.pointer (some ⟨w3.heap.size+1,0,none⟩),.pointer (some ⟨w3.heap.size+1+1,0,none⟩)])] 291)).alloc (.cells #[.int .i64 lo] 3)) (.cells #[.int .i64 hi] 3)
  rwa [World.size_alloc,World.size_alloc] at this
 have hs:=hb.size;have hb2:Below w.heap.size w (((w3.alloc (.cells #[.int .i64 R,(.func (.func 287) #[] #[.pointer (some ⟨w3.heap.size+1,0,none⟩),.pointer (some ⟨w3.heap.size+1+1,0,none⟩)])] 291)).alloc (.cells #[.int .i64 lo] 3)).alloc (.cells #[.int .i64 hi] 3)):=((hb.alloc hb.size _).alloc (by rw[World.size_alloc];omega) _).alloc (by rw[World.size_alloc,World.size_alloc];omega) _;have hs2:(((w3.alloc (.cells #[.int .i64 R,(.func (.func 287) #[] #[.pointer (some ⟨w3.heap.size+1,0,none⟩),.pointer (some ⟨w3.heap.size+1+1,0,none⟩)])] 291)).alloc (.cells #[.int .i64 lo] 3)).alloc (.cells #[.int .i64 hi] 3)).heap.size=w3.heap.size+1+1+1:=by rw[World.size_alloc,World.size_alloc,World.size_alloc]
 refine⟨aE (aE (aF _ _)),aE (aE (aE h5)),om,fun X hX=>?_⟩
 rw[hX];refine⟨⟨w3.heap.size+1,w3.heap.size+1+1,rfl,om,om,by rw[setCell_size,setCell_size,hs2];omega,by rw[setCell_size,setCell_size,hs2];omega,?_,?_⟩,(hb2.setCell (p:=⟨w.heap.size+1,0,none⟩) (by show w.heap.size≤w.heap.size+1;omega) _).setCell (p:=⟨w.heap.size+1,1,none⟩) (by show w.heap.size≤w.heap.size+1;omega) _⟩
 · exact aC (aD (aD m1 om) om) 0
 · exact aC (aD (aD m2 om) om) 0
theorem nY (E:Ent) (ve:Value) (w:World) (he:Row w ve E.args.length (opc E.args)) (hel:E.args.length≤1000) :
 Calls prog 233 #[cP E ve] w (Ea (cW E.extra E.args) w):=by
 obtain⟨page,op,mn,args,ex,al⟩:=E;dsimp only at he hel ⊢;have HR:=Hh he;obtain⟨ae,ce,rfl,_,_⟩:=he;show Calls prog 233 #[.agg #[.int .i64 page,.int .u8 op,.string ⟨mn.toArray⟩,.slice ae args.length ce,.string ⟨ex.toArray⟩,.bool al]] w _
 have hlast:=fun X vk (hb:Below w.heap.size w X) (hk:Row X vk 2 [Value.int .i64 6,Value.int .i64 7])=>sM mn (.slice ae args.length ce) vk args [6,7] X (HR.out.below hb) hel hk dc dc;have hlast2:=fun X vk (hb:Below w.heap.size w X) (hk:Row X vk 1 [Value.int .i64 10])=>sM mn (.slice ae args.length ce) vk args [10] X (HR.out.below hb) hel hk dc dc;obtain⟨R,hR⟩:∃ R,dK [6,7] args=R:=⟨_,rfl⟩;obtain⟨R2,hR2⟩:∃ R,dK [10] args=R:=⟨_,rfl⟩;have hspec:cW ex args=if 101∈ex then (R2,some (-128,127)) else if 110∈ex then (R,some (0,255)) else if 119∈ex then (R,some (0,65535)) else (R,none):=by rw[←hR,←hR2];rfl
 rw[hspec];clear hspec;rw[hR] at hlast;rw[hR2] at hlast2;have HL:=Hh hlast;clear hlast hR;have HL2:=Hh hlast2;clear hlast2 hR2;have hce:=fun X=>gI ex 101 X;have hcn:=fun X=>gI ex 110 X;have hcw:=fun X=>gI ex 119 X;have hb5:Below w.heap.size w (((w.alloc (.cells #[.int .i64 page,.int .u8 op,.string ⟨mn.toArray⟩,.slice ae args.length ce,.string ⟨ex.toArray⟩,.bool al] 211)).alloc (.cells #[.int .i64 0,.nilFunc] 291)).alloc (.cells #[.int .i64 6,.int .i64 7] 3)):=((br.alloc lr _).alloc sm _).alloc (by simp;omega) _;have hsz5:(((w.alloc (.cells #[.int .i64 page,.int .u8 op,.string ⟨mn.toArray⟩,.slice ae args.length ce,.string ⟨ex.toArray⟩,.bool al] 211)).alloc (.cells #[.int .i64 0,.nilFunc] 291)).alloc (.cells #[.int .i64 6,.int .i64 7] 3)).heap.size=w.heap.size+1+1+1:=by simp
 have hrow5:=Rk ((w.alloc (.cells #[.int .i64 page,.int .u8 op,.string ⟨mn.toArray⟩,.slice ae args.length ce,.string ⟨ex.toArray⟩,.bool al] 211)).alloc (.cells #[.int .i64 0,.nilFunc] 291)) (.int .i64 6) (.int .i64 7) 3;rw[World.size_alloc,World.size_alloc] at hrow5;have h0:(((w.alloc (.cells #[.int .i64 page,.int .u8 op,.string ⟨mn.toArray⟩,.slice ae args.length ce,.string ⟨ex.toArray⟩,.bool al] 211)).alloc (.cells #[.int .i64 0,.nilFunc] 291)).alloc (.cells #[.int .i64 6,.int .i64 7] 3)).heap[w.heap.size]? = some (.cells #[.int .i64 page,.int .u8 op,.string ⟨mn.toArray⟩,.slice ae args.length ce,.string ⟨ex.toArray⟩,.bool al] 211 (0,0)):=aE (aE (aF _ _));have h1:(((w.alloc (.cells #[.int .i64 page,.int .u8 op,.string ⟨mn.toArray⟩,.slice ae args.length ce,.string ⟨ex.toArray⟩,.bool al] 211)).alloc (.cells #[.int .i64 0,.nilFunc] 291)).alloc (.cells #[.int .i64 6,.int .i64 7] 3)).heap[w.heap.size+1]? = some (.cells #[.int .i64 0,.nilFunc] 291 (0,0)):=by
  have:=aF (w.alloc (.cells #[.int .i64 page,.int .u8 op,.string ⟨mn.toArray⟩,.slice ae args.length ce,.string ⟨ex.toArray⟩,.bool al] 211)) (.cells #[.int .i64 0,.nilFunc] 291)
  rw[World.size_alloc] at this;exact aE this
 have HPRE:=Hh (And.intro hb5 (And.intro hsz5 (And.intro hrow5 (And.intro h0 h1))));clear hb5 hsz5 hrow5 h0 h1;have hstart:∀ (K:World→Prop),(∀ w3,w.heap.size+1+1≤w3.heap.size→w3.heap[w.heap.size]? = some (.cells #[.int .i64 page,.int .u8 op,.string ⟨mn.toArray⟩,.slice ae args.length ce,.string ⟨ex.toArray⟩,.bool al] 211 (0,0))→w3.heap[w.heap.size+1]? = some (.cells #[.int .i64 0,.nilFunc] 291 (0,0))→Below w.heap.size w w3→K w3)→True:=fun _ _=>trivial;clear hstart;by_cases d1:101∈ex
 · rw[if_pos d1];rw[decide_eq_true d1] at hce;have HCE:=Hh hce;clear hce hcn hcw d1;go_enter func233,ntmps233
   go_wp2_with fail
   obtain⟨p1,p2,p3,p4,p5⟩:=HPRE.out;refine (HL.out _ _ p1 p3).mono ?_;rintro e w3 ⟨rfl,hb3⟩;have hs3:=hb3.size;have hlt:w.heap.size+1+1<w3.heap.size:=om
   have h03:=aB p4 hb3 om;have h13:=aB p5 hb3 om;have HB3:=Hh (p1.trans (hb3.mono p1.size));obtain⟨⟨_,_,t2,t3,t4,_⟩,_⟩:=aN h03;have H13:=Hh h13;clear p1 p2 p3 p4 p5 hb3 hs3 h03 h13;have hl0:w.heap.size<w3.heap.size:=om
   have hl1:w.heap.size+1<w3.heap.size:=om
   go_wp2_with fail
   refine (HCE.out _).mono ?_;rintro e w4 ⟨rfl,rfl⟩;go_wp2_with fail
   have q1:Below w3.heap.size w3 ((w3.alloc (.cells #[.int .i64 R,.nilFunc] 291)).alloc (.cells #[.int .i64 10] 3)):=(br.alloc lr _).alloc sm _;have q2:=Rm (w3.alloc (.cells #[.int .i64 R,.nilFunc] 291)) (.int .i64 10) 3;rw[World.size_alloc] at q2;have q3:((w3.alloc (.cells #[.int .i64 R,.nilFunc] 291)).alloc (.cells #[.int .i64 10] 3)).heap[w3.heap.size]? = some (.cells #[.int .i64 R,.nilFunc] 291 (0,0)):=aE (aF _ _);refine (HL2.out _ _ (HB3.out.trans (q1.mono HB3.out.size)) q2).mono ?_;rintro e w5 ⟨rfl,hb5⟩;have hs5:w3.heap.size+1+1≤w5.heap.size:=by have:=hb5.size;simp at this;omega
   have h35:Below w3.heap.size w3 w5:=q1.trans (hb5.mono q1.size);have h45:=aB q3 hb5 (by simp;omega);have h15:=aB H13.out h35 hl1;have HB5:=Hh (HB3.out.trans (h35.mono HB3.out.size));clear q1 q2 q3 hb5 h35;have H45:=Hh h45;have H15:=Hh h15;obtain⟨a0,a1,a2,a3⟩:=aL h45;clear h45 h15;have hl4:w3.heap.size<w5.heap.size:=om
   go_wp2_with fail
   refine (wP (-128) 127 _).mono ?_;rintro e w6 ⟨rfl,rfl⟩;go_wp2_with fail
   have HF:=Sg w w3.heap.size R2 (-128) 127 w5 _ _ HB5.out om hl4 H45.out H15.out;obtain⟨V,hV⟩:∃ V,((((w5.setCell ⟨w3.heap.size,0,none⟩ (.int .i64 R2)).setCell ⟨w3.heap.size,1,none⟩ (.func (.func 287) #[] #[.pointer (some ⟨w5.heap.size,0,none⟩),.pointer (some ⟨w5.heap.size+1,0,none⟩)])).alloc (.cells #[.int .i64 (-128)] 3)).alloc (.cells #[.int .i64 127] 3))=V:=⟨_,rfl⟩;rw[hV] at HF ⊢;obtain⟨v4,v2,hfin⟩:=HF;obtain⟨z0,z1,y0,y1⟩:=aL v4;obtain⟨r0,r1,x0,x1⟩:=aL v2;have HFIN:=Hh hfin;have hne:w3.heap.size≠w.heap.size+1:=om
   clear hfin hV v4 v2 a0 a1 a2 a3;go_region
   all_goals
    obtain⟨hin,hbe⟩:=HFIN.out _ rfl;have HIN:=Hh hin;have HBE:=Hh hbe;clear hin hbe;go_wp2_with fail
    refine bodyPost_ret (v:=.tuple #[.agg #[.int .i64 R2,(.func (.func 287) #[] #[.pointer (some ⟨w5.heap.size,0,none⟩),.pointer (some ⟨w5.heap.size+1,0,none⟩)])],.bool (decide (0≤R2))]) (by simp[results,results233,go_sem,r0,r1]) rfl ⟨_,rfl,fun lo hi e=>?_,fun e=>(by cases e),HBE.out.trans ⟨rfl,rfl,rfl,Nat.le_refl _,fun _ _=>rfl⟩⟩;cases e
    exact HIN.out
 · rw[if_neg d1];rw[decide_eq_false d1] at hce;have HCE:=Hh hce;clear hce d1;by_cases d2:110∈ex
   · rw[if_pos d2];rw[decide_eq_true d2] at hcn;have HCN:=Hh hcn;clear hcn hcw d2;go_enter func233,ntmps233
     go_wp2_with fail
     obtain⟨p1,p2,p3,p4,p5⟩:=HPRE.out;refine (HL.out _ _ p1 p3).mono ?_;rintro e w3 ⟨rfl,hb3⟩;have hs3:=hb3.size;have hlt:w.heap.size+1+1<w3.heap.size:=om
     have h03:=aB p4 hb3 om;have h13:=aB p5 hb3 om;have HB3:=Hh (p1.trans (hb3.mono p1.size));obtain⟨⟨_,_,t2,t3,t4,_⟩,_⟩:=aN h03;have H13:=Hh h13;clear p1 p2 p3 p4 p5 hb3 hs3 h03 h13;have hl0:w.heap.size<w3.heap.size:=om
     have hl1:w.heap.size+1<w3.heap.size:=om
     go_wp2_with fail
     refine (HCE.out _).mono ?_;rintro e w4 ⟨rfl,rfl⟩;go_wp2_with fail
     refine (HCN.out _).mono ?_;rintro e w4 ⟨rfl,rfl⟩;go_wp2_with fail
     refine (wP 0 255 _).mono ?_;rintro e w6 ⟨rfl,rfl⟩;go_wp2_with fail
     have HF:=yP w R 0 255 w3 HB3.out hl1 H13.out;obtain⟨V,hV⟩:∃ V,(((w3.alloc (.cells #[.int .i64 R,(.func (.func 287) #[] #[.pointer (some ⟨w3.heap.size+1,0,none⟩),.pointer (some ⟨w3.heap.size+1+1,0,none⟩)])] 291)).alloc (.cells #[.int .i64 0] 3)).alloc (.cells #[.int .i64 255] 3))=V:=⟨_,rfl⟩;rw[hV] at HF ⊢;obtain⟨v4,v2,hlV,hfin⟩:=HF;obtain⟨z0,z1,y0,y1⟩:=aL v4;obtain⟨r0,r1,x0,x1⟩:=aL v2;have HFIN:=Hh hfin;have hne:w3.heap.size≠w.heap.size+1:=om
     clear hfin hV v4 v2;go_region
     all_goals
      obtain⟨hin,hbe⟩:=HFIN.out _ rfl;have HIN:=Hh hin;have HBE:=Hh hbe;clear hin hbe;go_wp2_with fail
      refine bodyPost_ret (v:=.tuple #[.agg #[.int .i64 R,(.func (.func 287) #[] #[.pointer (some ⟨w3.heap.size+1,0,none⟩),.pointer (some ⟨w3.heap.size+1+1,0,none⟩)])],.bool (decide (0≤R))]) (by simp[results,results233,go_sem,r0,r1]) rfl ⟨_,rfl,fun lo hi e=>?_,fun e=>(by cases e),HBE.out.trans ⟨rfl,rfl,rfl,Nat.le_refl _,fun _ _=>rfl⟩⟩;cases e
      exact HIN.out
   · rw[if_neg d2];rw[decide_eq_false d2] at hcn;have HCN:=Hh hcn;clear hcn d2;by_cases d3:119∈ex
     · rw[if_pos d3];rw[decide_eq_true d3] at hcw;have HCW:=Hh hcw;clear hcw d3;go_enter func233,ntmps233
       go_wp2_with fail
       obtain⟨p1,p2,p3,p4,p5⟩:=HPRE.out;refine (HL.out _ _ p1 p3).mono ?_;rintro e w3 ⟨rfl,hb3⟩;have hs3:=hb3.size;have hlt:w.heap.size+1+1<w3.heap.size:=om
       have h03:=aB p4 hb3 om;have h13:=aB p5 hb3 om;have HB3:=Hh (p1.trans (hb3.mono p1.size));obtain⟨⟨_,_,t2,t3,t4,_⟩,_⟩:=aN h03;have H13:=Hh h13;clear p1 p2 p3 p4 p5 hb3 hs3 h03 h13;have hl0:w.heap.size<w3.heap.size:=om
       have hl1:w.heap.size+1<w3.heap.size:=om
       go_wp2_with fail
       refine (HCE.out _).mono ?_;rintro e w4 ⟨rfl,rfl⟩;go_wp2_with fail
       refine (HCN.out _).mono ?_;rintro e w4 ⟨rfl,rfl⟩;go_wp2_with fail
       refine (HCW.out _).mono ?_;rintro e w4 ⟨rfl,rfl⟩;go_wp2_with fail
       refine (wP 0 65535 _).mono ?_;rintro e w6 ⟨rfl,rfl⟩;go_wp2_with fail
       have HF:=yP w R 0 65535 w3 HB3.out hl1 H13.out;obtain⟨V,hV⟩:∃ V,(((w3.alloc (.cells #[.int .i64 R,(.func (.func 287) #[] #[.pointer (some ⟨w3.heap.size+1,0,none⟩),.pointer (some ⟨w3.heap.size+1+1,0,none⟩)])] 291)).alloc (.cells #[.int .i64 0] 3)).alloc (.cells #[.int .i64 65535] 3))=V:=⟨_,rfl⟩;rw[hV] at HF ⊢;obtain⟨v4,v2,hlV,hfin⟩:=HF;obtain⟨z0,z1,y0,y1⟩:=aL v4;obtain⟨r0,r1,x0,x1⟩:=aL v2;have HFIN:=Hh hfin;have hne:w3.heap.size≠w.heap.size+1:=om
       clear hfin hV v4 v2;go_region
       all_goals
        obtain⟨hin,hbe⟩:=HFIN.out _ rfl;have HIN:=Hh hin;have HBE:=Hh hbe;clear hin hbe;go_wp2_with fail
        refine bodyPost_ret (v:=.tuple #[.agg #[.int .i64 R,(.func (.func 287) #[] #[.pointer (some ⟨w3.heap.size+1,0,none⟩),.pointer (some ⟨w3.heap.size+1+1,0,none⟩)])],.bool (decide (0≤R))]) (by simp[results,results233,go_sem,r0,r1]) rfl ⟨_,rfl,fun lo hi e=>?_,fun e=>(by cases e),HBE.out.trans ⟨rfl,rfl,rfl,Nat.le_refl _,fun _ _=>rfl⟩⟩;cases e
        exact HIN.out
     · rw[if_neg d3];rw[decide_eq_false d3] at hcw;have HCW:=Hh hcw;clear hcw d3;go_enter func233,ntmps233
       go_wp2_with fail
       obtain⟨p1,p2,p3,p4,p5⟩:=HPRE.out;refine (HL.out _ _ p1 p3).mono ?_;rintro e w3 ⟨rfl,hb3⟩;have hs3:=hb3.size;have hlt:w.heap.size+1+1<w3.heap.size:=om
       have h03:=aB p4 hb3 om;have h13:=aB p5 hb3 om;have HB3:=Hh (p1.trans (hb3.mono p1.size));obtain⟨⟨_,_,t2,t3,t4,_⟩,_⟩:=aN h03;have H13:=Hh h13;clear p1 p2 p3 p4 p5 hb3 hs3 h03 h13;have hl0:w.heap.size<w3.heap.size:=om
       have hl1:w.heap.size+1<w3.heap.size:=om
       go_wp2_with fail
       refine (HCE.out _).mono ?_;rintro e w4 ⟨rfl,rfl⟩;go_wp2_with fail
       refine (HCN.out _).mono ?_;rintro e w4 ⟨rfl,rfl⟩;go_wp2_with fail
       obtain⟨r0,r1,x0,x1⟩:=aL H13.out;refine (HCW.out _).mono ?_;rintro e w4 ⟨rfl,rfl⟩;go_wp2_with fail
       have h9:(((w3.setCell ⟨w.heap.size+1,0,none⟩ (.int .i64 R)).setCell ⟨w.heap.size+1,1,none⟩ .nilFunc).alloc (.cells #[.int .i64 R,.nilFunc] 291)).heap[w.heap.size+1]? = some (.cells #[.int .i64 R,.nilFunc] 291 (0,0)):=aE (aG (aG H13.out));obtain⟨n0,n1,_,_⟩:=aL h9;refine bodyPost_ret (v:=.tuple #[.agg #[.int .i64 R,.nilFunc],.bool false]) (by simp[results,results233,go_sem,n0,n1]) rfl ⟨_,rfl,fun lo hi e=>(by cases e),fun _=>rfl,?_⟩;exact ((HB3.out.setCell (p:=⟨w.heap.size+1,0,none⟩) (by show w.heap.size≤w.heap.size+1;omega) _).setCell (p:=⟨w.heap.size+1,1,none⟩) (by show w.heap.size≤w.heap.size+1;omega) _).alloc (by rw[setCell_size,setCell_size];exact HB3.out.size) _
theorem Oy (v f:Value) (p:Int) (b:Nat) (w:World) (hv:v=.agg #[.int .i64 p,f]) (hf:f=.nilFunc∨∃ fn b1 b2,f=.func (.func fn) #[] #[.pointer (some ⟨b1,0,none⟩),.pointer (some ⟨b2,0,none⟩)]) :
 Calls prog 243 #[v,.bool false,.pointer (some ⟨b,0,none⟩)] w fun e w'=>e=.returned (.int .i64 0)∧Below w.heap.size w w':=by
 subst hv;rcases hf with rfl|⟨fn,b1,b2,rfl⟩
 · go_enter func243,ntmps243
   go_wp2_with fail
   go_ret;exact⟨rfl,bl⟩
 · go_enter func243,ntmps243
   go_wp2_with fail
   go_ret;exact⟨rfl,bl⟩
theorem Oz (lo hi:Int) (f:Value) (k b base:Nat) (m:List UInt8) (v:Value) (l:List Op3) (o:Op3) (w:World) (hf:InF w 0 lo hi f) (hb:w.heap[b]? = some (.cells #[.string ⟨m.toArray⟩,v] 53 (0,0))) (hr:WRow w base v l.length (opc l)) (hbb:v.ownBlock≠some b) (hl:l.length≤1000) (ho:l[k]? = some o) (hin:(decide (lo≤o.2.2) && decide (o.2.2≤hi))=true) :
 Calls prog 243 #[.agg #[.int .i64 k,f],.bool true,.pointer (some ⟨b,0,none⟩)] w fun e w'=>e=.returned (.int .i64 o.2.2)∧w'.heap[b]? = some (.cells #[.string ⟨m.toArray⟩,v] 53 (0,0))∧WRow w' base v l.length (opc (l.set k (o.1,o.2.1,0)))∧Below (min b base) w w':=by
 obtain⟨b1,b2,rfl,_,_,hl1,hl2,c1,c2⟩:=hf;have hlt:k<l.length:=(List.getElem?_eq_some_iff.1 ho).1;have hset:=hr;obtain⟨a,c,rfl,_,hh⟩:=hr.op;obtain⟨g,off,rfl,hg0,hg1,hh⟩:=hh (by rintro rfl;exact absurd hlt (Nat.not_lt_zero _))
 have HGB:=Hh (fun e:b=g=>hbb (congrArg some e.symm));clear hbb;obtain⟨k0,k1,k2,f0,f1,f2⟩:=hh k o ho;have hsetN:=WRow.setN (m:=0) hset ho;obtain⟨t0,t1,s0,s1⟩:=aL hb;have hbl:=aA hb;have hi0:(0:Int)≤(k:Int):=om
 have hi1:(k:Int)<(l.length:Int):=om
 have HC1:=Hh c1;have HC2:=Hh c2;have hin1:=fun W (hB:Below w.heap.size w W)=>wS o.2.2 lo hi b1 b2 W ((hB.cell (p:=⟨b1,0,none⟩) hl1).trans HC1.out) ((hB.cell (p:=⟨b2,0,none⟩) hl2).trans HC2.out);rw[hin] at hin1;have HIN:=Hh hin1;clear hh hin1 hin c1 c2;go_enter func243,ntmps243
 go_wp2_with fail
 refine (HIN.out _ (bl)).mono ?_;rintro e w2 ⟨rfl,hb2⟩;have hbx:=aW hb2;have hbw:=aK hb2;obtain⟨n0,n1,_,_⟩:=aL hbx;have hb9:=aB hb hbw hbl;obtain⟨t0',t1',s0',s1'⟩:=aL hb9;have hrow2:=(WRow.below hset hbw).op;obtain⟨_,_,he,_,hh⟩:=hrow2;cases he
 obtain⟨_,_,he,_,hg2,hh⟩:=hh (by rintro rfl;exact absurd hlt (Nat.not_lt_zero _))
 cases he
 obtain⟨k0',k1',k2',f0',f1',f2'⟩:=hh k o ho;have hset2:=WRow.setN (m:=0) (WRow.below hset hbw) ho;have HS2:=Hh hset2;have HB9:=Hh hb9;have HBW:=Hh hbw;have hbl2:=aA hb9;clear hh hset2 hset hsetN hbx hbw hb9 hb2 hb hr t0 t1 s0 s1 k0 k1 k2 f0 f1 f2;go_wp2_with fail
 go_ret;exact⟨rfl,aD HB9.out HGB.out,HS2.out,(HBW.out.mono om).setCell (p:=⟨g,off+k*3+2,none⟩) (by show min b base≤g;omega) _⟩
theorem Ii (lo hi:Int) (f:Value) (k b base:Nat) (m:List UInt8) (v:Value) (l:List Op3) (o:Op3) (w:World) (hf:InF w 0 lo hi f) (hb:w.heap[b]? = some (.cells #[.string ⟨m.toArray⟩,v] 53 (0,0))) (hr:WRow w base v l.length (opc l)) (hbb:v.ownBlock≠some b) (hl:l.length≤1000) (ho:l[k]? = some o) (hin:(decide (lo≤o.2.2) && decide (o.2.2≤hi))=false) :
 Calls prog 243 #[.agg #[.int .i64 k,f],.bool true,.pointer (some ⟨b,0,none⟩)] w fun e w'=>e=.returned (.int .i64 o.2.2)∧w'.heap[b]? = some (.cells #[.string ⟨#[]⟩,v] 53 (0,0))∧WRow w' base v l.length (opc l)∧Below (min b base) w w':=by
 obtain⟨b1,b2,rfl,_,_,hl1,hl2,c1,c2⟩:=hf;have hlt:k<l.length:=(List.getElem?_eq_some_iff.1 ho).1;have hset:=hr;obtain⟨a,c,rfl,_,hh⟩:=hr.op;obtain⟨g,off,rfl,hg0,hg1,hh⟩:=hh (by rintro rfl;exact absurd hlt (Nat.not_lt_zero _))
 have HBB:=Hh hbb;clear hbb;obtain⟨k0,k1,k2,f0,f1,f2⟩:=hh k o ho;obtain⟨t0,t1,s0,s1⟩:=aL hb;have hbl:=aA hb;have hi0:(0:Int)≤(k:Int):=om
 have hi1:(k:Int)<(l.length:Int):=om
 have HC1:=Hh c1;have HC2:=Hh c2;have hin1:=fun W (hB:Below w.heap.size w W)=>wS o.2.2 lo hi b1 b2 W ((hB.cell (p:=⟨b1,0,none⟩) hl1).trans HC1.out) ((hB.cell (p:=⟨b2,0,none⟩) hl2).trans HC2.out);rw[hin] at hin1;have HIN:=Hh hin1;clear hh hin1 hin c1 c2;go_enter func243,ntmps243
 go_wp2_with fail
 refine (HIN.out _ (bl)).mono ?_;rintro e w2 ⟨rfl,hb2⟩;have hbx:=aW hb2;have hbw:=aK hb2;obtain⟨n0,n1,_,_⟩:=aL hbx;have hb9:=aB hb hbw hbl;obtain⟨t0',t1',s0',s1'⟩:=aL hb9;have hrow2:=(WRow.below hset hbw).op;obtain⟨_,_,he,_,hh⟩:=hrow2;cases he
 obtain⟨_,_,he,_,hg2,hh⟩:=hh (by rintro rfl;exact absurd hlt (Nat.not_lt_zero _))
 cases he
 obtain⟨k0',k1',k2',f0',f1',f2'⟩:=hh k o ho;have hset2:=WRow.below hset hbw;have HS2:=Hh hset2;have HB9:=Hh hb9;have HBW:=Hh hbw;have hbl2:=aA hb9;clear hh hset2 hset hbx hbw hb9 hb2 hb hr t0 t1 s0 s1 k0 k1 k2 f0 f1 f2;go_wp2_with fail
 go_ret;exact⟨rfl,aG HB9.out,WRow.kb_ne HS2.out ((Kb.refl b w2).setCell 0 _) (fun _=>HBB.out),(HBW.out.mono om).setCell (p:=⟨b,0,none⟩) (by show min b base≤b;omega) _⟩
end Go.Proofs.YtoigglljnklhlaaGreatDoor
