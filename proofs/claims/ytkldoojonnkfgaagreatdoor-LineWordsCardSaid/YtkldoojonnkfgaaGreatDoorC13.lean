/- Joined texts: PSize, ParseE. -/
import Derived.Test.YtkldoojonnkfgaaGreatDoorC12
namespace Go.Proofs.YtkldoojonnkfgaaGreatDoor
open Go.RowKit Go.Sort
def stM:St Tok Ex→Nat | .U l=>l.length | .B _ l=>l.length | .L _ a l=>a.nodes+l.length
theorem atom_nodes {t:Tok} {e:Ex} (h:tatom t=some e):e.nodes=1:=by
 unfold tatom at h
 repeat' split at h
 all_goals (first | cases h; rfl | cases h)
theorem P.size {s:St Tok Ex} {res:Option (Ex × List Tok)} (h:P exLang s res):∀ x r,res=some (x,r)→x.nodes+r.length≤stM s:=by
 induction h with
 | binN lv l h ih=>intro x r e; cases e
 | bin lv l r a res h1 h2 ih1 ih2 =>
   intro x r' e
   have a1:=ih1 a r rfl
   have a2:=ih2 x r' e
   simp only [stM] at *
   omega
 | stop lv a r h=>intro x r' e; cases e; exact Nat.le_refl _
 | step lv a b t r r' res h0 h1 h2 h3 ih1 ih2 =>
   intro x r2 e
   have a1:=ih1 b r' rfl
   have a2:=ih2 x r2 e
   simp only [stM,exLang,Ex.nodes,List.length_cons] at *
   omega
 | stepN lv a t r h0 h1 h2 ih=>intro x r e; cases e
 | nil=>intro x r e; cases e
 | un t l res h0 h1 ih =>
   intro x r e
   rcases res with _ | ⟨y,r'⟩
   · cases e
   · cases e
     have:=ih y r' rfl
     simp only [stM,exLang,Ex.nodes,List.length_cons] at *
     omega
 | par t t' l r e h0 h1 h2 h3 ih =>
   intro x r2 he
   cases he
   have:=ih e (t'::r) rfl
   simp only [stM,List.length_cons] at *
   omega
 | parN t l res h0 h1 h2 h3 ih=>intro x r e; cases e
 | atom t l h0 h1 =>
   intro x r e
   have he:(tatom t).map (fun e=>(e,l))=some (x,r):=e
   rcases ht:tatom t with _ | y
   · rw [ht] at he; cases he
   · rw [ht] at he
     cases he
     have:=atom_nodes ht
     simp only [stM,List.length_cons]
     omega
def SymsOk (x:Ex):Prop:=∀ y∈x.syms,y.size≤1000000
def stS:St Tok Ex→Prop | .U l=>Small l | .B _ l=>Small l | .L _ a l=>SymsOk a∧Small l
theorem Small.cons {t:Tok} {l:List Tok} (h:Small (t::l)):t.text.size≤1000000∧Small l:=⟨h t List.mem_cons_self,h.tail⟩
theorem atom_syms {t:Tok} {e:Ex} (hs:t.text.size≤1000000) (h:tatom t=some e):SymsOk e:=by
 unfold tatom at h
 repeat' split at h
 all_goals (first | cases h | skip)
 all_goals (intro y hy; simp [Ex.syms] at hy; try (subst hy; exact hs))
theorem P.syms {s:St Tok Ex} {res:Option (Ex × List Tok)} (h:P exLang s res):stS s→∀ x r,res=some (x,r)→SymsOk x∧Small r:=by
 induction h with
 | binN lv l h ih=>intro _ x r e; cases e
 | bin lv l r a res h1 h2 ih1 ih2=>intro hs x r' e; exact ih2 (ih1 hs a r rfl) x r' e
 | stop lv a r h=>intro hs x r' e; cases e; exact hs
 | step lv a b t r r' res h0 h1 h2 h3 ih1 ih2 =>
   intro hs x r2 e
   have a1:=ih1 hs.2.cons.2 b r' rfl
   refine ih2 ⟨fun y hy=>?_,a1.2⟩ x r2 e
   simp only [exLang,Ex.syms,List.mem_append] at hy
   exact hy.elim (hs.1 y) (a1.1 y)
 | stepN lv a t r h0 h1 h2 ih=>intro _ x r e; cases e
 | nil=>intro _ x r e; cases e
 | un t l res h0 h1 ih =>
   intro hs x r e
   rcases res with _ | ⟨y,r'⟩
   · cases e
   · cases e
     exact ih (Small.cons hs).2 y r' rfl
 | par t t' l r e h0 h1 h2 h3 ih =>
   intro hs x r2 he
   cases he
   have:=ih (Small.cons hs).2 e (t'::r) rfl
   exact ⟨this.1,this.2.cons.2⟩
 | parN t l res h0 h1 h2 h3 ih=>intro _ x r e; cases e
 | atom t l h0 h1 =>
   intro hs x r e
   have he:(tatom t).map (fun e=>(e,l))=some (x,r):=e
   rcases ht:tatom t with _ | y
   · rw [ht] at he; cases he
   · rw [ht] at he
     cases he
     exact ⟨atom_syms (Small.cons hs).1 ht,(Small.cons hs).2⟩
def parsed:Option (Ex × List Tok)→Int × Option Ex
 | none=>(3,none)
 | some (x,r)=>if r=[] then (if (uniq (lSyms [some x])).any resv then (21,none) else (0,some x)) else (3,none)
set_option maxHeartbeats 4000000 in
set_option maxRecDepth 100000 in
theorem parseE_any (l:List Tok) (v:Value) (w:World) (hsm:Small l) (hl:l.length≤1000000) (hst:∃ a cap,v=.slice a l.length cap∧l.length≤cap∧(l≠[]→∃ g o,a=some ⟨g,o,none⟩∧g<w.heap.size∧∀ i x,l[i]? = some x →
 w.cell? ⟨g,o+i * 4,none⟩=some (.int .i64 x.kind)∧w.cell? ⟨g,o+i * 4+1,none⟩=some (.string x.text)∧w.cell? ⟨g,o+i * 4+2,none⟩=some (.int .i64 x.n)∧w.cell? ⟨g,o+i * 4+3,none⟩=some (.int .i64 x.off))) :
 Calls Tryz.prog 253 #[v] w fun e w'=>∃ res,P exLang (.B 1 l) res∧∃ vt,e=.returned (.tuple #[vt,.int .i64 (parsed res).1])∧OptAt 225 w' (parsed res).2 vt∧Below w.heap.size w w':=by
 have hmf:∀ (fn:Fn) (first cap:Array Value) (w:World),(Instr.makeFunc fn first cap).run Tryz.prog w=.ok (.func fn first cap) w:=fun _ _ _ _=>rfl
 obtain ⟨a,cap,rfl,hcap,hc⟩:=hst
 have HC:=Hh hc; clear hc
 have HSM:=Hh hsm; clear hsm
 have hsz2:((w.alloc (Obj.cells #[Value.pointer none] 82)).alloc (Obj.cells #[Value.int IntKind.i64 0] 29)).heap.size=w.heap.size+1+1:=by show ((w.heap.push _).push _).size=_; simp
 have hcall:=binary_any l 1 (w.heap.size+1+1) (((w.alloc (Obj.cells #[Value.pointer none] 82)).alloc (Obj.cells #[Value.int IntKind.i64 0] 29)).alloc (Obj.cells #[Value.slice a l.length cap] 380)) HSM.out ⟨a,cap,by rw [←hsz2]; exact Array.getElem?_push_size,hcap,fun h=>by
  obtain ⟨g,o,ha,hg,hcs⟩:=HC.out h
  refine ⟨g,o,ha,?_,by omega,fun i x hx=>?_⟩
  · show g<(((w.heap.push _).push _).push _).size; simp; omega
  · obtain ⟨e0,e1,e2,e3⟩:=hcs i x hx
    have hb:Below w.heap.size w (((w.alloc (Obj.cells #[Value.pointer none] 82)).alloc (Obj.cells #[Value.int IntKind.i64 0] 29)).alloc (Obj.cells #[Value.slice a l.length cap] 380)):=bl
    exact ⟨(hb.cell (p:=⟨g,_,none⟩) hg).trans e0,(hb.cell (p:=⟨g,_,none⟩) hg).trans e1,(hb.cell (p:=⟨g,_,none⟩) hg).trans e2,(hb.cell (p:=⟨g,_,none⟩) hg).trans e3⟩⟩
 have HCALL:=Hh hcall; clear hcall
 go_enter_defers Tryz.func253,Tryz.ntmps253
 go_wp2_with fail
 refine HCALL.out.mono ?_
 rintro e w1 ⟨res,hP,hk,hres⟩
 rw [←hsz2] at hk
 have hb2:=hk.new
 rw [hsz2] at hb2
 have r0:w1.cell? ⟨w.heap.size,0,none⟩=some (.pointer none):=(hb2.cell (p:=⟨w.heap.size,0,none⟩) (show w.heap.size<_ by omega)).trans (by simp [go_sem])
 have r1:w1.cell? ⟨w.heap.size+1,0,none⟩=some (.int .i64 0):=(hb2.cell (p:=⟨w.heap.size+1,0,none⟩) (show w.heap.size+1<_ by omega)).trans (by simp [go_sem])
 have z0:w1.frozen? ⟨w.heap.size,0,none⟩=false:=(hb2.frozen (p:=⟨w.heap.size,0,none⟩) (show w.heap.size<_ by omega)).trans (by simp [go_sem])
 have z1:w1.frozen? ⟨w.heap.size+1,0,none⟩=false:=(hb2.frozen (p:=⟨w.heap.size+1,0,none⟩) (show w.heap.size+1<_ by omega)).trans (by simp [go_sem])
 have hs1:w.heap.size+1+1≤w1.heap.size:=by have:=hb2.size; omega
 have hbw:Below w.heap.size w w1:=Below.trans (b:=(w.alloc (Obj.cells #[Value.pointer none] 82)).alloc (Obj.cells #[Value.int IntKind.i64 0] 29)) (bl) (hb2.mono (by omega))
 have HB2:=Hh hb2; clear hb2 hk hsz2
 rcases res with _ | ⟨x,r⟩
 · obtain rfl:=hres
   go_wp2_with fail
   refine leaves_cons (f:=315) (args:=#[.pointer (some ⟨w.heap.size,0,none⟩),.pointer (some ⟨w.heap.size+1,0,none⟩)]) (by simp) (by simp [go_sem]) ?_
   refine (catch_wrong w.heap.size (w.heap.size+1) _ _ [] w1 r0 r1 z0 z1 (by omega) (by simp) (by simp) (by omega)).mono ?_
   rintro e u' w'' ⟨rfl,rfl,rfl⟩
   have hsz:w.heap.size<w1.heap.size:=by omega
   have hsz':w.heap.size+1<w1.heap.size:=by omega
   simp [Leaves,settle,results,Tryz.results253,go_sem,r0,r1,hsz,hsz']
   exact ⟨none,hP,_,⟨rfl,rfl⟩,rfl,by ((repeat (first | exact Below.refl _ _ | refine Below.drew ?_ | (refine below_gw' ?_ (by first | omega | (simp [go_sem]; done) | (simp [go_sem]; omega)) _) | (refine Below.alloc ?_ (by first | omega | (simp [go_sem]; done) | (simp [go_sem]; omega)) _) | (refine Below.setCell ?_ (by first | omega | (simp [go_sem]; done) | (simp [go_sem]; omega)) _))))<;>exact hbw⟩
 · obtain ⟨vx,rfl,hnode,hstr⟩:=hres
   obtain ⟨gx,rfl,hgx⟩:=hnode.ptr
   have r2:∃ a2 c2,w1.cell? ⟨w.heap.size+1+1,0,none⟩=some (.slice a2 r.length c2):=by
    obtain ⟨a2,c2,hh,_⟩:=hstr
    exact ⟨a2,c2,by simp [World.cell?,hh]⟩
   obtain ⟨a2,c2,r2⟩:=r2
   have hs3:w.heap.size+1+1<w1.heap.size:=hstr.lt
   have HNODE:=Hh hnode; clear hnode
   have HSTR:=Hh hstr; clear hstr
   go_wp2_with fail
   · refine leaves_cons (f:=315) (args:=#[.pointer (some ⟨w.heap.size,0,none⟩),.pointer (some ⟨w.heap.size+1,0,none⟩)]) (by simp) (by simp [go_sem]) ?_
     refine (catch_idle ⟨w.heap.size,0,none⟩ ⟨w.heap.size+1,0,none⟩ _).mono ?_
     rintro e u' w'' ⟨rfl,rfl,rfl⟩
     have hr:r≠[]:=by rintro rfl; simp at *
     have hpr:parsed (some (x,r))=(3,none):=by simp [parsed,hr]
     simp [Leaves,settle,results,Tryz.results253,go_sem,r0,r1]
     exact ⟨some (x,r),hP,_,by rw [hpr]; exact ⟨rfl,rfl⟩,by rw [hpr]; rfl,by ((repeat (first | exact Below.refl _ _ | refine Below.drew ?_ | (refine below_gw' ?_ (by first | omega | (simp [go_sem]; done) | (simp [go_sem]; omega)) _) | (refine Below.alloc ?_ (by first | omega | (simp [go_sem]; done) | (simp [go_sem]; omega)) _) | (refine Below.setCell ?_ (by first | omega | (simp [go_sem]; done) | (simp [go_sem]; omega)) _))))<;>exact hbw⟩
   · have hr:r=[]:=by cases r with | nil=>rfl | cons t r=>simp at *
     subst hr
     have hsize:=P.size hP x [] rfl
     have hsyms:=P.syms hP HSM.out x [] rfl
     simp only [stM,List.length_nil] at hsize
     have hnode2b:NodeAt 225 (w.heap.size+1+1+1) ((w1.setCell ⟨w.heap.size,0,none⟩ (.pointer (some ⟨gx,0,none⟩))).alloc (.cells #[.pointer (some ⟨gx,0,none⟩)] 82)) x (.pointer (some ⟨gx,0,none⟩)):=NodeAt.keep (fun k hk hlt=>by
      have hb:Below (w1.setCell ⟨w.heap.size,0,none⟩ (.pointer (some ⟨gx,0,none⟩))).heap.size (w1.setCell ⟨w.heap.size,0,none⟩ (.pointer (some ⟨gx,0,none⟩))) ((w1.setCell ⟨w.heap.size,0,none⟩ (.pointer (some ⟨gx,0,none⟩))).alloc (.cells #[.pointer (some ⟨gx,0,none⟩)] 82)):=bl
      rw [hb.block k (by show k<(w1.heap.modify _ _).size; rw [Array.size_modify]; exact hlt)]
      exact Below.heap_setCell _ _ _ _ (show k≠w.heap.size by omega)) x _ HNODE.out
     have hnode2:=NodeAt.mono (Nat.zero_le _) x _ hnode2b
     have hargs:ArgsAt 225 ((w1.setCell ⟨w.heap.size,0,none⟩ (.pointer (some ⟨gx,0,none⟩))).alloc (.cells #[.pointer (some ⟨gx,0,none⟩)] 82)) [some x] (.slice (some ⟨w1.heap.size,0,none⟩) 1 1):=⟨_,0,1,rfl,by simp [go_sem],fun j o hx=>by
      match j,hx with
      | 0,hx=>simp at hx; subst hx; exact ⟨.pointer (some ⟨gx,0,none⟩),by simp [go_sem],hnode2⟩⟩
     have hnm:=names_any x.nodes [some x] (by simp [lNodes,oNodes]) (by omega) (by simp) _ _ hargs
     have HNM:=Hh hnm; clear hnm
     refine HNM.out.mono ?_
     rintro e w2 ⟨v2,rfl,hrow,hnil,hb⟩
     have hc:=containsFunc_any v2 (uniq (lSyms [some x])) w2 hrow (by have h1:=uniq_len (lSyms [some x]); have h2:=lSyms_len [some x]; simp only [lNodes,oNodes] at h2; omega) (fun y hy=>by
      rw [mem_uniq] at hy
      simp only [lSyms,List.flatMap_cons,List.flatMap_nil,List.append_nil,oSyms,List.mem_map] at hy
      obtain ⟨z,hz,rfl⟩:=hy
      have:=hsyms.1 z hz
      rw [Array.length_toList]
      show z.size≤maxLen
      unfold maxLen
      omega)
     have HCF:=Hh hc; clear hc
     go_wp2_with fail
     refine HCF.out.mono ?_
     obtain ⟨B,hB⟩:∃ B,(uniq (lSyms [some x])).any resv=B:=⟨_,rfl⟩
     rw [hB]
     rintro e w3 ⟨rfl,hb3⟩
     have hbb:Below (w1.setCell ⟨w.heap.size,0,none⟩ (.pointer (some ⟨gx,0,none⟩))).heap.size (w1.setCell ⟨w.heap.size,0,none⟩ (.pointer (some ⟨gx,0,none⟩))) w3:=Below.trans (b:=(w1.setCell ⟨w.heap.size,0,none⟩ (.pointer (some ⟨gx,0,none⟩))).alloc (.cells #[.pointer (some ⟨gx,0,none⟩)] 82)) (bl) ((hb.mono (by (first | omega | (simp [go_sem]; done) | (simp [go_sem]; omega)))).trans (hb3.mono (Nat.le_trans (by (first | omega | (simp [go_sem]; done) | (simp [go_sem]; omega))) hb.size)))
     have hsz1:(w1.setCell ⟨w.heap.size,0,none⟩ (.pointer (some ⟨gx,0,none⟩))).heap.size=w1.heap.size:=by show (w1.heap.modify _ _).size=_; rw [Array.size_modify]
     have q0:w3.cell? ⟨w.heap.size,0,none⟩=some (.pointer (some ⟨gx,0,none⟩)):=(hbb.cell (p:=⟨w.heap.size,0,none⟩) (by rw [hsz1]; show w.heap.size<_; omega)).trans (by simp [go_sem,r0])
     have q1:w3.cell? ⟨w.heap.size+1,0,none⟩=some (.int .i64 0):=(hbb.cell (p:=⟨w.heap.size+1,0,none⟩) (by rw [hsz1]; show w.heap.size+1<_; omega)).trans (by simp [go_sem,r1])
     have y0:w3.frozen? ⟨w.heap.size,0,none⟩=false:=(hbb.frozen (p:=⟨w.heap.size,0,none⟩) (by rw [hsz1]; show w.heap.size<_; omega)).trans (by simp [go_sem,z0])
     have y1:w3.frozen? ⟨w.heap.size+1,0,none⟩=false:=(hbb.frozen (p:=⟨w.heap.size+1,0,none⟩) (by rw [hsz1]; show w.heap.size+1<_; omega)).trans (by simp [go_sem,z1])
     have hsz3:w.heap.size+1<w3.heap.size:=by have:=hbb.size; rw [hsz1] at this; omega
     have hnode3:NodeAt 225 (w.heap.size+1+1+1) w3 x (.pointer (some ⟨gx,0,none⟩)):=NodeAt.below (NodeAt.below hnode2b hb) (hb3.mono (Nat.le_refl _))
     have hbw3:Below w.heap.size w w3:=(Below.setCell hbw (by (first | omega | (simp [go_sem]; done) | (simp [go_sem]; omega))) _).trans (hbb.mono (by rw [hsz1]; omega))
     have HBW3:=Hh hbw3; clear hbw3 hbb hb hb3 hrow hnil hargs hnode2
     have HN3:=Hh hnode3; clear hnode3 hnode2b
     have HB:=Hh hB; clear hB
     clear hl HC HSM hs1 hbw HB2 r2 hsize hsyms r0 r1 z0 z1
     cases B
     · go_wp2_with fail
       refine leaves_cons (f:=315) (args:=#[.pointer (some ⟨w.heap.size,0,none⟩),.pointer (some ⟨w.heap.size+1,0,none⟩)]) (by simp) (by simp [go_sem]) ?_
       refine (catch_idle ⟨w.heap.size,0,none⟩ ⟨w.heap.size+1,0,none⟩ _).mono ?_
       rintro e u' w'' ⟨rfl,rfl,rfl⟩
       have hpr:parsed (some (x,[]))=(0,some x):=by simp [parsed,HB.out]
       simp [Leaves,settle,results,Tryz.results253,go_sem,q0,q1]
       refine ⟨some (x,[]),hP,.pointer (some ⟨gx,0,none⟩),by rw [hpr]; exact ⟨rfl,rfl⟩,by
        rw [hpr]
        refine NodeAt.mono (Nat.zero_le _) x _ (NodeAt.keep (fun k hk hlt=>?_) x _ HN3.out)
        rw [Below.heap_setCell _ _ _ _ (show k≠w.heap.size+1 by omega),Below.heap_setCell _ _ _ _ (show k≠w.heap.size by omega)],by ((repeat (first | exact Below.refl _ _ | refine Below.drew ?_ | (refine below_gw' ?_ (by first | omega | (simp [go_sem]; done) | (simp [go_sem]; omega)) _) | (refine Below.alloc ?_ (by first | omega | (simp [go_sem]; done) | (simp [go_sem]; omega)) _) | (refine Below.setCell ?_ (by first | omega | (simp [go_sem]; done) | (simp [go_sem]; omega)) _))))<;>exact HBW3.out⟩
     · go_wp2_with fail
       refine leaves_cons (f:=315) (args:=#[.pointer (some ⟨w.heap.size,0,none⟩),.pointer (some ⟨w.heap.size+1,0,none⟩)]) (by simp) (by simp [go_sem]) ?_
       refine (catch_idle ⟨w.heap.size,0,none⟩ ⟨w.heap.size+1,0,none⟩ _).mono ?_
       rintro e u' w'' ⟨rfl,rfl,rfl⟩
       have hpr:parsed (some (x,[]))=(21,none):=by simp [parsed,HB.out]
       simp [Leaves,settle,results,Tryz.results253,go_sem,q0,q1]
       refine ⟨some (x,[]),hP,.pointer none,by rw [hpr]; exact ⟨rfl,rfl⟩,by rw [hpr]; rfl,by ((repeat (first | exact Below.refl _ _ | refine Below.drew ?_ | (refine below_gw' ?_ (by first | omega | (simp [go_sem]; done) | (simp [go_sem]; omega)) _) | (refine Below.alloc ?_ (by first | omega | (simp [go_sem]; done) | (simp [go_sem]; omega)) _) | (refine Below.setCell ?_ (by first | omega | (simp [go_sem]; done) | (simp [go_sem]; omega)) _))))<;>exact HBW3.out⟩
end Go.Proofs.YtkldoojonnkfgaaGreatDoor
