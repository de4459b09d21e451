/- Joined texts: TokRow, Kb, Stream, Catch. -/
import Derived.Test.YtkldoojonnkfgaaGreatDoorC07
namespace Go.Proofs.YtkldoojonnkfgaaGreatDoor
open Go.RowKit Go.Sort
def tokc (l:List Tok):List Value:=l.flatMap fun x=>[.int .i64 x.kind,.string x.text,.int .i64 x.n,.int .i64 x.off]
theorem tokc_len (l:List Tok):(tokc l).length=l.length * 4:=by
 unfold tokc
 induction l with
 | nil=>rfl
 | cons a l ih=>simp at ih ⊢; omega
theorem tokc_append (l m:List Tok):tokc (l++m)=tokc l++tokc m:=by simp [tokc]
theorem tokc_get:∀ (l:List Tok) (i:Nat) (x:Tok),l[i]? = some x→(tokc l)[i * 4]? = some (.int .i64 x.kind)∧(tokc l)[i * 4+1]? = some (.string x.text)∧(tokc l)[i * 4+2]? = some (.int .i64 x.n)∧(tokc l)[i * 4+3]? = some (.int .i64 x.off)
 | [],i,x,h=>by simp at h
 | a::l,0,x,h=>by
   simp at h; subst h
   exact ⟨rfl,rfl,rfl,rfl⟩
 | a::l,i+1,x,h=>by
   have hx:l[i]? = some x:=by simpa using h
   obtain ⟨g0,g1,g2,g3⟩:=tokc_get l i x hx
   have e:∀ k,(tokc (a::l))[(i+1) * 4+k]? = (tokc l)[i * 4+k]? := fun k=>by
    show ([Value.int .i64 a.kind,.string a.text,.int .i64 a.n,.int .i64 a.off]++tokc l)[(i+1) * 4+k]? = _
    rw [List.getElem?_append_right (by simp; omega)]
    congr 1
    simp; omega
   refine ⟨?_,?_,?_,?_⟩
   · have:=e 0; simp only [Nat.add_zero] at this; rw [this]; exact g0
   · rw [e 1]; exact g1
   · rw [e 2]; exact g2
   · rw [e 3]; exact g3
theorem Row.tok {w:World} {v:Value} {l:List Tok} (h:Row w v l.length (tokc l)):∃ a cap,v=.slice a l.length cap∧l.length≤cap∧(l≠[]→∃ g o,a=some ⟨g,o,none⟩∧g<w.heap.size∧∀ i x,l[i]? = some x →
 w.cell? ⟨g,o+i * 4,none⟩=some (.int .i64 x.kind)∧w.cell? ⟨g,o+i * 4+1,none⟩=some (.string x.text)∧w.cell? ⟨g,o+i * 4+2,none⟩=some (.int .i64 x.n)∧w.cell? ⟨g,o+i * 4+3,none⟩=some (.int .i64 x.off)):=by
 obtain ⟨a,cap,hv,hn,h⟩:=h
 refine ⟨a,cap,hv,hn,fun hl=>?_⟩
 obtain ⟨g,o,ha,hg,hc⟩:=h (by intro e; apply hl; have:=tokc_len l; rw [e] at this; exact List.eq_nil_of_length_eq_zero (by simp at this; omega))
 refine ⟨g,o,ha,hg,fun i x hx=>?_⟩
 have hi:i<l.length:=(List.getElem?_eq_some_iff.1 hx).1
 have hlen:=tokc_len l
 obtain ⟨e0,e1,e2,e3⟩:=tokc_get l i x hx
 exact ⟨(hc (i * 4) (by omega)).trans e0,by rw [Nat.add_assoc]; exact (hc (i * 4+1) (by omega)).trans e1,by rw [Nat.add_assoc]; exact (hc (i * 4+2) (by omega)).trans e2,by rw [Nat.add_assoc]; exact (hc (i * 4+3) (by omega)).trans e3⟩
structure Kb (b:Nat) (w w':World):Prop where
 os:w'.os=w.os
 tape:w'.tape=w.tape
 output:w'.output=w.output
 size:w.heap.size≤w'.heap.size
 block:∀ k,k<w.heap.size→k≠b→w'.heap[k]? = w.heap[k]?
theorem Kb.refl (b:Nat) (w:World):Kb b w w:=⟨rfl,rfl,rfl,Nat.le_refl _,fun _ _ _=>rfl⟩
theorem Kb.trans {b:Nat} {u v w:World} (h:Kb b u v) (k:Kb b v w):Kb b u w :=
 ⟨k.os.trans h.os,k.tape.trans h.tape,k.output.trans h.output,Nat.le_trans h.size k.size,fun i hi hb=>(k.block i (Nat.lt_of_lt_of_le hi h.size) hb).trans (h.block i hi hb)⟩
theorem Kb.drew {b:Nat} {u w:World} (h:Kb b u w):Kb b u w.drew:=⟨h.os,h.tape,h.output,h.size,h.block⟩
theorem Kb.of_below {b:Nat} {u w:World} (h:Below u.heap.size u w):Kb b u w:=⟨h.os,h.tape,h.output,h.size,fun k hk _=>h.block k hk⟩
theorem Kb.gw {b:Nat} {u w:World} (h:Kb b u w) (p:Regrown):Kb b u (gw w p):=h.trans (Kb.of_below (below_gw w p))
theorem Kb.alloc {b:Nat} {u w:World} (h:Kb b u w) (o:Obj):Kb b u (w.alloc o):=h.trans (Kb.of_below ((Below.refl _ _).alloc (Nat.le_refl _) o))
theorem Kb.setCell {b:Nat} {u w:World} (h:Kb b u w) (j:Nat) (v:Value):Kb b u (w.setCell ⟨b,j,none⟩ v) :=
 ⟨h.os,h.tape,h.output,by show _≤(w.heap.modify _ _).size; rw [Array.size_modify]; exact h.size,fun k hk hb=>by rw [Below.heap_setCell _ _ _ _ hb]; exact h.block k hk hb⟩
theorem Kb.below {b:Nat} {u w:World} (h:Kb b u w):Below b u w∨u.heap.size≤b:=by
 by_cases hb:u.heap.size≤b
 · exact .inr hb
 · exact .inl ⟨h.os,h.tape,h.output,h.size,fun k hk=>h.block k (by omega) (by omega)⟩
theorem Kb.cell {b:Nat} {u w:World} (h:Kb b u w) {p:Addr} (hp:p.block<u.heap.size) (hb:p.block≠b):w.cell? p=u.cell? p:=World.cell?_of_block (w:=u) (h.block p.block hp hb)
theorem Kb.new {u w:World} {o:Obj} (h:Kb u.heap.size (u.alloc o) w):Below u.heap.size u w :=
 have hs:(u.alloc o).heap.size=u.heap.size+1:=by show (u.heap.push o).size=_; simp
 ⟨h.os,h.tape,h.output,by have:=h.size; omega,fun k hk=>(h.block k (by omega) (by omega)).trans (Below.heap_alloc u o k hk)⟩
theorem Kb.owns {b:Nat} {w w':World} {base:Nat} {e:TypeId} {size:Nat} {v:Value} {n:Nat} {xs:List Value} (h:w.ownsRow base e size v n xs) (hb:Kb b w w') (hne:v.ownBlock≠some b):w'.ownsRow base e size v n xs:=by
 obtain ⟨h1,h2⟩:=h
 refine ⟨h1,?_⟩
 rcases h2 with h2 | ⟨g,cap,cur,hv,hg,hh,r⟩
 · exact Or.inl h2
 · refine Or.inr ⟨g,cap,cur,hv,hg,?_,r⟩
   have hlt:g<w.heap.size:=lt_of_block hh
   rw [hb.block g hlt (fun e=>hne (by rw [hv,e]; rfl))]
   exact hh
abbrev tokW (t:Tok):Value:=.agg #[.int .i64 t.kind,.string t.text,.int .i64 t.n,.int .i64 t.off]
def StrAt (w:World) (b:Nat) (l:List Tok):Prop :=
 ∃ a cap,w.heap[b]? = some (.cells #[.slice a l.length cap] 380 (0,0))∧l.length≤cap∧(l≠[]→∃ g o,a=some ⟨g,o,none⟩∧g<w.heap.size∧g≠b∧∀ i x,l[i]? = some x →
  w.cell? ⟨g,o+i * 4,none⟩=some (.int .i64 x.kind)∧w.cell? ⟨g,o+i * 4+1,none⟩=some (.string x.text)∧w.cell? ⟨g,o+i * 4+2,none⟩=some (.int .i64 x.n)∧w.cell? ⟨g,o+i * 4+3,none⟩=some (.int .i64 x.off))
theorem StrAt.lt {w:World} {b:Nat} {l:List Tok} (h:StrAt w b l):b<w.heap.size:=by
 obtain ⟨a,cap,h,_⟩:=h; exact lt_of_block h
theorem StrAt.below {w w':World} {b:Nat} {l:List Tok} (h:StrAt w b l) (hb:Below w.heap.size w w'):StrAt w' b l:=by
 obtain ⟨a,cap,h1,h2,h3⟩:=h
 refine ⟨a,cap,by rw [hb.block b (lt_of_block h1)]; exact h1,h2,fun hl=>?_⟩
 obtain ⟨g,o,ha,hg,hne,hc⟩:=h3 hl
 refine ⟨g,o,ha,Nat.lt_of_lt_of_le hg hb.size,hne,fun i x hx=>?_⟩
 obtain ⟨e0,e1,e2,e3⟩:=hc i x hx
 have e:∀ j,w'.cell? ⟨g,j,none⟩=w.cell? ⟨g,j,none⟩:=fun j=>hb.cell (p:=⟨g,j,none⟩) hg
 exact ⟨by rw [e]; exact e0,by rw [e]; exact e1,by rw [e]; exact e2,by rw [e]; exact e3⟩
theorem StrAt.gw {w:World} {b:Nat} {l:List Tok} (h:StrAt w b l) (p:Regrown):StrAt (gw w p) b l:=h.below (below_gw w p)
theorem StrAt.alloc {w:World} {b:Nat} {l:List Tok} (h:StrAt w b l) (o:Obj):StrAt (w.alloc o) b l:=h.below ((Below.refl _ _).alloc (Nat.le_refl _) o)
theorem StrAt.head {w:World} {b:Nat} {t:Tok} {l:List Tok} (h:StrAt w b (t::l)):∃ g o cap,w.cell? ⟨b,0,none⟩=some (.slice (some ⟨g,o,none⟩) (l.length+1) cap)∧w.frozen? ⟨b,0,none⟩=false∧l.length+1≤cap∧g<w.heap.size∧g≠b ∧
 w.cell? ⟨g,o,none⟩=some (.int .i64 t.kind)∧w.cell? ⟨g,o+1,none⟩=some (.string t.text)∧w.cell? ⟨g,o+2,none⟩=some (.int .i64 t.n)∧w.cell? ⟨g,o+3,none⟩=some (.int .i64 t.off):=by
 obtain ⟨a,cap,h1,h2,h3⟩:=h
 obtain ⟨g,o,rfl,hg,hne,hc⟩:=h3 (by simp)
 obtain ⟨e0,e1,e2,e3⟩:=hc 0 t rfl
 rw [Nat.zero_mul,Nat.add_zero] at e0 e1 e2 e3
 refine ⟨g,o,cap,?_,?_,h2,hg,hne,e0,e1,e2,e3⟩
 · simp [World.cell?,h1]
 · simp [World.frozen?,h1]
theorem StrAt.nil {w:World} {b:Nat} (h:StrAt w b []):∃ a cap,w.cell? ⟨b,0,none⟩=some (.slice a 0 cap):=by
 obtain ⟨a,cap,h1,_⟩:=h
 exact ⟨a,cap,by simp [World.cell?,h1]⟩
theorem StrAt.tail {w:World} {b g o cap:Nat} {t:Tok} {l:List Tok} (h:StrAt w b (t::l)) (hv:w.cell? ⟨b,0,none⟩=some (.slice (some ⟨g,o,none⟩) (l.length+1) cap)) (a':Option Addr) (ha:l≠[]→a'=some ⟨g,o+4,none⟩) :
 StrAt (w.setCell ⟨b,0,none⟩ (.slice a' l.length (cap - 1))) b l:=by
 obtain ⟨a,cap',h1,h2,h3⟩:=h
 have hv':=hv
 simp [World.cell?,h1] at hv'
 obtain ⟨h4,h5⟩:=hv'
 subst h4
 have h5':cap=cap':=h5.symm
 subst h5'
 refine ⟨a',cap - 1,?_,?_,fun hl=>?_⟩
 · simp [World.setCell,Array.getElem?_modify,h1]
 · simp at h2; omega
 · obtain ⟨g',o',he,hg,hne,hc⟩:=h3 (by simp)
   cases he
   refine ⟨g,o+4,ha hl,by show g<(w.heap.modify _ _).size; rw [Array.size_modify]; exact hg,hne,fun i x hx=>?_⟩
   have e:∀ j,(w.setCell ⟨b,0,none⟩ (.slice a' l.length (cap - 1))).cell? ⟨g,j,none⟩=w.cell? ⟨g,j,none⟩:=fun j=>World.cell?_of_block (w:=w) (Below.heap_setCell w ⟨b,0,none⟩ _ g hne)
   obtain ⟨e0,e1,e2,e3⟩:=hc (i+1) x (by simpa using hx)
   rw [show o+(i+1) * 4=o+4+i * 4 by omega] at e0 e1 e2 e3
   exact ⟨by rw [e]; exact e0,by rw [e]; exact e1,by rw [e]; exact e2,by rw [e]; exact e3⟩
def hdn:List Tok→ByteArray
 | []=>⟨#[]⟩
 | t::_=>tnm t
set_option maxHeartbeats 1000000 in
set_option maxRecDepth 100000 in
theorem psign_any (l:List Tok) (b:Nat) (w:World) (h:StrAt w b l) (hs:∀ t∈l,t.text.size≤1000000) :
 Calls Tryz.prog 354 #[.pointer (some ⟨b,0,none⟩)] w fun e w'=>e=.returned (.string (hdn l))∧Below w.heap.size w w':=by
 rcases l with _ | ⟨t,l⟩
 · obtain ⟨a,cap,hc⟩:=h.nil
   have hb:=h.lt
   clear h
   go_enter Tryz.func354,Tryz.ntmps354
   go_wp2_with fail
   go_ret
   exact ⟨rfl,bl⟩
 · obtain ⟨g,o,cap,hc,hf,hcap,hg,hne,e0,e1,e2,e3⟩:=h.head
   have hts:=hs t (by simp)
   have hb:b<w.heap.size:=h.lt
   have hl0:¬ ((l.length:Int)+1=0):=by omega
   have hl1:(0:Int)<(l.length:Int)+1:=by omega
   clear h hs
   obtain ⟨k,s,n,ta⟩:=t
   simp only at hts e0 e1 e2 e3
   show Calls _ _ _ _ (fun e w'=>e=.returned (.string (tnm ⟨k,s,n,ta⟩))∧Below w.heap.size w w')
   obtain ⟨R,hR⟩:∃ R,tnm ⟨k,s,n,ta⟩=R:=⟨_,rfl⟩
   rw [hR]
   unfold tnm at hR
   simp only at hR
   by_cases h4:k=4
   · rw [if_pos h4] at hR
     subst hR h4
     go_enter Tryz.func354,Tryz.ntmps354
     go_wp2_with fail
     go_ret
     exact ⟨rfl,bl⟩
   · rw [if_neg h4] at hR
     have b4:(k == 4)=false:=by simpa using h4
     by_cases h1:k=1
     · subst h1
       have HU:=Hh (fun w=>upper_any s w (by unfold maxLen; omega))
       rcases hm:((upper s).toList == [77,79,68]) with _ | _
       · rw [if_neg (fun h=>by rw [h.2] at hm; cases hm)] at hR
         subst hR
         go_enter Tryz.func354,Tryz.ntmps354
         go_wp2_with fail
         refine (HU.out _).mono ?_
         rintro e w1 ⟨rfl,hb⟩
         obtain ⟨p1,rfl⟩:=gw_of_below hb
         clear hb
         go_wp2_with fail
         go_ret
         exact ⟨rfl,bl⟩
       · rw [if_pos ⟨rfl,by simpa using hm⟩] at hR
         subst hR
         go_enter Tryz.func354,Tryz.ntmps354
         go_wp2_with fail
         refine (HU.out _).mono ?_
         rintro e w1 ⟨rfl,hb⟩
         obtain ⟨p1,rfl⟩:=gw_of_below hb
         clear hb
         go_wp2_with fail
         go_ret
         exact ⟨rfl,bl⟩
     · rw [if_neg (fun h=>h1 h.1)] at hR
       subst hR
       have b1:(k == 1)=false:=by simpa using h1
       go_enter Tryz.func354,Tryz.ntmps354
       go_wp2_with fail
       go_ret
       exact ⟨rfl,bl⟩
abbrev wrongP:List PanicEntry:=[{ v:=.iface 375 (.agg #[]),recovered:=false }]
set_option maxHeartbeats 1000000 in
set_option maxRecDepth 100000 in
theorem take_none (b:Nat) (w:World) (h:StrAt w b []) :
 Calls Tryz.prog 355 #[.pointer (some ⟨b,0,none⟩)] w fun e w'=>e=.panicked wrongP∧Below w.heap.size w w':=by
 obtain ⟨a,cap,hc⟩:=h.nil
 have hb:=h.lt
 clear h
 go_enter Tryz.func355,Tryz.ntmps355
 go_wp2_with fail
 refine ⟨rfl,?_⟩
 exact ⟨rfl,bl⟩
set_option maxHeartbeats 1000000 in
set_option maxRecDepth 100000 in
theorem take_some (t:Tok) (l:List Tok) (b:Nat) (w:World) (h:StrAt w b (t::l)) :
 Calls Tryz.prog 355 #[.pointer (some ⟨b,0,none⟩)] w fun e w'=>e=.returned (tokW t)∧StrAt w' b l∧Kb b w w':=by
 obtain ⟨g,o,cap,hc,hf,hcap,hg,hne,e0,e1,e2,e3⟩:=h.head
 have hb:=h.lt
 have hl0:¬ ((l.length:Int)+1=0):=by omega
 have hl1:(0:Int)<(l.length:Int)+1:=by omega
 have HS:=Hh h; clear h
 by_cases hcc:cap=1
 · subst hcc
   have hnil:l=[]:=List.eq_nil_of_length_eq_zero (by omega)
   go_enter Tryz.func355,Tryz.ntmps355
   go_wp2_with fail
   refine bodyPost_ret (v:=tokW t) (by simp [results,Tryz.results355,go_sem, *]) rfl ⟨rfl,?_,kbq⟩
   have h:=HS.out.tail hc (some ⟨g,o,none⟩) (fun hl=>absurd hnil hl)
   subst hnil
   exact (h.alloc _).alloc _
 · have hcc':(1:Int)<(cap:Int):=by omega
   go_enter Tryz.func355,Tryz.ntmps355
   go_wp2_with fail
   refine bodyPost_ret (v:=tokW t) (by simp [results,Tryz.results355,go_sem, *]) rfl ⟨rfl,?_,kbq⟩
   have h:=HS.out.tail hc (some ⟨g,o+4,none⟩) (fun hl=>rfl)
   exact (h.alloc _).alloc _
set_option maxHeartbeats 1000000 in
set_option maxRecDepth 100000 in
theorem catch_idle (p q:Addr) (w:World) :
 CallsD Tryz.prog 315 #[.pointer (some p),.pointer (some q)] .returning w fun e u' w'=>e=.returned (.tuple #[])∧u'=.returning∧w'=w:=by
 refine callsD_of_wpS Tryz.func315 rfl fun c₀ cs hu=>?_
 apply wpS_seq
 apply wpS_region
 simp [wpOpsS,go_sem,recoverD,hu,Tryz.ntmps315,Exit.thenS]
 rw [show (#[Value.pointer (some p),Value.pointer (some q)]++(Array.replicate 9 undef).setIfInBounds 3 (.nilIface))=#[Value.pointer (some p),Value.pointer (some q),undef,undef,undef,.nilIface,undef,undef,undef,undef,undef] from rfl]
 refine wpS_of_wp ?_
 go_wp2_with fail
 cases c₀
 simp_all [bodyPostS,results,Tryz.results315]
set_option maxHeartbeats 1000000 in
set_option maxRecDepth 100000 in
theorem catch_wrong (p q:Nat) (x y:Value) (older:List PanicEntry) (w:World) (hp:w.cell? ⟨p,0,none⟩=some x) (hq:w.cell? ⟨q,0,none⟩=some y) (zp:w.frozen? ⟨p,0,none⟩=false) (zq:w.frozen? ⟨q,0,none⟩=false) (hpb:p<w.heap.size) (hpq:(p == q)=false) (_:(q == p)=false) (hqb:q<w.heap.size) :
 CallsD Tryz.prog 315 #[.pointer (some ⟨p,0,none⟩),.pointer (some ⟨q,0,none⟩)] (.panicking ({ v:=.iface 375 (.agg #[]),recovered:=false }::older)) w fun e u' w' =>
  e=.returned (.tuple #[])∧u'=.panicking ({ v:=.iface 375 (.agg #[]),recovered:=true }::older)∧w'=((w.setCell ⟨p,0,none⟩ (.pointer none)).setCell ⟨q,0,none⟩ (.int .i64 3)).alloc (.cells #[] 375):=by
 refine callsD_of_wpS Tryz.func315 rfl fun c₀ cs hu=>?_
 apply wpS_seq
 apply wpS_region
 simp [wpOpsS,go_sem,recoverD,hu,Tryz.ntmps315,Exit.thenS]
 rw [show (#[Value.pointer (some ⟨p,0,none⟩),Value.pointer (some ⟨q,0,none⟩)]++(Array.replicate 9 undef).setIfInBounds 3 (.iface 375 (.agg #[])))=#[Value.pointer (some ⟨p,0,none⟩),Value.pointer (some ⟨q,0,none⟩),undef,undef,undef,.iface 375 (.agg #[]),undef,undef,undef,undef,undef] from rfl]
 refine wpS_of_wp ?_
 have hta:∀ wx:World,Sem.run Tryz.prog (Instr.typeAssert (.iface 375 (.agg #[])) 20 375 true) wx=.ok (.tuple #[.agg #[],.bool true]) wx:=by
  intro wx
  first | rfl | kernel_rfl
 have hne:(⟨p,0,none⟩:Addr)≠⟨q,0,none⟩:=fun e=>by
  injection e with e _ _
  rw [e] at hpq
  simp at hpq
 have hq2:(w.setCell ⟨p,0,none⟩ (.pointer none)).cell? ⟨q,0,none⟩=some y:=by rw [World.cell?_setCell_other (h:=hne)]; exact hq
 clear hne
 go_wp2_with fail
 cases c₀
 simp_all [bodyPostS,results,Tryz.results315]
end Go.Proofs.YtkldoojonnkfgaaGreatDoor
