/- Joined. -/
import Derived.Test.YtoigglljnklhlaaGreatDoorD03
import Derived.Test.YtoigglljnklhlaaGreatDoorDX1
import Derived.RangeFuncBox
set_option maxHeartbeats 8000000
set_option maxRecDepth 100000
namespace Go.Proofs.YtoigglljnklhlaaGreatDoor
open Go.RowKit Go.Sort
theorem iN {α:Type} (f:α→List Value) (sz:Nat) (hf:∀ x,(f x).length=sz) (l:List α):(l.flatMap f).length=l.length*sz:=by
 induction l with
 | nil=>simp
 | cons a l ih=>rw[List.flatMap_cons,List.length_append,hf,ih,List.length_cons,Nat.succ_mul];omega
theorem oJ {α:Type} (f:α→List Value) (sz:Nat) (hf:∀ x,(f x).length=sz):∀ (l:List α) (i:Nat) (x:α),l[i]? = some x→∀ j,j<sz→(l.flatMap f)[i*sz+j]? = (f x)[j]?
 | [],i,x,h,j,hj=>by simp at h
 | a::l,0,x,h,j,hj=>by
   simp at h;subst h
   rw[List.flatMap_cons,Nat.zero_mul,Nat.zero_add,List.getElem?_append_left (by rw[hf];exact hj)]
 | a::l,i+1,x,h,j,hj=>by
   have hx:l[i]? = some x:=by simpa using h
   rw[List.flatMap_cons,List.getElem?_append_right (by rw[hf,Nat.succ_mul];omega),hf];rw[show (i+1)*sz+j - sz=i*sz+j by rw[Nat.succ_mul];omega]
   exact oJ f sz hf l i x hx j hj
theorem Ti {α:Type} (f:α→List Value) (sz:Nat) (hf:∀ x,(f x).length=sz) (hs:0<sz) {l:List α} (h:l≠[]):l.flatMap f≠[]:=fun e=>by
 have:=iN f sz hf l
 rw[e] at this;rcases l with _|⟨a,l⟩
 · exact h rfl
 · simp only[List.length_nil,List.length_cons,Nat.succ_mul] at this;omega
theorem Row.structs {w:World} {v:Value} {α:Type} {l:List α} (f:α→List Value) (sz:Nat) (hf:∀ x,(f x).length=sz) (hs:0<sz) (h:Row w v l.length (l.flatMap f)) :
 ∃ a cap,v=.slice a l.length cap∧l.length≤cap∧(l≠[]→∃ g o,a=some ⟨g,o,none⟩∧g<w.heap.size∧∀ i x,l[i]? = some x→∀ j,j<sz→w.cell? ⟨g,o+i*sz+j,none⟩=(f x)[j]?):=by
 obtain⟨a,cap,hv,hn,h⟩:=h;refine⟨a,cap,hv,hn,fun hl=>?_⟩;obtain⟨g,o,ha,hg,hc⟩:=h (Ti f sz hf hs hl);refine⟨g,o,ha,hg,fun i x hx j hj=>?_⟩;have hi:i<l.length:=(List.getElem?_eq_some_iff.1 hx).1;have hlt:i*sz+j<(l.flatMap f).length:=by
  rw[iN f sz hf]
  have:=Nat.mul_le_mul_right sz hi
  rw[Nat.succ_mul] at this;omega
 rw[Nat.add_assoc,hc _ hlt,oJ f sz hf l i x hx j hj]
end Go.Proofs.YtoigglljnklhlaaGreatDoor
namespace Go.Proofs.YtoigglljnklhlaaGreatDoor
open Go.RowKit Go.Sort
open Go.Proofs.Tryz
abbrev ItX:=It × Value × Value
def Sz (x:ItX):List Value:=[.int .i64 x.1.kind,x.2.1,.string ⟨x.1.ins.1.toArray⟩,x.2.2,.bool x.1.alias]
def itc (l:List ItX):List Value:=l.flatMap Sz
theorem Oe (l:List ItX) (x:ItX):itc (l++[x])=itc l++Sz x:=by simp[itc]
theorem bK {w w':World} {b:Nat} {T:TypeId} {s n:Nat} {v:Value} {xs:List Value} (h:w.ownsRow b T s v n xs) (hb:Below w.heap.size w w'):w'.ownsRow b T s v n xs :=
 Kb.owns h (Kb.of_below (b:=w.heap.size) hb) (fun e=>by have:=(h.lt _ e).2;omega)
theorem gB {w:World} {b b':Nat} {T T':TypeId} {s s' n n':Nat} {v v':Value} {xs xs':List Value} (h:w.ownsRow b T s v n xs) (h':w.ownsRow b' T' s' v' n' xs') (hT:T≠T'):v.ownBlock=none∨v.ownBlock≠v'.ownBlock:=by
 rcases h.2 with⟨rfl,_⟩|⟨g,cap,cur,rfl,_,hg,_⟩
 · exact .inl rfl
 · refine .inr fun e=>?_;rcases h'.2 with⟨rfl,_⟩|⟨g',cap',cur',rfl,_,hg',_⟩
   · cases e
   · obtain rfl:g=g':=by simpa[Value.ownBlock] using e
     rw[hg] at hg';cases hg'
     exact hT rfl
def lZ (n:Nat) (A B:World):Prop:=∀ (k:Nat) (o:Obj),n≤k→A.heap[k]? = some o→o.isCells=true→B.heap[k]? = some o
theorem lD {A B:World} {m b:Nat} {T:TypeId} {s n:Nat} {v:Value} {xs:List Value} (h:A.ownsRow b T s v n xs) (hk:lZ m A B) (hm:m≤b):B.ownsRow b T s v n xs:=by
 obtain⟨h1,h2⟩:=h;refine⟨h1,?_⟩;rcases h2 with h2|⟨g,cap,cur,hv,hg,hh,r⟩
 · exact .inl h2
 · exact .inr ⟨g,cap,cur,hv,hg,hk g _ om hh rfl,r⟩
theorem ItAt.kept {B:Nat} {it:It} {vr va:Value} {w w':World} {row:Option Nat} (h:ItAt B it vr va w) (hg:w.grownBy w' row) (h1:vr.ownBlock=none∨vr.ownBlock≠row) (h2:va.ownBlock=none∨va.ownBlock≠row):ItAt B it vr va w' :=
 ⟨h.raw.kept hg h1,h.args.own.kept hg h2,h.nil⟩
theorem ItAt.below {B:Nat} {it:It} {vr va:Value} {w w':World} (h:ItAt B it vr va w) (hb:Below w.heap.size w w'):ItAt B it vr va w':=⟨bK h.raw hb,h.args.below hb,h.nil⟩
theorem ItAt.mono {B B':Nat} {it:It} {vr va:Value} {w:World} (h:ItAt B it vr va w) (hb:B'≤B):ItAt B' it vr va w:=⟨aP h.raw hb,h.args.mono hb,h.nil⟩
theorem ItAt.on {B m:Nat} {it:It} {vr va:Value} {w w':World} (h:ItAt B it vr va w) (hk:lZ m w w') (hm:m≤B):ItAt B it vr va w':=⟨lD h.raw hk hm,lD h.args.own hk hm,h.nil⟩
structure ItsAt (w:World) (base:Nat) (v:Value) (its:List ItX):Prop where
 own:w.ownsRow base 55 5 v its.length (itc its)
 has:∀ x∈its,ItAt base x.1 x.2.1 x.2.2 w
theorem ItsAt.nil (w:World) (base:Nat):ItsAt w base (.slice none 0 0) []:=⟨World.ownsRow_nil _ _ _ _,by simp⟩
theorem ItsAt.below {w w':World} {base:Nat} {v:Value} {its:List ItX} (h:ItsAt w base v its) (hb:Below w.heap.size w w'):ItsAt w' base v its:=⟨bK h.own hb,fun x hx=>(h.has x hx).below hb⟩
theorem ItsAt.mono {w:World} {base base':Nat} {v:Value} {its:List ItX} (h:ItsAt w base v its) (hb:base'≤base):ItsAt w base' v its:=⟨aP h.own hb,fun x hx=>(h.has x hx).mono hb⟩
theorem ItsAt.on {w w':World} {base m:Nat} {v:Value} {its:List ItX} (h:ItsAt w base v its) (hk:lZ m w w') (hm:m≤base):ItsAt w' base v its:=⟨lD h.own hk hm,fun x hx=>(h.has x hx).on hk hm⟩
theorem ItsAt.kept {w w':World} {base:Nat} {v:Value} {its:List ItX} {k:Nat} {o:Obj} (h:ItsAt w base v its) (hg:w.grownBy w' (some k)) (hk:w.heap[k]? = some o)
 (ho:∀ c m,o≠.cells c 55 m∧o≠.cells c 5 m∧o≠.cells c 144 m):ItsAt w' base v its:=by
 have key:∀ {b:Nat} {T:TypeId} {s n:Nat} {v:Value} {xs:List Value},w.ownsRow b T s v n xs→(∀ c m,o≠.cells c T m)→v.ownBlock=none∨v.ownBlock≠some k:=fun h h0=>by
  rcases h.2 with⟨rfl,_⟩|⟨g,cap,cur,rfl,_,hgb,_⟩
  · exact .inl rfl
  · refine .inr fun e=>?_;obtain rfl:g=k:=by simpa[Value.ownBlock] using e
    rw[hk] at hgb;cases hgb
    exact h0 _ _ rfl
 exact⟨h.own.kept hg (key h.own fun c m=>(ho c m).1),fun x hx=>(h.has x hx).kept hg (key (h.has x hx).raw fun c m=>(ho c m).2.1) (key (h.has x hx).args.own fun c m=>(ho c m).2.2)⟩
theorem ItsAt.snoc {w w':World} {base:Nat} {v v':Value} {its:List ItX} {x:ItX} (h:ItsAt w base v its) (hx:ItAt base x.1 x.2.1 x.2.2 w)
 (hown:w'.ownsRow base 55 5 v' (its.length+1) (itc its++Sz x)) (hg:w.grownBy w' v.ownBlock):ItsAt w' base v' (its++[x]):=by
 refine⟨by rw[Oe,List.length_append];exact hown,fun y hy=>?_⟩
 have hy2:ItAt base y.1 y.2.1 y.2.2 w:=by
  rcases List.mem_append.1 hy with hy|hy
  · exact h.has y hy
  · obtain rfl:y=x:=by simpa using hy
    exact hx
 exact hy2.kept hg (gB hy2.raw h.own dc) (gB hy2.args.own h.own dc)
theorem ItsAt.get {w:World} {base:Nat} {v:Value} {its:List ItX} (h:ItsAt w base v its):∃ a cap,v=.slice a its.length cap∧its.length≤cap∧(its≠[]→∃ g o,a=some ⟨g,o,none⟩∧base≤g∧g<w.heap.size∧∀ i x,its[i]? = some x →
 w.cell? ⟨g,o+i*5,none⟩=some (.int .i64 x.1.kind)∧w.cell? ⟨g,o+i*5+1,none⟩=some x.2.1∧w.cell? ⟨g,o+i*5+2,none⟩=some (.string ⟨x.1.ins.1.toArray⟩)∧w.cell? ⟨g,o+i*5+3,none⟩=some x.2.2∧w.cell? ⟨g,o+i*5+4,none⟩=some (.bool x.1.alias)):=by
 obtain⟨a,cap,hv,hn,hh⟩:=(Row.of_owns h.own).structs Sz 5 (fun _=>rfl) dc;refine⟨a,cap,hv,hn,fun hne=>?_⟩;obtain⟨g,o,rfl,hg,hc⟩:=hh hne;refine⟨g,o,rfl,?_,hg,fun i x hx=>⟨hc i x hx 0 dc,hc i x hx 1 dc,hc i x hx 2 dc,hc i x hx 3 dc,hc i x hx 4 dc⟩⟩;exact (h.own.lt g (by rw[hv];rfl)).1
theorem xP (W:World) (x0 x1 x2 x3 x4:Value) (T:TypeId):∀ (j:Nat) (u:Value),[x0,x1,x2,x3,x4][j]? = some u→(W.alloc (.cells #[x0,x1,x2,x3,x4] T)).cell? ((⟨W.heap.size,0,none⟩:Addr).add j)=some u:=fun j u hu=>by
 rw[bD,Nat.zero_add,aC (aF _ _)];simpa using hu
theorem aAz {x:Int} {y0:Option Addr} {n0 c0:Nat} {s:ByteArray} {y1:Option Addr} {n1 c1:Nat} {b:Bool}:∀ u∈[Value.int .i64 x,.slice y0 n0 c0,.string s,.slice y1 n1 c1,.bool b],u.oneCell'=true:=fun u hu=>by
 simp at hu
 rcases hu with rfl|rfl|rfl|rfl|rfl<;>rfl
theorem Tryz.infoItem:(prog.info? 55).map (fun i=>(i.zero,i.size,i.bytes))=some (some (.agg #[.int .i64 0,.slice none 0 0,.string ⟨#[]⟩,.slice none 0 0,.bool false]),5,80):=by kernel_rfl
theorem Jh (b:List UInt8) (k:Nat):aT (b.drop k)=(aT b).drop k:=by simp[aT]
theorem yB {w:World} {g o n c k:Nat} {b:List UInt8} (h:Row w (.slice (some ⟨g,o,none⟩) n c) n (aT b)) (hn:n=b.length) (hk:k<b.length):Row w (.slice (some ⟨g,o+k,none⟩) (b.drop k).length (c - k)) (b.drop k).length (aT (b.drop k)):=by
 obtain⟨a,cap,hv,hc,hh⟩:=h;cases hv
 obtain⟨g',o',ha,hg,hcs⟩:=hh (by intro e;have:=congrArg List.length e;simp[aT] at this;rw[this] at hk;exact absurd hk (Nat.not_lt_zero _))
 cases ha
 refine⟨_,_,rfl,by rw[List.length_drop];omega,fun _=>⟨g,o+k,rfl,hg,fun j hj=>?_⟩⟩
 rw[Jh] at hj ⊢;rw[List.length_drop] at hj;rw[Nat.add_assoc,hcs (k+j) om,List.getElem?_drop]
theorem Row.byt {w:World} {v:Value} {l:List UInt8} (h:Row w v l.length (aT l)):∃ a c,v=.slice a l.length c∧l.length≤c∧(l≠[]→∃ g o,a=some ⟨g,o,none⟩∧g<w.heap.size∧∀ (j:Nat) (b:UInt8),l[j]? = some b→w.cell? ⟨g,o+j,none⟩=some (.int .u8 (b.toNat:Int))):=by
 obtain⟨a,c,hv,hc,h⟩:=h;refine⟨a,c,hv,hc,fun hl=>?_⟩;obtain⟨g,o,ha,hg,hcs⟩:=h (by simpa[aT] using hl);exact⟨g,o,ha,hg,fun j b hb=>(hcs j (by rw[fS];exact (List.getElem?_eq_some_iff.1 hb).1)).trans (oS hb)⟩
theorem sX (v1 v2:Value) (a b:List UInt8) (w:World) (h1:Row w v1 a.length (aT a)) (h2:Row w v2 b.length (aT b)) (hl:a.length≤1000000) (_hl2:b.length≤1000000) :
 Calls prog 224 #[v1,v2] w fun e w'=>e=.returned (.bool (decide (a=b)))∧Below w.heap.size w w':=by
 obtain⟨a1,c1,rfl,hc1,h1⟩:=h1.byt;obtain⟨a2,c2,rfl,hc2,h2⟩:=h2.byt;obtain⟨R,hR⟩:∃ R,decide (a=b)=R:=⟨_,rfl⟩;rw[hR];have HR:=Hh hR;clear hR;by_cases hlen:a.length=b.length
 · have hle:((a.length:Int) != (b.length:Int))=false:=by simp;omega
   have H1:=Hh h1;have H2:=Hh h2;have Hlen:=Hh hlen;clear h1 h2 hlen;go_enter func224,ntmps224
   go_wp2_with fail
   go_loopw [5,13] (fun _ i wr=>∃ j:Nat,j≤a.length∧i=.int .i64 j∧Hid (Below w.heap.size w wr)∧Hid (a.take j=b.take j)) (fun _ i _=>a.length - (intOf i).toNat)
   case atStart=>exact⟨0,Nat.zero_le _,rfl,Hh br,Hh rfl⟩
   case round =>
    obtain⟨j,hj,rfl,HB,HT⟩:=hrel;by_cases hlt:j<a.length
    · obtain⟨x,hx⟩:∃ x,a[j]? = some x:=⟨_,List.getElem?_eq_getElem hlt⟩;obtain⟨y,hy⟩:∃ y,b[j]? = some y:=⟨_,List.getElem?_eq_getElem (by have:=Hlen.out;omega)⟩;obtain⟨g1,o1,rfl,hg1,h1⟩:=H1.out (by intro e;rw[e] at hlt;exact absurd hlt (Nat.not_lt_zero _))
      obtain⟨g2,o2,rfl,hg2,h2⟩:=H2.out (by intro e;have:=Hlen.out;rw[e] at this;have h0:([]:List UInt8).length=0:=rfl;omega)
      have cx:=h1 j _ hx;have cy:=h2 j _ hy;rw[←HB.out.cell (p:=⟨_,_,none⟩) hg1] at cx;rw[←HB.out.cell (p:=⟨_,_,none⟩) hg2] at cy;have Hx:=Hh hx;have Hy:=Hh hy;clear hx hy h1 h2;have hi0:(0:Int)≤(j:Int):=om
      have hi1:(j:Int)<(a.length:Int):=om
      have hi2:(j:Int)<(b.length:Int):=by have:=Hlen.out;omega
      by_cases e0:x=y
      · subst e0;go_wp2_with fail
        go_region
        all_goals
         go_wp2_with fail
         go_roundw
        case rel=>exact⟨j+1,om,by go_num,Hh HB.out.drew,Hh (by rw[List.take_add_one,List.take_add_one,HT.out,Hx.out,Hy.out])⟩
        case measure=>simp[intOf];omega
      · have hr:R=false:=by rw[←HR.out];exact decide_eq_false (fun e=>e0 (by have h3:=Hx.out;rw[e,Hy.out] at h3;exact (Option.some.inj h3).symm))
        subst hr;have hne:((x.toNat:Int) != (y.toNat:Int))=true:=by
         rw[bne_iff_ne];intro e;exact e0 (UInt8.toNat_inj.1 om)
        clear e0;go_wp2_with fail
        go_region
        all_goals
         go_wp2_with fail
         go_ret;exact⟨rfl,HB.out.drew⟩
    · obtain rfl:j=a.length:=om
      have hr:R=true:=by
       rw[←HR.out];refine decide_eq_true ?_
       have:=HT.out
       rwa [List.take_length,Hlen.out,List.take_length] at this
      subst hr;have hi1:¬ (a.length:Int)<(a.length:Int):=om
      go_wp2_with fail
      go_ret;exact⟨rfl,HB.out⟩
 · have hle:((a.length:Int) != (b.length:Int))=true:=by rw[bne_iff_ne];omega
   have hr:R=false:=by rw[←HR.out];exact decide_eq_false (fun e=>hlen (by rw[e]))
   subst hr;clear h1 h2 hlen;go_enter func224,ntmps224
   go_wp2_with fail
   go_ret;exact⟨rfl,Below.refl _ _⟩
abbrev Ni:List PanicEntry:=[{ v:=.iface 215 (.agg #[]),recovered:=false }]
theorem Qn {B:Nat} {a w:World} (h:Below B a w) (n:Nat):Below B a (w.drewN n):=⟨h.os,h.tape,h.output,h.size,h.block⟩
theorem Vv {b:Nat} {a w:World} (h:Kb b a w) (n:Nat):Kb b a (w.drewN n):=⟨h.os,h.tape,h.output,h.size,h.block⟩
abbrev fI (vb:Value) (at':Int) (vp:Value) (e:Nat→Value) (d n:Int):Obj:=.cells #[vb,.int .i64 at',vp,e 0,e 1,e 2,e 3,e 4,e 5,.int .i64 d,.int .i64 n] 213 (0,0)
theorem mB (D:Nat) (b:List UInt8) (vb vp:Value) (e:Nat→Value) (at':Nat) (d n:Int) (w:World) (hD:w.heap[D]? = some (fI vb at' vp e d n)) (hv:Row w vb b.length (aT b)) (hat:b.length≤at') :
 Calls prog 195 #[.pointer (some ⟨D,0,none⟩)] w fun e w'=>e=.panicked Ni∧Below w.heap.size w w':=by
 obtain⟨a,c,rfl,_,_⟩:=hv;have c0:=aC hD 0;have c1:=aC hD 1;have hlt:=aA hD;have hge:(b.length:Int)≤(at':Int):=om
 clear hD;go_enter func195,ntmps195
 go_wp2_with fail
 go_quiet (fail)
 go_wp2_with fail
 refine⟨rfl,?_⟩;exact⟨rfl,Qn br _⟩
theorem fW (D:Nat) (b:List UInt8) (vb vp:Value) (e:Nat→Value) (at':Nat) (d n:Int) (x:UInt8) (w:World) (hD:w.heap[D]? = some (fI vb at' vp e d n)) (hv:Row w vb b.length (aT b)) (hx:b[at']? = some x) (hl:b.length≤1000000) (hne:vb.ownBlock≠some D) :
 Calls prog 195 #[.pointer (some ⟨D,0,none⟩)] w fun r w'=>r=.returned (.int .u8 x.toNat)∧w'.heap[D]? = some (fI vb ((at'+1:Nat):Int) vp e d n)∧Kb D w w':=by
 have hlt9:=(List.getElem?_eq_some_iff.1 hx).1;obtain⟨a,c,rfl,_,h⟩:=hv.byt;obtain⟨g,o,rfl,hg,hc⟩:=h (by intro e;rw[e] at hlt9;exact absurd hlt9 (Nat.not_lt_zero _))
 have cx:=hc at' x hx;have c0:=aC hD 0;have c1:=aC hD 1;have f1:=aH hD 1;have hlt:=aA hD;have hge:¬ (b.length:Int)≤(at':Int):=om
 have hi1:(at':Int)<(b.length:Int):=om
 have hi0:(0:Int)≤(at':Int):=om
 have HD:=Hh hD;have hgd:g≠D:=fun e=>hne (by rw[e];rfl);have hgd2:D≠g:=hgd.symm;have hw1:IntKind.i64.wrap ((at':Int)+1 - 1)=at':=by rw[Int.add_sub_cancel];exact IntWalk.i64_in _ om
 clear hD hx hc hv h hne;go_enter func195,ntmps195
 go_wp2_with fail
 go_quiet (fail)
 go_wp2_with fail
 go_quiet (fail)
 go_wp2_with fail
 go_ret;refine⟨rfl,?_,Vv (Kb.setCell (Vv (Kb.refl _ _) _) 1 _) _⟩;have h1:=aG (i:=1) (v:=.int .i64 ((at':Int)+1)) HD.out;rw[Int.natCast_add];exact h1
theorem Lm:∀ k:Fin 256,IntKind.i8.wrap (k.val:Int)=if k.val≥128 then (k.val:Int) - 256 else k.val:=by decide +kernel
theorem xS (x:UInt8) (w:World):Calls prog 226 #[.int .u8 x.toNat] w fun e w'=>e=.returned (.int .i64 (sgn x))∧w=w':=by
 have hx:=x.toNat_lt;have key:IntKind.i8.wrap (x.toNat:Int)=sgn x:=Lm ⟨x.toNat,hx⟩;have hr:-128≤sgn x∧sgn x≤127:=by unfold sgn;split<;>omega
 obtain⟨y,hy⟩:∃ y,sgn x=y:=⟨_,rfl⟩;rw[hy] at key hr ⊢;obtain⟨hr0,hr1⟩:=hr;clear hy;go_enter func226,ntmps226
 go_wp2_with fail
 go_ret;exact⟨rfl,rfl⟩
theorem qX (D:Nat) (b:List UInt8) (vb vp:Value) (e:Nat→Value) (at':Int) (d n:Int) (k:Nat) (w:World) (hD:w.heap[D]? = some (fI vb at' vp e d n)) (hv:Row w vb b.length (aT b)) (hk0:0<k) (hk:k≤b.length) (hl:b.length≤1000000) :
 Calls prog 152 #[.pointer (some ⟨D,0,none⟩),.int .i64 k] w fun r w'=>∃ v,r=.returned v∧w'.ownsRow w.heap.size 5 1 v k (aT (b.take k))∧Below w.heap.size w w':=by
 obtain⟨a,c,rfl,hcap,h⟩:=hv.byt;obtain⟨g,o,rfl,hg,hc⟩:=h (by intro e;rw[e] at hk;simp at hk;omega);have c0:=aC hD 0;have HCL:=Hh (Tryz.bytes_Clone_at ⟨g,o,none⟩ k c ((b.take k).map fun x=>(x.toNat:Int)) w (by simp;omega) om (fun i hi=>by
  have hib:i<b.length:=om
  rw[bD,hc i _ (List.getElem?_eq_getElem hib)];simp[List.getD,List.getElem?_take_of_lt hi,List.getElem?_eq_getElem hib]))
 have hk1:(k:Int)≤(b.length:Int):=om
 have hk2:(0:Int)≤(k:Int):=om
 have hk3:(k:Int)≤(c:Int):=om
 clear hD hc hv h;go_enter func152,ntmps152
 go_wp2_with fail
 (with_reducible refine HCL.out.mono ?_);rintro e w1 ⟨v,rfl,ho,_,hb⟩;have HO:=Hh ho;have HB:=Hh hb;clear ho hb;go_wp2_with fail
 go_ret;refine⟨v,rfl,?_,HB.out⟩
 have:=HO.out
 rw[List.map_map] at this;exact this
theorem xX {P:Program} {W:World} {it pos:Nat} {s:ByteArray} (hW:W.heap[it]? = some (.stringIter s pos)) (h:pos<s.size) (ha:(s[pos]'h).toNat<128) (ty:TypeId) :
 (Instr.next (.pointer (some ⟨it,0,none⟩)) true ty).run P W=.ok (.tuple #[.bool true,.int .i64 pos,.int .i32 (s[pos]'h).toNat]) (W.putObj it (.stringIter s (pos+1))):=by
 simp only[Instr.next,getObj,setObj,Sem.run_bind,Sem.run,hW,Result.andThen,h,if_true,decode_ascii s pos h ha];simp[goInt,World.putObj]
theorem tQ {P:Program} {W:World} {it pos:Nat} {s:ByteArray} (hW:W.heap[it]? = some (.stringIter s pos)) (h:¬ pos<s.size) (ty:TypeId) :
 (Instr.next (.pointer (some ⟨it,0,none⟩)) true ty).run P W=.ok (.tuple #[.bool false]) W:=by
 simp[Instr.next,getObj,Sem.run,hW,h]
theorem dY {w W:World} {v:Value} {n D:Nat} {xs:List Value} (h:Row w v n xs) (hk:Kb D w W) (hne:v.ownBlock≠some D):Row W v n xs:=by
 obtain⟨a,c,hv,hc,h⟩:=h;refine⟨a,c,hv,hc,fun hx=>?_⟩;obtain⟨g,o,ha,hg,hcs⟩:=h hx;exact⟨g,o,ha,Nat.lt_of_lt_of_le hg hk.size,fun j hj=>(hk.cell (p:=⟨g,o+j,none⟩) hg (fun e=>hne (by rw[hv,ha];exact congrArg some e))).trans (hcs j hj)⟩
theorem Xu {D it:Nat} {w W:World} {o:Obj} (h:Kb D w W) (hw:w.heap.size≤it):Kb D w (W.putObj it o) :=
 ⟨h.os,h.tape,h.output,by show _≤(W.heap.setIfInBounds it o).size;rw[Array.size_setIfInBounds];exact h.size,fun k hk hb=>(World.putObj_heap_other om).trans (h.block k hk hb)⟩
structure Ao (D:Nat) (vb vp:Value) (e:Nat→Value) (it:Nat) (s:ByteArray) (w:World) (pos at':Nat) (d n:Int) (W:World):Prop where
 dec:W.heap[D]? = some (fI vb at' vp e d n)
 itr:W.heap[it]? = some (.stringIter s pos)
 kb:Kb D w W
def Fn (D:Nat) (b:List UInt8) (vb vp:Value) (e:Nat→Value) (w:World) (r:Option (Int × Int × List UInt8)) (x:Ending) (w':World):Prop :=
 match r with
 | some (d,n,rest)=>x=.returned (.tuple #[])∧w'.heap[D]? = some (fI vb ((b.length - rest.length:Nat):Int) vp e d n)∧rest=b.drop (b.length - rest.length)∧Kb D w w'
 | none=>x=.panicked Ni∧(∃ (at':Nat) (d n:Int),w'.heap[D]? = some (fI vb at' vp e d n))∧Kb D w w'
theorem kJ {D:Nat} {vb vp:Value} {e:Nat→Value} {it:Nat} {s:ByteArray} {w W1 W3:World} {pos at1 at3:Nat} {d1 n1 d3 n3:Int} (h:Ao D vb vp e it s w pos at1 d1 n1 W1) (hk:Kb D W1 W3) (hd:W3.heap[D]? = some (fI vb at3 vp e d3 n3)) (hlt:D≠it):Ao D vb vp e it s w pos at3 d3 n3 W3 :=
 ⟨hd,(hk.block it (aA h.itr) (Ne.symm hlt)).trans h.itr,h.kb.trans hk⟩
theorem As (n:Int) (h0:0≤n) (h1:n≤100000):wrap64 n=n:=by unfold wrap64;omega
theorem rM (x:UInt8):wrap64 (x.toNat:Int)=(x.toNat:Int):=As _ om (by have:=x.toNat_lt;omega)
theorem Wq (x y:UInt8):wrap64 ((x.toNat:Int)+(y.toNat:Int)*256)=(x.toNat:Int)+(y.toNat:Int)*256:=As _ om (by have:=x.toNat_lt;have:=y.toNat_lt;omega)
theorem aAn (y:UInt8):wrap64 ((y.toNat:Int)*256)=(y.toNat:Int)*256:=As _ om (by have:=y.toNat_lt;omega)
theorem oM {W3 wr:World} {it pos L:Nat} {s:ByteArray} (h:W3.heap[it]? = some (.stringIter s (pos+1))) (h0:wr.heap[it]? = some (.stringIter s pos)) (hlt:pos<L) :
 (match W3.heap[it]? with|some (.stringIter _ pos)=>L - pos|_=>0)<(match wr.heap[it]? with|some (.stringIter _ pos)=>L - pos|_=>0):=by
 rw[h,h0];show L - (pos+1)<L - pos
 omega
theorem aCB {b:List UInt8} {k:Nat} {x:UInt8} (h:b[k]? = some x):b.drop k=x::b.drop (k+1):=by
 obtain⟨hlt,he⟩:=List.getElem?_eq_some_iff.1 h;rw[List.drop_eq_getElem_cons hlt,he]
theorem Ee {p:Prop} (h:p:=by
 go_wp2_with fail
 (with_reducible refine (mB D b vb vp e at' d' n' _ HX1.out.dec (dY HV.out HX1.out.kb HNE.out) om).mono ?_);rintro r w2 ⟨rfl,hb2⟩;have HB2:=Hh hb2;clear hb2;have hRn:R=none:=by rw[←HRR2.out,show b.drop at'=[] from List.drop_eq_nil_of_le om];rfl
 subst hRn;go_wp2_with fail
 refine⟨rfl,rfl,⟨_,_,_,aB HX1.out.dec HB2.out (aA HX1.out.dec)⟩,HX1.out.kb.trans (Kb.of_below HB2.out)⟩):p:=h
theorem vK (D:Nat) (b:List UInt8) (vb vp:Value) (e:Nat→Value) (p:Nat) (d n:Int) (ls:List UInt8) (hls:∀ c∈ls,c=100∨c=101∨c=110∨c=119) (w:World) (hD:w.heap[D]? = some (fI vb p vp e d n)) (hp:p≤b.length) (hv:Row w vb b.length (aT b)) (hl:b.length≤1000000) (_hll:ls.length≤100) (hne:vb.ownBlock≠some D) :
 Calls prog 194 #[.pointer (some ⟨D,0,none⟩),.string ⟨ls.toArray⟩] w (Fn D b vb vp e w (dZ ls (b.drop p) d n)):=by
 obtain⟨R,hR⟩:∃ R,dZ ls (b.drop p) d n=R:=⟨_,rfl⟩;rw[hR];have hlD:=aA hD;have HD:=Hh hD;have HV:=Hh hv;have HNE:=Hh hne;have HR:=Hh hR;have HLS:=Hh hls;clear hD hv hne hR hls;go_enter func194,ntmps194
 go_wp2_with fail
 generalize hW0:World.iter _ _ _=W0;have hx0:Ao D vb vp e w.heap.size ⟨ls.toArray⟩ w 0 p d n W0:=by
  rw[←hW0];exact⟨aE HD.out,World.iter_heap _ _ _,Kb.alloc (Kb.refl _ _) _⟩
 have HX0:=Hh hx0;clear hW0 hx0;go_loopw [5,6] (fun _ _ wr=>∃ (pos at':Nat) (d' n':Int),pos≤ls.length∧at'≤b.length∧Hid (Ao D vb vp e w.heap.size ⟨ls.toArray⟩ w pos at' d' n' wr)∧Hid (dZ (ls.drop pos) (b.drop at') d' n'=R)) (fun _ _ wr=>match wr.heap[w.heap.size]? with|some (.stringIter _ pos)=>ls.length - pos|_=>0)
 case atStart=>exact⟨0,p,d,n,Nat.zero_le _,hp,HX0,HR⟩
 case round =>
  obtain⟨pos,at',d',n',hpos,hat,HX,HRR⟩:=hrel;by_cases hlt:pos<ls.length
  · obtain⟨c,hc⟩:∃ c,ls[pos]? = some c:=⟨_,List.getElem?_eq_getElem hlt⟩;have hsp:pos<(⟨ls.toArray⟩:ByteArray).size:=by show pos<ls.toArray.size;simpa using hlt
    have hsc:((⟨ls.toArray⟩:ByteArray)[pos]'hsp)=c:=by
     have h1:((⟨ls.toArray⟩:ByteArray)[pos]'hsp)=ls[pos]:=by show ls.toArray[pos]'_=_;simp
     rw[h1]
     have:=(List.getElem?_eq_some_iff.1 hc).2
     exact this
    have hcc:=HLS.out c (List.mem_of_getElem? hc);have hnx:=fun ty=>xX (P:=prog) HX.out.itr hsp (by rw[hsc];rcases hcc with rfl|rfl|rfl|rfl<;>decide) ty;rw[hsc] at hnx;have hdrop:ls.drop pos=c::ls.drop (pos+1):=by
     rw[List.drop_eq_getElem_cons hlt,(List.getElem?_eq_some_iff.1 hc).2]
    have HRR2:=Hh (show dZ (c::ls.drop (pos+1)) (b.drop at') d' n'=R by rw[←hdrop];exact HRR.out)
    clear hc hsc hdrop;obtain⟨W1,hW1⟩:∃ W1,wr.putObj w.heap.size (.stringIter ⟨ls.toArray⟩ (pos+1))=W1:=⟨_,rfl⟩;rw[hW1] at hnx;have hx1:Ao D vb vp e w.heap.size ⟨ls.toArray⟩ w (pos+1) at' d' n' W1:=by
     rw[←hW1];exact⟨(World.putObj_heap_other om).trans HX.out.dec,World.putObj_heap_same (aA HX.out.itr),Xu HX.out.kb lr⟩
    have HX1:=Hh hx1;have HIT:=Hh HX.out.itr;clear hx1 hW1;rcases hcc with rfl|rfl|rfl|rfl
    · by_cases hb:at'<b.length
      · obtain⟨x,hx⟩:∃ x,b[at']? = some x:=⟨_,List.getElem?_eq_getElem hb⟩;have HBX:=Hh hx;clear hx;go_wp2_with fail
        (with_reducible refine (fW D b vb vp e at' d' n' x _ HX1.out.dec (dY HV.out HX1.out.kb HNE.out) HBX.out hl HNE.out).mono ?_);rintro r w2 ⟨rfl,hd2,hk2⟩;have HX2:=Hh (kJ HX1.out hk2 hd2 om);have c9:=aC HX2.out.dec 9;have f9:=aH HX2.out.dec 9;have l9:=aA HX2.out.dec;clear hd2 hk2;go_wp2_with fail
        (with_reducible refine (xS x _).mono ?_);rintro r w3 ⟨rfl,rfl⟩;go_wp2_with fail
        have HF:=Hh (kJ (d3:=sgn x) (n3:=n') HX2.out (Kb.setCell (Kb.refl _ _) 9 _) (aG (i:=9) (v:=.int .i64 (sgn x)) HX2.out.dec) om);refine⟨⟨pos+1,at'+1,sgn x,n',om,om,HF,Hh ?_⟩,oM HF.out.itr HIT.out hlt⟩
        rw[←HRR2.out,aCB HBX.out];rfl
      · exact Ee
    · by_cases hb:at'<b.length
      · obtain⟨x,hx⟩:∃ x,b[at']? = some x:=⟨_,List.getElem?_eq_getElem hb⟩;have HBX:=Hh hx;clear hx;go_wp2_with fail
        (with_reducible refine (fW D b vb vp e at' d' n' x _ HX1.out.dec (dY HV.out HX1.out.kb HNE.out) HBX.out hl HNE.out).mono ?_);rintro r w2 ⟨rfl,hd2,hk2⟩;have HX2:=Hh (kJ HX1.out hk2 hd2 om);have c9:=aC HX2.out.dec 10;have f9:=aH HX2.out.dec 10;have l9:=aA HX2.out.dec;clear hd2 hk2;go_wp2_with fail
        (with_reducible refine (xS x _).mono ?_);rintro r w3 ⟨rfl,rfl⟩;go_wp2_with fail
        have HF:=Hh (kJ (d3:=d') (n3:=sgn x) HX2.out (Kb.setCell (Kb.refl _ _) 10 _) (aG (i:=10) (v:=.int .i64 (sgn x)) HX2.out.dec) om);refine⟨⟨pos+1,at'+1,d',sgn x,om,om,HF,Hh ?_⟩,oM HF.out.itr HIT.out hlt⟩
        rw[←HRR2.out,aCB HBX.out];rfl
      · exact Ee
    · by_cases hb:at'<b.length
      · obtain⟨x,hx⟩:∃ x,b[at']? = some x:=⟨_,List.getElem?_eq_getElem hb⟩;have HBX:=Hh hx;clear hx;go_wp2_with fail
        (with_reducible refine (fW D b vb vp e at' d' n' x _ HX1.out.dec (dY HV.out HX1.out.kb HNE.out) HBX.out hl HNE.out).mono ?_);rintro r w2 ⟨rfl,hd2,hk2⟩;have HX2:=Hh (kJ HX1.out hk2 hd2 om);have c9:=aC HX2.out.dec 10;have f9:=aH HX2.out.dec 10;have l9:=aA HX2.out.dec;clear hd2 hk2;have hwx:wrap64 (x.toNat:Int)=(x.toNat:Int):=rM x;go_wp2_with fail
        have HF:=Hh (kJ (d3:=d') (n3:=(x.toNat:Int)) HX2.out (Kb.setCell (Kb.refl _ _) 10 _) (aG (i:=10) (v:=.int .i64 (x.toNat)) HX2.out.dec) om);refine⟨⟨pos+1,at'+1,d',(x.toNat:Int),om,om,HF,Hh ?_⟩,oM HF.out.itr HIT.out hlt⟩
        rw[←HRR2.out,aCB HBX.out];rfl
      · exact Ee
    · by_cases hb:at'<b.length
      · obtain⟨x,hx⟩:∃ x,b[at']? = some x:=⟨_,List.getElem?_eq_getElem hb⟩;have HBX:=Hh hx;clear hx;go_wp2_with fail
        (with_reducible refine (fW D b vb vp e at' d' n' x _ HX1.out.dec (dY HV.out HX1.out.kb HNE.out) HBX.out hl HNE.out).mono ?_);rintro r w2 ⟨rfl,hd2,hk2⟩;have HX2:=Hh (kJ HX1.out hk2 hd2 om);clear hd2 hk2;have hwx:wrap64 (x.toNat:Int)=(x.toNat:Int):=rM x;go_wp2_with fail
        by_cases hb1:at'+1<b.length
        · obtain⟨y,hy⟩:∃ y,b[at'+1]? = some y:=⟨_,List.getElem?_eq_getElem hb1⟩;have HBY:=Hh hy;clear hy;(with_reducible refine (fW D b vb vp e (at'+1) d' n' y _ HX2.out.dec (dY HV.out HX2.out.kb HNE.out) HBY.out hl HNE.out).mono ?_);rintro r w3 ⟨rfl,hd2,hk2⟩;have HX3:=Hh (kJ HX2.out hk2 hd2 om);have c9:=aC HX3.out.dec 10;have f9:=aH HX3.out.dec 10;have l9:=aA HX3.out.dec;clear hd2 hk2;have hy0:(y.toNat:Int)<256:=by have:=y.toNat_lt;omega
          have hx0:(x.toNat:Int)<256:=by have:=x.toNat_lt;omega
          have hwy:wrap64 (y.toNat:Int)=(y.toNat:Int):=rM y;have hwz:wrap64 ((y.toNat:Int)*256)=(y.toNat:Int)*256:=aAn y;have hws:wrap64 ((x.toNat:Int)+(y.toNat:Int)*256)=(x.toNat:Int)+(y.toNat:Int)*256:=Wq x y;go_wp2_with fail
          have HF:=Hh (kJ (d3:=d') (n3:=(x.toNat:Int)+(y.toNat:Int)*256) HX3.out (Kb.setCell (Kb.refl _ _) 10 _) (aG (i:=10) (v:=.int .i64 ((x.toNat:Int)+(y.toNat:Int)*256)) HX3.out.dec) om);refine⟨⟨pos+1,at'+1+1,d',(x.toNat:Int)+(y.toNat:Int)*256,om,om,HF,Hh ?_⟩,oM HF.out.itr HIT.out hlt⟩
          rw[←HRR2.out,aCB HBX.out,aCB HBY.out];rfl
        · skip
          (with_reducible refine (mB D b vb vp e (at'+1) d' n' _ HX2.out.dec (dY HV.out HX2.out.kb HNE.out) om).mono ?_);rintro r w2 ⟨rfl,hb2⟩;have HB2:=Hh hb2;clear hb2;have hRn:R=none:=by rw[←HRR2.out,aCB HBX.out,show b.drop (at'+1)=[] from List.drop_eq_nil_of_le om];rfl
          subst hRn;go_wp2_with fail
          refine⟨rfl,rfl,⟨_,_,_,aB HX2.out.dec HB2.out (aA HX2.out.dec)⟩,HX2.out.kb.trans (Kb.of_below HB2.out)⟩
      · exact Ee
  · obtain rfl:pos=ls.length:=om
    have hnx:=fun ty=>tQ (P:=prog) HX.out.itr (by show ¬ ls.length<ls.toArray.size;simp) ty;go_wp2_with fail
    go_end0
    have hRs:R=some (d',n',b.drop at'):=by
     rw[←HRR.out,List.drop_eq_nil_of_le lr];rfl
    subst hRs;have hbl:b.length - (b.drop at').length=at':=by rw[List.length_drop];omega
    exact⟨rfl,by rw[hbl];exact HX.out.dec,by rw[hbl],HX.out.kb⟩
end Go.Proofs.YtoigglljnklhlaaGreatDoor
