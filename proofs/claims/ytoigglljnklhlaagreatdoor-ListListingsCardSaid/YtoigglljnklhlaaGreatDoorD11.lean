/- Joined. -/
import Derived.Test.YtoigglljnklhlaaGreatDoorD10
set_option maxHeartbeats 8000000
set_option maxRecDepth 100000
namespace Go.Proofs.YtoigglljnklhlaaGreatDoor
open Go.RowKit Go.Sort Go.Shelf
open Go.Proofs.Tryz
attribute [local go_sem] Oper.semAt_some
def jA (op:Nat) (l:List RA):Option RA:=l.find? fun r=>eH r.1.text op
def uU (o:Option RA):Value:=.tuple #[.string (match o with|some r=>⟨r.1.text.toArray⟩|none=>⟨#[]⟩),.bool o.isSome]
theorem rR {b:Nat} (A B:World) (k:Nat) (o:Obj) (h:StB b A B) (hk:A.heap[k]? = some o) (hc:o.isCells=false):B.heap[k]? = some o:=by
 obtain⟨h,s,hs⟩:=h;by_cases e:k=b
 · subst e;unfold StrB at hs;rw[hs] at hk;cases hk;cases hc
 · exact (h.block k (Array.getElem?_eq_some_iff.1 hk).1 e).trans hk
theorem iS {b k:Nat} {t:TypeId} {v:Value} {A B:World} (h:Boxed A k t v) (hb:Kb b A B) (hne:k≠b):Boxed B k t v:=(hb.block k h.lt hne).trans h
theorem Kb.belowN {b n:Nat} {A B:World} (h:Kb b A B) (hn:n≤b) (hA:n≤A.heap.size):Below n A B:=⟨h.os,h.tape,h.output,h.size,fun k hk=>h.block k om om⟩
theorem Sv {op:Nat} {l:List RA} (h:∀ y∈l,eH y.1.text op=false):jA op l=none:=by
 unfold jA;rw[List.find?_eq_none];intro y hy;rw[h y hy];decide
theorem Nw {op:Nat} {q l:List RA} {x:RA} (hp:q++[x] <+: l) (h:∀ y∈q,eH y.1.text op=false) (hx:eH x.1.text op=true):jA op l=some x:=by
 obtain⟨r,rfl⟩:=hp;unfold jA;rw[List.append_assoc,List.find?_append,List.find?_eq_none.2 (by intro y hy;rw[h y hy];decide)];simp[hx]
theorem uG (s:ByteArray) (w:World):Calls prog 274 #[.string s] w fun e w'=>e=.returned (.func (.func 292) #[] #[.pointer (some ⟨w.heap.size,0,none⟩)])∧w'=w.alloc (.cells #[.string s] 9):=by
 go_enter func274,ntmps274
 go_wp2
 go_ret;exact⟨rfl,rfl⟩
theorem nE (r0:RA) (rl:List RA) (op:Nat) (w:World) (hlen:rl.length≤1000) (hop:op<256) :
 Calls prog 249 #[.string (dA (r0::rl)),.int .u8 op] w fun e w'=>e=.returned (uU (jA op (r0::rl)))∧Below w.heap.size w w':=by
 refine (callsIn_wide (n:=3)).1 ?_;obtain⟨J,hJ⟩:∃ J,dA (r0::rl)=J:=⟨_,rfl⟩;rw[hJ];have HJ:=Hh hJ;clear hJ;refine callsIn_of_wp_marks func249 rfl trivial ?_ rfl;simp only[ntmps249,List.size_toArray,List.length_cons,List.length_nil,Nat.reduceAdd,Nat.reduceSub,Array.replicate_succ,Array.replicate_zero,List.push_toArray,List.append_toArray,List.nil_append,List.cons_append];gi_wp2_with (refine⟨trivial,?_⟩;gi_at_call 274;refine (callsIn_wide.2 (uG _ _)).mono ?_;rintro e w' ⟨rfl,rfl⟩)
 obtain⟨c,hc⟩:∃ c:World,(((w.alloc (.cells #[.int .u8 op] 5)).alloc (.cells #[.string ⟨#[]⟩] 9)).alloc (.cells #[.bool false] 4))=c:=⟨_,rfl⟩;have hcs:c.heap.size=w.heap.size+1+1+1:=by rw[←hc];simp
 have b0:Boxed c w.heap.size 5 (.int .u8 op):=by rw[←hc];exact ((Boxed.new _ _ _).alloc _).alloc _
 have b1:Boxed c (w.heap.size+1) 9 (.string ⟨#[]⟩):=by rw[←hc];have:=(Boxed.new (w.alloc (.cells #[.int .u8 op] 5)) 9 (.string ⟨#[]⟩)).alloc (.cells #[.bool false] 4);rwa [World.size_alloc] at this
 have b2:Boxed c (w.heap.size+1+1) 4 (.bool false):=by rw[←hc];have:=Boxed.new ((w.alloc (.cells #[.int .u8 op] 5)).alloc (.cells #[.string ⟨#[]⟩] 9)) 4 (.bool false);simp only[World.size_alloc] at this;exact this
 have hB0:Below w.heap.size w c:=by rw[←hc];exact ((((Below.refl _ w).alloc lr _).alloc sm _).alloc (by simp;omega) _)
 rw[hc];clear hc;have hst:StrB (w.heap.size+1+1+1) (c.alloc (.cells #[.string J] 9)) (dA (r0::rl)):=by rw[HJ.out,←hcs];exact Boxed.new _ _ _
 refine gJ rfl dc (gf:=292) (lb:=#[.pointer (some ⟨w.heap.size+1+1+1,0,none⟩)]) rfl trivial (enters_of func292 kr rfl)
  (uH 2 (w.heap.size+1+1+1) dc r0 rl hlen)
  (fun o o'=>(Boxed.alloc (Boxed.alloc hst o) o')) (fun A B k o h hk hc _=>rR A B k o h hk hc) Ev (Ew (by rw[World.size_alloc,hcs];omega)) (fun _ _ _ _ _ _ _ _ _=>trivial) (fun _=>rfl)
  (fun pre W=>((∀ y∈pre,eH y.1.text op=false)∧Boxed W w.heap.size 5 (.int .u8 op)∧Boxed W (w.heap.size+1) 9 (.string ⟨#[]⟩)∧Boxed W (w.heap.size+1+1) 4 (.bool false))∧Below w.heap.size w W)
  (fun c pre W=>(c=.ret∧∃ q x,pre=q++[x]∧(∀ y∈q,eH y.1.text op=false)∧eH x.1.text op=true∧Boxed W (w.heap.size+1) 9 (.string ⟨x.1.text.toArray⟩)∧Boxed W (w.heap.size+1+1) 4 (.bool true))∧Below w.heap.size w W)
  ?hI ?hIs ?hIx ?hIxs ⟨⟨by simp,b0.alloc _,b1.alloc _,b2.alloc _⟩,hB0.alloc om _⟩
  (fun x=>{ tmps:=#[.string J,.int .u8 op,undef,.pointer (some ⟨w.heap.size,0,none⟩),.pointer (some ⟨w.heap.size+1,0,none⟩),.pointer (some ⟨w.heap.size+1+1,0,none⟩),.string ⟨x.1.text.toArray⟩,.string J,.func (.func 292) #[] #[.pointer (some ⟨w.heap.size+1+1+1,0,none⟩)],.string ⟨x.1.text.toArray⟩,undef,undef,undef,undef],defers:=[] }) ?assign ?body ?done ?stop
 case hI=>exact OwnFrom.and (fun s A B row hs hg hr=>⟨hs.1,(Own.from (boxed_own (β:=Unit) _ _ fun _=>_) _) () A B row hs.2.1 hg hr,(Own.from (boxed_own (β:=Unit) _ _ fun _=>_) _) () A B row hs.2.2.1 hg hr,(Own.from (boxed_own (β:=Unit) _ _ fun _=>_) _) () A B row hs.2.2.2 hg hr⟩) (ownFrom_below lr (by rw[World.size_alloc,hcs];omega))
 case hIs=>exact fun s A B ⟨⟨h1,h2,h3,h4⟩,h5⟩ hs=>⟨⟨h1,iS h2 hs.1 om,iS h3 hs.1 om,iS h4 hs.1 om⟩,h5.trans (hs.1.belowN om h5.size)⟩
 case hIx=>exact fun c=>OwnFrom.and (fun s A B row ⟨h0,q,x,h1,h2,h3,h4,h5⟩ hg hr=>⟨h0,q,x,h1,h2,h3,(Own.from (boxed_own (β:=Unit) _ _ fun _=>_) _) () A B row h4 hg hr,(Own.from (boxed_own (β:=Unit) _ _ fun _=>_) _) () A B row h5 hg hr⟩) (ownFrom_below lr (by rw[World.size_alloc,hcs];omega))
 case hIxs=>exact fun c s A B ⟨⟨h0,q,x,h1,h2,h3,h4,h5⟩,h6⟩ hs=>⟨⟨h0,q,x,h1,h2,h3,iS h4 hs.1 om,iS h5 hs.1 om⟩,h6.trans (hs.1.belowN om h6.size)⟩
 case assign =>
  intro l x W K hK;gi_wp2
  exact hK
 case body =>
  rintro l pre x W ⟨⟨hp,c0,c1,c2⟩,hB⟩ _ _;have hc0:=c0.cell;have k1:=c1.cell;have f1:=c1.frozen;have k2:=c2.cell;have f2:=c2.frozen;have hfits:=zK x.1.text op W (cZ x).1 (cZ x).2.1 hop;rcases hx:eH x.1.text op with _|_
  · rw[hx] at hfits;have HF:=Hh hfits;clear hfits;have HX:=Hh hx;clear hx;gi_wp2_with (refine⟨trivial,?_⟩;gi_at_call 262;refine (CallsIn.inRound l (callsIn_wide.2 HF.out)).mono ?_;rintro e w' ⟨rfl,rfl⟩)
    exact⟨KeepsOthers.refl _,rfl,⟨fun y hy=>(List.mem_append.1 hy).elim (hp y) (fun e=>by simp at e;subst e;exact HX.out),c0,c1,c2⟩,hB⟩
  · rw[hx] at hfits;have HF:=Hh hfits;clear hfits;have HX:=Hh hx;clear hx;gi_wp2_with (refine⟨trivial,?_⟩;gi_at_call 262;refine (CallsIn.inRound l (callsIn_wide.2 HF.out)).mono ?_;rintro e w' ⟨rfl,rfl⟩)
    exact⟨(KeepsOthers.setCell _ _ _).trans (KeepsOthers.setCell _ _ _),⟨rfl,pre,x,rfl,hp,HX.out,(c1.set _).other om _,(c2.other om _).set _⟩,(hB.setCell (p:=⟨w.heap.size+1,0,none⟩) sm _).setCell (p:=⟨w.heap.size+1+1,0,none⟩) (by simp;omega) _⟩
 case done =>
  rintro D ys W hD rfl ⟨⟨hp,c0,c1,c2⟩,hB⟩ hK;have k1:=c1.cell;have f1:=c1.frozen;have k2:=c2.cell;have f2:=c2.frozen;have HP:=Hh hp;clear hp;gi_wp2
  have hd:D≠w.heap.size+1:=by rw[World.size_alloc,hcs] at hD;omega
  have hd2:D≠w.heap.size+1+1:=by rw[World.size_alloc,hcs] at hD;omega
  have hK':=(((KeepsOthers.setCell W ⟨w.heap.size+1,0,none⟩ (.string ⟨#[]⟩)).trans (KeepsOthers.setCell _ ⟨w.heap.size+1+1,0,none⟩ (.bool false)))).same D _ hK rfl;refine⟨by simp,.inl ⟨_,_,rfl,run_takeDeferred hK',?_⟩⟩
  have e1:=((c1.set (.string ⟨#[]⟩)).other (B':=w.heap.size+1+1) om (.bool false)).kept (grownBy_putObj' _ D (.deferred none)) (fun e=>hd (by cases e;rfl));have e2:=((c2.other (B':=w.heap.size+1) om (.string ⟨#[]⟩)).set (.bool false)).kept (grownBy_putObj' _ D (.deferred none)) (fun e=>hd2 (by cases e;rfl));have g1:=e1.cell;have g2:=e2.cell;refine⟨uU none,?_,by rw[Sv HP.out],((hB.setCell (p:=⟨w.heap.size+1,0,none⟩) sm _).setCell (p:=⟨w.heap.size+1+1,0,none⟩) (by simp;omega) _).trans (belowK_b (w:=w) lr _ D _ _ (by rw[World.size_alloc,hcs] at hD;omega) hK' rfl rfl)⟩
  simp[results,Tryz.f249,go_sem,g1,g2,uU]
 case stop =>
  rintro D c pre W hD hpre ⟨⟨rfl,q,x,rfl,hq,hx,c1,c2⟩,hB⟩ hK;have HP:=Hh (Nw hpre hq hx);clear hpre hq hx;gi_wp2
  have hd:D≠w.heap.size+1:=by rw[World.size_alloc,hcs] at hD;omega
  have hd2:D≠w.heap.size+1+1:=by rw[World.size_alloc,hcs] at hD;omega
  refine⟨by simp,.inl ⟨_,_,rfl,run_takeDeferred hK,?_⟩⟩
  have g1:=(c1.kept (grownBy_putObj' _ D (.deferred none)) (fun e=>hd (by cases e;rfl))).cell;have g2:=(c2.kept (grownBy_putObj' _ D (.deferred none)) (fun e=>hd2 (by cases e;rfl))).cell;refine⟨uU (some x),?_,by rw[HP.out],hB.trans (belowK_b (w:=w) lr W D _ _ (by rw[World.size_alloc,hcs] at hD;omega) hK rfl rfl)⟩
  simp[results,Tryz.f249,go_sem,g1,g2,uU]
end Go.Proofs.YtoigglljnklhlaaGreatDoor
namespace Go.Proofs.YtoigglljnklhlaaGreatDoor
open Go.RowKit Go.Sort
open Go.ChangeMaps
theorem fK {P:Program} {w:World} {ops:Array Oper} {rest:List Oper} {o:Oper} {a:Act} {Q:Exit→Act→World→Prop} (hgd:o.guard=none) (s x:Operand) (t:TypeId)
 (ho:o.op=.call { callee:=.builtin .append,args:=#[s,x],argTypes:=#[t,t] })
 (base:Nat) (e:TypeId) (i:TypeInfo) (z:Value) (size bytes:Nat) (ht:P.underlying t=some (.slice e)) (hi:P.info? e=some i) (hz:i.zero=some z)
 (hsize:i.size=size) (hby:i.bytes=bytes) (hzs:z.cells.size=size) (hsz:0<size)
 (v:Value) (n:Nat) (xs:List Value) (hs:a.eval s=v) (hown:w.ownsRow base e size v n xs)
 (v2:Value) (m:Nat) (news:List Value) (hx:a.eval x=v2) (hsrc:eR w v2 m news) (hl:news.length=m*size) (h1:∀ u∈news,u.oneCell'=true)
 (h63:n+m≤maxLen) (hbytes:(n+m)*bytes≤140737488355328) (hbase:base≤w.heap.size)
 (h:∀ v' w',w'.ownsRow base e size v' (n+m) (xs++news)→w.grownBy w' v.ownBlock→(v'=.slice none 0 0↔v=.slice none 0 0∧m=0)→wpList P ops Q rest (a.put o.dst v') w'):wpList P ops Q (o::rest) a w:=by
 refine wpList_plain hgd fun _ hK=>?_;rcases hsrc with⟨rfl,rfl⟩|⟨ad,c,rfl,hc⟩
 · have hn:news=[]:=List.eq_nil_of_length_eq_zero (by simpa using hl);subst hn;have hrun:=run_append_owned_none (P:=P) (w:=w) base t o.type e i size ht hi v n xs hown;unfold Oper.wp;simp[execOp,ho,resolve,invoke,builtin,hs,hx,hrun,Result.andThen]
   exact hK _ _ (h v w (by simpa using hown) (World.grownBy.refl w _) sm)
 · exact wp_append_own w s x t ho base e i z size bytes ht hi hz hsize hby hzs hsz v n xs hs hown ad m c news hx hl hc h1 h63 hbytes hbase fun v' w' h2 h3 h4=>hK _ _ (h v' w' h2 h3 h4)
end Go.Proofs.YtoigglljnklhlaaGreatDoor
namespace Go.Proofs.YtoigglljnklhlaaGreatDoor
open Go.RowKit Go.Sort
open Go.Proofs.Tryz
theorem jT (w:World) (o:Obj):(w.alloc o).heap[w.heap.size]? = some o:=by show (w.heap.push o)[w.heap.size]? = _;simp
theorem Ca (w:World) (o1 o2:Obj):((w.alloc o1).alloc o2).heap[w.heap.size+1]? = some o2:=by
 rw[show w.heap.size+1=(w.alloc o1).heap.size by simp]
 exact jT _ _
theorem BuAt.setArgs {w:World} {b:Nat} {u:Bu} (h:BuAt w b u) (v:Value):BuAt (w.setCell ⟨b,3,none⟩ v) b { u with va:=v }:=by
 unfold BuAt at *;show (w.heap.modify b _)[b]? = _
 rw[Array.getElem?_eq_getElem (by rw[Array.size_modify];exact (Array.getElem?_eq_some_iff.1 h).1),Array.getElem_modify_self,(Array.getElem?_eq_some_iff.1 h).2]
 rfl
theorem BuAt.args {w:World} {b:Nat} {u:Bu} (h:BuAt w b u):w.cell? ⟨b,3,none⟩=some u.va∧w.frozen? ⟨b,3,none⟩=false:=by
 unfold BuAt at h;refine⟨?_,?_⟩<;>simp[World.cell?,World.frozen?,h]
theorem BuAt.entry {w:World} {b:Nat} {u:Bu} (h:BuAt w b u):w.cell? ⟨b,0,none⟩=some (.int .i64 u.page)∧w.cell? ⟨b,1,none⟩=some (.int .u8 u.op)∧w.cell? ⟨b,2,none⟩=some (.string ⟨u.mn.toArray⟩)∧w.cell? ⟨b,3,none⟩=some u.va∧w.cell? ⟨b,4,none⟩=some (.string ⟨u.ex.toArray⟩)∧w.cell? ⟨b,5,none⟩=some (.bool u.al):=by
 unfold BuAt at h;refine⟨?_,?_,?_,?_,?_,?_⟩<;>simp[World.cell?,h]
def aOf (bits:List UInt8) (op:Nat) (l:List (List UInt8)):List Op3:=l.map fun s=>(dS bits op s).1
def xOf (bits:List UInt8) (op:Nat) (l:List (List UInt8)):List UInt8:=l.flatMap fun s=>(dS bits op s).2
theorem Dy (bits:List UInt8) (op:Nat) (s:List UInt8):(dS bits op s).2.length≤1:=by
 unfold dS
 repeat' split
 all_goals first|(simp;done)|(dsimp only;repeat' split)<;>simp
theorem oX (bits:List UInt8) (op:Nat):∀ l:List (List UInt8),(xOf bits op l).length≤l.length
 | []=>by simp[xOf]
 | s::l=>by
   have h1:=Dy bits op s;have h2:=oX bits op l;unfold xOf at *;rw[List.flatMap_cons,List.length_append,List.length_cons];omega
theorem Qx (bits:List UInt8) (op:Nat) (l:List (List UInt8)) (s:List UInt8):aOf bits op (l++[s])=aOf bits op l++[(dS bits op s).1]:=by simp[aOf]
theorem Jp (bits:List UInt8) (op:Nat) (l:List (List UInt8)) (s:List UInt8):xOf bits op (l++[s])=xOf bits op l++(dS bits op s).2:=by simp[xOf]
theorem In (page:Nat) (r0:RA) (rl:List RA) (op:Nat) (w:World) (hlen:rl.length≤1000) (hop:op<256) (hn:jA op (r0::rl)=none) :
 Calls prog 227 #[.int .i64 page,.string (dA (r0::rl)),.int .u8 op] w fun e w'=>e=.returned (.tuple #[cP ent0 (.slice none 0 0),.bool false])∧Below w.heap.size w w':=by
 have hlk:=fun W=>nE r0 rl op W hlen hop;rw[hn] at hlk;unfold uU at hlk;generalize dA (r0::rl)=J at *;have HL:=Hh hlk;clear hlk hn;go_enter func227,ntmps227
 go_wp2_with fail
 refine (HL.out _).mono ?_;rintro e w1 ⟨rfl,hb⟩;obtain⟨p1,rfl⟩:=aO hb;clear hb;go_wp2_with fail
 refine bodyPost_ret (v:=.tuple #[cP ent0 (.slice none 0 0),.bool false]) (by simp[results,results227,go_sem,ent0]) rfl ⟨rfl,bl⟩
theorem Ip (page op n:Nat) (J:ByteArray) (tx bs mn:List UInt8) (A:List (List UInt8)) (al:Bool) (w:World) (HT:Hid (TabsA w)) (HA:Hid (A.length=n)) (hn3:n≤3) (H8:Hid (bs.length=8)) (hop:op<256)
 (HARG:Hid (∀ (j:Nat) (s:List UInt8),A[j]? = some s→s∈Un∧Dz bs op s=true))
 (HL:Hid (∀ W,Calls prog 249 #[.string J,.int .u8 op] W fun e w'=>e=.returned (.tuple #[.string ⟨tx.toArray⟩,.bool true])∧Below W.heap.size W w'))
 (HP:Hid (∀ W,TabsA W→Calls prog 250 #[.string ⟨tx.toArray⟩] W fun e w'=>∃ a c,e=.returned (nR bs mn (.slice a n c) al)∧Row w' (.slice a n c) n (fH (A.map fun x=>⟨x.toArray⟩))∧Below W.heap.size W w')) :
 Calls prog 227 #[.int .i64 page,.string J,.int .u8 op] w fun e w'=>∃ v,e=.returned (.tuple #[.agg #[.int .i64 page,.int .u8 op,.string ⟨mn.toArray⟩,v,.string ⟨(xOf bs op A).toArray⟩,.bool al],.bool true])∧w'.ownsRow w.heap.size 144 3 v n (opc (aOf bs op A))∧Below w.heap.size w w':=by
 obtain⟨i0,hi,hz0,hz1,hz2⟩:=info_parts Tryz.infoOperand;go_enter func227,ntmps227
 go_wp2_with fail
 refine (HL.out _).mono ?_;rintro e w1 ⟨rfl,hb⟩;have hb1:=aK hb;have HBX:=Hh (aW hb);have HB1:=Hh hb1;clear hb hb1;go_wp2_with fail
 refine (HP.out w1 (HT.out.below HB1.out)).mono ?_;rintro e w2 ⟨a,c,rfl,hrow,hb2⟩;have hb3:=HB1.out.trans (hb2.mono HB1.out.size);have hbx:=(hb2.block _ (lt_of_block HBX.out)).trans HBX.out;have hl2:=lt_of_block hbx;have HB2:=Hh hb3;clear hb2 hb3;have HBX2:=Hh hbx;clear hbx;have HROW:=Hh hrow;clear hrow;go_wp2_with fail
 obtain⟨W1,hW1⟩:∃ W1,w2.alloc (.cells #[.string ⟨bs.toArray⟩,.string ⟨mn.toArray⟩,.slice a n c,.bool al] 312)=W1:=⟨_,rfl⟩;have hs1:W1.heap.size=w2.heap.size+1:=by rw[←hW1];simp
 have hb21:Below w2.heap.size w2 W1:=by rw[←hW1];exact br.alloc lr _
 rw[hW1,←hs1];have HW1:=Hh hW1;clear hW1;have hnb:=jT W1 (.cells #[.int .i64 page,.int .u8 op,.string ⟨mn.toArray⟩,.slice none 0 0,.string ⟨#[]⟩,.bool al,.string ⟨bs.toArray⟩,.string ⟨mn.toArray⟩,.slice a n c,.bool al] 316);obtain⟨B,hB⟩:∃ B,W1.heap.size=B:=⟨_,rfl⟩;rw[hB] at hs1 hnb ⊢;have hgB:w2.heap.size<B:=om
 have HS1:=Hh hs1;clear hs1;have HBB:=Hh hB;clear hB;have HNB:=Hh hnb;clear hnb;go_loopw [44] (fun i wr=>∃ (j:Nat) (v:Value),j≤n∧i=.int .i64 j∧Hid (BuAt wr B ⟨page,op,mn,v,xOf bs op (A.take j),al,bs,mn,a,n,c,al⟩)∧Hid (wr.ownsRow (B+1) 144 3 v j (opc (aOf bs op (A.take j))))∧Hid (Below B W1 wr)) (fun i _=>n - (intOf i).toNat)
 case atStart=>exact⟨0,.slice none 0 0,Nat.zero_le _,rfl,Hh HNB.out,Hh (World.ownsRow_nil _ _ _ _),Hh (br.alloc (Nat.le_of_eq HBB.out.symm) _)⟩
 case round =>
  obtain⟨j,v,hj,rfl,HBU,HOWN,HBL⟩:=hrel;have hsz:B<wr.heap.size:=HBU.out.lt;by_cases hlt:j<n
  · obtain⟨s,hs⟩:∃ s,A[j]? = some s:=⟨_,List.getElem?_eq_getElem (by rw[HA.out];exact hlt)⟩;obtain⟨hsm,hsc⟩:=HARG.out j s hs;obtain⟨a',c',ha',hc',hrow⟩:=HROW.out;cases ha'
    obtain⟨g,o,ha,hg,hcell⟩:=hrow (by intro e;have:=jN (A.map fun x=>(⟨x.toArray⟩:ByteArray));rw[e,List.length_map,HA.out] at this;simp at this;omega)
    subst ha;have hc:=hcell j (by rw[jN,List.length_map,HA.out];exact hlt);have hcs:wr.cell? ⟨g,o+j,none⟩=some (.string ⟨s.toArray⟩):=by
     rw[HBL.out.cell (p:=⟨g,o+j,none⟩) (by show g<_;omega),hb21.cell (p:=⟨g,o+j,none⟩) hg,hc];simp[fH,hs]
    clear hcell hc hrow;have hTr:TabsA wr:=((HT.out.below HB2.out).below hb21).below (by rw[HBB.out];exact HBL.out);have hxl:=oX bs op (A.take j);rw[List.length_take] at hxl;have harg:=Um B ⟨page,op,mn,v,xOf bs op (A.take j),al,bs,mn,some ⟨g,o,none⟩,n,c,al⟩ s wr hTr HBU.out H8.out hop (by show (xOf bs op (A.take j)).length≤100;omega) hsm hsc
    have hx1:=Jp bs op (A.take j) s;have ha1:=Qx bs op (A.take j) s;rw[show A.take j++[s]=A.take (j+1) by rw[List.take_add_one,hs];rfl] at hx1 ha1
    unfold mA at harg;dsimp only at harg;rw[←hx1] at harg;obtain⟨⟨o0,o1,o2⟩,ho⟩:∃ x,(dS bs op s).1=x:=⟨_,rfl⟩;rw[ho] at harg ha1;have HX:=Hh ha1;have HARG2:=Hh harg;clear ha1 hx1 harg ho hs hsm hsc hxl hTr;have hi0:(0:Int)≤(j:Int):=om
    have hi1:(j:Int)<(n:Int):=om
    go_wp2_with fail
    refine HARG2.out.mono ?_;rintro e w3 ⟨rfl,hbu3,hk3⟩;have hown3:=Kb.owns HOWN.out hk3 (gA HOWN.out (k:=B) om).symm;have hbl3:=HBL.out.trans (hk3.belowN lr (Nat.le_of_lt hsz));have hl3:=hbu3.lt;obtain⟨c3,f3⟩:=hbu3.args;dsimp only at c3;have HBU3:=Hh hbu3;clear hbu3 hk3;have HOWN3:=Hh hown3;clear hown3;have HBL3:=Hh hbl3;clear hbl3;go_wp2_with fail
    go_region_law ((
     refine aR (by rfl) _ _ 51 (by rfl) (B+1) 144 i0 (.agg #[.int .i64 0,.int .i64 0,.int .i64 0]) 3 24 underlying51 hi hz0 hz1 hz2 rfl dc v j (opc (aOf bs op (A.take j))) ?_ ?_ (.slice (some ⟨w3.heap.size+1,0,none⟩) 1 1) 1 [.int .i64 o0,.int .i64 o1,.int .i64 o2] ?_ ?_ (by rfl) ?_ (by unfold maxLen;omega) om ?_ ?_
     · rfl
     · exact iZ HOWN3.out (bl)
     · rfl
     · exact .inr ⟨_,1,rfl,Xa (Ca w3 _ _)⟩
     · intro u hu;simp at hu;rcases hu with rfl|rfl|rfl<;>rfl
     · exact Nat.le_trans (Nat.succ_le_of_lt hl3) (Below.size (show Below w3.heap.size w3 _ from bl))
     intro v2 w5 hown5 hgrow5 _;have hbu5:BuAt w5 B ⟨page,op,mn,v,xOf bs op (A.take (j+1)),al,bs,mn,some ⟨g,o,none⟩,n,c,al⟩:=(hgrow5.block B (Nat.lt_of_lt_of_le hl3 (Below.size (show Below w3.heap.size w3 _ from bl))) (gA HOWN3.out (k:=B) om)).trans ((Below.block (show Below w3.heap.size w3 _ from bl) B hl3).trans HBU3.out);obtain⟨a2,c2,rfl⟩:=aI hown5;have hc5:=hbu5.args.1;have hf5:=hbu5.args.2;dsimp only at hc5))
    all_goals
     have hown6:=Kb.owns hown5 ((Kb.refl B w5).setCell 3 (.slice a2 (j+1) c2)) (gA hown5 (k:=B) om).symm;have hbu6:=hbu5.setArgs (.slice a2 (j+1) c2);have hbl5:Below B W1 w5:=(HBL3.out.trans (Below.mono (show Below w3.heap.size w3 _ from bl) (Nat.le_of_lt hl3))).grown hgrow5 (Nat.le_trans (Nat.le_of_lt hl3) (Below.size (show Below w3.heap.size w3 _ from bl))) (by
      intro q hq;rcases HOWN3.out.2 with⟨h,_⟩|⟨g',cap,cur,h,hg',_⟩
      · rw[h] at hq;cases hq
      · rw[h] at hq;have q3:g'=q:=Option.some.inj hq;omega)
     have hbl6:=hbl5.setCell (p:=⟨B,3,none⟩) lr (.slice a2 (j+1) c2);have HOWN6:=Hh hown6;have HBU6:=Hh hbu6;have HBL6:=Hh hbl6;clear hown6 hbu6 hbl6 hbl5 hgrow5 hown5;go_wp2_with fail
     go_roundw
     case rel=>exact⟨j+1,_,om,by go_num,Hh HBU6.out,Hh (by rw[HX.out];have h7:=HOWN6.out;rwa [show opc (aOf bs op (A.take j)++[(o0,o1,o2)])=opc (aOf bs op (A.take j))++[.int .i64 o0,.int .i64 o1,.int .i64 o2] by simp[opc]]),Hh HBL6.out⟩
     case measure=>simp[intOf];omega
  · obtain rfl:j=n:=om
    obtain⟨c0,c1,c2,c3,c4,c5⟩:=HBU.out.entry;dsimp only at c0 c1 c2 c3 c4 c5;obtain⟨a2,cc,rfl⟩:=aI HOWN.out;have hbw:Below w.heap.size w wr:=(HB2.out.trans (hb21.mono HB2.out.size)).trans (HBL.out.mono (by have:=HB2.out.size;omega));have hbx:wr.heap[w.heap.size]? = _:=(HBL.out.block w.heap.size om).trans ((hb21.block _ hl2).trans HBX2.out);have HBW:=Hh hbw;clear hbw;obtain⟨⟨k0,k1,k2,k3,k4,k5⟩,f0,f1,f2,f3,f4,f5⟩:=aN hbx;clear hbx;have hAj:A.take j=A:=List.take_of_length_le (by rw[HA.out];exact Nat.le_refl _);rw[hAj] at c4;have HOWN2:Hid (wr.ownsRow (B+1) 144 3 (.slice a2 j cc) j (opc (aOf bs op A))):=Hh (by have:=HOWN.out;rwa [hAj] at this);have hwB:w.heap.size<B:=om
    clear HOWN hAj;have hsl:∃ n2,(Value.slice a2 n2 cc)=.slice a2 j cc:=⟨j,rfl⟩;go_wp2_with fail
    refine bodyPost_ret (v:=.tuple #[.agg #[.int .i64 page,.int .u8 op,.string ⟨mn.toArray⟩,.slice a2 j cc,.string ⟨(xOf bs op A).toArray⟩,.bool al],.bool true]) (by simp[results,results227,go_sem,k0,k1,k2,k3,k4,k5]) rfl ⟨.slice a2 j cc,rfl,?_,?_⟩
    · exact aP (Kb.owns HOWN2.out (((((((Kb.refl w.heap.size wr).setCell 0 _).setCell 1 _).setCell 2 _).setCell 3 _).setCell 4 _).setCell 5 _) (gA HOWN2.out (k:=w.heap.size) om).symm) om
    · exact (((((HBW.out.setCell (p:=⟨w.heap.size,0,none⟩) lr _).setCell (p:=⟨w.heap.size,1,none⟩) lr _).setCell (p:=⟨w.heap.size,2,none⟩) lr _).setCell (p:=⟨w.heap.size,3,none⟩) lr _).setCell (p:=⟨w.heap.size,4,none⟩) lr _).setCell (p:=⟨w.heap.size,5,none⟩) lr _
theorem Df (page op:Nat) (r:Rule):(iQ page op r).args=aOf r.bits op r.args:=rfl
theorem pO (page op:Nat) (r:Rule):(iQ page op r).args.length=r.args.length:=by rw[Df];simp[aOf]
theorem Im (page:Nat) (r0:RA) (rl:List RA) (op:Nat) (r:RA) (w:World) (hT:TabsA w) (hlen:rl.length≤1000) (hop:op<256) (hn:jA op (r0::rl)=some r) :
 Calls prog 227 #[.int .i64 page,.string (dA (r0::rl)),.int .u8 op] w fun e w'=>∃ v,e=.returned (.tuple #[cP (iQ page op r.1) v,.bool true])∧w'.ownsRow w.heap.size 144 3 v (iQ page op r.1).args.length (opc (iQ page op r.1).args)∧Below w.heap.size w w':=by
 have hlk:=fun W=>nE r0 rl op W hlen hop;rw[hn] at hlk;have h:=Ip page op r.1.args.length (dA (r0::rl)) r.1.text r.1.bits r.1.mn r.1.args r.1.alias w (Hh hT) (Hh rfl) (Vj r) (Hh (aAq r)) hop
  (Hh (fun j s hs=>⟨Qq r.1 r.2 s (List.mem_of_getElem? hs),Uo r.1 r.2 s (List.mem_of_getElem? hs) ⟨op,hop⟩⟩)) (Hh hlk) (Hh (fun W hT=>Gn r W hT))
 refine h.mono ?_;rintro e w' ⟨v,he,hr,hb⟩;refine⟨v,he,?_,hb⟩;rw[pO];exact hr
end Go.Proofs.YtoigglljnklhlaaGreatDoor
namespace Go.Proofs.YtoigglljnklhlaaGreatDoor
open Go.RowKit Go.Sort
open Go.Proofs.Tryz
def qQ (l:List Rule) (h:∀ r∈l,r∈iU):List RA:=l.pmap (fun r hr=>⟨r,hr⟩) h
theorem uO (l:List Rule) (h:∀ r∈l,r∈iU):(qQ l h).map (·.1.text)=l.map (·.text):=by
 unfold qQ;rw[List.map_pmap];simp
theorem xB:∀ r∈cbR,r∈iU:=fun r h=>by unfold iU;simp[h]
theorem lG:∀ r∈mainR,r∈iU:=fun r h=>by unfold iU;simp[h]
theorem Pk:∀ r∈edR,r∈iU:=fun r h=>by unfold iU;simp[h]
theorem pJ (op:Nat) (hop:op<256):∀ (l:List Rule) (h:∀ r∈l,r∈iU),(jA op (qQ l h)).map (·.1)=qD l op
 | [],_=>rfl
 | r::l,h=>by
   have ih:=pJ op hop l (fun x hx=>h x (List.mem_cons_of_mem _ hx));have hr:r∈iU:=h r List.mem_cons_self;have hf:eH r.text op=r.fits op:=zM r hr ⟨op,hop⟩;unfold jA qD qQ at *;simp only[List.pmap_cons,List.find?_cons,hf];cases r.fits op with
   | true=>rfl
   | false=>exact ih
theorem iD (page:Nat) (l:List Rule) (h:∀ r∈l,r∈iU) (J:ByteArray) (hJ:J=⟨(mQ (l.map (·.text))).toArray⟩) (hne:l≠[]) (hlen:l.length≤1000) (op:Nat) (hop:op<256) (w:World) (hT:TabsA w) :
 Calls prog 227 #[.int .i64 page,.string J,.int .u8 op] w fun e w'=>∃ v,e=.returned (.tuple #[cP ((eB page l op).getD ent0) v,.bool (eB page l op).isSome])∧w'.ownsRow w.heap.size 144 3 v ((eB page l op).getD ent0).args.length (opc ((eB page l op).getD ent0).args)∧Below w.heap.size w w':=by
 obtain⟨r0,rl,hc⟩:∃ r0 rl,qQ l h=r0::rl:=by
  cases hx:qQ l h with
  | nil=>exfalso;apply hne;have:=congrArg List.length hx;unfold qQ at this;simp at this;exact this
  | cons a b=>exact⟨a,b,rfl⟩
 have hJ2:J=dA (r0::rl):=by
  rw[hJ,←hc];unfold dA;rw[uO]
 have hl2:rl.length≤1000:=by
  have:=congrArg List.length hc
  unfold qQ at this;simp at this
  omega
 have hlk:=pJ op hop l h;rw[hc] at hlk;rw[hJ2];unfold eB;rw[←hlk];cases hk:jA op (r0::rl) with
 | none =>
   refine (In page r0 rl op w hl2 hop hk).mono ?_;rintro e w' ⟨he,hb⟩;exact⟨_,he,World.ownsRow_nil _ _ _ _,hb⟩
 | some r=>exact Im page r0 rl op r w hT hl2 hop hk
theorem Xl:∀ op:Fin 256,bits BinOp.or IntKind.u8 (bits BinOp.andNot IntKind.u8 (op.val:Int) 7) 6=((op.val/8*8+6:Nat):Int)∧bits BinOp.and IntKind.u8 (op.val:Int) 7=((op.val%8:Nat):Int):=by decide +kernel
theorem Vh {p:Prop} (h:p:=by
 have hb9:=HBW.out;refine Below.alloc ?_ (by rw[setCell_size,setCell_size,setCell_size,setCell_size,setCell_size,setCell_size,setCell_size,setCell_size,setCell_size];omega) _;with_reducible repeat (refine Below.setCell ?_ (by first|exact Nat.le_refl _|(show w.heap.size≤g;omega)) _)
 exact hb9):p:=h
theorem Vg {p:Prop} (h:p:=by
 rw[HN.out];exact aP ((Kb.owns HSET.out (((((((Kb.refl w.heap.size _).setCell 0 _).setCell 1 _).setCell 2 _).setCell 3 _).setCell 4 _).setCell 5 _) (gA HSET.out (k:=w.heap.size) om).symm).alloc _) om):p:=h
theorem Qh (page op q s:Nat) (mn:List UInt8) (l:List Op3) (al:Bool) (w:World) (hp1:5≤page) (hp2:page≤6) (hq:bits BinOp.or IntKind.u8 (bits BinOp.andNot IntKind.u8 (op:Int) 7) 6=(q:Int)) (hs:bits BinOp.and IntKind.u8 (op:Int) 7=(s:Int)) (hs8:s<8)
 (HF:Hid (∀ W,TabsA W→Calls prog 227 #[.int .i64 page,.string cbS,.int .u8 q] W fun e w'=>∃ v ex,e=.returned (.tuple #[.agg #[.int .i64 page,.int .u8 q,.string ⟨mn.toArray⟩,v,.string ex,.bool al],.bool true])∧w'.ownsRow W.heap.size 144 3 v l.length (opc l)∧Below W.heap.size W w'))
 (HT:Hid (TabsA w)) (h1:1≤l.length) (h2:l.length≤3) (hs6:((s:Int) == 6)=true) :
 Calls prog 229 #[.int .i64 page,.int .u8 op] w fun e w'=>∃ v,e=.returned (.agg #[.int .i64 page,.int .u8 op,.string ⟨mn.toArray⟩,v,.string ⟨#[100]⟩,.bool al])∧w'.ownsRow w.heap.size 144 3 v l.length (opc (l.set (l.length - 1) (5,page,0)))∧Below w.heap.size w w':=by
 obtain⟨i0,hi,hz0,hz1,hz2⟩:=info_parts Tryz.infoOperand;go_enter func229,ntmps229
 go_wp2_with fail
 refine (HF.out _ (HT.out.below (bl))).mono ?_;rintro e w1 ⟨v,ex,rfl,hown,hb⟩;have h0:=aW hb;have hbw:=aK hb;have hl0:=aA h0;have hown1:=aP hown (b':=w.heap.size+1) sm;rcases hown1.2 with⟨_,hz⟩|⟨g,c1,cur,rfl,hg0,hg1,_⟩
 · omega
 replace hg1:=aA hg1;obtain⟨a1',c1',ha1,_,hcells⟩:=(WRow.of_owns hown1).op;cases ha1
 obtain⟨g',o,ho,_,_,hcells⟩:=hcells (by intro e;rw[e] at h1;simp at h1);cases ho
 obtain⟨x,hx⟩:∃ x,l[l.length - 1]? = some x:=⟨_,List.getElem?_eq_getElem om⟩;obtain⟨d0,d1,d2,q0,q1,q2⟩:=hcells _ x hx;simp only[Nat.zero_add] at d0 d1 d2 q0 q1 q2;obtain⟨⟨r0,r1,r2,r3,r4,r5⟩,e0,e1,e2,e3,e4,e5⟩:=aN h0;have hset:=jQ (x:=(5,(page:Int),0)) hown1 (i:=l.length - 1) om;have HSET:=Hh hset;have HBW:=Hh hbw;have H0:=Hh h0;clear hown hown1 hb h0 hbw hx hcells hset;have ws:IntKind.i64.wrap ((l.length:Int) - 1)=(l.length:Int) - 1:=IntWalk.i64_in _ om;have ws1:(0:Int)≤(l.length:Int) - 1:=om
 have ws2:((l.length:Int) - 1).toNat=l.length - 1:=om
 have ws3:(l.length:Int) - 1<(l.length:Int):=om
 generalize hn:l.length=n at *;have HN:=Hh hn;clear hn;go_wp2_with fail
 refine bodyPost_ret (v:=.agg #[.int .i64 page,.int .u8 op,.string ⟨mn.toArray⟩,.slice (some ⟨g,0,none⟩) n c1,.string ⟨#[100]⟩,.bool al]) (by simp[results,results229,go_sem,r0,r1,r2,r3,r4,r5,hl0]) rfl ⟨_,rfl,?_,?_⟩
 · exact Vg
 · exact Vh
theorem Qj (page op q s:Nat) (mn:List UInt8) (l:List Op3) (al:Bool) (w:World) (hp1:5≤page) (hp2:page≤6) (hq:bits BinOp.or IntKind.u8 (bits BinOp.andNot IntKind.u8 (op:Int) 7) 6=(q:Int)) (hs:bits BinOp.and IntKind.u8 (op:Int) 7=(s:Int)) (hs8:s<8)
 (HF:Hid (∀ W,TabsA W→Calls prog 227 #[.int .i64 page,.string cbS,.int .u8 q] W fun e w'=>∃ v ex,e=.returned (.tuple #[.agg #[.int .i64 page,.int .u8 q,.string ⟨mn.toArray⟩,v,.string ex,.bool al],.bool true])∧w'.ownsRow W.heap.size 144 3 v l.length (opc l)∧Below W.heap.size W w'))
 (HT:Hid (TabsA w)) (h1:1≤l.length) (h2:l.length≤3) (hs6:((s:Int) == 6)=false) (hbit:(mn == [66,73,84])=true) :
 Calls prog 229 #[.int .i64 page,.int .u8 op] w fun e w'=>∃ v,e=.returned (.agg #[.int .i64 page,.int .u8 op,.string ⟨mn.toArray⟩,v,.string ⟨#[100]⟩,.bool true])∧w'.ownsRow w.heap.size 144 3 v l.length (opc (l.set (l.length - 1) (5,page,0)))∧Below w.heap.size w w':=by
 obtain⟨i0,hi,hz0,hz1,hz2⟩:=info_parts Tryz.infoOperand;go_enter func229,ntmps229
 go_wp2_with fail
 refine (HF.out _ (HT.out.below (bl))).mono ?_;rintro e w1 ⟨v,ex,rfl,hown,hb⟩;have h0:=aW hb;have hbw:=aK hb;have hl0:=aA h0;have hown1:=aP hown (b':=w.heap.size+1) sm;rcases hown1.2 with⟨_,hz⟩|⟨g,c1,cur,rfl,hg0,hg1,_⟩
 · omega
 replace hg1:=aA hg1;obtain⟨a1',c1',ha1,_,hcells⟩:=(WRow.of_owns hown1).op;cases ha1
 obtain⟨g',o,ho,_,_,hcells⟩:=hcells (by intro e;rw[e] at h1;simp at h1);cases ho
 obtain⟨x,hx⟩:∃ x,l[l.length - 1]? = some x:=⟨_,List.getElem?_eq_getElem om⟩;obtain⟨d0,d1,d2,q0,q1,q2⟩:=hcells _ x hx;simp only[Nat.zero_add] at d0 d1 d2 q0 q1 q2;obtain⟨⟨r0,r1,r2,r3,r4,r5⟩,e0,e1,e2,e3,e4,e5⟩:=aN h0;have hset:=jQ (x:=(5,(page:Int),0)) hown1 (i:=l.length - 1) om;have HSET:=Hh hset;have HBW:=Hh hbw;have H0:=Hh h0;clear hown hown1 hb h0 hbw hx hcells hset;have ws:IntKind.i64.wrap ((l.length:Int) - 1)=(l.length:Int) - 1:=IntWalk.i64_in _ om;have ws1:(0:Int)≤(l.length:Int) - 1:=om
 have ws2:((l.length:Int) - 1).toNat=l.length - 1:=om
 have ws3:(l.length:Int) - 1<(l.length:Int):=om
 generalize hn:l.length=n at *;have HN:=Hh hn;clear hn;go_wp2_with fail
 refine bodyPost_ret (v:=.agg #[.int .i64 page,.int .u8 op,.string ⟨mn.toArray⟩,.slice (some ⟨g,0,none⟩) n c1,.string ⟨#[100]⟩,.bool true]) (by simp[results,results229,go_sem,r0,r1,r2,r3,r4,r5,hl0]) rfl ⟨_,rfl,?_,?_⟩
 · exact Vg
 · exact Vh
theorem Qi (page op q s:Nat) (mn:List UInt8) (l:List Op3) (al:Bool) (w:World) (hp1:5≤page) (hp2:page≤6) (hq:bits BinOp.or IntKind.u8 (bits BinOp.andNot IntKind.u8 (op:Int) 7) 6=(q:Int)) (hs:bits BinOp.and IntKind.u8 (op:Int) 7=(s:Int)) (hs8:s<8)
 (HF:Hid (∀ W,TabsA W→Calls prog 227 #[.int .i64 page,.string cbS,.int .u8 q] W fun e w'=>∃ v ex,e=.returned (.tuple #[.agg #[.int .i64 page,.int .u8 q,.string ⟨mn.toArray⟩,v,.string ex,.bool al],.bool true])∧w'.ownsRow W.heap.size 144 3 v l.length (opc l)∧Below W.heap.size W w'))
 (HT:Hid (TabsA w)) (h1:1≤l.length) (h2:l.length≤3) (hs6:((s:Int) == 6)=false) (hbit:(mn == [66,73,84])=false) :
 Calls prog 229 #[.int .i64 page,.int .u8 op] w fun e w'=>∃ v,e=.returned (.agg #[.int .i64 page,.int .u8 op,.string ⟨mn.toArray⟩,v,.string ⟨#[100]⟩,.bool al])∧w'.ownsRow w.heap.size 144 3 v (l.length+1) (opc (l.set (l.length - 1) (5,page,0)++[(1,(s:Int),0)]))∧Below w.heap.size w w':=by
 obtain⟨i0,hi,hz0,hz1,hz2⟩:=info_parts Tryz.infoOperand;go_enter func229,ntmps229
 go_wp2_with fail
 refine (HF.out _ (HT.out.below (bl))).mono ?_;rintro e w1 ⟨v,ex,rfl,hown,hb⟩;have h0:=aW hb;have hbw:=aK hb;have hl0:=aA h0;have hown1:=aP hown (b':=w.heap.size+1) sm;rcases hown1.2 with⟨_,hz⟩|⟨g,c1,cur,rfl,hg0,hg1,_⟩
 · omega
 replace hg1:=aA hg1;obtain⟨a1',c1',ha1,_,hcells⟩:=(WRow.of_owns hown1).op;cases ha1
 obtain⟨g',o,ho,_,_,hcells⟩:=hcells (by intro e;rw[e] at h1;simp at h1);cases ho
 obtain⟨x,hx⟩:∃ x,l[l.length - 1]? = some x:=⟨_,List.getElem?_eq_getElem om⟩;obtain⟨d0,d1,d2,q0,q1,q2⟩:=hcells _ x hx;simp only[Nat.zero_add] at d0 d1 d2 q0 q1 q2;obtain⟨⟨r0,r1,r2,r3,r4,r5⟩,e0,e1,e2,e3,e4,e5⟩:=aN h0;have hset:=jQ (x:=(5,(page:Int),0)) hown1 (i:=l.length - 1) om;have HSET:=Hh hset;have HBW:=Hh hbw;have H0:=Hh h0;clear hown hown1 hb h0 hbw hx hcells hset;have ws:IntKind.i64.wrap ((l.length:Int) - 1)=(l.length:Int) - 1:=IntWalk.i64_in _ om;have ws1:(0:Int)≤(l.length:Int) - 1:=om
 have ws2:((l.length:Int) - 1).toNat=l.length - 1:=om
 have ws3:(l.length:Int) - 1<(l.length:Int):=om
 generalize hn:l.length=n at *;have HN:=Hh hn;clear hn;have hgb:w.heap.size<g:=om
 have hne1:w1.heap.size≠g:=om
 go_wp2_with (at_builtin;refine wpList_append_own _ rfl _ _ 51 rfl (w.heap.size+1) 144 i0 (.agg #[.int .i64 0,.int .i64 0,.int .i64 0]) 3 24 underlying51 hi hz0 hz1 hz2 rfl dc _ _ _ rfl ((HSET.out.alloc _).alloc _) ⟨w1.heap.size+1,0,none⟩ 1 1 [.int .i64 1,.int .i64 s,.int .i64 0] rfl rfl ?c1 ?c2 ?c3 ?c4 ?c5 ?_)
 case c1=>exact Xa (by rw[show w1.heap.size+1=(((((w1.setCell ⟨g,(n - 1)*3,none⟩ (.int .i64 5)).setCell ⟨g,(n - 1)*3+1,none⟩ (.int .i64 page)).setCell ⟨g,(n - 1)*3+2,none⟩ (.int .i64 0))).alloc (.cells #[.int .i64 page,.int .u8 op,.string ⟨mn.toArray⟩,.slice (some ⟨g,0,none⟩) n c1,.string ⟨#[100]⟩,.bool al] 211)).heap.size by rw[World.size_alloc,setCell_size,setCell_size,setCell_size]];exact jT _ _)
 case c2=>intro u hu;simp at hu;rcases hu with rfl|rfl|rfl<;>rfl
 case c3=>unfold maxLen;omega
 case c4=>omega
 case c5=>rw[World.size_alloc,World.size_alloc,setCell_size,setCell_size,setCell_size];omega
 intro v2 w3 hown3 hgrow3 _;obtain⟨a2,c2,rfl⟩:=aI hown3;have hX0:=aE (o':=.cells #[.int .i64 1,.int .i64 s,.int .i64 0] 144) (aE (o':=(.cells #[.int .i64 page,.int .u8 op,.string ⟨mn.toArray⟩,.slice (some ⟨g,0,none⟩) n c1,.string ⟨#[100]⟩,.bool al] 211)) (aD (aD (aD H0.out (b:=g) (i:=(n - 1)*3) (v:=.int .i64 5) om) (b:=g) (i:=(n - 1)*3+1) (v:=.int .i64 page) om) (b:=g) (i:=(n - 1)*3+2) (v:=.int .i64 0) om));have hX1:=aE (o':=.cells #[.int .i64 1,.int .i64 s,.int .i64 0] 144) (jT (((w1.setCell ⟨g,(n - 1)*3,none⟩ (.int .i64 5)).setCell ⟨g,(n - 1)*3+1,none⟩ (.int .i64 page)).setCell ⟨g,(n - 1)*3+2,none⟩ (.int .i64 0)) (.cells #[.int .i64 page,.int .u8 op,.string ⟨mn.toArray⟩,.slice (some ⟨g,0,none⟩) n c1,.string ⟨#[100]⟩,.bool al] 211));have hszS:(((w1.setCell ⟨g,(n - 1)*3,none⟩ (.int .i64 5)).setCell ⟨g,(n - 1)*3+1,none⟩ (.int .i64 page)).setCell ⟨g,(n - 1)*3+2,none⟩ (.int .i64 0)).heap.size=w1.heap.size:=by rw[setCell_size,setCell_size,setCell_size]
 rw[hszS] at hX1;have hr3:=(hgrow3.block w.heap.size (aA hX0) (fun e=>by have q3:w.heap.size=g:=Option.some.inj e;omega)).trans hX0;have hn3:=(hgrow3.block w1.heap.size (aA hX1) (fun e=>hne1 (Option.some.inj e))).trans hX1;have hbX:Below w.heap.size w (((w1.setCell ⟨g,(n - 1)*3,none⟩ (.int .i64 5)).setCell ⟨g,(n - 1)*3+1,none⟩ (.int .i64 page)).setCell ⟨g,(n - 1)*3+2,none⟩ (.int .i64 0)):=((HBW.out.setCell (p:=⟨g,(n - 1)*3,none⟩) (by show w.heap.size≤g;omega) _).setCell (p:=⟨g,(n - 1)*3+1,none⟩) (by show w.heap.size≤g;omega) _).setCell (p:=⟨g,(n - 1)*3+2,none⟩) (by show w.heap.size≤g;omega) _;have hb3:=((hbX.alloc (by rw[hszS];omega) (.cells #[.int .i64 page,.int .u8 op,.string ⟨mn.toArray⟩,.slice (some ⟨g,0,none⟩) n c1,.string ⟨#[100]⟩,.bool al] 211)).alloc (by rw[World.size_alloc,hszS];omega) (.cells #[.int .i64 1,.int .i64 s,.int .i64 0] 144)).grown hgrow3 (by rw[World.size_alloc,World.size_alloc,hszS];omega) (fun q e=>by have q3:g=q:=Option.some.inj e;omega);have hl3:=aA hn3;have hown4:=aP hown3 (b':=w.heap.size+1) lr;have hne3:some w1.heap.size≠(Value.slice a2 (n+1) c2).ownBlock:=fun e=>by
  rcases hown3.2 with⟨h,_⟩|⟨g',cap,cur,h,_,hh,_⟩
  · rw[h] at e;cases e
  · rw[h] at e;have q3:w1.heap.size=g':=Option.some.inj e;rw[←q3,hn3] at hh
    have:=Option.some.inj hh
    simp at this
 obtain⟨⟨t0,t1,t2,t3,t4,t5⟩,y0,y1,y2,y3,y4,y5⟩:=aN hn3;obtain⟨⟨r0,r1,r2,r3,r4,r5⟩,e0,e1,e2,e3,e4,e5⟩:=aN hr3;have HOWN3:=Hh hown3;have HB3:=Hh hb3;clear hown3 hgrow3 hX0 hX1 hszS hr3 hn3 hbX hb3 hown4;go_wp2_with fail
 refine bodyPost_ret (v:=.agg #[.int .i64 page,.int .u8 op,.string ⟨mn.toArray⟩,.slice a2 (n+1) c2,.string ⟨#[100]⟩,.bool al]) (by simp[results,results229,go_sem,r0,r1,r2,r3,r4,r5]) rfl ⟨_,rfl,?_,?_⟩
 · rw[HN.out,show opc (l.set (n - 1) (5,(page:Int),0)++[(1,(s:Int),0)])=opc (l.set (n - 1) (5,(page:Int),0))++[.int .i64 1,.int .i64 s,.int .i64 0] by simp[opc]]
   have h7:=Kb.owns HOWN3.out ((Kb.refl w1.heap.size w3).setCell 3 (.slice a2 (n+1) c2)) hne3.symm;exact aP (Kb.owns h7 (((((((Kb.refl w.heap.size _).setCell 0 _).setCell 1 _).setCell 2 _).setCell 3 _).setCell 4 _).setCell 5 _) (gA h7 (k:=w.heap.size) om).symm) om
 · have hb9:=HB3.out;with_reducible repeat (refine Below.setCell ?_ (by first|exact Nat.le_refl _|(show w.heap.size≤w1.heap.size;omega)) _)
   exact hb9
end Go.Proofs.YtoigglljnklhlaaGreatDoor
