/- Joined. -/
import Derived.Test.YtoigglljnklhlaaGreatDoorD43
import Derived.Test.YtoigglljnklhlaaGreatDoorD44
set_option maxHeartbeats 8000000
set_option maxRecDepth 100000
namespace Go.Proofs.YtoigglljnklhlaaGreatDoor
open Go.RowKit Go.Sort
open Go.Proofs.Tryz
theorem aBS (w:World):Calls prog 25 #[.pointer none] w fun e w'=>e=.returned (.slice none 0 0)∧w'=w:=by
 go_enter func25,ntmps25
 go_wp2_with fail
 go_ret;exact⟨rfl,rfl⟩
theorem aCc (w:World):Calls prog 11 #[.pointer none,.int .i64 0] w fun e w'=>e=.returned (.tuple #[.slice none 0 0,.int .i64 0,.bool false])∧w'=w:=by
 go_enter func11,ntmps11
 go_wp2_with fail
 (with_reducible refine (aBS _).mono ?_);rintro e w1 ⟨rfl,rfl⟩;go_wp2_with fail
 go_ret3;exact⟨rfl,rfl⟩
theorem aCq (k:Int) (w:World):Calls prog 67 #[.pointer none,.int .i64 k] w fun e w'=>e=.returned (.tuple #[.int .u8 0,.bool false])∧w'=w:=by
 go_enter func67,ntmps67
 go_wp2_with fail
 go_ret2;exact⟨rfl,rfl⟩
theorem aCe (w:World):Calls prog 15 #[.pointer none] w fun e w'=>e=.returned (.tuple #[.int .i64 0,.int .i64 0])∧Below w.heap.size w w':=by
 go_enter func15,ntmps15
 go_wp2_with fail
 (with_reducible refine (aBS _).mono ?_);rintro e w1 ⟨rfl,rfl⟩;go_wp2_with fail
 obtain⟨W1,hW1⟩:∃ W,(w.alloc (.cells #[.int .i64 0] 3)).alloc (.cells #[.int .i64 0] 3)=W:=⟨_,rfl⟩;have hb1:Below w.heap.size w W1:=by rw[←hW1];exact bl
 have h0:W1.heap[w.heap.size]? = some (.cells #[.int .i64 0] 3 (0,0)):=by rw[←hW1];exact aE (aF _ _)
 have h1:W1.heap[w.heap.size+1]? = some (.cells #[.int .i64 0] 3 (0,0)):=by
  rw[←hW1]
  have:=aF (w.alloc (.cells #[.int .i64 0] 3)) (.cells #[.int .i64 0] 3)
  rwa [World.size_alloc] at this
 rw[hW1];clear hW1;have c0:=aC h0 0;have c1:=aC h1 0;have f0:=aH h0 0;have f1:=aH h1 0;have l1:=aA h1;have l0:=aA h0;simp only[List.getElem?_toArray,List.getElem?_cons_zero] at c0 c1;have H0:=Hh h0;have H1:=Hh h1;have HB1:=Hh hb1;clear h0 h1 hb1;go_loopw [11] (fun i wr=>i=.int .i64 0∧wr=W1) (fun _ _=>0)
 case atStart=>exact⟨rfl,rfl⟩
 case round =>
  obtain⟨rfl,rfl⟩:=hrel;go_wp2_with fail
  go_region
  all_goals
   go_wp2_with fail
   generalize hF:World.setCell (World.setCell wr _ _) _ _=F;have hfc:F.drew.heap[w.heap.size]? = some (.cells #[.int .i64 0] 3 (0,0)):=by rw[←hF];exact aD (aG H0.out) om
   have hfd:F.drew.heap[w.heap.size+1]? = some (.cells #[.int .i64 0] 3 (0,0)):=by rw[←hF];exact aG (aD H1.out om)
   have hbf:Below w.heap.size w F.drew:=by rw[←hF];exact Below.drew ((HB1.out.setCell (p:=⟨w.heap.size,0,none⟩) lr _).setCell (p:=⟨w.heap.size+1,0,none⟩) (by show w.heap.size≤w.heap.size+1;omega) _)
   clear hF;generalize F.drew=G at *;have r0:=aC hfc 0;have r1:=aC hfd 0;simp only[List.getElem?_toArray,List.getElem?_cons_zero] at r0 r1;exact bodyPost_ret (v:=.tuple #[.int .i64 0,.int .i64 0]) (by simp[results,results15,go_sem,r0,r1]) rfl ⟨rfl,hbf⟩
theorem aCj (k:Int) (w:World) (hT:∀ W,Below w.heap.size w W→TabsA W) (hk0:0≤k) (hk:k≤70000):Calls prog 37 #[.pointer none,.int .i64 k] w fun e w'=>∃ av cv aa ca,e=.returned (.tuple #[itV ⟨0,[],([],[]),false⟩ (.slice av 0 cv) (.slice aa 0 ca),.bool false])∧Below w.heap.size w w':=by
 have HF:Hid (∀ W,Below w.heap.size w W→Calls prog 68 #[.slice none 0 0] W fun x w'=>∃ vr va,x=.returned (itV ⟨0,[],([],[]),false⟩ vr va)∧ItAt W.heap.size ⟨0,[],([],[]),false⟩ vr va w'∧Below W.heap.size W w'):=Hh (fun W (hb:Below w.heap.size w W)=>Il [] none 0 W ⟨none,0,rfl,Nat.le_refl _,fun h=>absurd rfl h⟩ sm (fun W' hb'=>hT W' (hb.trans (hb'.mono hb.size))));clear hT;go_enter func37,ntmps37
 go_wp2_with fail
 obtain⟨W1,hW1⟩:∃ W,w.alloc (.cells #[.int .i64 0,.slice none 0 0,.string ⟨#[]⟩,.slice none 0 0,.bool false] 55)=W:=⟨_,rfl⟩;have hb1:Below w.heap.size w W1:=by rw[←hW1];exact bl
 have h0:W1.heap[w.heap.size]? = some (.cells #[.int .i64 0,.slice none 0 0,.string ⟨#[]⟩,.slice none 0 0,.bool false] 55 (0,0)):=by rw[←hW1];exact aF _ _
 rw[hW1];clear hW1;have H0:=Hh h0;have HB1:=Hh hb1;clear h0 hb1;go_loopw [6] (fun v wr=>v=.slice none 0 0∧wr=W1) (fun _ _=>0)
 case atStart=>exact⟨rfl,rfl⟩
 case round =>
  obtain⟨rfl,rfl⟩:=hrel;go_wp2_with fail
  (with_reducible refine (aCq _ _).mono ?_);rintro e w2 ⟨rfl,rfl⟩;go_wp2_with fail
  (with_reducible refine (HF.out _ HB1.out).mono ?_);rintro e w3 ⟨vr,va,rfl,hit,hb3⟩;obtain⟨av,cv,rfl⟩:=aI hit.raw;obtain⟨aa,ca,rfl⟩:=hit.args.slice;have hx:=aB H0.out hb3 (aA H0.out);have HX:=Hh hx;have HB3:=Hh (HB1.out.trans (hb3.mono HB1.out.size));obtain⟨⟨q0,q1,q2,q3,q4⟩,f0,f1,f2,f3,f4⟩:=bJ hx;have hlx:=aA hx;clear hit hb3 hx;simp only[itV,List.length_nil];go_wp2_with fail
  generalize hF:World.setCell (World.setCell (World.setCell (World.setCell (World.setCell w3 _ _) _ _) _ _) _ _) _ _=F;have hfx:F.heap[w.heap.size]? = some (.cells #[.int .i64 0,.slice av 0 cv,.string ⟨#[]⟩,.slice aa 0 ca,.bool false] 55 (0,0)):=by rw[←hF];exact aG (aG (aG (aG (aG HX.out))))
  have hbf:Below w.heap.size w F:=by rw[←hF];exact bS HB3.out HB3.out.size (cN _ _ _ _ _ _) lr
  clear hF;obtain⟨⟨r0,r1,r2,r3,r4⟩,_⟩:=bJ hfx;have hlf:=aA hfx;exact bodyPost_ret (v:=.tuple #[itV ⟨0,[],([],[]),false⟩ (.slice av 0 cv) (.slice aa 0 ca),.bool false]) (by simp[results,results37,go_sem,itV,r0,r1,r2,r3,r4]) rfl ⟨av,cv,aa,ca,rfl,hbf⟩
end Go.Proofs.YtoigglljnklhlaaGreatDoor
namespace Go.Proofs.YtoigglljnklhlaaGreatDoor
open Go.RowKit Go.Sort
open Go.ChangeMaps Go.Maps
open Go.Proofs.Tryz
theorem aCd (u:Value) (w:World) (hu:eR w u 1 (aBQ [0])) (hT:∀ W,Below w.heap.size w W→TabsA W) :
 Calls prog 36 #[.pointer none,u] w fun e w'=>e=.returned (.slice none 0 0)∧Below w.heap.size w w':=by
 have HW:=Hh (aCg u w hu (fun W hb=>aCj 0 W (fun W' hb'=>hT W' (hb.trans (hb'.mono hb.size))) om om));have hus:∃ a n c,u=.slice a n c:=by
  rcases hu with⟨_,h⟩|⟨ad,c,h,_⟩
  · exact⟨_,_,_,h⟩
  · exact⟨_,_,_,h⟩
 obtain⟨au,nu,cu,rfl⟩:=hus;clear hu hT;go_enter func36,ntmps36
 go_wp2_with fail
 (with_reducible refine HW.out.mono ?_);rintro e w1 ⟨b,rfl,hm,hb1⟩;have HB1:=Hh hb1;have HS:=Hh (aBV b 0 _ w1 (aBY hm) dc);clear hm hb1;go_wp2_with fail
 (with_reducible refine (aCf _ _).mono ?_);rintro e w2 ⟨rfl,rfl⟩;go_wp2_with fail
 (with_reducible refine HS.out.mono ?_);rintro e w3 ⟨v,ss,rfl,hp,_,hn,hb3⟩;obtain rfl:=hn.2 (List.Perm.eq_nil hp);have HB3:=Hh (HB1.out.trans (hb3.mono HB1.out.size));clear hp hn hb3;go_wp2_with fail
 go_ret;exact⟨rfl,HB3.out⟩
theorem aBT (f:FuncId) (w:World):Calls prog 31 #[.agg #[.func (.func f) #[] #[]],.pointer none] w fun e w'=>e=.returned (.string ⟨#[]⟩)∧Below w.heap.size w w':=by
 go_enter func31,ntmps31
 go_wp2_with fail
 obtain⟨w1,hw1⟩:∃ w1,(w.alloc (.cells #[.func (.func f) #[] #[]] 71)).alloc (.cells #[.pointer none,.slice none 0 0] 77)=w1:=⟨_,rfl⟩;have hb1:Below w.heap.size w w1:=by rw[←hw1];exact bl
 have hbk1:w1.heap[w.heap.size+1]? = some (.cells #[.pointer none,.slice none 0 0] 77 (0,0)):=by
  rw[←hw1]
  have:=aF (w.alloc (.cells #[.func (.func f) #[] #[]] 71)) (.cells #[.pointer none,.slice none 0 0] 77)
  rwa [World.size_alloc] at this
 rw[hw1];clear hw1;have hB:Lib.IsBuilder 77 5 (w.heap.size+1) (w.heap.size+1) (Lib.byteCells []) w1:=.inl ⟨Nat.le_refl _,_,hbk1,World.ownsRow_nil _ _ _ _,by simp[Value.ownBlock]⟩
 have HS:=Hh (Tryz.Builder_String_any (w.heap.size+1) (w.heap.size+1) [] w1 hB (Nat.le_of_lt (aA hbk1)));have HB1:=Hh hb1;clear hb1 hbk1 hB;(with_reducible refine (aBS _).mono ?_);rintro e w2 ⟨rfl,rfl⟩;go_wp2_with fail
 go_loopw [13] (fun i wr=>i=.int .i64 0∧wr=w2) (fun _ _=>0)
 case atStart=>exact⟨rfl,rfl⟩
 case round =>
  obtain⟨rfl,rfl⟩:=hrel;go_wp2_with fail
  (with_reducible refine HS.out.mono ?_);rintro e w3 ⟨rfl,hb3⟩;have HB3:=Hh (HB1.out.trans (hb3.mono om));clear hb3;go_wp2_with fail
  go_ret;exact⟨rfl,HB3.out⟩
theorem aBW (w:World):Calls prog 17 #[.pointer none] w fun e w'=>e=.returned (.string ⟨#[]⟩)∧Below w.heap.size w w':=by
 go_enter func17,ntmps17
 go_wp2_with fail
 (with_reducible refine (aBT _ _).mono ?_);rintro e w1 ⟨rfl,hb1⟩;have HB1:=Hh hb1;clear hb1;go_wp2_with fail
 go_ret;exact⟨rfl,HB1.out⟩
theorem aCl (w:World):Calls prog 19 #[.pointer none] w fun e w'=>e=.returned (.string ⟨#[]⟩)∧Below w.heap.size w w':=by
 go_enter func19,ntmps19
 go_wp2_with fail
 (with_reducible refine (aBT _ _).mono ?_);rintro e w1 ⟨rfl,hb1⟩;have HB1:=Hh hb1;clear hb1;go_wp2_with fail
 go_ret;exact⟨rfl,HB1.out⟩
theorem aBX (u:Value) (w:World) (hu:eR w u 1 (aBQ [0])) (hT:∀ W,Below w.heap.size w W→TabsA W) :
 Calls prog 20 #[.pointer none,u] w fun e w'=>e=.returned (.string ⟨#[]⟩)∧Below w.heap.size w w':=by
 obtain⟨ad,cu,rfl,hc⟩:∃ ad c,u=.slice (some ad) 1 c∧∀ j v,(aBQ [0])[j]? = some v→w.cell? (ad.add j)=some v:=by
  rcases hu with⟨h,_⟩|h
  · omega
  · exact h
 have HR:=Hh (fun W (hb:Below w.heap.size w W)=>aCd (.slice (some ad) 1 cu) W (.inr ⟨ad,cu,rfl,fun j v hv=>(hb.cell (World.block_lt_of_cell? w _ (hc j v hv))).trans (hc j v hv)⟩) (fun W' hb'=>hT W' (hb.trans (hb'.mono hb.size))));clear hu hc hT;go_enter func20,ntmps20
 go_wp2_with fail
 obtain⟨w1,hw1⟩:∃ w1,w.alloc (.cells #[.pointer none,.slice none 0 0] 77)=w1:=⟨_,rfl⟩;have hb1:Below w.heap.size w w1:=by rw[←hw1];exact bl
 have hbk1:w1.heap[w.heap.size]? = some (.cells #[.pointer none,.slice none 0 0] 77 (0,0)):=by rw[←hw1];exact aF _ _
 rw[hw1];clear hw1;have HBK:=Hh hbk1;have HB1:=Hh hb1;clear hb1 hbk1;(with_reducible refine (HR.out _ HB1.out).mono ?_);rintro e w2 ⟨rfl,hb2⟩;have hbk2:=aB HBK.out hb2 (aA HBK.out);have hB:Lib.IsBuilder 77 5 w.heap.size w.heap.size (Lib.byteCells []) w2:=.inl ⟨Nat.le_refl _,_,hbk2,World.ownsRow_nil _ _ _ _,by simp[Value.ownBlock]⟩
 have HS:=Hh (Tryz.Builder_String_any w.heap.size w.heap.size [] w2 hB (Nat.le_of_lt (aA hbk2)));have HB2:=Hh (HB1.out.trans (hb2.mono HB1.out.size));clear hb2 hbk2 hB;go_wp2_with fail
 go_loopw [14] (fun i wr=>i=.int .i64 0∧wr=w2) (fun _ _=>0)
 case atStart=>exact⟨rfl,rfl⟩
 case round =>
  obtain⟨rfl,rfl⟩:=hrel;go_wp2_with fail
  (with_reducible refine HS.out.mono ?_);rintro e w3 ⟨rfl,hb3⟩;have HB3:=Hh (HB2.out.trans hb3);clear hb3;go_wp2_with fail
  go_ret;exact⟨rfl,HB3.out⟩
end Go.Proofs.YtoigglljnklhlaaGreatDoor
namespace Go.Proofs.YtoigglljnklhlaaGreatDoor
open Go.RowKit Go.Sort
open Go.Proofs.Tryz
def U8 (W:World) (B:Nat) (v:Value) (n:Nat):Prop:=∃ bs:List UInt8,bs.length=n∧W.ownsRow B 5 1 v n (aT bs)
theorem aCm (x:UInt8):((x.toNat:Int)+1)%256=((x+1).toNat:Int):=by simp
theorem U8.set {W:World} {B g k cap n n':Nat} {v:Value} {bs:List UInt8} (h:U8 W B v n) (hg:W.ownsRow B 5 1 (.slice (some ⟨g,0,none⟩) n' cap) n' (aT bs)) (c:UInt8):U8 (W.setCell ⟨g,k,none⟩ (.int .u8 c.toNat)) B v n:=by
 obtain⟨ds,hl,ho⟩:=h;by_cases hv:v.ownBlock=some g
 · obtain⟨h1,h2⟩:=ho;rcases h2 with⟨rfl,rfl⟩|⟨g',cap',cur,rfl,h3,h4,h5,h6,h7,h8⟩
   · cases hv
   · obtain rfl:g'=g:=by simpa[Value.ownBlock] using hv
     refine⟨if k<n then ds.set k c else ds,by split<;>simp[hl],?_,.inr ⟨g',cap',cur.setIfInBounds k (.int .u8 c.toNat),rfl,h3,aG h4,h5,h6,by simp[h7],?_⟩⟩
     · split<;>simp[fS,hl]
     · rw[Array.toList_setIfInBounds,List.take_set,h8];by_cases hk:k<n
       · rw[if_pos hk];simp[aT,List.map_set]
       · rw[if_neg hk];exact List.set_eq_of_length_le (by rw[fS];omega)
 · exact⟨ds,hl,Kb.owns ho ((Kb.refl g W).setCell k _) hv⟩
theorem aBR {P:Program} {w:World} {ops:Array Oper} {rest:List Oper} {o:Oper} {a:Act} {Q:Exit→Act→World→Prop} (hgd:Region.wanted o (yielded ops a.tmps)=true) (s x:Operand) (t:TypeId)
 (ho:o.op=.call { callee:=.builtin .append,args:=#[s,x],argTypes:=#[t,t] })
 (base:Nat) (e:TypeId) (i:TypeInfo) (z:Value) (size bytes:Nat) (ht:P.underlying t=some (.slice e)) (hi:P.info? e=some i) (hz:i.zero=some z)
 (hsize:i.size=size) (hby:i.bytes=bytes) (hzs:z.cells.size=size) (hsz:0<size)
 (v:Value) (n:Nat) (xs:List Value) (hs:a.eval s=v) (hown:w.ownsRow base e size v n xs)
 (ad:Addr) (m c:Nat) (news:List Value) (hx:a.eval x=.slice (some ad) m c) (hl:news.length=m*size) (hnews:∀ j u,news[j]? = some u→w.cell? (ad.add j)=some u) (h1:∀ u∈news,u.oneCell'=true)
 (h63:n+m≤maxLen) (hbytes:(n+m)*bytes≤140737488355328) (hbase:base≤w.heap.size)
 (h:∀ v' w',w'.ownsRow base e size v' (n+m) (xs++news)→w.grownBy w' v.ownBlock→wpList P ops Q rest (a.put o.dst v') w'):wpList P ops Q (o::rest) a w:=by
 unfold wpList;rw[if_pos hgd];exact .inl (wp_append_own w s x t ho base e i z size bytes ht hi hz hsize hby hzs hsz v n xs hs hown ad m c news hx hl hnews h1 h63 hbytes hbase fun v' w' h2 h3 _=>h v' w' h2 h3)
structure LNInv (w1:World) (v:Value) (its:List ItX) (W:World):Prop where
 own:W.ownsRow w1.heap.size 55 5 v its.length (itc its)
 raw:∀ x∈its,U8 W w1.heap.size x.2.1 x.1.raw.length
 below:Below w1.heap.size w1 W
theorem LNInv.set {w1 W:World} {v:Value} {its:List ItX} {g k n cap:Nat} {bs:List UInt8} (h:LNInv w1 v its W) (hg:W.ownsRow w1.heap.size 5 1 (.slice (some ⟨g,0,none⟩) n cap) n (aT bs)) (c:UInt8):LNInv w1 v its (W.setCell ⟨g,k,none⟩ (.int .u8 c.toNat)):=by
 refine⟨Kb.owns h.own ((Kb.refl g W).setCell k _) fun e=>?_,fun x hx=>(h.raw x hx).set hg c,h.below.setCell (p:=⟨g,k,none⟩) (hg.lt g rfl).1 _⟩;rcases gB h.own hg dc with h1|h1
 · rw[h1] at e;cases e
 · exact h1 e
theorem LNInv.get {w1 W:World} {v:Value} {its:List ItX} (h:LNInv w1 v its W):∃ a cap,v=.slice a its.length cap∧its.length≤cap∧(its≠[]→∃ g o,a=some ⟨g,o,none⟩∧g<W.heap.size∧∀ i x,its[i]? = some x→W.cell? ⟨g,o+i*5+1,none⟩=some x.2.1):=by
 obtain⟨a,cap,hv,hn,hh⟩:=(Row.of_owns h.own).structs Sz 5 (fun _=>rfl) dc;refine⟨a,cap,hv,hn,fun hne=>?_⟩;obtain⟨g,o,rfl,hg,hc⟩:=hh hne;exact⟨g,o,rfl,hg,fun i x hx=>hc i x hx 1 dc⟩
theorem aCh {bs:List UInt8} (h0:bs≠[]) (h:bs.length≤200):aS (fZ [] 0 bs)=[(0,bs)]:=by
 have hok:eN [] 0 bs=true:=by
  simp[eN,inC]
  omega
 have:=Lz 0 bs h0 [] sm
 unfold fZ;rw[if_pos hok];simpa[gE,gL,aS] using this
theorem aBU (bs:List UInt8) (v:Value) (w:World) (h:Row w v bs.length (aT bs)) (_hl:bs.length≤maxLen) (hT:TabsA w) (hTB:TabB w) :
 Calls prog 7 #[v] w fun e w'=>e=.returned (.bool true)∧Below w.heap.size w w':=by
 obtain⟨i0,hi,hz0,hz1,hz2⟩:=info_parts Tryz.infoItem;have HAL:=Hh (fun X (hb:Below w.heap.size w X)=>Up X (hT.below hb) (hTB.below hb));have HT:=Hh hT;have HTB:=Hh hTB;have HR:=Hh h;obtain⟨a,c,rfl,_,_⟩:=h;by_cases hbig:200<bs.length∨bs.length=0
 · have h1:(decide ((bs.length:Int) > 200)=true)∨(decide ((bs.length:Int) > 200)=false∧((bs.length:Int) == 0)=true):=by
    rcases hbig with h|h
    · exact .inl (by simp;omega)
    · exact .inr ⟨by rw[h];rfl,by rw[h];rfl⟩
   clear hT hTB hbig;rcases h1 with h1|⟨h1,h2⟩;all_goals
    go_enter func7,ntmps7
    go_wp2_with fail
    (with_reducible refine (HAL.out _ br).mono ?_);rintro e w1 ⟨rfl,hb1⟩;have HB1:=Hh hb1;clear hb1;go_wp2_with fail
    go_ret;exact⟨rfl,HB1.out⟩
 · have hb0:bs.length≤200:=om
   have hne:bs≠[]:=fun e=>hbig (.inr (by rw[e];rfl));have h1:decide ((bs.length:Int) > 200)=false:=by simp;omega
   have h2:((bs.length:Int) == 0)=false:=by simp;exact hne
   have HRC:=Hh (aCh hne hb0);have hcl:(fZ [] 0 bs).length≤200:=by
    unfold fZ;split<;>simp[gE,gL,eE]
    exact hb0
   have HCL:=Hh hcl;have HB0:=Hh hb0;have HNE:=Hh hne;clear hT hTB hbig hcl hb0 hne;go_enter func7,ntmps7
   go_wp2_with fail
   (with_reducible refine (Et w).mono ?_);rintro e w1 ⟨rfl,him,hb1⟩;have HIM:=Hh him;have HB1:=Hh hb1;clear him hb1;go_wp2_with fail
   (with_reducible refine (Eo w.heap.size [] 0 bs _ w1 HIM.out (HTB.out.below HB1.out) (HR.out.below HB1.out) dc (by have:=HB0.out;omega)).mono ?_);rintro e w2 ⟨k,rfl,him,hk2⟩;have hb2:=bS HB1.out HB1.out.size hk2 lr;have HB2:=Hh hb2;have HIM2:=Hh him;generalize fZ [] 0 bs=C at *;have HRN:=Hh (fun X (hb:Below w2.heap.size w2 X)=>aBN w.heap.size C 0 X (him.below hb him.raw.lt) ((HTB.out.below hb2).below hb) (fun W hb'=>HT.out.below (hb2.trans ((hb.trans (hb'.mono hb.size)).mono hb2.size))) (by have:=HCL.out;omega));have HTW:=Hh (fun W (hb:Below w2.heap.size w2 W)=>HT.out.below (hb2.trans (hb.mono hb2.size)));clear him hk2 hb2;go_wp2_with fail
   (with_reducible refine (HRN.out _ br).mono ?_);rintro e w3 ⟨_,hy3,hb3⟩;obtain⟨vx,its,rfl,hits,hia⟩:=hy3 (0,bs) om (by rw[HRC.out];rfl);obtain⟨ax,cx,rfl⟩:=aI hia.own;have hinv:LNInv w2 (.slice ax its.length cx) its w3:=⟨hia.own,fun x hx=>⟨x.1.raw,rfl,(hia.has x hx).raw⟩,hb3⟩;have hil:its.length≤1000:=by
    have h1:=kK bs;rw[←hits,List.length_map] at h1
    have:=HB0.out
    omega
   have HRL:=Hh (fun x (hx:x∈its)=>show x.1.raw.length≤1000 by
    have h1:x.1∈dI bs:=by rw[←hits];exact List.mem_map_of_mem hx
    have h2:=tB h1
    have:=HB0.out
    omega)
   have HV3:=Hh hinv;have HIL:=Hh hil;clear hy3 hits hia hb3 hinv hil;go_wp2_with fail
   go_loopw [39] (fun i wr=>∃ j:Nat,j≤its.length∧i=.int .i64 j∧Hid (LNInv w2 (.slice ax its.length cx) its wr)) (fun i _=>its.length - (intOf i).toNat)
   case atStart=>exact⟨0,Nat.zero_le _,rfl,HV3⟩
   case round =>
    obtain⟨j,hj,rfl,HV⟩:=hrel;by_cases hlt:j<its.length
    · obtain⟨x,hx⟩:∃ x,its[j]? = some x:=⟨_,List.getElem?_eq_getElem hlt⟩;obtain⟨_,_,hv,hcv,hh⟩:=HV.out.get;cases hv
      obtain⟨g,o,rfl,hg,hcs⟩:=hh (by rintro rfl;exact absurd hlt (Nat.not_lt_zero _))
      have k1:=hcs j x hx;have hmem:=List.mem_of_getElem? hx;have hrx:=HRL.out x hmem;obtain⟨bx,hbx,hox⟩:=HV.out.raw x hmem;obtain⟨⟨ki,ra,ins,ial⟩,vr,va⟩:=x;dsimp only at *;obtain⟨ar,cr,rfl⟩:=aI hox;have hi0:(0:Int)≤(j:Int):=om
      have hi1:(j:Int)<(its.length:Int):=om
      have HX:=Hh hx;have HM:=Hh hmem;clear hh hcs hox hbx hx hmem;go_wp2_with fail
      go_loopw [48] (fun i wr=>∃ q:Nat,q≤ra.length∧i=.int .i64 q∧Hid (LNInv w2 (.slice (some ⟨g,o,none⟩) its.length cx) its wr)) (fun i _=>ra.length - (intOf i).toNat)
      case atStart=>exact⟨0,Nat.zero_le _,rfl,HV⟩
      case round =>
       obtain⟨q,hq,rfl,HV2⟩:=hrel;by_cases hlq:q<ra.length
       · obtain⟨_,_,hv,_,hh⟩:=HV2.out.get;cases hv
         obtain⟨_,_,ha,hg2,hcs⟩:=hh (by intro e;rw[e] at hlt;exact absurd hlt (Nat.not_lt_zero _))
         cases ha
         have k1:=hcs j _ HX.out;obtain⟨bx,hbx,hox⟩:=HV2.out.raw _ HM.out;dsimp only at k1 hbx hox;rcases hox.2 with⟨h1,h2⟩|⟨gr,cap,cur,h1,h3,h4,h5,h6,h7,h8⟩
         · omega
         · cases h1
           have hqb:bx[q]? = some (bx[q]'om):=List.getElem?_eq_getElem om;generalize bx[q]'om=y at hqb;have hc:=hox.cells rfl q (.int .u8 y.toNat) (by simp[aT,hqb]);rw[bD,Nat.zero_add] at hc;have hfz:=aH h4 q;have hlr:=aA h4;have hq0:(0:Int)≤(q:Int):=om
           have hq1:(q:Int)<(ra.length:Int):=om
           have HOX:=Hh hox;clear h3 h4 h5 h6 h7 h8 hbx hox hcs hh hqb;go_wp2_with fail
           go_roundw
           case rel =>
            refine⟨q+1,om,by go_num,?_⟩
            rw[aCm];exact Hh (HV2.out.set HOX.out _)
           case measure=>simp[intOf];omega
       · obtain rfl:q=ra.length:=om
         have hil:=HIL.out;go_wp2_with fail
         go_roundw
         case rel=>exact⟨j+1,om,by go_num,HV2⟩
         case measure=>simp[intOf];omega
    · obtain rfl:j=its.length:=om
      have HB3:=Hh HV.out.below;clear hj;go_wp2_with fail
      (with_reducible refine (HRN.out _ HB3.out).mono ?_);rintro e w4 ⟨_,hy4,hb4⟩;obtain⟨vy,jts,rfl,hjts,hja⟩:=hy4 (0,bs) om (by rw[HRC.out];rfl);obtain⟨ay,cy,rfl⟩:=aI hja.own;have HJT:=Hh hjts;have HJA:=Hh hja;have HB4:=Hh (HB3.out.trans (hb4.mono HB3.out.size));clear hy4 hjts hja hb4;go_wp2_with fail
      (with_reducible refine (aCc _).mono ?_);rintro e w5 ⟨rfl,rfl⟩;go_wp2_with fail
      (with_reducible refine (aCe _).mono ?_);rintro e w6 ⟨rfl,hb6⟩;have HJA6:=Hh (HJA.out.below hb6);have HB6:=Hh (HB4.out.trans (hb6.mono HB4.out.size));clear hb6;go_wp2_with fail
      have hal:Below w6.heap.size w6 (w6.alloc (.cells #[] 55)):=br.alloc lr _;have hwn:=World.ownsRow_made (base:=w6.heap.size) (e:=55) (size:=5) w6 #[] 0 lr dc rfl;have hbw:=HB6.out.trans (hal.mono HB6.out.size);generalize w6.alloc (.cells #[] 55)=W6 at *;(with_reducible refine (HAL.out _ (HB2.out.trans (hbw.mono HB2.out.size))).mono ?_);rintro e w7 ⟨rfl,hb7⟩;have HW7:=Hh (bK hwn hb7);have hb7w:=hbw.trans (hb7.mono hbw.size);have HB7:=Hh hb7w;have HDC:=Hh (yE bs _ w7 (HR.out.below (HB2.out.trans (hb7w.mono HB2.out.size))) (by have:=HB0.out;omega));have HSZ7:=Hh (Nat.le_trans hal.size hb7.size);have HC7:=Hh (hal.trans (hb7.mono hal.size));clear hal hwn hbw hb7 hb7w;go_wp2_with fail
      (with_reducible refine HDC.out.mono ?_);rintro e w8 ⟨v8,kts,rfl,hkts,hka,hb8⟩;have hkne:kts≠[]:=fun e=>by
       rw[e] at hkts;rw[pQ bs HNE.out] at hkts;cases hkts
      obtain⟨gk,ck,rfl⟩:∃ gk ck,v8=.slice (some ⟨gk,0,none⟩) kts.length ck:=by
       rcases hka.own.2 with⟨_,h⟩|⟨g,cap,cur,h,_⟩
       · exact absurd (List.eq_nil_of_length_eq_zero h) hkne
       · exact⟨g,cap,h⟩
      have hkc:=hka.own.cells (g:=gk) rfl;have hk1:∀ u∈itc kts,u.oneCell'=true:=fun u hu=>by
       obtain⟨x,hx,hu⟩:=List.mem_flatMap.1 hu;have hat:=hka.has x hx;obtain⟨_,_,e1⟩:=aI hat.raw;obtain⟨_,_,e2⟩:=hat.args.slice;simp[Sz,e1,e2] at hu
       rcases hu with rfl|rfl|rfl|rfl|rfl<;>rfl
      have hkl:kts.length≤1000:=by
       have h1:=kK bs;rw[←hkts,List.length_map] at h1
       have:=HB0.out
       omega
      have HK1:=Hh hk1;have HKC:=Hh hkc;have HKL:=Hh hkl;clear hkne hkc hk1 hkl;have HKT:=Hh hkts;have HKA:=Hh hka;have HW8:=Hh (bK HW7.out hb8);have HC8:=Hh (HC7.out.trans (hb8.mono HSZ7.out));have HB8:=Hh (HB7.out.trans (hb8.mono HB7.out.size));have HSZ8:=Hh (Nat.le_trans HSZ7.out hb8.size);clear hkts hka hb8;go_wp2_with (at_builtin;refine aBR rfl _ _ 29 rfl w6.heap.size 55 i0 (.agg #[.int .i64 0,.slice none 0 0,.string ⟨#[]⟩,.slice none 0 0,.bool false]) 5 80 underlying29 hi hz0 hz1 hz2 rfl dc _ _ _ rfl HW8.out _ _ _ _ rfl (aCp _) HKC.out HK1.out (by have:=HKL.out;unfold maxLen;omega) (by have:=HKL.out;omega) HSZ8.out ?_)
      intro v9 w9 ho9 hg9;obtain⟨a9,c9,rfl⟩:=aI ho9;have hc9:Below w6.heap.size w6 w9:=HC8.out.grown hg9 HSZ8.out (fun k hk=>by cases hk;exact Nat.le_refl _);have hk9:ItsAt w9 w6.heap.size (.slice a9 (0+kts.length) c9) kts:=⟨by simpa using ho9,fun x hx=>((HKA.out.mono HSZ7.out).has x hx).kept hg9 (gB ((HKA.out.mono HSZ7.out).has x hx).raw HW8.out dc) (gB ((HKA.out.mono HSZ7.out).has x hx).args.own HW8.out dc)⟩
      have hb9:=HB6.out.trans (hc9.mono HB6.out.size);have hj9:=HJA6.out.below hc9;have HB9:=Hh hb9;have HS9:=Hh (aBL jts kts _ _ _ _ w9 (by rw[HJT.out,HKT.out]) hj9 hk9 (by
       have h1:=kK bs;rw[←HJT.out,List.length_map] at h1
       have:=HB0.out
       omega) (fun x hx=>by
       have h1:x.1∈dI bs:=by rw[←HJT.out];exact List.mem_map_of_mem hx
       have h2:Am x.1:=xA _ _ _ (by unfold dI at h1;exact h1);unfold Am at h2;exact Nat.le_trans h2.2 dc))
      rw[Nat.zero_add] at HS9;clear ho9 hg9 hc9 hk9 hb9 hj9;go_wp2_with fail
      (with_reducible refine HS9.out.mono ?_);rintro e w10 ⟨rfl,hb10⟩;have HB10:=Hh (HB9.out.trans (hb10.mono HB9.out.size));clear hb10;go_wp2_with fail
      (with_reducible refine (aBW _).mono ?_);rintro e w11 ⟨rfl,hb11⟩;have HB11:=Hh (HB10.out.trans (hb11.mono HB10.out.size));clear hb11;go_wp2_with fail
      (with_reducible refine (aCl _).mono ?_);rintro e w12 ⟨rfl,hb12⟩;have HB12:=Hh (HB11.out.trans (hb12.mono HB11.out.size));clear hb12;go_wp2_with fail
      have hal:Below w12.heap.size w12 (w12.alloc (.cells #[.int .i64 0] 3)):=br.alloc lr _;have hcell:(w12.alloc (.cells #[.int .i64 0] 3)).cell? ⟨w12.heap.size,0,none⟩=some (.int .i64 0):=aC (aF _ _) 0;have hbw:=HB12.out.trans (hal.mono HB12.out.size);generalize w12.alloc (.cells #[.int .i64 0] 3)=W12 at *;have hsrc:eR W12 (.slice (some ⟨w12.heap.size,0,none⟩) 1 1) 1 (aBQ [0]):=Or.inr ⟨⟨w12.heap.size,0,none⟩,1,rfl,fun j u hu=>by
       match j,hu with
       | 0,hu=>cases hu;exact hcell⟩
      (with_reducible refine (aBX _ W12 hsrc (fun W hb=>HTW.out W (hbw.trans (hb.mono hbw.size)))).mono ?_);rintro e w13 ⟨rfl,hb13⟩;have HB13:=Hh (HB2.out.trans ((hbw.trans (hb13.mono hbw.size)).mono HB2.out.size));clear hal hcell hbw hb13 hsrc;go_wp2_with fail
      go_ret;exact⟨rfl,HB13.out⟩
end Go.Proofs.YtoigglljnklhlaaGreatDoor
