/- Joined texts: Del, DelS, NodeCells, TextW, TextLn, Alive19. -/
import Derived.Test.YtkldoojonnkfgaaGreatDoorC46
import Derived.Shelf.SlSortCmp.Insertion
import Derived.Shelf.SlicesE.DeleteFunc
namespace Go.Proofs
open Go.RowKit Go.Sort Go.Shelf
def Tryz.del69_ren:Go.Shelf.Ren:=⟨fun | 10=>69 | 6=>140 | n=>n,fun | 22=>72 | 23=>9 | 25=>56 | 3=>3 | 4=>4 | 0=>0 | n=>n,fun | n=>n⟩
theorem Tryz.del69:Go.Proofs.SlLaysH.n10 Tryz.prog Tryz.del69_ren:={
 mixed:=by kernel_rfl
 f6:=⟨Tryz.f140.name,by decide,Tryz.func140.trans (congrArg some (by kernel_rfl))⟩
 f10:=⟨Tryz.f69.name,by decide,Tryz.func69.trans (congrArg some (by kernel_rfl))⟩
 t0:=Tryz.underlying0
 a0:=Tryz.isAgg0
 z0:=Tryz.sizeOf0
 v0:=Tryz.zeroValue0
 t3:=Tryz.underlying3
 a3:=Tryz.isAgg3
 z3:=Tryz.sizeOf3
 v3:=Tryz.zeroValue3
 t4:=Tryz.underlying4
 a4:=Tryz.isAgg4
 z4:=Tryz.sizeOf4
 v4:=Tryz.zeroValue4
 t22:=Tryz.underlying72
 a22:=Tryz.isAgg72
 z22:=Tryz.sizeOf72
 v22:=Tryz.zeroValue72
 a23:=Tryz.isAgg9
 z23:=Tryz.sizeOf9
 t25:=Tryz.underlying56
 a25:=Tryz.isAgg56
 z25:=Tryz.sizeOf56
 v25:=Tryz.zeroValue56 }
end Go.Proofs
namespace Go.Proofs.YtkldoojonnkfgaaGreatDoor
open Go.RowKit Go.Sort
theorem encOne:OneCell Proofs.encStr:=fun _=>rfl
theorem below_sortWorld {B:Nat} {w:World} {g:Nat} (hg:B≤g) (hB:B≤w.heap.size) (n:Nat) (os:Array Obj) (d:Array (List UInt8)):Below B w (sortWorld Proofs.encStr w g 0 n d os) :=
 (Below.refl B w).grown (grownBy_sorted d) hB (by intro q hq; cases hq; exact hg)
theorem own_take {w:World} {base g:Nat} {e:TypeId} {n cap m:Nat} {xs:List Value} (h:w.ownsRow base e 1 (.slice (some ⟨g,0,none⟩) n cap) n xs) (hm:m≤n):w.ownsRow base e 1 (.slice (some ⟨g,0,none⟩) m cap) m (xs.take m):=by
 obtain ⟨h1,h2⟩:=h
 refine ⟨by rw [List.length_take]; omega,.inr ?_⟩
 rcases h2 with ⟨h2,_⟩ | ⟨g',cap',cur,hv,hg,hh,hn,hc,hs,ht⟩
 · cases h2
 · cases hv
   refine ⟨g,cap,cur,rfl,hg,hh,by omega,hc,hs,?_⟩
   rw [←ht,List.take_take]
   congr 1
   omega
def PredB (B:Nat) (w:World) (g:Nat) (lb:Array Value) (p:List UInt8→Bool):Prop:=∀ W x,Below B w W→FnGives Tryz.prog g lb #[Proofs.encStr x] (.bool (p x)) W
set_option maxHeartbeats 1000000 in
theorem index_nil (f:Value) (w:World):Calls Tryz.prog 140 #[.slice none 0 0,f] w fun e w'=>e=.returned (.int .i64 (-1))∧w'=w:=by
 go_enter Tryz.func140,Tryz.ntmps140
 go_wp2_with fail
 go_loopw [5,8] (fun _ i wr=>i=.int .i64 0∧wr=w) (fun _ _ _=>0)
 case atStart=>exact ⟨rfl,rfl⟩
 case round =>
  obtain ⟨rfl,rfl⟩:=hrel
  go_wp2_with fail
  go_ret
  exact ⟨rfl,rfl⟩
theorem delete_any (base:Nat) (v:Value) (l:List (List UInt8)) (p:List UInt8→Bool) (g0:Nat) (lb:Array Value) (eg:∀ args w,(callFunc g0 args).run Tryz.prog w=.ok (.enter g0 args) w) (w:World) (hown:w.ownsRow base 9 1 v l.length (l.map Proofs.encStr)) (hnil:l=[]→v=.slice none 0 0) (hlen:l.length≤1000000) (hb:base≤w.heap.size) (hcl:PredB base w g0 lb p) :
 Calls Tryz.prog 69 #[v,.func (.func g0) #[] lb] w fun e w'=>∃ v',e=.returned v'∧w'.ownsRow base 9 1 v' (l.filter fun x=>!p x).length ((l.filter fun x=>!p x).map Proofs.encStr)∧Below base w w':=by
 rcases hL:l with _ | ⟨x,m⟩
 · rw [hnil hL]
   have hix:=index_nil (.func (.func g0) #[] lb)
   have HIX:=Hh hix
   clear hix hcl eg hown hnil
   go_enter Tryz.func69,Tryz.ntmps69
   go_wp2_with fail
   (with_reducible refine (HIX.out _).mono ?_)
   rintro e w1 ⟨rfl,rfl⟩
   go_wp2_with fail
   go_ret
   exact ⟨_,rfl,World.ownsRow_nil _ _ _ _,bl⟩
 · rw [←hL]
   have hpos:0<l.length:=by rw [hL]; simp
   clear hL
   rcases hown.2 with ⟨_,h0⟩ | ⟨g,cap,cur,rfl,hg,hbk,hn,hcap,hcur,htk⟩
   · omega
   have hgw:g<w.heap.size:=lt_of_block hbk
   have hdel:=AnyE.slices_DeleteFunc Tryz.del69 Proofs.encStr encOne p g0 lb eg [] (fun w=>by kernel_rfl) g 0 cap l.toArray w (fun W x hW=>hcl W x (hW.mono hb)) (fun n os dk x _=>hcl _ x (below_sortWorld hg hb n os dk)) (holds_of_block hbk (by simpa using htk)) (by simp; omega) (by simpa using hn)
   simp only [List.size_toArray] at hdel
   refine (show Calls Tryz.prog 69 #[.slice (some ⟨g,0,none⟩) l.length cap,.func (.func g0) #[] lb] w _ from hdel).mono ?_
   rintro e w2 ⟨rfl,q,hw2⟩
   have hfl:(l.filter fun x=>!p x).length≤l.length:=List.length_filter_le _ _
   have hw3:w2=grow (putRow Proofs.encStr (Sort.ahead w q) g 0 ((l.filter fun x=>!p x)++List.replicate (l.length - (l.filter fun x=>!p x).length) []).toArray) #[]:=by rw [hw2,grow_empty]
   have hown3:w2.ownsRow base 9 1 (.slice (some ⟨g,0,none⟩) l.length cap) l.length (((l.filter fun x=>!p x)++List.replicate (l.length - (l.filter fun x=>!p x).length) []).map Proofs.encStr):=by
    rw [hw3]
    exact ownsRow_sorted (n:=q) (os:=#[]) (ss:=l) (by rw [List.length_append,List.length_replicate]; omega) hg hbk hn hcap hcur
   refine ⟨_,rfl,?_,?_⟩
   · have h4:=own_take hown3 hfl
     rw [List.map_append,List.take_left' (by simp)] at h4
     exact h4
   · exact (Below.refl base w).grown (by rw [hw3]; exact grownBy_sorted _) hb (by intro q hq; cases hq; exact hg)
theorem node_cells {w:World} {T:TypeId} {g:Nat} {c0 c1 c2 c3 c4:Value} (h:w.heap[g]? = some (.cells #[c0,c1,c2,c3,c4] T (0,0))):g<w.heap.size∧w.cell? ⟨g,0,none⟩=some c0∧w.cell? ⟨g,1,none⟩=some c1∧w.cell? ⟨g,2,none⟩=some c2∧w.cell? ⟨g,3,none⟩=some c3∧w.cell? ⟨g,4,none⟩=some c4:=by
 refine ⟨lt_of_block h,?_,?_,?_,?_,?_⟩<;>simp [World.cell?,h]
def StrRes (s:ByteArray) (w:World) (e:Ending) (w':World):Prop:=e=.returned (.string s)∧Below w.heap.size w w'
theorem brk_t (s:ByteArray):brk true s=⟨#[40]⟩++s++⟨#[41]⟩:=rfl
theorem brk_f (s:ByteArray):brk false s=s:=rfl
set_option maxHeartbeats 1000000 in
set_option maxRecDepth 100000 in
theorem part_any (x:Ex) (S:ByteArray) (v:Value) (L:Int) (w:World) (hS:S.size≤100000000000000) (hn:NodeAt 225 0 w x v) (ht:∀ w',Below w.heap.size w w'→Calls Tryz.prog 68 #[v] w' (StrRes S w')) :
 Calls Tryz.prog 137 #[v,.int .i64 L] w (StrRes (brk (x.kd == 5 && decide ((lvlS x.nm:Int)<L)) S) w):=by
 obtain ⟨g,a3,a4,rfl,hg,c0,c1,c2,c3,c4,ka,kb⟩:=NodeAt.five hn
 clear hn ka kb c1 c3 c4
 have HT:=Hh ht; clear ht
 generalize x.kd=k at *
 generalize x.nm=s at *
 rcases hk:(k == 5) with _ | _
 · rw [Bool.false_and,brk_f]
   go_enter Tryz.func137,Tryz.ntmps137
   go_wp2_with fail
   refine (HT.out _ (bl)).mono ?_
   rintro e w1 ⟨rfl,hb1⟩
   obtain ⟨p1,rfl⟩:=gw_of_below hb1
   clear hb1
   go_wp2_with fail
   go_ret
   exact ⟨rfl,bl⟩
 · have hlev:=fun w=>level_any s w
   generalize lvlS s=l at *
   have HLEV:=Hh hlev; clear hlev
   rw [Bool.true_and]
   rcases hl:decide ((l:Int)<L) with _ | _
   · rw [brk_f]
     go_enter Tryz.func137,Tryz.ntmps137
     go_wp2_with fail
     refine (HLEV.out _).mono ?_
     rintro e w1 ⟨rfl,hb1⟩
     obtain ⟨p1,rfl⟩:=gw_of_below hb1
     clear hb1
     go_wp2_with fail
     refine (HT.out _ (bl)).mono ?_
     rintro e w1 ⟨rfl,hb1⟩
     obtain ⟨p2,rfl⟩:=gw_of_below hb1
     clear hb1
     go_wp2_with fail
     go_ret
     exact ⟨rfl,bl⟩
   · rw [brk_t]
     go_enter Tryz.func137,Tryz.ntmps137
     go_wp2_with fail
     refine (HLEV.out _).mono ?_
     rintro e w1 ⟨rfl,hb1⟩
     obtain ⟨p1,rfl⟩:=gw_of_below hb1
     clear hb1
     go_wp2_with fail
     refine (HT.out _ (bl)).mono ?_
     rintro e w1 ⟨rfl,hb1⟩
     obtain ⟨p2,rfl⟩:=gw_of_below hb1
     clear hb1
     go_wp2_with fail
     go_ret
     exact ⟨rfl,bl⟩
theorem t178_0 {p:Prop} (h:p:=by
 obtain ⟨g,_,rfl,hb⟩:=hn
 obtain ⟨hlt,c0,c1,c2,c3,c4⟩:=node_cells hb
 clear hT hb hg
 go_enter Tryz.func68,Tryz.ntmps68
 go_wp2_with fail
 go_ret
 exact ⟨rfl,bl⟩):p:=h
set_option maxHeartbeats 4000000 in
set_option maxRecDepth 100000 in
theorem textE_any:∀ (x:Ex),x.good→x.nodes≤1000000→∀ (v:Value) (w:World),NodeAt 225 0 w x v→Tabs w→Calls Tryz.prog 68 #[v] w (StrRes x.text w)
 | .num n,hg,hnd,v,w,hn,hT=>by
   obtain ⟨g,_,rfl,hb⟩:=hn
   obtain ⟨hlt,c0,c1,c2,c3,c4⟩:=node_cells hb
   have HT:=Hh hT; clear hT hb hg
   go_enter Tryz.func68,Tryz.ntmps68
   go_wp2_with fail
   refine (numText_any n _ (HT.out.below (bl))).mono ?_
   rintro e w1 ⟨rfl,hb1⟩
   obtain ⟨p1,rfl⟩:=gw_of_below hb1
   clear hb1
   go_wp2_with fail
   go_ret
   exact ⟨rfl,bl⟩
 | .sym s,hg,hnd,v,w,hn,hT=>by
   exact t178_0
 | .here,hg,hnd,v,w,hn,hT=>by
   exact t178_0
 | .un op a,hg,hnd,v,w,hn,hT=>by
   obtain ⟨g,va,_,rfl,hb,ha⟩:=hn
   obtain ⟨hlt,c0,c1,c2,c3,c4⟩:=node_cells hb
   have hnd':1+a.nodes≤1000000:=hnd
   have hsa:=text_size a hg.2
   have hso:=un_size hg.1
   have hsb:=brk_size (a.kd == 5) a.text
   have ih:=fun w' (h:Below w.heap.size w w')=>part_any a a.text va 2147483648 w' (by omega) (ha.below h) (fun w'' h'=>textE_any a hg.2 (by omega) va w'' ((ha.below h).below h') ((hT.below h).below h'))
   have hlv:decide ((lvlS a.nm:Int)<2147483648)=true:=by have:=lvlL_le a.nm.toList; rw [decide_eq_true_eq]; unfold lvlS; omega
   rw [hlv,Bool.and_true] at ih
   show Calls _ _ _ _ (StrRes (op++brk (a.kd == 5) a.text) w)
   have hS:(brk (a.kd == 5) a.text).size≤4000000000000:=by omega
   clear hnd hnd' hsa hsb
   generalize brk (a.kd == 5) a.text=S at *
   obtain ⟨ga,rfl,hga⟩:=ha.ptr
   have IH:=Hh ih; clear ih hT hb hg ha hlv
   go_enter Tryz.func68,Tryz.ntmps68
   go_wp2_with fail
   refine wp_region_gw (by kernel_rfl) (by kernel_rfl) ?_
   repeat (go_big_quiet_step (exact gw_quiet (IH.out _ (bl))))
   refine wpQuiet_nil ?_
   rintro _ ⟨p1,rfl⟩
   go_wp2_with fail
   go_ret
   exact ⟨rfl,bl⟩
 | .bin op a b,hg,hnd,v,w,hn,hT=>by
   obtain ⟨g,va,vb,_,rfl,hb,ha,hbb⟩:=hn
   obtain ⟨hlt,c0,c1,c2,c3,c4⟩:=node_cells hb
   have hnd':1+a.nodes+b.nodes≤1000000:=hnd
   have hsa:=text_size a hg.2.1
   have hsb:=text_size b hg.2.2
   have hso:=op_size hg.1
   have hsc:=brk_size (a.kd == 5 && decide (lvlS a.nm<lvlS op)) a.text
   have hsd:=brk_size (b.kd == 5 && decide (lvlS b.nm≤lvlS op)) b.text
   have ih:=fun w' (h:Below w.heap.size w w')=>part_any a a.text va (lvlS op) w' (by omega) (ha.below h) (fun w'' h'=>textE_any a hg.2.1 (by omega) va w'' ((ha.below h).below h') ((hT.below h).below h'))
   have ihb:=fun w' (h:Below w.heap.size w w')=>part_any b b.text vb ((lvlS op:Int)+1) w' (by omega) (hbb.below h) (fun w'' h'=>textE_any b hg.2.2 (by omega) vb w'' ((hbb.below h).below h') ((hT.below h).below h'))
   have e1:decide ((lvlS a.nm:Int)<(lvlS op:Int))=decide (lvlS a.nm<lvlS op):=by simp
   have e2:decide ((lvlS b.nm:Int)<(lvlS op:Int)+1)=decide (lvlS b.nm≤lvlS op):=by rw [decide_eq_decide]; omega
   rw [e1] at ih
   rw [e2] at ihb
   show Calls _ _ _ _ (StrRes (brk (a.kd == 5 && decide (lvlS a.nm<lvlS op)) a.text++⟨#[32]⟩++op++⟨#[32]⟩++brk (b.kd == 5 && decide (lvlS b.nm≤lvlS op)) b.text) w)
   have hS:(brk (a.kd == 5 && decide (lvlS a.nm<lvlS op)) a.text).size≤4000000000000:=by omega
   have hU:(brk (b.kd == 5 && decide (lvlS b.nm≤lvlS op)) b.text).size≤4000000000000:=by omega
   clear hnd hnd' hsa hsb hsc hsd
   generalize brk (a.kd == 5 && decide (lvlS a.nm<lvlS op)) a.text=S at *
   generalize brk (b.kd == 5 && decide (lvlS b.nm≤lvlS op)) b.text=U at *
   obtain ⟨ga,rfl,hga⟩:=ha.ptr
   obtain ⟨gb,rfl,hgb⟩:=hbb.ptr
   have hlev:=fun w=>level_any op w
   have hl6:lvlS op≤6:=lvlL_le _
   generalize lvlS op=l at *
   have HLEV:=Hh hlev; clear hlev e1 e2
   have IH:Hid (∀ w',Below w.heap.size w w'→Calls Tryz.prog 137 #[.pointer (some ⟨ga,0,none⟩),.int .i64 l] w' fun e w''=>e=.returned (.string S)∧Below w'.heap.size w' w''):=Hh ih; clear ih hT hb hg ha
   have IHB:Hid (∀ w',Below w.heap.size w w'→Calls Tryz.prog 137 #[.pointer (some ⟨gb,0,none⟩),.int .i64 ((l:Int)+1)] w' fun e w''=>e=.returned (.string U)∧Below w'.heap.size w' w''):=Hh ihb; clear ihb hbb
   go_enter Tryz.func68,Tryz.ntmps68
   go_wp2_with fail
   refine (HLEV.out _).mono ?_
   rintro e w1 ⟨rfl,hb1⟩
   obtain ⟨p1,rfl⟩:=gw_of_below hb1
   clear hb1
   have hlt1:g<w.heap.size+p1.os.size:=by omega
   have hw64:IntKind.i64.wrap ((l:Int)+1)=(l:Int)+1:=IntWalk.i64_in _ (by omega)
   have HW:=hw64
   go_wp2_with fail
   refine wp_region_gw (by kernel_rfl) (by kernel_rfl) ?_
   repeat (go_big_quiet_step (first | (with_reducible (exact gw_quiet (IH.out _ (bl)))) | (with_reducible (exact gw_quiet (IHB.out _ (bl))))))
   refine wpQuiet_nil ?_
   rintro _ ⟨p2,rfl⟩
   go_wp2_with fail
   go_ret
   exact ⟨rfl,bl⟩
def joinB (sep:List UInt8) (l:List ByteArray):ByteArray:=⟨(Lib.join (l.map (·.data.toList)) sep).toArray⟩
def labT (lab op:ByteArray):ByteArray:=if lab.toList.isEmpty=false∧(op.toList == [69,81,85])=false then lab++⟨#[58]⟩ else lab
def wordsT (lab op:ByteArray) (l:List ByteArray):List (List UInt8):=[(labT lab op).data.toList,op.data.toList,(joinB [44] l).data.toList].filter fun x=>!x.isEmpty
def textLn (lab op:ByteArray) (l:List ByteArray):ByteArray:=⟨(Lib.join (wordsT lab op l) [32]).toArray⟩
theorem text1_any (x:List UInt8) (w:World):Calls Tryz.prog 71 #[.string ⟨x.toArray⟩] w fun e w'=>e=.returned (.bool x.isEmpty)∧w'=w:=by
 go_enter Tryz.func71,Tryz.ntmps71
 go_wp2_with fail
 go_ret
 exact ⟨rfl,rfl⟩
theorem infoStr:(Tryz.prog.info? 9).map (fun i=>(i.zero,i.size,i.bytes))=some (some (.string ⟨#[]⟩),1,16):=by kernel_rfl
theorem joinRow_any (l:List ByteArray) (v:Value) (c:UInt8) (w:World) (hr:Row w v l.length (strc l)) (hl:l.length≤1000000) (hj:(Lib.join (l.map (·.data.toList)) [c]).length≤100000000000000) :
 Calls Tryz.prog 70 #[v,.string ⟨#[c]⟩] w fun e w'=>e=.returned (.string (joinB [c] l))∧Below w.heap.size w w':=by
 obtain ⟨a,k,rfl,hk,hc⟩:=hr
 by_cases hnil:l=[]
 · subst hnil
   exact (Tryz.strings_Join_none a k ⟨#[c]⟩ w).mono fun e w' ⟨he,hw⟩=>⟨he,hw ▸ Below.refl _ _⟩
 · obtain ⟨g,o,rfl,hg,hcs⟩:=hc (by intro e; have h2:=strc_len l; rw [e] at h2; exact hnil (List.eq_nil_of_length_eq_zero h2.symm))
   exact Tryz.strings_Join g o k l ⟨#[c]⟩ w (fun j x hx=>by
    have hjl:j<l.length:=(List.getElem?_eq_some_iff.1 hx).1
    rw [hcs j (by rw [strc_len]; exact hjl)]
    simp [strc,hx]) hg (by omega) (by omega) (by show (Lib.join (l.map (·.data.toList)) [c]).length≤_; omega)
theorem ptc_get:∀ (l:List (Pt × Option Addr)) (j:Nat) (y:Pt × Option Addr),l[j]? = some y→(ptc l)[j * 2]? = some (.string y.1.text)∧(ptc l)[j * 2+1]? = some (.pointer y.2)
 | [],j,y,h=>by simp at h
 | a::l,0,y,h=>by
   simp at h; subst h
   exact ⟨rfl,rfl⟩
 | a::l,j+1,y,h=>by
   have hy:l[j]? = some y:=by simpa using h
   obtain ⟨g0,g1⟩:=ptc_get l j y hy
   have e:∀ k,(ptc (a::l))[(j+1) * 2+k]? = (ptc l)[j * 2+k]? := fun k=>by
    show ([Value.string a.1.text,.pointer a.2]++ptc l)[(j+1) * 2+k]? = _
    rw [List.getElem?_append_right (by simp; omega)]
    congr 1
    simp; omega
   exact ⟨by have:=e 0; simp only [Nat.add_zero] at this; rw [this]; exact g0,by rw [e 1]; exact g1⟩
def tbA (x:List UInt8):ByteArray:=⟨x.toArray⟩
theorem strc_tb (l:List (List UInt8)):strc (l.map tbA)=l.map Proofs.encStr:=by
 unfold strc
 rw [List.map_map]
 rfl
theorem del3_any (a b c:ByteArray) (W:World) :
 Calls Tryz.prog 69 #[.slice (some ⟨W.heap.size,0,none⟩) 3 3,.func (.func 71) #[] #[]] (W.alloc (.cells #[.string a,.string b,.string c] 9)) fun e w'=>∃ v',e=.returned v'∧Row w' v' ((([a.data.toList,b.data.toList,c.data.toList].filter fun x=>!x.isEmpty).map tbA)).length (strc (([a.data.toList,b.data.toList,c.data.toList].filter fun x=>!x.isEmpty).map tbA))∧Below W.heap.size W w':=by
 have hb:Below W.heap.size W (W.alloc (.cells #[.string a,.string b,.string c] 9)):=(Below.refl _ _).alloc (Nat.le_refl _) _
 have hown:(W.alloc (.cells #[.string a,.string b,.string c] 9)).ownsRow W.heap.size 9 1 (.slice (some ⟨W.heap.size,0,none⟩) 3 3) 3 [.string a,.string b,.string c]:=⟨rfl,.inr ⟨W.heap.size,3,#[.string a,.string b,.string c],rfl,Nat.le_refl _,blk_new _ _,Nat.le_refl _,by unfold maxLen; decide,rfl,rfl⟩⟩
 have hd:=delete_any W.heap.size (.slice (some ⟨W.heap.size,0,none⟩) 3 3) [a.data.toList,b.data.toList,c.data.toList] (fun x=>x.isEmpty) 71 #[] (enters_of Tryz.func71 (by kernel_rfl) rfl) (W.alloc (.cells #[.string a,.string b,.string c] 9)) hown (fun h=>by cases h) (by simp) (by simp) (fun X x _=>(text1_any x X).mono (fun e w' ⟨he,hw⟩=>⟨he,0,hw⟩))
 refine hd.mono ?_
 rintro e w' ⟨v',he,ho,hb'⟩
 refine ⟨v',he,?_,hb.trans hb'⟩
 rw [strc_tb,List.length_map]
 exact Row.of_owns ho
theorem t179_0 {p:Prop} (h:p:=by
 rw [if_neg (by simp)] at hLT
 subst hLT
 go_wp2_with fail
 go_region_held3 (fun w'=>w'.cell? ⟨w.heap.size,1,none⟩=some (.string op)) (first | exact c1 | exact K4 | exact K5 | exact ((Below.alloc (Below.refl w4.heap.size w4) (Nat.le_refl _) _).cell (p:=⟨w.heap.size,1,none⟩) (Nat.lt_of_lt_of_le hxr hbw4.size)).trans K4) (first
  | ((with_reducible refine (HJN.out _ hdrw).mono ?_); rintro e w4 ⟨rfl,hb4⟩; have hbw4:=hdrw.trans hb4; have K4:w4.cell? ⟨w.heap.size,1,none⟩=some (.string op):=(hbw4.cell (p:=⟨w.heap.size,1,none⟩) hxr).trans c1)
  | ((with_reducible refine (HDL.out _ _).mono ?_); rintro e w5 ⟨v5,rfl,hr5,hb5⟩; have hbw5:=hbw4.trans (hb5.mono hbw4.size); have K5:w5.cell? ⟨w.heap.size,1,none⟩=some (.string op):=(hbw5.cell (p:=⟨w.heap.size,1,none⟩) hxr).trans c1))
 have HR5:=Hh hr5; have HB5:=Hh (HBT.out.trans (hbw5.mono HBT.out.size))
 clear hr5 hb5 hb4 hbw4 hbw5 K4 K5
 go_wp2_with fail
 (with_reducible refine (HFIN.out _ _ HR5.out).mono ?_)
 rintro e w6 ⟨rfl,hb6⟩
 have HB6:=Hh (HB5.out.trans (hb6.mono HB5.out.size)); clear hb6
 go_wp2_with fail
 go_ret
 exact ⟨rfl,HB6.out⟩):p:=h
set_option maxRecDepth 100000 in
set_option maxHeartbeats 8000000 in
theorem lineTextE_any (lab op:ByteArray) (av:Option Addr) (cv:Nat) (vp:Value) (ps:List (Pt × Option Addr)) (ts:List ByteArray) (w:World) (hT:TabsA w) (hr:Row w vp ps.length (ptc ps)) (hlen:ts.length=ps.length)
 (hx:∀ (j:Nat) y,ps[j]? = some y→∃ e,y.1.ex=some e∧e.good∧e.nodes≤1000000∧ts[j]? = some e.text∧NodeAt 225 0 w e (.pointer y.2)) (hn:ps.length≤1000)
 (hj1:(Lib.join (ts.map (·.data.toList)) [44]).length≤1000000000) (hj2:(Lib.join (wordsT lab op ts) [32]).length≤1000000000) (hls:lab.size≤1000000) (_hos:op.size≤1000000) :
 Calls Tryz.prog 26 #[.agg #[.string lab,.string op,.slice av 0 cv,vp]] w fun e w'=>e=.returned (.string (textLn lab op ts))∧Below w.heap.size w w':=by
 obtain ⟨i0,hi,hz0,hz1,hz2⟩:=info_parts infoStr
 have HT:=Hh hT; have HR:=Hh hr; have HX:=Hh hx; have HJ1:=Hh hj1; have HJ2:=Hh hj2
 clear hT hx hj1 hj2
 obtain ⟨ap,cp,rfl,_,_⟩:=hr
 have hpi:(ps.length:Int)≤1000:=by omega
 obtain ⟨TL,hTL⟩:∃ TL,textLn lab op ts=TL:=⟨_,rfl⟩
 rw [hTL]
 have HTL:=Hh hTL; clear hTL
 go_enter Tryz.func26,Tryz.ntmps26
 go_wp2_with fail
 go_loopw [3,13] (fun l3 i wr=>l3=.slice none 0 0∧i=.int .i64 0∧wr=w.alloc (.cells #[.string lab,.string op,.slice av 0 cv,.slice ap ps.length cp] 59)) (fun _ _ _=>0)
 case atStart=>exact ⟨rfl,rfl,rfl⟩
 case round =>
  obtain ⟨rfl,rfl,rfl⟩:=hrel
  go_wp2_with fail
  obtain ⟨W1,hW1⟩:∃ W1,w.alloc (.cells #[.string lab,.string op,.slice av 0 cv,.slice ap ps.length cp] 59)=W1:=⟨_,rfl⟩
  have hbw:Below w.heap.size w W1:=by rw [←hW1]; exact (Below.refl _ _).alloc (Nat.le_refl _) _
  have hbx:W1.heap[w.heap.size]? = some (.cells #[.string lab,.string op,.slice av 0 cv,.slice ap ps.length cp] 59 (0,0)):=by rw [←hW1]; exact blk_new _ _
  rw [hW1]
  have HBW:=Hh hbw; have HBX:=Hh hbx
  have hxl:=blk_lt hbx
  clear hW1 hbw hbx
  go_loopw [3,26] (fun out i wr=>∃ j:Nat,j≤ps.length∧i=.int .i64 j∧Hid (wr.ownsRow W1.heap.size 9 1 out j (strc (ts.take j)))∧Hid (Below W1.heap.size W1 wr)) (fun _ i _=>ps.length - (intOf i).toNat)
  case atStart=>exact ⟨0,Nat.zero_le _,rfl,Hh (World.ownsRow_nil _ _ _ _),Hh (Below.refl _ _)⟩
  case round =>
   obtain ⟨j,hj,rfl,HO,HB⟩:=hrel
   obtain ⟨ao,co,rfl⟩:=owns_slice HO.out
   have hbr:=HBX.out
   have hbr:wr.heap[w.heap.size]? = _:=blk_below HBX.out HB.out hxl
   have hxr:=blk_lt hbr
   by_cases hlt:j<ps.length
   · obtain ⟨y,hy⟩:∃ y,ps[j]? = some y:=⟨_,List.getElem?_eq_getElem hlt⟩
     obtain ⟨e,he,hg,hnd,hte,hnode⟩:=HX.out j y hy
     obtain ⟨gn,hgn,_⟩:=NodeAt.ptr hnode
     obtain ⟨⟨yt,ye⟩,yp⟩:=y
     dsimp only at hgn hnode
     cases hgn
     obtain ⟨_,_,hv,_,hh⟩:=(HR.out.below HBW.out).below HB.out
     cases hv
     obtain ⟨g0,g1⟩:=ptc_get ps j _ hy
     have hpl:=ptc_len ps
     obtain ⟨g,o,rfl,hgl,hh⟩:=hh (by intro e0; rw [e0] at hpl; simp at hpl; omega)
     have k0:=(hh (j * 2) (by omega)).trans g0
     have k1:=(hh (j * 2+1) (by omega)).trans g1
     rw [←Nat.add_assoc] at k1
     have htx:=fun W (hb:Below wr.heap.size wr W)=>textE_any e hg hnd _ W (((hnode.below HBW.out).below HB.out).below hb) ((HT.out.below (HBW.out.trans (HB.out.mono HBW.out.size))).below (hb.mono (Nat.le_refl _))).t
     unfold StrRes at htx
     have hsn:strc (ts.take (j+1))=strc (ts.take j)++[.string e.text]:=by rw [List.take_add_one,hte]; simp [strc]
     have HTX:=Hh htx; have HSN:=Hh hsn
     have hi0:(0:Int)≤(j:Int):=by omega
     have hi1:(j:Int)<(ps.length:Int):=by omega
     clear hh htx hsn hy he hg hnd hte hnode g0 g1
     go_wp2_with fail
     have hal:Below wr.heap.size wr (wr.alloc (.cells #[.string yt,.pointer (some ⟨gn,0,none⟩)] 130)):=(Below.refl _ _).alloc (Nat.le_refl _) _
     (with_reducible refine (HTX.out _ hal).mono ?_)
     rintro e2 w2 ⟨rfl,hb2⟩
     have HBR:=Hh (hal.trans (hb2.mono hal.size))
     have HB2:=Hh (HB.out.trans (HBR.out.mono HB.out.size))
     clear hal hb2 k0 k1
     go_wp2_with (at_builtin; refine wpList_append_own _ rfl _ _ 72 rfl W1.heap.size 9 i0 (.string ⟨#[]⟩) 1 16 Tryz.underlying72 hi hz0 hz1 hz2 rfl (by decide) _ _ _ rfl ((owns_below HO.out HBR.out).alloc _) ⟨w2.heap.size,0,none⟩ 1 1 [.string e.text] rfl rfl ?d1 ?d2 ?d3 ?d4 ?d5 ?_)
     case d1 =>
      have hnb:=blk_new w2 (.cells #[.string e.text] 9)
      intro k u hk
      rw [addr_add,Nat.zero_add,blk_cell hnb]
      simpa using hk
     case d2=>intro u hu; simp at hu; rcases hu with rfl; rfl
     case d3=>unfold maxLen; omega
     case d4=>omega
     case d5=>rw [World.size_alloc]; have:=HB2.out.size; omega
     intro v4 w4 hown4 hgrow4 _
     have hal:Below w2.heap.size w2 (w2.alloc (.cells #[.string e.text] 9)):=(Below.refl _ _).alloc (Nat.le_refl _) _
     have hb4:Below W1.heap.size W1 w4:=(HB2.out.trans (hal.mono HB2.out.size)).grown hgrow4 (by rw [World.size_alloc]; have:=HB2.out.size; omega) (fun k hk=>(HO.out.lt k hk).1)
     have HOWN4:=Hh hown4; have HB4:=Hh hb4
     clear hal hb4 hown4 hgrow4
     go_wp2_with fail
     go_roundw
     case rel=>exact ⟨j+1,by omega,by go_num,Hh (by rw [HSN.out]; exact HOWN4.out),HB4⟩
     case measure=>simp [intOf]; omega
   · obtain rfl:j=ps.length:=by omega
     have ho:=HO.out
     rw [←hlen,List.take_length] at ho
     have hrow:=Row.of_owns ho
     rw [hlen] at hrow
     have c0:wr.cell? ⟨w.heap.size,0,none⟩=some (.string lab):=blk_cell hbr 0
     have c1:wr.cell? ⟨w.heap.size,1,none⟩=some (.string op):=blk_cell hbr 1
     have hjn:=fun W (hb:Below wr.heap.size wr W)=>joinRow_any ts (.slice ao ps.length co) 44 W (by rw [hlen]; exact hrow.below hb) (by omega) (by have:=HJ1.out; omega)
     have hdl:=fun L W=>del3_any L op (joinB [44] ts) W
     obtain ⟨J,hJ⟩:∃ J,joinB [44] ts=J:=⟨_,rfl⟩
     obtain ⟨LT,hLT⟩:∃ LT,labT lab op=LT:=⟨_,rfl⟩
     have hj2:=HJ2.out
     have hfin:=fun W v' (hr:Row W v' (([LT.data.toList,op.data.toList,J.data.toList].filter fun x=>!x.isEmpty).map tbA).length (strc (([LT.data.toList,op.data.toList,J.data.toList].filter fun x=>!x.isEmpty).map tbA)))=>joinRow_any (([LT.data.toList,op.data.toList,J.data.toList].filter fun x=>!x.isEmpty).map tbA) v' 32 W hr (by
      rw [List.length_map]
      exact Nat.le_trans (List.length_filter_le _ _) (by simp)) (by
      have e:(([LT.data.toList,op.data.toList,J.data.toList].filter fun x=>!x.isEmpty).map tbA).map (·.data.toList)=wordsT lab op ts:=by
       rw [List.map_map,←hLT,←hJ]
       exact List.map_id'' (fun x=>rfl) _
      rw [e]; omega)
     have htl:joinB [32] (([LT.data.toList,op.data.toList,J.data.toList].filter fun x=>!x.isEmpty).map tbA)=textLn lab op ts:=by
      unfold textLn joinB
      congr 2
      have e:(([LT.data.toList,op.data.toList,J.data.toList].filter fun x=>!x.isEmpty).map tbA).map (·.data.toList)=wordsT lab op ts:=by
       rw [List.map_map,←hLT,←hJ]
       exact List.map_id'' (fun x=>rfl) _
      rw [e]
     simp only [htl] at hfin
     rw [hJ] at hdl
     simp only [hJ] at hjn
     rw [HTL.out] at hfin
     unfold labT at hLT
     obtain ⟨A,hA⟩:∃ A,lab.toList.isEmpty=A:=⟨_,rfl⟩
     obtain ⟨E,hE⟩:∃ E,(op.toList == [69,81,85])=E:=⟨_,rfl⟩
     rw [hA,hE] at hLT
     have hdrw:Below wr.heap.size wr wr.drew:=bl
     have HJN:=Hh hjn; have HDL:=Hh hdl; have HFIN:=Hh hfin
     have HBT:=Hh (HBW.out.trans (HB.out.mono HBW.out.size))
     clear hjn hdl hfin ho hrow htl hj2 hbr hJ
     cases A with
     | true =>
       exact t179_0
     | false =>
       cases E with
       | true =>
         exact t179_0
       | false =>
         rw [if_pos (by simp)] at hLT
         subst hLT
         go_wp2_with fail
         go_region_held3 (fun w'=>w'.cell? ⟨w.heap.size,1,none⟩=some (.string op)) (first | exact c1 | exact K4 | exact K5 | exact ((Below.alloc (Below.refl w4.heap.size w4) (Nat.le_refl _) _).cell (p:=⟨w.heap.size,1,none⟩) (Nat.lt_of_lt_of_le hxr hbw4.size)).trans K4) (first
          | ((with_reducible refine (HJN.out _ hdrw).mono ?_); rintro e w4 ⟨rfl,hb4⟩; have hbw4:=hdrw.trans hb4; have K4:w4.cell? ⟨w.heap.size,1,none⟩=some (.string op):=(hbw4.cell (p:=⟨w.heap.size,1,none⟩) hxr).trans c1)
          | ((with_reducible refine (HDL.out _ _).mono ?_); rintro e w5 ⟨v5,rfl,hr5,hb5⟩; have hbw5:=hbw4.trans (hb5.mono hbw4.size); have K5:w5.cell? ⟨w.heap.size,1,none⟩=some (.string op):=(hbw5.cell (p:=⟨w.heap.size,1,none⟩) hxr).trans c1))
         have HR5:=Hh hr5; have HB5:=Hh (HBT.out.trans (hbw5.mono HBT.out.size))
         clear hr5 hb5 hb4 hbw4 hbw5 K4 K5
         go_wp2_with fail
         (with_reducible refine (HFIN.out _ _ HR5.out).mono ?_)
         rintro e w6 ⟨rfl,hb6⟩
         have HB6:=Hh (HB5.out.trans (hb6.mono HB5.out.size)); clear hb6
         go_wp2_with fail
         go_ret
         exact ⟨rfl,HB6.out⟩
theorem text19A:textLn ⟨#[120]⟩ ⟨wDEFS.toArray⟩ [numText 5]=⟨#[120,58,32,68,69,70,83,32,53]⟩:=by decide +kernel
theorem text19B:textLn ⟨#[120]⟩ ⟨wEQU.toArray⟩ [numText 5]=⟨#[120,32,69,81,85,32,53]⟩:=by decide +kernel
theorem text_num (lab op out:ByteArray) (n:Int) (W:World) (va vp:Value) (o:List UInt8) (_ho:op=⟨o.toArray⟩) (hT:TabsA W) (hs:StmV W ⟨lab,o,[],[⟨⟨#[]⟩,some (.num n)⟩]⟩ va vp) (hn:(Ex.num n).good) (ht:textLn lab op [numText n]=out) (h1:(Lib.join ([numText n].map (·.data.toList)) [44]).length≤1000000000) (h2:(Lib.join (wordsT lab op [numText n]) [32]).length≤1000000000) (hl1:lab.size≤1000000) (hl2:op.size≤1000000) :
 Calls Tryz.prog 26 #[.agg #[.string lab,.string op,va,vp]] W fun e w'=>e=.returned (.string out)∧Below W.heap.size W w':=by
 obtain ⟨vs,ps,hv,hr,_,hp,hr2,hx⟩:=hs
 have hv0:vs=[]:=List.map_eq_nil_iff.1 hv
 subst hv0
 obtain ⟨av,cv,rfl,_,_⟩:=hr
 have hl:ps.length=1:=by have:=congrArg List.length hp; simpa using this
 obtain ⟨⟨pt,q⟩,rfl⟩:=List.length_eq_one_iff.1 hl
 simp only [List.map_cons,List.map_nil,List.cons.injEq,and_true] at hp
 have hnode:=hx _ List.mem_cons_self
 dsimp only at hp hnode
 rw [hp] at hnode
 have h:=lineTextE_any lab op av cv vp [(pt,q)] [numText n] W hT hr2 rfl (fun j y hy=>by
  have hj:j=0:=by
   match j,hy with
   | 0,_=>rfl
   | j+1,hy=>simp at hy
  subst hj
  have hy:y=(pt,q):=by simpa using hy.symm
  subst hy
  exact ⟨.num n,by rw [hp],hn,by show (1:Nat)≤1000000; decide,rfl,hnode⟩) (by simp) h1 h2 hl1 hl2
 rw [ht] at h
 exact h
set_option maxHeartbeats 2000000 in
set_option maxRecDepth 100000 in
theorem alive19 (w:World) (hT:TabsA w):Calls Tryz.prog 23 #[] w fun e w'=>e=.returned (.bool true)∧Below w.heap.size w w':=by
 have hpa:∀ W,Below w.heap.size w W→Calls Tryz.prog 24 #[.string ⟨#[120,32,100,115,32,53,32,59,32,99]⟩] W (fun e w'=>∃ va vp,e=.returned (.tuple #[.agg #[.string ⟨#[120]⟩,.string ⟨#[68,69,70,83]⟩,va,vp],.int .i64 0])∧StmV w' stmA va vp∧Below W.heap.size W w'):=fun W hb=>by
  have h:=line_any lineA W (hT.below hb)
  rw [lineA_eq] at h
  exact h
 have hpb:∀ W,Below w.heap.size w W→Calls Tryz.prog 24 #[.string ⟨#[120,32,61,32,53]⟩] W (fun e w'=>∃ va vp,e=.returned (.tuple #[.agg #[.string ⟨#[120]⟩,.string ⟨#[69,81,85]⟩,va,vp],.int .i64 0])∧StmV w' stmB va vp∧Below W.heap.size W w'):=fun W hb=>by
  have h:=line_any lineB W (hT.below hb)
  rw [lineB_eq] at h
  exact h
 have hta:∀ W va vp,Below w.heap.size w W→StmV W stmA va vp→Calls Tryz.prog 26 #[.agg #[.string ⟨#[120]⟩,.string ⟨#[68,69,70,83]⟩,va,vp]] W fun e w'=>e=.returned (.string ⟨#[120,58,32,68,69,70,83,32,53]⟩)∧Below W.heap.size W w':=fun W va vp hb hs =>
  text_num _ _ _ 5 W va vp wDEFS rfl (hT.below hb) hs ⟨by decide,by decide⟩ text19A (by decide +kernel) (by decide +kernel) (by decide) (by decide)
 have htb:∀ W va vp,Below w.heap.size w W→StmV W stmB va vp→Calls Tryz.prog 26 #[.agg #[.string ⟨#[120]⟩,.string ⟨#[69,81,85]⟩,va,vp]] W fun e w'=>e=.returned (.string ⟨#[120,32,69,81,85,32,53]⟩)∧Below W.heap.size W w':=fun W va vp hb hs =>
  text_num _ _ _ 5 W va vp wEQU rfl (hT.below hb) hs ⟨by decide,by decide⟩ text19B (by decide +kernel) (by decide +kernel) (by decide) (by decide)
 have HPA:=Hh hpa; have HPB:=Hh hpb; have HTA:=Hh hta; have HTB:=Hh htb
 clear hpa hpb hta htb hT
 go_enter Tryz.func23,Tryz.ntmps23
 go_wp2_with fail
 (with_reducible refine (HPA.out _ (Below.refl _ _)).mono ?_)
 rintro e w1 ⟨va,vp,rfl,hs1,hb1⟩
 have HS1:=Hh hs1; have HB1:=Hh hb1
 obtain ⟨aa,na,ca,rfl⟩:∃ a n c,va=.slice a n c:=by
  obtain ⟨_,_,_,⟨a,c,h,_⟩,_⟩:=hs1
  exact ⟨_,_,_,h⟩
 obtain ⟨ap,np,cp,rfl⟩:∃ a n c,vp=.slice a n c:=by
  obtain ⟨_,_,_,_,_,_,⟨a,c,h,_⟩,_⟩:=hs1
  exact ⟨_,_,_,h⟩
 clear hs1 hb1
 go_wp2_with fail
 have hal1:Below w1.heap.size w1 (w1.alloc (.cells #[.string ⟨#[120]⟩,.string ⟨#[68,69,70,83]⟩,.slice aa na ca,.slice ap np cp] 59)):=(Below.refl _ _).alloc (Nat.le_refl _) _
 (with_reducible refine (HPB.out _ (HB1.out.trans (hal1.mono HB1.out.size))).mono ?_)
 rintro e w2 ⟨vb,vq,rfl,hs2,hb2⟩
 obtain ⟨ab,nb,cb,rfl⟩:∃ a n c,vb=.slice a n c:=by
  obtain ⟨_,_,_,⟨a,c,h,_⟩,_⟩:=hs2
  exact ⟨_,_,_,h⟩
 obtain ⟨aq,nq,cq,rfl⟩:∃ a n c,vq=.slice a n c:=by
  obtain ⟨_,_,_,_,_,_,⟨a,c,h,_⟩,_⟩:=hs2
  exact ⟨_,_,_,h⟩
 have hbx:=blk_below (blk_new w1 (.cells #[.string ⟨#[120]⟩,.string ⟨#[68,69,70,83]⟩,.slice aa na ca,.slice ap np cp] 59)) hb2 (by rw [World.size_alloc]; omega)
 have hx2:=blk_lt hbx
 have k0:w2.cell? ⟨w1.heap.size,0,none⟩=some (.string ⟨#[120]⟩):=blk_cell hbx 0
 have k1:w2.cell? ⟨w1.heap.size,1,none⟩=some (.string ⟨#[68,69,70,83]⟩):=blk_cell hbx 1
 have k2:w2.cell? ⟨w1.heap.size,2,none⟩=some (.slice aa na ca):=blk_cell hbx 2
 have k3:w2.cell? ⟨w1.heap.size,3,none⟩=some (.slice ap np cp):=blk_cell hbx 3
 have HS2:=Hh hs2
 have HS1b:=Hh ((HS1.out.below hal1).below hb2)
 have HB2:=Hh ((HB1.out.trans (hal1.mono HB1.out.size)).trans (hb2.mono (HB1.out.trans (hal1.mono HB1.out.size)).size))
 clear hal1 hs2 hb2 hbx
 go_wp2_with fail
 have hal2:Below w2.heap.size w2 (w2.alloc (.cells #[.string ⟨#[120]⟩,.string ⟨#[69,81,85]⟩,.slice ab nb cb,.slice aq nq cq] 59)):=(Below.refl _ _).alloc (Nat.le_refl _) _
 (with_reducible refine (HTA.out _ _ _ (HB2.out.trans (hal2.mono HB2.out.size)) (HS1b.out.below hal2)).mono ?_)
 rintro e w3 ⟨rfl,hb3⟩
 have hby:=blk_below (blk_new w2 (.cells #[.string ⟨#[120]⟩,.string ⟨#[69,81,85]⟩,.slice ab nb cb,.slice aq nq cq] 59)) hb3 (by rw [World.size_alloc]; omega)
 have hy3:=blk_lt hby
 have q0:w3.cell? ⟨w2.heap.size,0,none⟩=some (.string ⟨#[120]⟩):=blk_cell hby 0
 have q1:w3.cell? ⟨w2.heap.size,1,none⟩=some (.string ⟨#[69,81,85]⟩):=blk_cell hby 1
 have q2:w3.cell? ⟨w2.heap.size,2,none⟩=some (.slice ab nb cb):=blk_cell hby 2
 have q3:w3.cell? ⟨w2.heap.size,3,none⟩=some (.slice aq nq cq):=blk_cell hby 3
 have HS3:=Hh ((HS2.out.below hal2).below hb3)
 have HB3:=Hh ((HB2.out.trans (hal2.mono HB2.out.size)).trans (hb3.mono (HB2.out.trans (hal2.mono HB2.out.size)).size))
 clear hal2 hb3 hby k0 k1 k2 k3
 go_wp2_with fail
 (with_reducible refine (HTB.out _ _ _ HB3.out HS3.out).mono ?_)
 rintro e w4 ⟨rfl,hb4⟩
 have HB4:=Hh (HB3.out.trans (hb4.mono HB3.out.size))
 clear hb4
 go_wp2_with fail
 go_ret
 exact ⟨rfl,HB4.out⟩
end Go.Proofs.YtkldoojonnkfgaaGreatDoor
