/- Joined. -/
import Derived.Test.YtoigglljnklhlaaGreatDoorD04
import Derived.Test.YtoigglljnklhlaaGreatDoorD12
import Derived.Shelf.SlIterI.Nil
import Derived.Shelf.SortM.Plain
import Derived.Shelf.SortM.SortNone
set_option maxHeartbeats 8000000
set_option maxRecDepth 100000
namespace Go.Proofs
open Go.RowKit Go.Maps Go.Sort Go.Shelf
def Tryz.keysI_ren:Go.Shelf.Ren:=⟨fun|7=>65|10=>102|n=>n,fun|23=>123|26=>3|3=>55|28=>121|0=>0|27=>120|33=>163|4=>4|n=>n,fun|n=>n⟩
theorem Tryz.keysI:Go.Proofs.SlLaysZI.n7 Tryz.prog Tryz.keysI_ren:={
 mixed:=by kernel_rfl
 f7:=⟨Tryz.f65.name,by decide,Tryz.func65.trans (congrArg some (by kernel_rfl))⟩
 f10:=⟨Tryz.f102.name,by decide,Tryz.func102.trans (congrArg some (by kernel_rfl))⟩
 t0:=Tryz.underlying0
 a0:=Tryz.isAgg0
 z0:=Tryz.sizeOf0
 v0:=Tryz.zeroValue0
 t4:=Tryz.underlying4
 a4:=Tryz.isAgg4
 z4:=Tryz.sizeOf4
 v4:=Tryz.zeroValue4
 t23:=Tryz.underlying123
 a23:=Tryz.isAgg123
 z23:=Tryz.sizeOf123
 v23:=Tryz.zeroValue123
 t26:=Tryz.underlying3
 a26:=Tryz.isAgg3
 z26:=Tryz.sizeOf3
 v26:=Tryz.zeroValue3
 t27:=Tryz.underlying120
 a27:=Tryz.isAgg120
 z27:=Tryz.sizeOf120
 v27:=Tryz.zeroValue120
 t28:=Tryz.underlying121
 a28:=Tryz.isAgg121
 z28:=Tryz.sizeOf121
 v28:=Tryz.zeroValue121
 t33:=Tryz.underlying163
 a33:=Tryz.isAgg163
 z33:=Tryz.sizeOf163
 v33:=Tryz.zeroValue163 }
def Tryz.sortedI_ren:Go.Shelf.Ren:=⟨fun|6=>64|8=>100|9=>101|11=>144|13=>146|12=>145|23=>187|24=>188|14=>178|15=>179|16=>180|17=>181|18=>182|19=>183|20=>184|21=>185|22=>186|25=>216|26=>217|27=>218|28=>219|29=>220|30=>221|31=>248|n=>n,fun|26=>3|28=>121|24=>44|0=>0|3=>3|37=>118|48=>217|50=>88|4=>4|40=>241|39=>240|45=>170|5=>5|9=>9|51=>277|55=>281|57=>306|58=>39|33=>163|n=>n,fun|n=>n⟩
theorem Tryz.sortedI:Go.Proofs.SlLaysZI.n6 Tryz.prog Tryz.sortedI_ren:={
 mixed:=by kernel_rfl
 f6:=⟨Tryz.f64.name,by decide,Tryz.func64.trans (congrArg some (by kernel_rfl))⟩
 f8:=⟨Tryz.f100.name,by decide,Tryz.func100.trans (congrArg some (by kernel_rfl))⟩
 f11:=⟨Tryz.f144.name,by decide,Tryz.func144.trans (congrArg some (by kernel_rfl))⟩
 t0:=Tryz.underlying0
 a0:=Tryz.isAgg0
 z0:=Tryz.sizeOf0
 v0:=Tryz.zeroValue0
 t24:=Tryz.underlying44
 a24:=Tryz.isAgg44
 z24:=Tryz.sizeOf44
 v24:=Tryz.zeroValue44
 t26:=Tryz.underlying3
 a26:=Tryz.isAgg3
 z26:=Tryz.sizeOf3
 v26:=Tryz.zeroValue3
 t28:=Tryz.underlying121
 a28:=Tryz.isAgg121
 z28:=Tryz.sizeOf121
 v28:=Tryz.zeroValue121
 i26:=by kernel_rfl }
def Tryz.sortI_ren:Go.Shelf.Ren:=⟨fun|5=>101|8=>146|7=>145|19=>187|20=>188|10=>178|11=>179|12=>180|13=>181|14=>182|15=>183|16=>184|17=>185|18=>186|30=>216|31=>217|32=>218|33=>219|34=>220|35=>221|40=>248|n=>n,fun|23=>44|25=>3|3=>3|32=>118|22=>44|0=>0|44=>217|46=>88|4=>4|36=>241|35=>240|41=>170|5=>5|9=>9|53=>277|57=>281|63=>306|64=>39|n=>n,fun|n=>n⟩
theorem Tryz.sortI:Go.Proofs.SlLaysM.n5 Tryz.prog Tryz.sortI_ren:={
 mixed:=by kernel_rfl
 f5:=⟨Tryz.f101.name,by decide,Tryz.func101.trans (congrArg some (by kernel_rfl))⟩
 f7:=⟨Tryz.f145.name,by decide,Tryz.func145.trans (congrArg some (by kernel_rfl))⟩
 f8:=Tryz.func146.trans (congrArg some (by kernel_rfl))
 f10:=⟨Tryz.f178.name,by decide,Tryz.func178.trans (congrArg some (by kernel_rfl))⟩
 f11:=⟨Tryz.f179.name,by decide,Tryz.func179.trans (congrArg some (by kernel_rfl))⟩
 f12:=⟨Tryz.f180.name,by decide,Tryz.func180.trans (congrArg some (by kernel_rfl))⟩
 f13:=⟨Tryz.f181.name,by decide,Tryz.func181.trans (congrArg some (by kernel_rfl))⟩
 f14:=⟨Tryz.f182.name,by decide,Tryz.func182.trans (congrArg some (by kernel_rfl))⟩
 f15:=⟨Tryz.f183.name,by decide,Tryz.func183.trans (congrArg some (by kernel_rfl))⟩
 f16:=⟨Tryz.f184.name,by decide,Tryz.func184.trans (congrArg some (by kernel_rfl))⟩
 f17:=⟨Tryz.f185.name,by decide,Tryz.func185.trans (congrArg some (by kernel_rfl))⟩
 f18:=⟨Tryz.f186.name,by decide,Tryz.func186.trans (congrArg some (by kernel_rfl))⟩
 f19:=Tryz.func187.trans (congrArg some (by kernel_rfl))
 f20:=Tryz.func188.trans (congrArg some (by kernel_rfl))
 f30:=⟨Tryz.f216.name,by decide,Tryz.func216.trans (congrArg some (by kernel_rfl))⟩
 f31:=Tryz.func217.trans (congrArg some (by kernel_rfl))
 f32:=Tryz.func218.trans (congrArg some (by kernel_rfl))
 f33:=⟨Tryz.f219.name,by decide,Tryz.func219.trans (congrArg some (by kernel_rfl))⟩
 f34:=⟨Tryz.f220.name,by decide,Tryz.func220.trans (congrArg some (by kernel_rfl))⟩
 f35:=⟨Tryz.f221.name,by decide,Tryz.func221.trans (congrArg some (by kernel_rfl))⟩
 f40:=⟨Tryz.f248.name,by decide,Tryz.func248.trans (congrArg some (by kernel_rfl))⟩
 t0:=Tryz.underlying0
 a0:=Tryz.isAgg0
 z0:=Tryz.sizeOf0
 v0:=Tryz.zeroValue0
 t3:=Tryz.underlying3
 a3:=Tryz.isAgg3
 z3:=Tryz.sizeOf3
 v3:=Tryz.zeroValue3
 t4:=Tryz.underlying4
 a4:=Tryz.isAgg4
 z4:=Tryz.sizeOf4
 v4:=Tryz.zeroValue4
 t5:=Tryz.underlying5
 a5:=Tryz.isAgg5
 z5:=Tryz.sizeOf5
 v5:=Tryz.zeroValue5
 t9:=Tryz.underlying9
 a9:=Tryz.isAgg9
 z9:=Tryz.sizeOf9
 v9:=Tryz.zeroValue9
 t22:=Tryz.underlying44
 a22:=Tryz.isAgg44
 z22:=Tryz.sizeOf44
 v22:=Tryz.zeroValue44
 t23:=Tryz.underlying44
 a23:=Tryz.isAgg44
 z23:=Tryz.sizeOf44
 v23:=Tryz.zeroValue44
 t25:=Tryz.underlying3
 a25:=Tryz.isAgg3
 z25:=Tryz.sizeOf3
 v25:=Tryz.zeroValue3
 t32:=Tryz.underlying118
 a32:=Tryz.isAgg118
 z32:=Tryz.sizeOf118
 v32:=Tryz.zeroValue118
 t35:=Tryz.underlying240
 a35:=Tryz.isAgg240
 z35:=Tryz.sizeOf240
 v35:=Tryz.zeroValue240
 t36:=Tryz.underlying241
 a36:=Tryz.isAgg241
 z36:=Tryz.sizeOf241
 v36:=Tryz.zeroValue241
 t41:=Tryz.underlying170
 a41:=Tryz.isAgg170
 z41:=Tryz.sizeOf170
 v41:=Tryz.zeroValue170
 t44:=Tryz.underlying217
 a44:=Tryz.isAgg217
 z44:=Tryz.sizeOf217
 v44:=Tryz.zeroValue217
 t46:=Tryz.underlying88
 a46:=Tryz.isAgg88
 z46:=Tryz.sizeOf88
 v46:=Tryz.zeroValue88
 t53:=Tryz.underlying277
 a53:=Tryz.isAgg277
 z53:=Tryz.sizeOf277
 v53:=Tryz.zeroValue277
 t57:=Tryz.underlying281
 a57:=Tryz.isAgg281
 z57:=Tryz.sizeOf281
 v57:=Tryz.zeroValue281
 t63:=Tryz.underlying306
 a63:=Tryz.isAgg306
 z63:=Tryz.sizeOf306
 v63:=Tryz.zeroValue306
 t64:=Tryz.underlying39
 a64:=Tryz.isAgg39
 z64:=Tryz.sizeOf39
 v64:=Tryz.zeroValue39 }
theorem Tryz.sortsI (m:Nat):AnyZI.SortsIn Tryz.prog Tryz.sortedI_ren Fence.wide m :=
 ⟨fun blk off cap ss W hH hblk hsz=>callsIn_wide.2 (AnyM.slices_Sort_int Tryz.sortI blk off cap ss W hH hblk hsz),
  fun p cap W=>callsIn_wide.2 (AnyM.slices_Sort_int_none Tryz.sortI p cap W)⟩
end Go.Proofs
namespace Go.Proofs.YtoigglljnklhlaaGreatDoor
open Go.RowKit Go.Sort
open Go.Proofs.Tryz
theorem Tryz.infoInt:(prog.info? 3).map (fun i=>(i.zero,i.size,i.bytes))=some (some (.int .i64 0),1,8):=by kernel_rfl
def aBQ (l:List Int):List Value:=l.map fun n=>.int .i64 n
def QAt (base g:Nat) (l:List Int) (m:Value) (w:World):Prop:=∃ v,w.heap[g]? = some (.cells #[v,m] 168 (0,0))∧w.ownsRow base 3 1 v l.length (aBQ l)
structure KQ (base:Nat) (w w':World):Prop where
 below:Below base w w'
 maps:∀ (b:Nat) es c,w.heap[b]? = some (.map es c)→w'.heap[b]? = some (.map es c)
theorem aCk (l:List Int):∀ u∈aBQ l,u.oneCell'=true:=fun u hu=>by obtain⟨n,_,rfl⟩:=List.mem_map.1 hu;rfl
theorem aCi (base g:Nat) (l xs:List Int) (m u:Value) (w:World) (hg:base≤g) (hq:QAt base g l m w) (hu:eR w u xs.length (aBQ xs)) (hl:l.length+xs.length≤1000000) :
 Calls prog 103 #[.pointer (some ⟨g,0,none⟩),u] w fun e w'=>e=.returned (.tuple #[])∧QAt base g (l++xs) m w'∧KQ base w w':=by
 obtain⟨i0,hi,hz0,hz1,hz2⟩:=info_parts Tryz.infoInt;obtain⟨v,hb,ho⟩:=hq;obtain⟨av,cv,rfl⟩:=aI ho;have HB:=Hh hb;have HO:=Hh ho;have HU:=Hh hu;have HL:=Hh hl;obtain⟨q0,q1,f0,f1⟩:=aL hb;have hlg:=aA hb;clear hb ho hl;go_enter func103,ntmps103
 go_wp2_with (at_builtin;refine fK rfl _ _ 44 rfl base 3 i0 (.int .i64 0) 1 8 underlying44 hi hz0 hz1 hz2 rfl dc _ _ _ rfl HO.out _ _ _ rfl hu (by simp[aBQ]) (aCk _) (by have:=HL.out;unfold maxLen;omega) (by have:=HL.out;omega) om ?_)
 intro v' w1 ho1 hg1 _;obtain⟨a1,c1,rfl⟩:=aI ho1;have hne:some g≠(Value.slice av l.length cv).ownBlock:=by
  intro e;rcases HO.out.2 with⟨h1,_⟩|⟨g',cap',cur',h1,_,h2,_⟩
  · rw[h1] at e;cases e
  · rw[h1] at e;simp only[Value.ownBlock,Option.some.injEq] at e;subst e;rw[HB.out] at h2;cases h2
 have hb1:=(hg1.block g hlg hne).trans HB.out;have HB1:=Hh hb1;have HO1:=Hh ho1;have HG1:=Hh hg1;clear q0 q1 f0 f1 hlg;obtain⟨q0,q1,f0,f1⟩:=aL hb1;have hlg:=aA hb1;clear hb1 ho1 hg1;go_wp2_with fail
 go_end0
 have hr:=HO1.out;have hk:=Kb.setCell (Kb.refl g w1) 0 (Value.slice a1 (l.length+xs.length) c1);refine⟨rfl,⟨_,aG HB1.out,?_⟩,?_,fun b es c hm=>?_⟩
 · rw[List.length_append,show aBQ (l++xs)=aBQ l++aBQ xs by simp[aBQ]]
   refine Kb.owns hr hk fun e=>?_;rcases hr.2 with⟨h1,_⟩|⟨g',cap',cur',h1,_,h2,_⟩
   · rw[h1] at e;cases e
   · rw[h1] at e;simp only[Value.ownBlock,Option.some.injEq] at e;subst e;rw[HB1.out] at h2;cases h2
 · refine ((Below.refl base w).grown HG1.out (Nat.le_trans hg (Nat.le_of_lt (aA HB.out))) fun k hk=>(HO.out.lt k hk).1).setCell (p:=⟨g,0,none⟩) hg _
 · have hlt:=(Array.getElem?_eq_some_iff.1 hm).1;rw[Below.heap_setCell _ _ _ _ (fun e:b=g=>by subst e;rw[HB.out] at hm;cases hm)];refine (HG1.out.block b hlt fun e=>?_).trans hm;rcases HO.out.2 with⟨h1,_⟩|⟨g',cap',cur',h1,_,h2,_⟩
   · rw[h1] at e;cases e
   · rw[h1] at e;simp only[Value.ownBlock,Option.some.injEq] at e;subst e;rw[h2] at hm;cases hm
theorem aCn (base g:Nat) (m:Value) (w:World) (hq:QAt base g [] m w) :
 Calls prog 104 #[.pointer (some ⟨g,0,none⟩)] w fun e w'=>e=.returned (.tuple #[.int .i64 0,.bool false])∧w'=w:=by
 obtain⟨v,hb,ho⟩:=hq;obtain⟨av,cv,rfl⟩:=aI ho;obtain⟨q0,q1,f0,f1⟩:=aL hb;have hlg:=aA hb;clear hb ho;go_enter func104,ntmps104
 go_wp2_with fail
 go_ret2;exact⟨rfl,rfl⟩
theorem aCo (base g:Nat) (l:List Int) (x:Int) (m:Value) (w:World) (hg:base≤g) (hq:QAt base g (l++[x]) m w) (hl:l.length≤1000000) :
 Calls prog 104 #[.pointer (some ⟨g,0,none⟩)] w fun e w'=>e=.returned (.tuple #[.int .i64 x,.bool true])∧QAt base g l m w'∧KQ base w w':=by
 obtain⟨v,hb,ho⟩:=hq;have hlen:(l++[x]).length=l.length+1:=by simp
 rw[hlen] at ho;obtain⟨h,cap,rfl⟩:=ownsRow_succ ho;have hcell:=ho.cells (g:=h) rfl l.length (.int .i64 x) (by simp[aBQ]);rw[bD,Nat.zero_add] at hcell;obtain⟨q0,q1,f0,f1⟩:=aL hb;have hlg:=aA hb;have hlh:h<w.heap.size:=(ho.lt h rfl).2;have hcap:l.length+1≤cap:=by
  rcases ho.2 with⟨h1,_⟩|⟨g',cap',cur',h1,_,_,h2,_⟩
  · cases h1
  · cases h1;exact h2
 have HB:=Hh hb;have HO:=Hh ho;have HG:=Hh hg;have hi0:(0:Int)≤(l.length:Int):=om
 have hi1:(l.length:Int)<(l.length:Int)+1:=om
 have hi2:(l.length:Int)≤(cap:Int):=om
 clear hb ho hg;go_enter func104,ntmps104
 go_wp2_with fail
 go_ret2;have hb2:=aG (i:=0) (v:=Value.slice (some ⟨h,0,none⟩) l.length cap) HB.out;rcases HO.out.2 with⟨h1,_⟩|⟨g',cap',cur',h1,h2,h3,h4,h5,h6,h7⟩
 · cases h1
 · cases h1
   have hne:h≠g:=fun e=>by subst e;rw[HB.out] at h3;cases h3
   refine⟨rfl,⟨_,hb2,by simp[aBQ],.inr ⟨h,cap,cur',rfl,h2,aD h3 hne,om,h5,h6,?_⟩⟩,(Below.refl base w).setCell (p:=⟨g,0,none⟩) HG.out _,fun b es c hm=>?_⟩
   · have:=congrArg (List.take l.length) h7
     rw[List.take_take] at this;rw[Nat.mul_one,show l.length=min l.length ((l.length+1)*1) by omega,this]
     simp[aBQ]
   · rw[Below.heap_setCell _ _ _ _ (fun e:b=g=>by subst e;rw[HB.out] at hm;cases hm)];exact hm
end Go.Proofs.YtoigglljnklhlaaGreatDoor
namespace Go.Proofs.YtoigglljnklhlaaGreatDoor
open Go.RowKit Go.Sort
open Go.ChangeMaps Go.Maps Go.Shelf
open Go.Proofs.Tryz
def aCa:Value→Option (DataW Unit × List MemPlace):=fun _=>some (.nil,[])
theorem aCf (mb:Option Nat) (W:World):Calls prog 65 #[.map mb] W fun e w'=>e=.returned (.func (.func 102) #[] #[.pointer (some ⟨W.heap.size,0,none⟩)])∧w'=W.alloc (.cells #[.map mb] 123) :=
 (callsIn_wide (n:=5)).1 (AnyZI.keys_in Tryz.keysI Fence.wide 5 trivial rfl mb W)
theorem aBV (b nn:Nat) (D0:DataW Unit) (w:World) (hown:w.ownsMap prog 3 aCa b nn D0) (hmax:Maps.size D0≤1000000) :
 Calls prog 64 #[.func (.func 102) #[] #[.pointer (some ⟨w.heap.size,0,none⟩)]] (w.alloc (.cells #[.map (some b)] 123)) fun e w'=>∃ (v:Value) (ss:List Int),e=.returned v∧ss.Perm (intKeys D0) ∧
  w'.ownsRow w.heap.size 3 1 v ss.length (aBQ (ss.mergeSort (fun x y=>decide (x≤y))))∧(v=.slice none 0 0↔ss=[])∧Below w.heap.size w w':=by
 have hbl:=hown.lt;have hseq:SeqGives Fence.wide 2 prog 102 #[.pointer (some ⟨w.heap.size,0,none⟩)] encZ (fun ss=>ss.Perm (intKeys D0)) (Maps.size D0) (w.alloc (.cells #[.map (some b)] 123)) :=
  AnyZI.keys_gives (ρ:=Tryz.keysI_ren) { Tryz.keysI with } Fence.wide _ trivial rfl om w.heap.size b nn D0 _ sm sm (by
   obtain⟨es,clock,hb,Ft,hs,hD⟩:=hown;exact⟨es,clock,(Below.heap_alloc _ _ b hbl).trans hb,Ft,hs,hD⟩)
 have cS:=AnyZI.sorted_in Tryz.sortedI Fence.wide 5 trivial trivial trivial trivial rfl om (Tryz.sortsI _) (enters_of func101 kr rfl) 102 #[.pointer (some ⟨w.heap.size,0,none⟩)] trivial (enters_of func102 kr rfl) _ _ (by unfold maxLen;omega) om _ hseq;refine ((callsIn_wide (n:=5)).1 cS).mono ?_;rintro e w' ⟨v,ss,rfl,hS,hrow,hnil,hb⟩;exact⟨v,ss,rfl,hS,ownsRow_base_a hrow sm,hnil,((Below.refl _ w).alloc lr _).trans (hb.mono sm)⟩
theorem aBY {w:World} {b:Nat} (h:w.heap[b]? = some (.map #[] 0)):w.ownsMap prog 3 aCa b 0 (.map []):=⟨#[],0,h,⟨by simp,MapKept.stamped_empty 0,by simp⟩,Nat.le_refl _,rfl⟩
end Go.Proofs.YtoigglljnklhlaaGreatDoor
namespace Go.Proofs.YtoigglljnklhlaaGreatDoor
open Go.RowKit Go.Sort
open Go.ChangeMaps
open Go.Proofs.Tryz
theorem aCg (u:Value) (w:World) (hu:eR w u 1 (aBQ [0])) (hI:∀ W,Below w.heap.size w W→Calls prog 37 #[.pointer none,.int .i64 0] W fun e w'=>∃ av cv aa ca,e=.returned (.tuple #[itV ⟨0,[],([],[]),false⟩ (.slice av 0 cv) (.slice aa 0 ca),.bool false])∧Below W.heap.size W w') :
 Calls prog 66 #[.pointer none,u] w fun e w'=>∃ b,e=.returned (.map (some b))∧w'.heap[b]? = some (.map #[] 0)∧Below w.heap.size w w':=by
 have hmk:∀ w:World,(Instr.makeMap 123 none).run prog w=.ok (.map (some w.heap.size)) (w.alloc (.map #[] 0)):=fun w=>by simp[Instr.makeMap]
 have hkey:∀ em W,(Instr.checkKey em 10000 3 (.int .i64 0)).run prog W=.ok () W:=fun em W=>MapKept.run_checkKey (k:=.int .i64 0) underlying3 (by simp[MapKept.IsKey]) em 9999;have hfind:∀ W,(Instr.findKey 3 (.int .i64 0) []).run prog W=.ok none W:=fun W=>by simp[Instr.findKey,run_underlying underlying3,Instr.findNow]
 have hlk:∀ W:World,W.heap[w.heap.size]? = some (.map #[] 0)→(Instr.lookup 123 (.map (some w.heap.size)) (.int .i64 0) true).run prog W=.ok (.tuple #[itV ⟨0,[],([],[]),false⟩ (.slice none 0 0) (.slice none 0 0),.bool false]) W:=fun W h=>by
  simp[Instr.lookup,run_underlying underlying123,MapKept.run_getObj_map h,hkey,hfind,Tryz.zeroValue55,itV,Result.andThen]
 have HU:=Hh hu;have HI:=Hh hI;have HLK:=Hh hlk;obtain⟨ad,cu,rfl,hc⟩:∃ ad c,u=.slice (some ad) 1 c∧∀ j v,(aBQ [0])[j]? = some v→w.cell? (ad.add j)=some v:=by
  rcases hu with⟨h,_⟩|h
  · omega
  · exact h
 have HC:=Hh hc;clear hu hI hkey hfind hlk hc HU;go_enter func66,ntmps66
 go_wp2_with fail
 obtain⟨W1,hW1⟩:∃ W,(w.alloc (.map #[] 0)).alloc (.cells #[.slice none 0 0,.map (some w.heap.size)] 168)=W:=⟨_,rfl⟩;have hb1:Below w.heap.size w W1:=by rw[←hW1];exact bl
 have hm1:W1.heap[w.heap.size]? = some (.map #[] 0):=by rw[←hW1];exact aE (aF _ _)
 have hq1:W1.heap[w.heap.size+1]? = some (.cells #[.slice none 0 0,.map (some w.heap.size)] 168 (0,0)):=by
  rw[←hW1]
  have:=aF (w.alloc (.map #[] 0)) (.cells #[.slice none 0 0,.map (some w.heap.size)] 168)
  rwa [World.size_alloc] at this
 rw[hW1];clear hW1;have hsrc:eR W1 (.slice (some ad) 1 cu) 1 (aBQ [0]):=.inr ⟨ad,cu,rfl,fun j v hv=>by
  have h1:=HC.out j v hv;have hlt:(ad.add j).block<w.heap.size:=World.block_lt_of_cell? w _ h1;exact (hb1.cell hlt).trans h1⟩
 have hqa:QAt w.heap.size (w.heap.size+1) [] (.map (some w.heap.size)) W1:=⟨_,hq1,World.ownsRow_nil _ _ _ _⟩;(with_reducible refine (aCi w.heap.size (w.heap.size+1) [] [0] _ _ W1 om hqa hsrc sm).mono ?_);rintro e w2 ⟨rfl,hq2,hk2⟩;have hm2:=hk2.maps _ _ _ hm1;have HB2:=Hh (hb1.trans hk2.below);have HM2:=Hh hm2;clear hb1 hm1 hq1 hsrc hm2 hk2 hqa;go_wp2_with fail
 (with_reducible refine (aCo w.heap.size (w.heap.size+1) [] 0 _ w2 om hq2 sm).mono ?_);rintro e w3 ⟨rfl,hq3,hk3⟩;have HB3:=Hh (HB2.out.trans hk3.below);have HM3:=Hh (hk3.maps _ _ _ HM2.out);have HQ3:=Hh hq3;clear hq2 hq3 hk3;go_wp2_with fail
 go_loopw [6,7] (fun a k wr=>a=.int .i64 0∧∃ bk:Bool,k=.bool bk∧Hid (QAt w.heap.size (w.heap.size+1) [] (.map (some w.heap.size)) wr)∧Hid (wr.heap[w.heap.size]? = some (.map #[] 0))∧Hid (Below w.heap.size w wr)) (fun _ k _=>match k with | .bool true=>1|_=>0)
 case atStart=>exact⟨rfl,true,rfl,HQ3,HM3,HB3⟩
 case round =>
  obtain⟨rfl,bk,rfl,HQ,HM,HB⟩:=hrel;obtain⟨vq,hqb,hqo⟩:=HQ.out;obtain⟨q0,q1,f0,f1⟩:=aL hqb;have hlq:=aA hqb;have hlm:=aA HM.out;have HQB:=Hh hqb;have HQO:=Hh hqo;clear hqb hqo;cases bk
  · go_wp2_with fail
    go_ret;exact⟨_,rfl,HM.out,HB.out⟩
  · have hlk:=HLK.out wr HM.out;simp only[itV] at hlk;go_wp2_with fail
    have hal:Below wr.heap.size wr (wr.alloc (.cells #[.int .i64 0,.slice none 0 0,.string ⟨#[]⟩,.slice none 0 0,.bool false] 55)):=br.alloc lr _;have hw4:=HB.out.trans (hal.mono HB.out.size);(with_reducible refine (HI.out _ hw4).mono ?_);rintro e w4 ⟨av,cv,aa,ca,rfl,hb4⟩;have hbw:=hal.trans (hb4.mono hal.size);have hq4:=aB HQB.out hbw hlq;have hm4:=aB HM.out hbw hlm;have hqq:QAt w.heap.size (w.heap.size+1) [] (.map (some w.heap.size)) w4:=⟨_,hq4,bK HQO.out hbw⟩;have HQ4:=Hh hqq;have HM4:=Hh hm4;have HB4:=Hh (HB.out.trans (hbw.mono HB.out.size));clear q0 q1 f0 f1 hal hw4 hb4 hbw hq4 hm4 hqq;simp only[itV];go_wp2_with fail
    obtain⟨W5,hW5⟩:∃ W,w4.alloc (.cells #[.int .i64 0,.slice av 0 cv,.string ⟨#[]⟩,.slice aa 0 ca,.bool false] 55)=W:=⟨_,rfl⟩;have hal:Below w4.heap.size w4 W5:=by rw[←hW5];exact br.alloc lr _
    rw[hW5];clear hW5;obtain⟨vq4,hq4,ho4⟩:=HQ4.out;have hqq:QAt w.heap.size (w.heap.size+1) [] (.map (some w.heap.size)) W5:=⟨_,aB hq4 hal (aA hq4),bK ho4 hal⟩;have HM5:=Hh (aB HM4.out hal (aA HM4.out));have HB5:=Hh (HB4.out.trans (hal.mono HB4.out.size));have HQ5:=Hh hqq;clear hal hq4 ho4;(with_reducible refine (aCn w.heap.size (w.heap.size+1) _ W5 hqq).mono ?_);rintro e w6 ⟨rfl,rfl⟩;clear hqq;go_wp2_with fail
    go_roundw
    case rel=>exact⟨rfl,false,rfl,HQ5,HM5,HB5⟩
    case measure=>exact Nat.zero_lt_one
end Go.Proofs.YtoigglljnklhlaaGreatDoor
