/- Joined. -/
import Derived.Test.YtoigglljnklhlaaGreatDoorProg
import Derived.Deep.RegionLaw
import Derived.Laws.EntriesVeiled
import Derived.Lib.Hide
import Derived.Lib.QuietBelow
import Derived.Shelf.SlIterI.Nil
import Derived.Shelf.SortM.Plain
import Derived.Shelf.SortM.SortNone
import Derived.WalkLawsBesides
import Derived.WalkSpells
set_option maxHeartbeats 8000000
set_option maxRecDepth 100000
namespace Go.Proofs
open Go.RowKit Go.Maps Go.Sort Go.Shelf
def Tryz.keysI_ren:Go.Shelf.Ren:=⟨fun|7=>65|10=>102|n=>n,fun|23=>123|26=>3|3=>55|28=>121|0=>0|27=>120|33=>163|4=>4|n=>n,fun|n=>n⟩
theorem Tryz.keysI:Go.Proofs.SlLaysZI.n7 Tryz.prog Tryz.keysI_ren:={
 mixed:=by kernel_rfl
 f7:=⟨Tryz.f65.name,by decide,Tryz.func65.trans (congrArg some (by kernel_rfl))⟩
 f10:=⟨Tryz.f102.name,by decide,Tryz.func102.trans (congrArg some (by kernel_rfl))⟩
 t0:=Tryz.underlying0
 a0:=Tryz.isAgg0
 z0:=Tryz.sizeOf0
 v0:=Tryz.zeroValue0
 t4:=Tryz.underlying4
 a4:=Tryz.isAgg4
 z4:=Tryz.sizeOf4
 v4:=Tryz.zeroValue4
 t23:=Tryz.underlying123
 a23:=Tryz.isAgg123
 z23:=Tryz.sizeOf123
 v23:=Tryz.zeroValue123
 t26:=Tryz.underlying3
 a26:=Tryz.isAgg3
 z26:=Tryz.sizeOf3
 v26:=Tryz.zeroValue3
 t27:=Tryz.underlying120
 a27:=Tryz.isAgg120
 z27:=Tryz.sizeOf120
 v27:=Tryz.zeroValue120
 t28:=Tryz.underlying121
 a28:=Tryz.isAgg121
 z28:=Tryz.sizeOf121
 v28:=Tryz.zeroValue121
 t33:=Tryz.underlying163
 a33:=Tryz.isAgg163
 z33:=Tryz.sizeOf163
 v33:=Tryz.zeroValue163 }
def Tryz.sortedI_ren:Go.Shelf.Ren:=⟨fun|6=>64|8=>100|9=>101|11=>144|13=>146|12=>145|23=>187|24=>188|14=>178|15=>179|16=>180|17=>181|18=>182|19=>183|20=>184|21=>185|22=>186|25=>216|26=>217|27=>218|28=>219|29=>220|30=>221|31=>248|n=>n,fun|26=>3|28=>121|24=>44|0=>0|3=>3|37=>118|48=>217|50=>88|4=>4|40=>241|39=>240|45=>170|5=>5|9=>9|51=>277|55=>281|57=>306|58=>39|33=>163|n=>n,fun|n=>n⟩
theorem Tryz.sortedI:Go.Proofs.SlLaysZI.n6 Tryz.prog Tryz.sortedI_ren:={
 mixed:=by kernel_rfl
 f6:=⟨Tryz.f64.name,by decide,Tryz.func64.trans (congrArg some (by kernel_rfl))⟩
 f8:=⟨Tryz.f100.name,by decide,Tryz.func100.trans (congrArg some (by kernel_rfl))⟩
 f11:=⟨Tryz.f144.name,by decide,Tryz.func144.trans (congrArg some (by kernel_rfl))⟩
 t0:=Tryz.underlying0
 a0:=Tryz.isAgg0
 z0:=Tryz.sizeOf0
 v0:=Tryz.zeroValue0
 t24:=Tryz.underlying44
 a24:=Tryz.isAgg44
 z24:=Tryz.sizeOf44
 v24:=Tryz.zeroValue44
 t26:=Tryz.underlying3
 a26:=Tryz.isAgg3
 z26:=Tryz.sizeOf3
 v26:=Tryz.zeroValue3
 t28:=Tryz.underlying121
 a28:=Tryz.isAgg121
 z28:=Tryz.sizeOf121
 v28:=Tryz.zeroValue121
 i26:=by kernel_rfl }
def Tryz.sortI_ren:Go.Shelf.Ren:=⟨fun|5=>101|8=>146|7=>145|19=>187|20=>188|10=>178|11=>179|12=>180|13=>181|14=>182|15=>183|16=>184|17=>185|18=>186|30=>216|31=>217|32=>218|33=>219|34=>220|35=>221|40=>248|n=>n,fun|23=>44|25=>3|3=>3|32=>118|22=>44|0=>0|44=>217|46=>88|4=>4|36=>241|35=>240|41=>170|5=>5|9=>9|53=>277|57=>281|63=>306|64=>39|n=>n,fun|n=>n⟩
theorem Tryz.sortI:Go.Proofs.SlLaysM.n5 Tryz.prog Tryz.sortI_ren:={
 mixed:=by kernel_rfl
 f5:=⟨Tryz.f101.name,by decide,Tryz.func101.trans (congrArg some (by kernel_rfl))⟩
 f7:=⟨Tryz.f145.name,by decide,Tryz.func145.trans (congrArg some (by kernel_rfl))⟩
 f8:=Tryz.func146.trans (congrArg some (by kernel_rfl))
 f10:=⟨Tryz.f178.name,by decide,Tryz.func178.trans (congrArg some (by kernel_rfl))⟩
 f11:=⟨Tryz.f179.name,by decide,Tryz.func179.trans (congrArg some (by kernel_rfl))⟩
 f12:=⟨Tryz.f180.name,by decide,Tryz.func180.trans (congrArg some (by kernel_rfl))⟩
 f13:=⟨Tryz.f181.name,by decide,Tryz.func181.trans (congrArg some (by kernel_rfl))⟩
 f14:=⟨Tryz.f182.name,by decide,Tryz.func182.trans (congrArg some (by kernel_rfl))⟩
 f15:=⟨Tryz.f183.name,by decide,Tryz.func183.trans (congrArg some (by kernel_rfl))⟩
 f16:=⟨Tryz.f184.name,by decide,Tryz.func184.trans (congrArg some (by kernel_rfl))⟩
 f17:=⟨Tryz.f185.name,by decide,Tryz.func185.trans (congrArg some (by kernel_rfl))⟩
 f18:=⟨Tryz.f186.name,by decide,Tryz.func186.trans (congrArg some (by kernel_rfl))⟩
 f19:=Tryz.func187.trans (congrArg some (by kernel_rfl))
 f20:=Tryz.func188.trans (congrArg some (by kernel_rfl))
 f30:=⟨Tryz.f216.name,by decide,Tryz.func216.trans (congrArg some (by kernel_rfl))⟩
 f31:=Tryz.func217.trans (congrArg some (by kernel_rfl))
 f32:=Tryz.func218.trans (congrArg some (by kernel_rfl))
 f33:=⟨Tryz.f219.name,by decide,Tryz.func219.trans (congrArg some (by kernel_rfl))⟩
 f34:=⟨Tryz.f220.name,by decide,Tryz.func220.trans (congrArg some (by kernel_rfl))⟩
 f35:=⟨Tryz.f221.name,by decide,Tryz.func221.trans (congrArg some (by kernel_rfl))⟩
 f40:=⟨Tryz.f248.name,by decide,Tryz.func248.trans (congrArg some (by kernel_rfl))⟩
 t0:=Tryz.underlying0
 a0:=Tryz.isAgg0
 z0:=Tryz.sizeOf0
 v0:=Tryz.zeroValue0
 t3:=Tryz.underlying3
 a3:=Tryz.isAgg3
 z3:=Tryz.sizeOf3
 v3:=Tryz.zeroValue3
 t4:=Tryz.underlying4
 a4:=Tryz.isAgg4
 z4:=Tryz.sizeOf4
 v4:=Tryz.zeroValue4
 t5:=Tryz.underlying5
 a5:=Tryz.isAgg5
 z5:=Tryz.sizeOf5
 v5:=Tryz.zeroValue5
 t9:=Tryz.underlying9
 a9:=Tryz.isAgg9
 z9:=Tryz.sizeOf9
 v9:=Tryz.zeroValue9
 t22:=Tryz.underlying44
 a22:=Tryz.isAgg44
 z22:=Tryz.sizeOf44
 v22:=Tryz.zeroValue44
 t23:=Tryz.underlying44
 a23:=Tryz.isAgg44
 z23:=Tryz.sizeOf44
 v23:=Tryz.zeroValue44
 t25:=Tryz.underlying3
 a25:=Tryz.isAgg3
 z25:=Tryz.sizeOf3
 v25:=Tryz.zeroValue3
 t32:=Tryz.underlying118
 a32:=Tryz.isAgg118
 z32:=Tryz.sizeOf118
 v32:=Tryz.zeroValue118
 t35:=Tryz.underlying240
 a35:=Tryz.isAgg240
 z35:=Tryz.sizeOf240
 v35:=Tryz.zeroValue240
 t36:=Tryz.underlying241
 a36:=Tryz.isAgg241
 z36:=Tryz.sizeOf241
 v36:=Tryz.zeroValue241
 t41:=Tryz.underlying170
 a41:=Tryz.isAgg170
 z41:=Tryz.sizeOf170
 v41:=Tryz.zeroValue170
 t44:=Tryz.underlying217
 a44:=Tryz.isAgg217
 z44:=Tryz.sizeOf217
 v44:=Tryz.zeroValue217
 t46:=Tryz.underlying88
 a46:=Tryz.isAgg88
 z46:=Tryz.sizeOf88
 v46:=Tryz.zeroValue88
 t53:=Tryz.underlying277
 a53:=Tryz.isAgg277
 z53:=Tryz.sizeOf277
 v53:=Tryz.zeroValue277
 t57:=Tryz.underlying281
 a57:=Tryz.isAgg281
 z57:=Tryz.sizeOf281
 v57:=Tryz.zeroValue281
 t63:=Tryz.underlying306
 a63:=Tryz.isAgg306
 z63:=Tryz.sizeOf306
 v63:=Tryz.zeroValue306
 t64:=Tryz.underlying39
 a64:=Tryz.isAgg39
 z64:=Tryz.sizeOf39
 v64:=Tryz.zeroValue39 }
theorem Tryz.sortsI (m:Nat):AnyZI.SortsIn Tryz.prog Tryz.sortedI_ren Fence.wide m :=
 ⟨fun blk off cap ss W hH hblk hsz=>callsIn_wide.2 (AnyM.slices_Sort_int Tryz.sortI blk off cap ss W hH hblk hsz),
  fun p cap W=>callsIn_wide.2 (AnyM.slices_Sort_int_none Tryz.sortI p cap W)⟩
end Go.Proofs
namespace Go.Proofs.YtoigglljnklhlaaGreatDoor
section
open Go.RowKit Go.Sort
def gw (w:World) (p:Regrown):World:=grow (redrawn w p.d) p.os
theorem aO {w w':World} (h:Below w.heap.size w w'):∃ p:Regrown,w'=gw w p:=regrown_of_below h
theorem cF (w:World) (p:Regrown):Below w.heap.size w (gw w p):=below_regrown w p.d p.os
theorem cD {B:Nat} {a w:World} (h:Below B a w) (hB:B≤w.heap.size) (p:Regrown):Below B a (gw w p):=h.trans ((cF w p).mono hB)
theorem Hh {p:Prop} (h:p):Hid p:=Lib.hid h
theorem kbq {p:Prop} (h:p:=by (with_reducible repeat (first|refine Kb.gw ?_ _|refine Kb.setCell ?_ _ _|refine Kb.alloc ?_ _|refine Kb.drew ?_|exact Kb.refl _ _|exact HK.out))):p:=h
theorem lxq {p:Prop} (h:p:=by (with_reducible repeat (first|apply LexAt.gw|apply LexAt.at|apply LexAt.kind|apply LexAt.text|apply LexAt.n|apply LexAt.off|apply LexAt.alloc|apply LexAt.drew|exact HL.out))):p:=h
theorem bl {p:Prop} (h:p:=by (repeat (first|exact Below.refl _ _|refine Below.drew ?_|(refine cD ?_ (by first|omega|(simp[go_sem];done)|(simp[go_sem];omega)) _)|(refine Below.alloc ?_ (by first|omega|(simp[go_sem];done)|(simp[go_sem];omega)) _)|(refine Below.setCell ?_ (by first|omega|(simp[go_sem];done)|(simp[go_sem];omega)) _)))):p:=h
abbrev Qa:=@World.size_alloc
abbrev Qb:=@List.getElem?_eq_getElem
abbrev Qc:=@List.length_append
abbrev Qd:=@List.getElem?_eq_some_iff
abbrev Qe:=@Bool.and_eq_true
abbrev Qf:=@decide_eq_true_eq
abbrev Qg:=@decide_eq_false
abbrev Qh:=@decide_eq_true
abbrev Qi:=@Nat.zero_le
abbrev Qj:=@Nat.lt_of_lt_of_le
abbrev Qk:=@Nat.le_refl
abbrev Ql:=@Array.getElem?_eq_some_iff
abbrev Qm:=@ByteArray.size_append
abbrev Qn:=@Nat.le_trans
abbrev Qo:=@List.take_add_one
abbrev Qp:=@List.length_cons
abbrev Qq:=@List.mem_cons_self
abbrev Qr:=@Option.map_eq_some_iff
abbrev Qs:=@List.length_map
abbrev Qt:=@List.length_take
abbrev Qu:=@List.mem_of_getElem?
abbrev Qv:=@List.mem_cons_of_mem
abbrev Qw:=@Nat.not_lt_zero
abbrev Qx:=@List.size_toArray
abbrev Qy:=@List.take_length
abbrev Qz:=@List.length_nil
abbrev Xa:=@World.ownsRow_nil
abbrev Xb:=@Nat.zero_add
abbrev Xc:=@List.eq_nil_of_length_eq_zero
abbrev Xd:=@beq_eq_false_iff_ne
abbrev Xe:=@Option.bind_eq_some_iff
abbrev Xf:=@Int.eq_ofNat_of_zero_le
abbrev Xg:=@List.mem_cons
abbrev Xh:=@List.getD_eq_getElem?_getD
abbrev Xi:=@Option.some.inj
abbrev Xj:=@List.take_of_length_le
abbrev Xk:=@List.all_eq_true
abbrev Xl:=@Int.toNat_natCast
abbrev Xm:=@List.length_drop
abbrev Xn:=@Nat.le_succ
abbrev Xo:=@Array.getElem?_toList
abbrev Xp:=@List.not_mem_nil
abbrev Xq:=@ByteArray.data_append
abbrev Xr:=@Nat.le_of_lt
abbrev Xs:=@List.mem_append
abbrev Xt:=@List.map_cons
abbrev Xu:=@Nat.add_zero
abbrev Xv:=@Array.length_toList
abbrev Xw:=@List.length_singleton
abbrev Xx:=@List.any_eq_true
abbrev Xy:=@List.cons_append
abbrev Xz:=@List.flatMap_cons
abbrev Ya:=@List.getElem?_map
abbrev Yb:=@Nat.add_assoc
abbrev Yc:=@List.append_assoc
abbrev Yd:=@List.mem_singleton
abbrev Ye:=@List.nil_append
abbrev Yf:=@List.getElem?_append_right
abbrev Yg:=@Nat.lt_succ_self
abbrev Yh:=@List.getElem?_drop
abbrev Yi:=@List.getElem?_append_left
abbrev Yj:=@List.drop_eq_getElem_cons
abbrev Yk:=@Array.getElem?_eq_getElem
abbrev Yl:=@Bool.eq_iff_iff
abbrev Ym:=@List.map_append
abbrev Yn:=@List.mem_range
abbrev Yo:=@List.mem_map
abbrev Yp:=@Bool.true_and
abbrev Yq:=@beq_iff_eq
abbrev Yr:=@Nat.zero_mul
abbrev Ys:=@Option.isSome_iff_exists
abbrev Yt:=@List.getElem?_take_of_lt
abbrev Yu:=@List.length_pos_iff
abbrev Yv:=@UInt8.toNat_inj
abbrev Yw:=@List.range_succ
abbrev Yx:=@Option.map_some
abbrev Yy:=@Option.getD_some
abbrev Yz:=@Nat.min_eq_left
abbrev Za:=@List.mem_of_find?_eq_some
abbrev Zb:=@Nat.lt_or_ge
abbrev Zc:=@Nat.succ_mul
abbrev Zd:=@List.append_nil
abbrev Ze:=@Nat.mul_le_mul_right
abbrev Zf:=@List.getElem?_eq_none
abbrev Zg:=@List.getElem?_cons_zero
abbrev Zh:=@List.getElem?_cons_succ
abbrev Zi:=@List.mem_map_of_mem
abbrev Zj:=@List.drop_eq_nil_of_le
abbrev Zk:=@List.map_map
abbrev Zl:=@List.pairwise_cons
abbrev Zm:=@List.take_append_drop
abbrev Zn:=@List.drop_drop
abbrev Zo:=@Option.toList_some
abbrev Zp:=@Bool.false_and
abbrev Zq:=@List.mem_flatMap
abbrev Zr:=@List.mem_filter
abbrev Zs:=@Bool.or_eq_true
abbrev Zt:=@Option.getD_none
abbrev Zu:=@List.any_append
abbrev Zv:=@List.nodup_cons
abbrev Zw:=@Nat.le_of_eq
abbrev Zx:=@Nat.lt_irrefl
instance:Coe World Nat:=⟨fun w=>w.heap.size⟩
instance:Coe Int Value:=⟨fun i=>.int .i64 i⟩
instance:Coe Nat Value:=⟨fun i=>.int .i64 (i:Int)⟩
instance:Coe (List UInt8) Value:=⟨fun m=>.string ⟨m.toArray⟩⟩
instance:Coe Unit Value:=⟨fun _=>.string ⟨#[]⟩⟩
instance:Coe Nat Addr:=⟨fun g=>⟨g,0,none⟩⟩
inductive Zzz where
 | z
abbrev zz:=Zzz.z
instance:Coe Zzz Value:=⟨fun _=>.slice none 0 0⟩
theorem dc {p:Prop} (h:p:=by decide):p:=h
theorem om {p:Prop} (h:p:=by omega):p:=h
theorem lr {n:Nat}:n≤n:=Nat.le_refl n
theorem br {n:Nat} {w:World}:Below n w w:=Below.refl n w
theorem kr {p:Prop} (h:p:=by kernel_rfl):p:=h
theorem sm {p:Prop} (h:p:=by simp):p:=h
@[go_sem] theorem gw_size (w:World) (p:Regrown):(gw w p).heap.size=w.heap.size+p.os.size:=by simp[gw,redrawn]
@[go_sem] theorem gw_cell (w:World) (p:Regrown) (n i:Nat) (h:n<w.heap.size):(gw w p).cell? ⟨n,i,none⟩=w.cell? ⟨n,i,none⟩:=(cF w p).cell (p:=⟨n,i,none⟩) h
@[go_sem] theorem gw_frozen (w:World) (p:Regrown) (n i:Nat) (h:n<w.heap.size):(gw w p).frozen? ⟨n,i,none⟩=w.frozen? ⟨n,i,none⟩:=(cF w p).frozen (p:=⟨n,i,none⟩) h
@[go_sem] theorem gw_setCell (w:World) (p:Regrown) (n i:Nat) (v:Value) (h:n<w.heap.size):(gw w p).setCell ⟨n,i,none⟩ v=gw (w.setCell ⟨n,i,none⟩ v) p:=by
 simp only[gw,grow,redrawn,World.setCell,modify_append_left _ _ _ _ h]
@[go_sem] theorem gw_drew_in (w:World) (p:Regrown):gw w.drew p=gw w p:=rfl
theorem bD (b o j:Nat):(⟨b,o,none⟩:Addr).add j=⟨b,o+j,none⟩:=by
 unfold Addr.add;split
 · rename_i h;subst h;rfl
 · rfl
@[go_sem] theorem ltP21 (a x2:Nat):(a<a+1+x2)=True:=by simp;omega
@[go_sem] theorem neP21 (a x2:Nat):(a=a+1+x2)=False:=by simp;try omega
@[go_sem] theorem neQ21 (a x2:Nat):(a+1+x2=a)=False:=by simp;try omega
@[go_sem] theorem ltP22 (a x1:Nat):(a<a+x1+1)=True:=by simp;omega
@[go_sem] theorem neP22 (a x1:Nat):(a=a+x1+1)=False:=by simp;try omega
@[go_sem] theorem neQ22 (a x1:Nat):(a+x1+1=a)=False:=by simp;try omega
@[go_sem] theorem ltP31 (a x2 x3:Nat):(a<a+1+x2+x3)=True:=by simp;omega
@[go_sem] theorem neP31 (a x2 x3:Nat):(a=a+1+x2+x3)=False:=by simp;try omega
@[go_sem] theorem neQ31 (a x2 x3:Nat):(a+1+x2+x3=a)=False:=by simp;try omega
@[go_sem] theorem ltP32 (a x1 x3:Nat):(a<a+x1+1+x3)=True:=by simp;omega
@[go_sem] theorem neP32 (a x1 x3:Nat):(a=a+x1+1+x3)=False:=by simp;try omega
@[go_sem] theorem neQ32 (a x1 x3:Nat):(a+x1+1+x3=a)=False:=by simp;try omega
@[go_sem] theorem ltP33 (a x1 x2:Nat):(a<a+x1+x2+1)=True:=by simp;omega
@[go_sem] theorem neP33 (a x1 x2:Nat):(a=a+x1+x2+1)=False:=by simp;try omega
@[go_sem] theorem neQ33 (a x1 x2:Nat):(a+x1+x2+1=a)=False:=by simp;try omega
@[go_sem] theorem ltP41 (a x2 x3 x4:Nat):(a<a+1+x2+x3+x4)=True:=by simp;omega
@[go_sem] theorem neP41 (a x2 x3 x4:Nat):(a=a+1+x2+x3+x4)=False:=by simp;try omega
@[go_sem] theorem neQ41 (a x2 x3 x4:Nat):(a+1+x2+x3+x4=a)=False:=by simp;try omega
@[go_sem] theorem ltP42 (a x1 x3 x4:Nat):(a<a+x1+1+x3+x4)=True:=by simp;omega
@[go_sem] theorem neP42 (a x1 x3 x4:Nat):(a=a+x1+1+x3+x4)=False:=by simp;try omega
@[go_sem] theorem neQ42 (a x1 x3 x4:Nat):(a+x1+1+x3+x4=a)=False:=by simp;try omega
@[go_sem] theorem ltP43 (a x1 x2 x4:Nat):(a<a+x1+x2+1+x4)=True:=by simp;omega
@[go_sem] theorem neP43 (a x1 x2 x4:Nat):(a=a+x1+x2+1+x4)=False:=by simp;try omega
@[go_sem] theorem neQ43 (a x1 x2 x4:Nat):(a+x1+x2+1+x4=a)=False:=by simp;try omega
@[go_sem] theorem ltP44 (a x1 x2 x3:Nat):(a<a+x1+x2+x3+1)=True:=by simp;omega
@[go_sem] theorem neP44 (a x1 x2 x3:Nat):(a=a+x1+x2+x3+1)=False:=by simp;try omega
@[go_sem] theorem neQ44 (a x1 x2 x3:Nat):(a+x1+x2+x3+1=a)=False:=by simp;try omega
@[go_sem] theorem ltP51 (a x2 x3 x4 x5:Nat):(a<a+1+x2+x3+x4+x5)=True:=by simp;omega
@[go_sem] theorem neP51 (a x2 x3 x4 x5:Nat):(a=a+1+x2+x3+x4+x5)=False:=by simp;try omega
@[go_sem] theorem neQ51 (a x2 x3 x4 x5:Nat):(a+1+x2+x3+x4+x5=a)=False:=by simp;try omega
@[go_sem] theorem ltP52 (a x1 x3 x4 x5:Nat):(a<a+x1+1+x3+x4+x5)=True:=by simp;omega
@[go_sem] theorem neP52 (a x1 x3 x4 x5:Nat):(a=a+x1+1+x3+x4+x5)=False:=by simp;try omega
@[go_sem] theorem neQ52 (a x1 x3 x4 x5:Nat):(a+x1+1+x3+x4+x5=a)=False:=by simp;try omega
@[go_sem] theorem ltP53 (a x1 x2 x4 x5:Nat):(a<a+x1+x2+1+x4+x5)=True:=by simp;omega
@[go_sem] theorem neP53 (a x1 x2 x4 x5:Nat):(a=a+x1+x2+1+x4+x5)=False:=by simp;try omega
@[go_sem] theorem neQ53 (a x1 x2 x4 x5:Nat):(a+x1+x2+1+x4+x5=a)=False:=by simp;try omega
@[go_sem] theorem ltP54 (a x1 x2 x3 x5:Nat):(a<a+x1+x2+x3+1+x5)=True:=by simp;omega
@[go_sem] theorem neP54 (a x1 x2 x3 x5:Nat):(a=a+x1+x2+x3+1+x5)=False:=by simp;try omega
@[go_sem] theorem neQ54 (a x1 x2 x3 x5:Nat):(a+x1+x2+x3+1+x5=a)=False:=by simp;try omega
@[go_sem] theorem ltP55 (a x1 x2 x3 x4:Nat):(a<a+x1+x2+x3+x4+1)=True:=by simp;omega
@[go_sem] theorem neP55 (a x1 x2 x3 x4:Nat):(a=a+x1+x2+x3+x4+1)=False:=by simp;try omega
@[go_sem] theorem neQ55 (a x1 x2 x3 x4:Nat):(a+x1+x2+x3+x4+1=a)=False:=by simp;try omega
@[go_sem] theorem ltP61 (a x2 x3 x4 x5 x6:Nat):(a<a+1+x2+x3+x4+x5+x6)=True:=by simp;omega
@[go_sem] theorem neP61 (a x2 x3 x4 x5 x6:Nat):(a=a+1+x2+x3+x4+x5+x6)=False:=by simp;try omega
@[go_sem] theorem neQ61 (a x2 x3 x4 x5 x6:Nat):(a+1+x2+x3+x4+x5+x6=a)=False:=by simp;try omega
@[go_sem] theorem ltP62 (a x1 x3 x4 x5 x6:Nat):(a<a+x1+1+x3+x4+x5+x6)=True:=by simp;omega
@[go_sem] theorem neP62 (a x1 x3 x4 x5 x6:Nat):(a=a+x1+1+x3+x4+x5+x6)=False:=by simp;try omega
@[go_sem] theorem neQ62 (a x1 x3 x4 x5 x6:Nat):(a+x1+1+x3+x4+x5+x6=a)=False:=by simp;try omega
@[go_sem] theorem ltP63 (a x1 x2 x4 x5 x6:Nat):(a<a+x1+x2+1+x4+x5+x6)=True:=by simp;omega
@[go_sem] theorem neP63 (a x1 x2 x4 x5 x6:Nat):(a=a+x1+x2+1+x4+x5+x6)=False:=by simp;try omega
@[go_sem] theorem neQ63 (a x1 x2 x4 x5 x6:Nat):(a+x1+x2+1+x4+x5+x6=a)=False:=by simp;try omega
@[go_sem] theorem ltP64 (a x1 x2 x3 x5 x6:Nat):(a<a+x1+x2+x3+1+x5+x6)=True:=by simp;omega
@[go_sem] theorem neP64 (a x1 x2 x3 x5 x6:Nat):(a=a+x1+x2+x3+1+x5+x6)=False:=by simp;try omega
@[go_sem] theorem neQ64 (a x1 x2 x3 x5 x6:Nat):(a+x1+x2+x3+1+x5+x6=a)=False:=by simp;try omega
@[go_sem] theorem ltP65 (a x1 x2 x3 x4 x6:Nat):(a<a+x1+x2+x3+x4+1+x6)=True:=by simp;omega
@[go_sem] theorem neP65 (a x1 x2 x3 x4 x6:Nat):(a=a+x1+x2+x3+x4+1+x6)=False:=by simp;try omega
@[go_sem] theorem neQ65 (a x1 x2 x3 x4 x6:Nat):(a+x1+x2+x3+x4+1+x6=a)=False:=by simp;try omega
@[go_sem] theorem ltP66 (a x1 x2 x3 x4 x5:Nat):(a<a+x1+x2+x3+x4+x5+1)=True:=by simp;omega
@[go_sem] theorem neP66 (a x1 x2 x3 x4 x5:Nat):(a=a+x1+x2+x3+x4+x5+1)=False:=by simp;try omega
@[go_sem] theorem neQ66 (a x1 x2 x3 x4 x5:Nat):(a+x1+x2+x3+x4+x5+1=a)=False:=by simp;try omega
@[go_sem] theorem ltP71 (a x2 x3 x4 x5 x6 x7:Nat):(a<a+1+x2+x3+x4+x5+x6+x7)=True:=by simp;omega
@[go_sem] theorem neP71 (a x2 x3 x4 x5 x6 x7:Nat):(a=a+1+x2+x3+x4+x5+x6+x7)=False:=by simp;try omega
@[go_sem] theorem neQ71 (a x2 x3 x4 x5 x6 x7:Nat):(a+1+x2+x3+x4+x5+x6+x7=a)=False:=by simp;try omega
@[go_sem] theorem ltP72 (a x1 x3 x4 x5 x6 x7:Nat):(a<a+x1+1+x3+x4+x5+x6+x7)=True:=by simp;omega
@[go_sem] theorem neP72 (a x1 x3 x4 x5 x6 x7:Nat):(a=a+x1+1+x3+x4+x5+x6+x7)=False:=by simp;try omega
@[go_sem] theorem neQ72 (a x1 x3 x4 x5 x6 x7:Nat):(a+x1+1+x3+x4+x5+x6+x7=a)=False:=by simp;try omega
@[go_sem] theorem ltP73 (a x1 x2 x4 x5 x6 x7:Nat):(a<a+x1+x2+1+x4+x5+x6+x7)=True:=by simp;omega
@[go_sem] theorem neP73 (a x1 x2 x4 x5 x6 x7:Nat):(a=a+x1+x2+1+x4+x5+x6+x7)=False:=by simp;try omega
@[go_sem] theorem neQ73 (a x1 x2 x4 x5 x6 x7:Nat):(a+x1+x2+1+x4+x5+x6+x7=a)=False:=by simp;try omega
@[go_sem] theorem ltP74 (a x1 x2 x3 x5 x6 x7:Nat):(a<a+x1+x2+x3+1+x5+x6+x7)=True:=by simp;omega
@[go_sem] theorem neP74 (a x1 x2 x3 x5 x6 x7:Nat):(a=a+x1+x2+x3+1+x5+x6+x7)=False:=by simp;try omega
@[go_sem] theorem neQ74 (a x1 x2 x3 x5 x6 x7:Nat):(a+x1+x2+x3+1+x5+x6+x7=a)=False:=by simp;try omega
@[go_sem] theorem ltP75 (a x1 x2 x3 x4 x6 x7:Nat):(a<a+x1+x2+x3+x4+1+x6+x7)=True:=by simp;omega
@[go_sem] theorem neP75 (a x1 x2 x3 x4 x6 x7:Nat):(a=a+x1+x2+x3+x4+1+x6+x7)=False:=by simp;try omega
@[go_sem] theorem neQ75 (a x1 x2 x3 x4 x6 x7:Nat):(a+x1+x2+x3+x4+1+x6+x7=a)=False:=by simp;try omega
@[go_sem] theorem ltP76 (a x1 x2 x3 x4 x5 x7:Nat):(a<a+x1+x2+x3+x4+x5+1+x7)=True:=by simp;omega
@[go_sem] theorem neP76 (a x1 x2 x3 x4 x5 x7:Nat):(a=a+x1+x2+x3+x4+x5+1+x7)=False:=by simp;try omega
@[go_sem] theorem neQ76 (a x1 x2 x3 x4 x5 x7:Nat):(a+x1+x2+x3+x4+x5+1+x7=a)=False:=by simp;try omega
@[go_sem] theorem ltP77 (a x1 x2 x3 x4 x5 x6:Nat):(a<a+x1+x2+x3+x4+x5+x6+1)=True:=by simp;omega
@[go_sem] theorem neP77 (a x1 x2 x3 x4 x5 x6:Nat):(a=a+x1+x2+x3+x4+x5+x6+1)=False:=by simp;try omega
@[go_sem] theorem neQ77 (a x1 x2 x3 x4 x5 x6:Nat):(a+x1+x2+x3+x4+x5+x6+1=a)=False:=by simp;try omega
@[go_sem] theorem ltP81 (a x2 x3 x4 x5 x6 x7 x8:Nat):(a<a+1+x2+x3+x4+x5+x6+x7+x8)=True:=by simp;omega
@[go_sem] theorem neP81 (a x2 x3 x4 x5 x6 x7 x8:Nat):(a=a+1+x2+x3+x4+x5+x6+x7+x8)=False:=by simp;try omega
@[go_sem] theorem neQ81 (a x2 x3 x4 x5 x6 x7 x8:Nat):(a+1+x2+x3+x4+x5+x6+x7+x8=a)=False:=by simp;try omega
@[go_sem] theorem ltP82 (a x1 x3 x4 x5 x6 x7 x8:Nat):(a<a+x1+1+x3+x4+x5+x6+x7+x8)=True:=by simp;omega
@[go_sem] theorem neP82 (a x1 x3 x4 x5 x6 x7 x8:Nat):(a=a+x1+1+x3+x4+x5+x6+x7+x8)=False:=by simp;try omega
@[go_sem] theorem neQ82 (a x1 x3 x4 x5 x6 x7 x8:Nat):(a+x1+1+x3+x4+x5+x6+x7+x8=a)=False:=by simp;try omega
@[go_sem] theorem ltP83 (a x1 x2 x4 x5 x6 x7 x8:Nat):(a<a+x1+x2+1+x4+x5+x6+x7+x8)=True:=by simp;omega
@[go_sem] theorem neP83 (a x1 x2 x4 x5 x6 x7 x8:Nat):(a=a+x1+x2+1+x4+x5+x6+x7+x8)=False:=by simp;try omega
@[go_sem] theorem neQ83 (a x1 x2 x4 x5 x6 x7 x8:Nat):(a+x1+x2+1+x4+x5+x6+x7+x8=a)=False:=by simp;try omega
@[go_sem] theorem ltP84 (a x1 x2 x3 x5 x6 x7 x8:Nat):(a<a+x1+x2+x3+1+x5+x6+x7+x8)=True:=by simp;omega
@[go_sem] theorem neP84 (a x1 x2 x3 x5 x6 x7 x8:Nat):(a=a+x1+x2+x3+1+x5+x6+x7+x8)=False:=by simp;try omega
@[go_sem] theorem neQ84 (a x1 x2 x3 x5 x6 x7 x8:Nat):(a+x1+x2+x3+1+x5+x6+x7+x8=a)=False:=by simp;try omega
@[go_sem] theorem ltP85 (a x1 x2 x3 x4 x6 x7 x8:Nat):(a<a+x1+x2+x3+x4+1+x6+x7+x8)=True:=by simp;omega
@[go_sem] theorem neP85 (a x1 x2 x3 x4 x6 x7 x8:Nat):(a=a+x1+x2+x3+x4+1+x6+x7+x8)=False:=by simp;try omega
@[go_sem] theorem neQ85 (a x1 x2 x3 x4 x6 x7 x8:Nat):(a+x1+x2+x3+x4+1+x6+x7+x8=a)=False:=by simp;try omega
@[go_sem] theorem ltP86 (a x1 x2 x3 x4 x5 x7 x8:Nat):(a<a+x1+x2+x3+x4+x5+1+x7+x8)=True:=by simp;omega
@[go_sem] theorem neP86 (a x1 x2 x3 x4 x5 x7 x8:Nat):(a=a+x1+x2+x3+x4+x5+1+x7+x8)=False:=by simp;try omega
@[go_sem] theorem neQ86 (a x1 x2 x3 x4 x5 x7 x8:Nat):(a+x1+x2+x3+x4+x5+1+x7+x8=a)=False:=by simp;try omega
@[go_sem] theorem ltP87 (a x1 x2 x3 x4 x5 x6 x8:Nat):(a<a+x1+x2+x3+x4+x5+x6+1+x8)=True:=by simp;omega
@[go_sem] theorem neP87 (a x1 x2 x3 x4 x5 x6 x8:Nat):(a=a+x1+x2+x3+x4+x5+x6+1+x8)=False:=by simp;try omega
@[go_sem] theorem neQ87 (a x1 x2 x3 x4 x5 x6 x8:Nat):(a+x1+x2+x3+x4+x5+x6+1+x8=a)=False:=by simp;try omega
@[go_sem] theorem ltP88 (a x1 x2 x3 x4 x5 x6 x7:Nat):(a<a+x1+x2+x3+x4+x5+x6+x7+1)=True:=by simp;omega
@[go_sem] theorem neP88 (a x1 x2 x3 x4 x5 x6 x7:Nat):(a=a+x1+x2+x3+x4+x5+x6+x7+1)=False:=by simp;try omega
@[go_sem] theorem neQ88 (a x1 x2 x3 x4 x5 x6 x7:Nat):(a+x1+x2+x3+x4+x5+x6+x7+1=a)=False:=by simp;try omega
@[go_sem] theorem ltP91 (a x2 x3 x4 x5 x6 x7 x8 x9:Nat):(a<a+1+x2+x3+x4+x5+x6+x7+x8+x9)=True:=by simp;omega
@[go_sem] theorem neP91 (a x2 x3 x4 x5 x6 x7 x8 x9:Nat):(a=a+1+x2+x3+x4+x5+x6+x7+x8+x9)=False:=by simp;try omega
@[go_sem] theorem neQ91 (a x2 x3 x4 x5 x6 x7 x8 x9:Nat):(a+1+x2+x3+x4+x5+x6+x7+x8+x9=a)=False:=by simp;try omega
@[go_sem] theorem ltP92 (a x1 x3 x4 x5 x6 x7 x8 x9:Nat):(a<a+x1+1+x3+x4+x5+x6+x7+x8+x9)=True:=by simp;omega
@[go_sem] theorem neP92 (a x1 x3 x4 x5 x6 x7 x8 x9:Nat):(a=a+x1+1+x3+x4+x5+x6+x7+x8+x9)=False:=by simp;try omega
@[go_sem] theorem neQ92 (a x1 x3 x4 x5 x6 x7 x8 x9:Nat):(a+x1+1+x3+x4+x5+x6+x7+x8+x9=a)=False:=by simp;try omega
@[go_sem] theorem ltP93 (a x1 x2 x4 x5 x6 x7 x8 x9:Nat):(a<a+x1+x2+1+x4+x5+x6+x7+x8+x9)=True:=by simp;omega
@[go_sem] theorem neP93 (a x1 x2 x4 x5 x6 x7 x8 x9:Nat):(a=a+x1+x2+1+x4+x5+x6+x7+x8+x9)=False:=by simp;try omega
@[go_sem] theorem neQ93 (a x1 x2 x4 x5 x6 x7 x8 x9:Nat):(a+x1+x2+1+x4+x5+x6+x7+x8+x9=a)=False:=by simp;try omega
@[go_sem] theorem ltP94 (a x1 x2 x3 x5 x6 x7 x8 x9:Nat):(a<a+x1+x2+x3+1+x5+x6+x7+x8+x9)=True:=by simp;omega
@[go_sem] theorem neP94 (a x1 x2 x3 x5 x6 x7 x8 x9:Nat):(a=a+x1+x2+x3+1+x5+x6+x7+x8+x9)=False:=by simp;try omega
@[go_sem] theorem neQ94 (a x1 x2 x3 x5 x6 x7 x8 x9:Nat):(a+x1+x2+x3+1+x5+x6+x7+x8+x9=a)=False:=by simp;try omega
@[go_sem] theorem ltP95 (a x1 x2 x3 x4 x6 x7 x8 x9:Nat):(a<a+x1+x2+x3+x4+1+x6+x7+x8+x9)=True:=by simp;omega
@[go_sem] theorem neP95 (a x1 x2 x3 x4 x6 x7 x8 x9:Nat):(a=a+x1+x2+x3+x4+1+x6+x7+x8+x9)=False:=by simp;try omega
@[go_sem] theorem neQ95 (a x1 x2 x3 x4 x6 x7 x8 x9:Nat):(a+x1+x2+x3+x4+1+x6+x7+x8+x9=a)=False:=by simp;try omega
@[go_sem] theorem ltP96 (a x1 x2 x3 x4 x5 x7 x8 x9:Nat):(a<a+x1+x2+x3+x4+x5+1+x7+x8+x9)=True:=by simp;omega
@[go_sem] theorem neP96 (a x1 x2 x3 x4 x5 x7 x8 x9:Nat):(a=a+x1+x2+x3+x4+x5+1+x7+x8+x9)=False:=by simp;try omega
@[go_sem] theorem neQ96 (a x1 x2 x3 x4 x5 x7 x8 x9:Nat):(a+x1+x2+x3+x4+x5+1+x7+x8+x9=a)=False:=by simp;try omega
@[go_sem] theorem ltP97 (a x1 x2 x3 x4 x5 x6 x8 x9:Nat):(a<a+x1+x2+x3+x4+x5+x6+1+x8+x9)=True:=by simp;omega
@[go_sem] theorem neP97 (a x1 x2 x3 x4 x5 x6 x8 x9:Nat):(a=a+x1+x2+x3+x4+x5+x6+1+x8+x9)=False:=by simp;try omega
@[go_sem] theorem neQ97 (a x1 x2 x3 x4 x5 x6 x8 x9:Nat):(a+x1+x2+x3+x4+x5+x6+1+x8+x9=a)=False:=by simp;try omega
@[go_sem] theorem ltP98 (a x1 x2 x3 x4 x5 x6 x7 x9:Nat):(a<a+x1+x2+x3+x4+x5+x6+x7+1+x9)=True:=by simp;omega
@[go_sem] theorem neP98 (a x1 x2 x3 x4 x5 x6 x7 x9:Nat):(a=a+x1+x2+x3+x4+x5+x6+x7+1+x9)=False:=by simp;try omega
@[go_sem] theorem neQ98 (a x1 x2 x3 x4 x5 x6 x7 x9:Nat):(a+x1+x2+x3+x4+x5+x6+x7+1+x9=a)=False:=by simp;try omega
@[go_sem] theorem ltP99 (a x1 x2 x3 x4 x5 x6 x7 x8:Nat):(a<a+x1+x2+x3+x4+x5+x6+x7+x8+1)=True:=by simp;omega
@[go_sem] theorem neP99 (a x1 x2 x3 x4 x5 x6 x7 x8:Nat):(a=a+x1+x2+x3+x4+x5+x6+x7+x8+1)=False:=by simp;try omega
@[go_sem] theorem neQ99 (a x1 x2 x3 x4 x5 x6 x7 x8:Nat):(a+x1+x2+x3+x4+x5+x6+x7+x8+1=a)=False:=by simp;try omega
theorem bO {P:Program} {id:Nat} {Q:Exit→Act→World→Prop} {a:Act} {w:World} {l:List Oper} (hm:P.follows .mixedOrders=true) (hB:Region.lexB .any l.toArray=true)
 (h:wpQuiet P l.toArray (fun w'=>∃ p:Regrown,w'=gw w p) (fun a'=>∀ w',(∃ p:Regrown,w'=gw w p)→Q .normal a' w') l a):(Code.region id l.toArray true).wp P Q a w :=
 wp_region_quiet_below hm hB h
theorem eG {P:Program} {f:FuncId} {args:Array Value} {w:World} {p:Regrown} {v:Value}
 (h:Calls P f args (gw w p) fun e w'=>e=.returned v∧Below (gw w p).heap.size (gw w p) w'):Calls P f args (gw w p) fun e w''=>e=.returned v∧∃ q:Regrown,w''=gw w q :=
 Calls.regrown_of h
theorem mR {P:Program} {f:FuncId} {args:Array Value} {w:World} {p:Regrown} {v:Value}
 (h:Calls P f args (gw w p) fun e w'=>e=.returned v∧gw w p=w'):Calls P f args (gw w p) fun e w''=>e=.returned v∧∃ q:Regrown,w''=gw w q :=
 h.mono fun _ _ ⟨he,hb⟩=>⟨he,p,hb.symm⟩
def eR (w:World) (v:Value) (m:Nat) (news:List Value):Prop:=(m=0∧v=.slice none 0 0)∨∃ ad c,v=.slice (some ad) m c∧∀ j u,news[j]? = some u→w.cell? (ad.add j)=some u
theorem aR {P:Program} {w:World} {ops:Array Oper} {o:Oper} {a:Act} {K:Act→World→Prop} {Q:Exit→Act→World→Prop} {E:Prop} (hgd:o.guard=none) (s x:Operand) (t:TypeId)
 (ho:o.op=.call { callee:=.builtin .append,args:=#[s,x],argTypes:=#[t,t] })
 (base:Nat) (e:TypeId) (i:TypeInfo) (z:Value) (size bytes:Nat) (ht:P.underlying t=some (.slice e)) (hi:P.info? e=some i) (hz:i.zero=some z)
 (hsize:i.size=size) (hby:i.bytes=bytes) (hzs:z.cells.size=size) (hsz:0<size)
 (v:Value) (n:Nat) (xs:List Value) (hs:a.eval s=v) (hown:w.ownsRow base e size v n xs)
 (v2:Value) (m:Nat) (news:List Value) (hx:a.eval x=v2) (hsrc:eR w v2 m news) (hl:news.length=m*size) (h1:∀ u∈news,u.oneCell'=true)
 (h63:n+m≤maxLen) (hbytes:(n+m)*bytes≤140737488355328) (hbase:base≤w)
 (h:∀ v' w',w'.ownsRow base e size v' (n+m) (xs++news)→w.grownBy w' v.ownBlock→(v'=.slice none 0 0↔v=.slice none 0 0∧m=0)→K (a.put o.dst v') w') :
 if Region.wanted o (yielded ops a.tmps)=true then Oper.wp P o a w K Q else E:=by
 have hw:Region.wanted o (yielded ops a.tmps)=true:=by simp[Region.wanted,hgd]
 rw[if_pos hw];rcases hsrc with⟨rfl,rfl⟩|⟨ad,c,rfl,hc⟩
 · have hn:news=[]:=Xc (by simpa using hl);subst hn;have hrun:=run_append_owned_none (P:=P) (w:=w) base t o.type e i size ht hi v n xs hown;unfold Oper.wp;simp[execOp,ho,resolve,invoke,builtin,hs,hx,hrun,Result.andThen]
   exact h v w (by simpa using hown) (World.grownBy.refl w _) sm
 · exact wp_append_own w s x t ho base e i z size bytes ht hi hz hsize hby hzs hsz v n xs hs hown ad m c news hx hl hc h1 h63 hbytes hbase h
end
section
open Go.RowKit Go.Sort
open Go.ChangeMaps
theorem fK {P:Program} {w:World} {ops:Array Oper} {rest:List Oper} {o:Oper} {a:Act} {Q:Exit→Act→World→Prop} (hgd:o.guard=none) (s x:Operand) (t:TypeId)
 (ho:o.op=.call { callee:=.builtin .append,args:=#[s,x],argTypes:=#[t,t] })
 (base:Nat) (e:TypeId) (i:TypeInfo) (z:Value) (size bytes:Nat) (ht:P.underlying t=some (.slice e)) (hi:P.info? e=some i) (hz:i.zero=some z)
 (hsize:i.size=size) (hby:i.bytes=bytes) (hzs:z.cells.size=size) (hsz:0<size)
 (v:Value) (n:Nat) (xs:List Value) (hs:a.eval s=v) (hown:w.ownsRow base e size v n xs)
 (v2:Value) (m:Nat) (news:List Value) (hx:a.eval x=v2) (hsrc:eR w v2 m news) (hl:news.length=m*size) (h1:∀ u∈news,u.oneCell'=true)
 (h63:n+m≤maxLen) (hbytes:(n+m)*bytes≤140737488355328) (hbase:base≤w)
 (h:∀ v' w',w'.ownsRow base e size v' (n+m) (xs++news)→w.grownBy w' v.ownBlock→(v'=.slice none 0 0↔v=.slice none 0 0∧m=0)→wpList P ops Q rest (a.put o.dst v') w'):wpList P ops Q (o::rest) a w:=by
 refine wpList_plain hgd fun _ hK=>?_;rcases hsrc with⟨rfl,rfl⟩|⟨ad,c,rfl,hc⟩
 · have hn:news=[]:=Xc (by simpa using hl);subst hn;have hrun:=run_append_owned_none (P:=P) (w:=w) base t o.type e i size ht hi v n xs hown;unfold Oper.wp;simp[execOp,ho,resolve,invoke,builtin,hs,hx,hrun,Result.andThen]
   exact hK _ _ (h v w (by simpa using hown) (World.grownBy.refl w _) sm)
 · exact wp_append_own w s x t ho base e i z size bytes ht hi hz hsize hby hzs hsz v n xs hs hown ad m c news hx hl hc h1 h63 hbytes hbase fun v' w' h2 h3 h4=>hK _ _ (h v' w' h2 h3 h4)
end
section
open Go.RowKit Go.Sort
structure Kb (b:Nat) (w w':World):Prop where
 os:w'.os=w.os
 tape:w'.tape=w.tape
 output:w'.output=w.output
 size:w.heap.size≤w'.heap.size
 block:∀ k,k<w.heap.size→k≠b→w'.heap[k]? = w.heap[k]?
theorem Kb.refl (b:Nat) (w:World):Kb b w w:=⟨rfl,rfl,rfl,Qk _,fun _ _ _=>rfl⟩
theorem Kb.trans {b:Nat} {u v w:World} (h:Kb b u v) (k:Kb b v w):Kb b u w :=
 ⟨k.os.trans h.os,k.tape.trans h.tape,k.output.trans h.output,Qn h.size k.size,fun i hi hb=>(k.block i (Qj hi h.size) hb).trans (h.block i hi hb)⟩
theorem Kb.drew {b:Nat} {u w:World} (h:Kb b u w):Kb b u w.drew:=⟨h.os,h.tape,h.output,h.size,h.block⟩
theorem Kb.of_below {b:Nat} {u w:World} (h:Below u u w):Kb b u w:=⟨h.os,h.tape,h.output,h.size,fun k hk _=>h.block k hk⟩
theorem Kb.gw {b:Nat} {u w:World} (h:Kb b u w) (p:Regrown):Kb b u (gw w p):=h.trans (Kb.of_below (cF w p))
theorem Kb.alloc {b:Nat} {u w:World} (h:Kb b u w) (o:Obj):Kb b u (w.alloc o):=h.trans (Kb.of_below (br.alloc lr o))
theorem Kb.setCell {b:Nat} {u w:World} (h:Kb b u w) (j:Nat) (v:Value):Kb b u (w.setCell ⟨b,j,none⟩ v) :=
 ⟨h.os,h.tape,h.output,by show _≤(w.heap.modify _ _).size;rw[Array.size_modify];exact h.size,fun k hk hb=>by rw[Below.heap_setCell _ _ _ _ hb];exact h.block k hk hb⟩
theorem Kb.below {b:Nat} {u w:World} (h:Kb b u w):Below b u w∨u.heap.size≤b:=by
 by_cases hb:u.heap.size≤b
 · exact .inr hb
 · exact .inl ⟨h.os,h.tape,h.output,h.size,fun k hk=>h.block k om om⟩
theorem Kb.cell {b:Nat} {u w:World} (h:Kb b u w) {p:Addr} (hp:p.block<u.heap.size) (hb:p.block≠b):w.cell? p=u.cell? p:=World.cell?_of_block (w:=u) (h.block p.block hp hb)
theorem Kb.new {u w:World} {o:Obj} (h:Kb u (u.alloc o) w):Below u u w :=
 have hs:(u.alloc o).heap.size=u.heap.size+1:=by show (u.heap.push o).size=_;simp
 ⟨h.os,h.tape,h.output,by have:=h.size;omega,fun k hk=>(h.block k om om).trans (Below.heap_alloc u o k hk)⟩
theorem Kb.owns {b:Nat} {w w':World} {base:Nat} {e:TypeId} {size:Nat} {v:Value} {n:Nat} {xs:List Value} (h:w.ownsRow base e size v n xs) (hb:Kb b w w') (hne:v.ownBlock≠some b):w'.ownsRow base e size v n xs:=by
 obtain⟨h1,h2⟩:=h;refine⟨h1,?_⟩;rcases h2 with h2|⟨g,cap,cur,hv,hg,hh,r⟩
 · exact Or.inl h2
 · refine Or.inr ⟨g,cap,cur,hv,hg,?_,r⟩;have hlt:g<w:=lt_of_block hh;rw[hb.block g hlt (fun e=>hne (by rw[hv,e];rfl))];exact hh
def Row (w:World) (v:Value) (n:Nat) (xs:List Value):Prop :=
 ∃ a cap,v=.slice a n cap∧n≤cap∧(xs≠[]→∃ g o,a=some ⟨g,o,none⟩∧g<w.heap.size∧∀ j,j<xs.length→w.cell? ⟨g,o+j,none⟩=xs[j]?)
theorem Row.below {w w':World} {v:Value} {n:Nat} {xs:List Value} (h:Row w v n xs) (hb:Below w w w'):Row w' v n xs:=by
 obtain⟨a,cap,hv,hn,h⟩:=h;refine⟨a,cap,hv,hn,fun hx=>?_⟩;obtain⟨g,o,ha,hg,hc⟩:=h hx;exact⟨g,o,ha,Qj hg hb.size,fun j hj=>(hb.cell (p:=⟨g,o+j,none⟩) hg).trans (hc j hj)⟩
theorem Row.nil (w:World):Row w (.slice none 0 0) 0 []:=⟨none,0,rfl,Qk _,fun h=>absurd rfl h⟩
theorem Row.of_owns {w:World} {base:Nat} {e:TypeId} {size:Nat} {v:Value} {n:Nat} {xs:List Value} (h:w.ownsRow base e size v n xs):Row w v n xs:=by
 obtain⟨h1,h2⟩:=h;rcases h2 with⟨rfl,rfl⟩|⟨g,cap,cur,rfl,hg,hh,hn,hcap,hcur,rfl⟩
 · refine⟨none,0,rfl,Qk _,fun hx=>?_⟩;rw[Yr] at h1;exact absurd (Xc h1) hx
 · refine⟨_,cap,rfl,hn,fun hx=>⟨g,0,rfl,lt_of_block hh,fun j hj=>?_⟩⟩;simp only[World.cell?,hh,Xb];rw[h1] at hj;rw[Yt hj];simp
theorem aP {w:World} {b b':Nat} {e:TypeId} {size:Nat} {v:Value} {n:Nat} {xs:List Value} (h:w.ownsRow b e size v n xs) (hb:b'≤b):w.ownsRow b' e size v n xs:=by
 obtain⟨h1,h2⟩:=h;refine⟨h1,?_⟩;rcases h2 with h2|⟨g,cap,cur,hv,hg,r⟩
 · exact Or.inl h2
 · exact Or.inr ⟨g,cap,cur,hv,om,r⟩
theorem gA {w:World} {b k:Nat} {e:TypeId} {size:Nat} {v:Value} {n:Nat} {xs:List Value} (h:w.ownsRow b e size v n xs) (hk:k<b):some k≠v.ownBlock:=fun q=>by
 rcases h.2 with⟨h,_⟩|⟨g,cap,cur,h,hg,_⟩
 · rw[h] at q;cases q
 · rw[h] at q;have q3:k=g:=Xi q;omega
theorem aI {w:World} {b:Nat} {e:TypeId} {size:Nat} {v:Value} {n:Nat} {xs:List Value} (h:w.ownsRow b e size v n xs):∃ a c,v=.slice a n c:=by
 obtain⟨h1,h2⟩:=h;rcases h2 with⟨rfl,rfl⟩|⟨g,cap,cur,rfl,_⟩
 · exact⟨none,0,rfl⟩
 · exact⟨_,_,rfl⟩
abbrev Op3:=Int × Int × Int
def opc (l:List Op3):List Value:=l.flatMap fun x=>[.int .i64 x.1,.int .i64 x.2.1,.int .i64 x.2.2]
theorem cG (l:List Op3):(opc l).length=l.length*3:=by
 unfold opc;induction l with
 | nil=>rfl
 | cons a l ih=>simp at ih ⊢;omega
theorem nW:∀ (l:List Op3) (i:Nat) (x:Op3),l[i]? = some x→(opc l)[i*3]? = some (.int .i64 x.1)∧(opc l)[i*3+1]? = some (.int .i64 x.2.1)∧(opc l)[i*3+2]? = some (.int .i64 x.2.2)
 | [],i,x,h=>by simp at h
 | a::l,0,x,h=>by
   simp at h;subst h
   exact⟨rfl,rfl,rfl⟩
 | a::l,i+1,x,h=>by
   have:=nW l i x (by simpa using h)
   have e:∀ k,(opc (a::l))[(i+1)*3+k]? = (opc l)[i*3+k]? := fun k=>by
    show ([Value.int .i64 a.1,.int .i64 a.2.1,.int .i64 a.2.2]++opc l)[(i+1)*3+k]? = _
    rw[Yf (by simp;omega)];congr 1
    simp;omega
   refine⟨?_,?_,?_⟩
   · have:=e 0;simp only[Xu] at this;rw[this];exact (nW l i x (by simpa using h)).1
   · rw[e 1];exact this.2.1
   · rw[e 2];exact this.2.2
theorem Row.op {w:World} {v:Value} {l:List Op3} (h:Row w v l.length (opc l)):∃ a cap,v=.slice a l.length cap∧l.length≤cap∧(l≠[]→∃ g o,a=some ⟨g,o,none⟩∧g<w.heap.size∧∀ i x,l[i]? = some x →
 w.cell? ⟨g,o+i*3,none⟩=some (.int .i64 x.1)∧w.cell? ⟨g,o+i*3+1,none⟩=some (.int .i64 x.2.1)∧w.cell? ⟨g,o+i*3+2,none⟩=some (.int .i64 x.2.2)):=by
 obtain⟨a,cap,hv,hn,h⟩:=h;refine⟨a,cap,hv,hn,fun hl=>?_⟩;obtain⟨g,o,ha,hg,hc⟩:=h (by intro e;apply hl;have:=cG l;rw[e] at this;exact Xc (by simp at this;omega))
 refine⟨g,o,ha,hg,fun i x hx=>?_⟩;have hi:i<l.length:=(Qd.1 hx).1;have hlen:=cG l;obtain⟨e0,e1,e2⟩:=nW l i x hx;exact⟨(hc (i*3) om).trans e0,by rw[Yb];exact (hc (i*3+1) om).trans e1,by rw[Yb];exact (hc (i*3+2) om).trans e2⟩
def WRow (w:World) (b:Nat) (v:Value) (n:Nat) (xs:List Value):Prop :=
 ∃ a cap,v=.slice a n cap∧n≤cap∧(xs≠[]→∃ g o,a=some ⟨g,o,none⟩∧b≤g∧g<w.heap.size∧(∀ j,j<xs.length→w.cell? ⟨g,o+j,none⟩=xs[j]?)∧∀ j,j<xs.length→w.frozen? ⟨g,o+j,none⟩=false)
theorem WRow.row {w:World} {b:Nat} {v:Value} {n:Nat} {xs:List Value} (h:WRow w b v n xs):Row w v n xs:=by
 obtain⟨a,cap,hv,hn,h⟩:=h;exact⟨a,cap,hv,hn,fun hx=>by obtain⟨g,o,h1,_,h2,h3,_⟩:=h hx;exact⟨g,o,h1,h2,h3⟩⟩
theorem WRow.mono {w:World} {b b':Nat} {v:Value} {n:Nat} {xs:List Value} (h:WRow w b v n xs) (hb:b'≤b):WRow w b' v n xs:=by
 obtain⟨a,cap,hv,hn,h⟩:=h;exact⟨a,cap,hv,hn,fun hx=>by obtain⟨g,o,h1,h0,h2⟩:=h hx;exact⟨g,o,h1,om,h2⟩⟩
theorem WRow.nil (w:World) (b:Nat):WRow w b (.slice none 0 0) 0 []:=⟨none,0,rfl,Qk _,fun h=>absurd rfl h⟩
theorem WRow.of_owns {w:World} {b:Nat} {e:TypeId} {size:Nat} {v:Value} {n:Nat} {xs:List Value} (h:w.ownsRow b e size v n xs):WRow w b v n xs:=by
 obtain⟨h1,h2⟩:=h;rcases h2 with⟨rfl,rfl⟩|⟨g,cap,cur,rfl,hg,hh,hn,hcap,hcur,rfl⟩
 · rw[Yr] at h1;obtain rfl:=Xc h1;exact WRow.nil _ _
 · refine⟨_,cap,rfl,hn,fun hx=>⟨g,0,rfl,hg,lt_of_block hh,fun j hj=>?_,fun j hj=>?_⟩⟩
   · simp only[World.cell?,hh,Xb];rw[h1] at hj;rw[Yt hj];simp
   · simp[World.frozen?,hh]
theorem WRow.below {w w':World} {b:Nat} {v:Value} {n:Nat} {xs:List Value} (h:WRow w b v n xs) (hb:Below w w w'):WRow w' b v n xs:=by
 obtain⟨a,cap,hv,hn,h⟩:=h;refine⟨a,cap,hv,hn,fun hx=>?_⟩;obtain⟨g,o,ha,h0,hg,hc,hf⟩:=h hx;exact⟨g,o,ha,h0,Qj hg hb.size,fun j hj=>(hb.cell (p:=⟨g,o+j,none⟩) hg).trans (hc j hj),fun j hj=>(hb.frozen (p:=⟨g,o+j,none⟩) hg).trans (hf j hj)⟩
theorem Kb.frozen {b:Nat} {u w:World} (h:Kb b u w) {p:Addr} (hp:p.block<u.heap.size) (hb:p.block≠b):w.frozen? p=u.frozen? p:=by
 have:=h.block p.block hp hb
 simp only[World.frozen?,this]
theorem WRow.kb {w w':World} {b k:Nat} {v:Value} {n:Nat} {xs:List Value} (h:WRow w b v n xs) (hk:Kb k w w') (hlt:k<b):WRow w' b v n xs:=by
 obtain⟨a,cap,hv,hn,h⟩:=h;refine⟨a,cap,hv,hn,fun hx=>?_⟩;obtain⟨g,o,ha,h0,hg,hc,hf⟩:=h hx;exact⟨g,o,ha,h0,Qj hg hk.size,fun j hj=>(hk.cell (p:=⟨g,o+j,none⟩) hg (by show g≠k;omega)).trans (hc j hj),fun j hj=>(hk.frozen (p:=⟨g,o+j,none⟩) hg (by show g≠k;omega)).trans (hf j hj)⟩
theorem Row.kb {w w':World} {b k:Nat} {v:Value} {n:Nat} {xs:List Value} (h:WRow w b v n xs) (hk:Kb k w w') (hlt:k<b):Row w' v n xs:=(h.kb hk hlt).row
theorem WRow.set {w:World} {b g o i cap n:Nat} {xs:List Value} {u:Value} (h:WRow w b (.slice (some ⟨g,o,none⟩) n cap) n xs) (hi:i<xs.length) :
 WRow (w.setCell ⟨g,o+i,none⟩ u) b (.slice (some ⟨g,o,none⟩) n cap) n (xs.set i u):=by
 obtain⟨a,c,hv,hn,h⟩:=h;cases hv
 refine⟨_,_,rfl,hn,fun _=>?_⟩;obtain⟨g',o',ha,h0,hg,hc,hf⟩:=h (by intro e;rw[e] at hi;simp at hi);cases ha
 refine⟨g,o,rfl,h0,by show _<(w.heap.modify _ _).size;rw[Array.size_modify];exact hg,fun j hj=>?_,fun j hj=>?_⟩
 · rw[List.length_set] at hj;by_cases e:j=i
   · subst e;rw[World.cell?_setCell_same _ _ _ ((hc j hj).trans (Qb hj)),List.getElem?_set_self hj]
   · rw[World.cell?_setCell_other _ _ _ _ (by first|(simp;done)|(simp;omega)),hc j hj,List.getElem?_set_ne (fun q=>e q.symm)]
 · rw[List.length_set] at hj;rw[World.frozen?_setCell];exact hf j hj
theorem WRow.op {w:World} {b:Nat} {v:Value} {l:List Op3} (h:WRow w b v l.length (opc l)):∃ a cap,v=.slice a l.length cap∧l.length≤cap∧(l≠[]→∃ g o,a=some ⟨g,o,none⟩∧b≤g∧g<w.heap.size∧∀ i x,l[i]? = some x →
 w.cell? ⟨g,o+i*3,none⟩=some (.int .i64 x.1)∧w.cell? ⟨g,o+i*3+1,none⟩=some (.int .i64 x.2.1)∧w.cell? ⟨g,o+i*3+2,none⟩=some (.int .i64 x.2.2)∧w.frozen? ⟨g,o+i*3,none⟩=false∧w.frozen? ⟨g,o+i*3+1,none⟩=false∧w.frozen? ⟨g,o+i*3+2,none⟩=false):=by
 obtain⟨a,cap,hv,hn,h⟩:=h;refine⟨a,cap,hv,hn,fun hl=>?_⟩;obtain⟨g,o,ha,h0,hg,hc,hf⟩:=h (by intro e;apply hl;have:=cG l;rw[e] at this;exact Xc (by simp at this;omega))
 refine⟨g,o,ha,h0,hg,fun i x hx=>?_⟩;have hi:i<l.length:=(Qd.1 hx).1;have hlen:=cG l;obtain⟨e0,e1,e2⟩:=nW l i x hx;have f1:=hf (i*3+1) om;have f2:=hf (i*3+2) om;rw[←Yb] at f1 f2;exact⟨(hc (i*3) om).trans e0,by rw[Yb];exact (hc (i*3+1) om).trans e1,by rw[Yb];exact (hc (i*3+2) om).trans e2,hf (i*3) om,f1,f2⟩
theorem wJ:∀ (l:List Op3) (i:Nat) (x:Op3) (m:Int),l[i]? = some x→(opc l).set (i*3+2) (.int .i64 m)=opc (l.set i (x.1,x.2.1,m))
 | [],i,x,m,h=>by simp at h
 | a::l,0,x,m,h=>by
   simp at h;subst h
   rfl
 | a::l,i+1,x,m,h=>by
   have ih:=wJ l i x m (by simpa using h);show ([Value.int .i64 a.1,.int .i64 a.2.1,.int .i64 a.2.2]++opc l).set ((i+1)*3+2) (.int .i64 m)=_
   rw[show (i+1)*3+2=(i*3+2)+3 by omega]
   show Value.int .i64 a.1::.int .i64 a.2.1::.int .i64 a.2.2::(opc l).set (i*3+2) (.int .i64 m)=_
   rw[ih];rfl
theorem WRow.setN {w:World} {b g o cap i:Nat} {l:List Op3} {x:Op3} {m:Int} (h:WRow w b (.slice (some ⟨g,o,none⟩) l.length cap) l.length (opc l)) (hx:l[i]? = some x) :
 WRow (w.setCell ⟨g,o+i*3+2,none⟩ m) b (.slice (some ⟨g,o,none⟩) l.length cap) l.length (opc (l.set i (x.1,x.2.1,m))):=by
 have hi:i<l.length:=(Qd.1 hx).1;rw[←wJ l i x m hx,Yb];exact h.set (by rw[cG];omega)
theorem kF:∀ (l:List Op3) (i:Nat) (x:Op3),i<l.length→(((opc l).set (i*3) (.int .i64 x.1)).set (i*3+1) (.int .i64 x.2.1)).set (i*3+2) (.int .i64 x.2.2)=opc (l.set i x)
 | [],i,x,h=>by simp at h
 | a::l,0,x,_=>rfl
 | a::l,i+1,x,h=>by
   have ih:=kF l i x (by simpa using h);rw[show (i+1)*3=i*3+3 by omega]
   show Value.int .i64 a.1::.int .i64 a.2.1::.int .i64 a.2.2::(((opc l).set (i*3) (.int .i64 x.1)).set (i*3+1) (.int .i64 x.2.1)).set (i*3+2) (.int .i64 x.2.2)=_
   rw[ih];rfl
theorem WRow.setO {w:World} {b g o cap i:Nat} {l:List Op3} {x:Op3} (h:WRow w b (.slice (some ⟨g,o,none⟩) l.length cap) l.length (opc l)) (hi:i<l.length) :
 WRow (((w.setCell ⟨g,o+i*3,none⟩ x.1).setCell ⟨g,o+i*3+1,none⟩ x.2.1).setCell ⟨g,o+i*3+2,none⟩ x.2.2) b (.slice (some ⟨g,o,none⟩) l.length cap) l.length (opc (l.set i x)):=by
 rw[←kF l i x hi,Yb,Yb];have hlen:=cG l;exact ((h.set (i:=i*3) om).set (i:=i*3+1) (by rw[List.length_set];omega)).set (i:=i*3+2) (by rw[List.length_set,List.length_set];omega)
@[go_sem] theorem setCell_size (w:World) (a:Addr) (v:Value):(w.setCell a v).heap.size=w.heap.size:=by show (w.heap.modify _ _).size=_;rw[Array.size_modify]
theorem aW {w w2:World} {o:Obj} (hb:Below (w.alloc o).heap.size (w.alloc o) w2):w2.heap[w.heap.size]? = some o:=(hb.block _ sm).trans (by show (w.heap.push o)[w.heap.size]? = _;simp)
theorem bE {w:World} {b:Nat} {x y z:Value} {T:TypeId} (h:w.heap[b]? = some (.cells #[x,y,z] T (0,0))) :
 w.cell? b=some x∧w.cell? ⟨b,1,none⟩=some y∧w.cell? ⟨b,2,none⟩=some z∧w.frozen? ⟨b,0,none⟩=false∧w.frozen? ⟨b,1,none⟩=false∧w.frozen? ⟨b,2,none⟩=false:=by
 refine⟨?_,?_,?_,?_,?_,?_⟩<;>simp[World.cell?,World.frozen?,h]
theorem aL {w:World} {b:Nat} {x y:Value} {T:TypeId} (h:w.heap[b]? = some (.cells #[x,y] T (0,0))) :
 w.cell? b=some x∧w.cell? ⟨b,1,none⟩=some y∧w.frozen? ⟨b,0,none⟩=false∧w.frozen? ⟨b,1,none⟩=false:=by
 refine⟨?_,?_,?_,?_⟩<;>simp[World.cell?,World.frozen?,h]
theorem aN {w:World} {b:Nat} {x0 x1 x2 x3 x4 x5:Value} {T:TypeId} (h:w.heap[b]? = some (.cells #[x0,x1,x2,x3,x4,x5] T (0,0))) :
 (w.cell? b=some x0∧w.cell? ⟨b,1,none⟩=some x1∧w.cell? ⟨b,2,none⟩=some x2∧w.cell? ⟨b,3,none⟩=some x3∧w.cell? ⟨b,4,none⟩=some x4∧w.cell? ⟨b,5,none⟩=some x5) ∧
 w.frozen? ⟨b,0,none⟩=false∧w.frozen? ⟨b,1,none⟩=false∧w.frozen? ⟨b,2,none⟩=false∧w.frozen? ⟨b,3,none⟩=false∧w.frozen? ⟨b,4,none⟩=false∧w.frozen? ⟨b,5,none⟩=false:=by
 refine⟨⟨?_,?_,?_,?_,?_,?_⟩,?_,?_,?_,?_,?_,?_⟩<;>simp[World.cell?,World.frozen?,h]
theorem aK {w w2:World} {o:Obj} (hb:Below (w.alloc o).heap.size (w.alloc o) w2):Below w w w2:=(br.alloc lr o).trans (hb.mono sm)
theorem aG {w:World} {b i:Nat} {C:Array Value} {T:TypeId} {v:Value} (h:w.heap[b]? = some (.cells C T (0,0))):(w.setCell ⟨b,i,none⟩ v).heap[b]? = some (.cells (C.setIfInBounds i v) T (0,0)):=by
 show (w.heap.modify b _)[b]? = _
 rw[Yk (by rw[Array.size_modify];exact (Ql.1 h).1),Array.getElem_modify_self,(Ql.1 h).2]
 rfl
theorem aD {w:World} {b k i:Nat} {o:Obj} {v:Value} (h:w.heap[k]? = some o) (hne:k≠b):(w.setCell ⟨b,i,none⟩ v).heap[k]? = some o:=(Below.heap_setCell w ⟨b,i,none⟩ v k hne).trans h
theorem aE {w:World} {k:Nat} {o o':Obj} (h:w.heap[k]? = some o):(w.alloc o').heap[k]? = some o:=(Below.heap_alloc w o' k (Ql.1 h).1).trans h
theorem aB {w w':World} {k n:Nat} {o:Obj} (h:w.heap[k]? = some o) (hb:Below n w w') (hk:k<n):w'.heap[k]? = some o:=(hb.block k hk).trans h
theorem aF (w:World) (o:Obj):(w.alloc o).heap[w.heap.size]? = some o:=by show (w.heap.push o)[w.heap.size]? = _;simp
theorem aA {w:World} {k:Nat} {o:Obj} (h:w.heap[k]? = some o):k<w.heap.size:=(Ql.1 h).1
theorem aC {w:World} {b:Nat} {C:Array Value} {T:TypeId} (h:w.heap[b]? = some (.cells C T (0,0))) (i:Nat):w.cell? ⟨b,i,none⟩=C[i]? := by simp[World.cell?,h]
theorem aH {w:World} {b:Nat} {C:Array Value} {T:TypeId} (h:w.heap[b]? = some (.cells C T (0,0))) (i:Nat):w.frozen? ⟨b,i,none⟩=false:=by simp[World.frozen?,h]
theorem jR {w:World} {base g i cap n size:Nat} {e:TypeId} {xs:List Value} {u:Value} (h:w.ownsRow base e size (.slice g n cap) n xs) (_hi:i<xs.length) :
 (w.setCell ⟨g,i,none⟩ u).ownsRow base e size (.slice g n cap) n (xs.set i u):=by
 obtain⟨h1,h2⟩:=h;refine⟨by rw[List.length_set];exact h1,?_⟩
 rcases h2 with⟨h2,_⟩|⟨g',cap',cur,hv,hg,hh,hn,hcap,hcur,ht⟩
 · cases h2
 · cases hv
   refine .inr ⟨g,cap,cur.setIfInBounds i u,rfl,hg,aG hh,hn,hcap,by rw[Array.size_setIfInBounds];exact hcur,?_⟩
   rw[Array.toList_setIfInBounds,List.take_set,ht]
theorem jQ {w:World} {base g i cap n:Nat} {e:TypeId} {l:List Op3} {x:Op3} (h:w.ownsRow base e 3 (.slice g n cap) n (opc l)) (hi:i<l.length) :
 (((w.setCell ⟨g,i*3,none⟩ x.1).setCell ⟨g,i*3+1,none⟩ x.2.1).setCell ⟨g,i*3+2,none⟩ x.2.2).ownsRow base e 3 (.slice g n cap) n (opc (l.set i x)):=by
 rw[←kF l i x hi];have hlen:=cG l;exact jR (jR (jR h om) (by rw[List.length_set];omega)) (by rw[List.length_set,List.length_set];omega)
def ORow (w:World) (b:Nat) (v:Value) (n:Nat) (xs:List Value):Prop:=w.ownsRow b 144 3 v n xs
theorem ORow.own {w:World} {b:Nat} {v:Value} {n:Nat} {xs:List Value} (h:ORow w b v n xs):w.ownsRow b 144 3 v n xs:=h
theorem ORow.row {w:World} {b:Nat} {v:Value} {n:Nat} {xs:List Value} (h:ORow w b v n xs):WRow w b v n xs:=WRow.of_owns h.own
theorem ORow.nil (w:World) (b:Nat):ORow w b (.slice none 0 0) 0 []:=Xa _ _ _ _
theorem ORow.mono {w:World} {b b':Nat} {v:Value} {n:Nat} {xs:List Value} (h:ORow w b v n xs) (hb:b'≤b):ORow w b' v n xs:=aP h.own hb
theorem ORow.kbo {w w':World} {b k:Nat} {v:Value} {n:Nat} {xs:List Value} (h:ORow w b v n xs) (hk:Kb k w w') (hne:v.ownBlock≠some k):ORow w' b v n xs:=Kb.owns h.own hk hne
theorem ORow.below {w w':World} {b:Nat} {v:Value} {n:Nat} {xs:List Value} (h:ORow w b v n xs) (hb:Below w w w'):ORow w' b v n xs :=
 h.kbo (Kb.of_below (b:=w.heap.size) hb) (fun e=>by have:=(h.own.lt _ e).2;omega)
theorem dV {D B:Nat} {w w':World} {v:Value} {n:Nat} {xs:List Value} (h:ORow w B v n xs) (hk:Kb D w w') (hD:D<B):ORow w' B v n xs :=
 h.kbo hk (fun e=>by have:=(h.own.lt _ e).1;omega)
theorem ORow.slice {w:World} {b:Nat} {v:Value} {n:Nat} {xs:List Value} (h:ORow w b v n xs):∃ a c,v=.slice a n c:=aI h.own
theorem ORow.op {w:World} {b:Nat} {v:Value} {l:List Op3} (h:ORow w b v l.length (opc l)) (hl:l≠[]):∃ g o c,o=0∧v=.slice (some ⟨g,o,none⟩) l.length c∧l.length≤c∧b≤g∧g<w.heap.size∧∀ i x,l[i]? = some x →
 w.cell? ⟨g,o+i*3,none⟩=some (.int .i64 x.1)∧w.cell? ⟨g,o+i*3+1,none⟩=some (.int .i64 x.2.1)∧w.cell? ⟨g,o+i*3+2,none⟩=some (.int .i64 x.2.2)∧w.frozen? ⟨g,o+i*3,none⟩=false∧w.frozen? ⟨g,o+i*3+1,none⟩=false∧w.frozen? ⟨g,o+i*3+2,none⟩=false:=by
 obtain⟨a,cap,hv,hn,hh⟩:=h.row.op;obtain⟨g,o,rfl,h1,h2,h3⟩:=hh hl;refine⟨g,o,cap,?_,hv,hn,h1,h2,h3⟩;rcases h.own.2 with⟨h4,_⟩|⟨g',cap',cur,h4,_⟩
 · rw[hv] at h4;cases h4
 · rw[hv] at h4;cases h4;rfl
theorem ORow.setN {w:World} {b g o cap i:Nat} {l:List Op3} {x:Op3} {m:Int} (h0:o=0) (h:ORow w b (.slice (some ⟨g,o,none⟩) l.length cap) l.length (opc l)) (hx:l[i]? = some x) :
 ORow (w.setCell ⟨g,o+i*3+2,none⟩ m) b (.slice (some ⟨g,o,none⟩) l.length cap) l.length (opc (l.set i (x.1,x.2.1,m))):=by
 subst h0;have hi:i<l.length:=(Qd.1 hx).1;rw[←wJ l i x m hx,Xb];exact jR h.own (by rw[cG];omega)
structure Rule where
 text:List UInt8
 bits:List UInt8
 mask:Nat
 val:Nat
 mn:List UInt8
 args:List (List UInt8)
 alias:Bool
deriving DecidableEq
structure Ent where
 page:Nat
 op:Nat
 mn:List UInt8
 args:List Op3
 extra:List UInt8
 alias:Bool
deriving DecidableEq
def aPu (c:UInt8):List UInt8→List (List UInt8)
 | []=>[[]]
 | x::l=>if x=c then []::aPu c l else match aPu c l with | []=>[[x]]|w::ws=>(x::w)::ws
def aQg (p:UInt8→Bool) (l:List UInt8):Nat:=l.foldl (fun n c=>2*n+(p c).toNat) 0
def rl (t:List UInt8):Rule :=
 let w:=aPu 32 t
 let b:=w.getD 0 []
 ⟨t,b,aQg (fun c=>c == 48 || c == 49) b,aQg (fun c=>c == 49) b,w.getD 1 [],if w.getD 2 [42]=[42] then [] else aPu 44 (w.getD 2 []),w.getD (w.length - 1) [] == [42]⟩
def mainR:List Rule:=[
 rl [48,48,48,48,48,48,48,48,32,78,79,80],
 rl [48,48,48,48,49,48,48,48,32,69,88,32,65,70,44,65,70,39],
 rl [48,48,48,49,48,48,48,48,32,68,74,78,90,32,101],
 rl [48,48,48,49,49,48,48,48,32,74,82,32,101],
 rl [48,48,49,107,107,48,48,48,32,74,82,32,107,44,101],
 rl [48,48,112,112,48,48,48,49,32,76,68,32,112,44,119],
 rl [48,48,112,112,49,48,48,49,32,65,68,68,32,72,76,44,112],
 rl [48,48,48,48,48,48,49,48,32,76,68,32,40,66,67,41,44,65],
 rl [48,48,48,49,48,48,49,48,32,76,68,32,40,68,69,41,44,65],
 rl [48,48,49,48,48,48,49,48,32,76,68,32,40,119,41,44,72,76],
 rl [48,48,49,49,48,48,49,48,32,76,68,32,40,119,41,44,65],
 rl [48,48,48,48,49,48,49,48,32,76,68,32,65,44,40,66,67,41],
 rl [48,48,48,49,49,48,49,48,32,76,68,32,65,44,40,68,69,41],
 rl [48,48,49,48,49,48,49,48,32,76,68,32,72,76,44,40,119,41],
 rl [48,48,49,49,49,48,49,48,32,76,68,32,65,44,40,119,41],
 rl [48,48,112,112,48,48,49,49,32,73,78,67,32,112],
 rl [48,48,112,112,49,48,49,49,32,68,69,67,32,112],
 rl [48,48,114,114,114,49,48,48,32,73,78,67,32,114],
 rl [48,48,114,114,114,49,48,49,32,68,69,67,32,114],
 rl [48,48,114,114,114,49,49,48,32,76,68,32,114,44,110],
 rl [48,48,48,48,48,49,49,49,32,82,76,67,65],
 rl [48,48,48,48,49,49,49,49,32,82,82,67,65],
 rl [48,48,48,49,48,49,49,49,32,82,76,65],
 rl [48,48,48,49,49,49,49,49,32,82,82,65],
 rl [48,48,49,48,48,49,49,49,32,68,65,65],
 rl [48,48,49,48,49,49,49,49,32,67,80,76],
 rl [48,48,49,49,48,49,49,49,32,83,67,70],
 rl [48,48,49,49,49,49,49,49,32,67,67,70],
 rl [48,49,49,49,48,49,49,48,32,72,65,76,84],
 rl [48,49,114,114,114,115,115,115,32,76,68,32,114,44,115],
 rl [49,48,48,48,48,115,115,115,32,65,68,68,32,65,44,115],
 rl [49,48,48,48,49,115,115,115,32,65,68,67,32,65,44,115],
 rl [49,48,48,49,48,115,115,115,32,83,85,66,32,115],
 rl [49,48,48,49,49,115,115,115,32,83,66,67,32,65,44,115],
 rl [49,48,49,48,48,115,115,115,32,65,78,68,32,115],
 rl [49,48,49,48,49,115,115,115,32,88,79,82,32,115],
 rl [49,48,49,49,48,115,115,115,32,79,82,32,115],
 rl [49,48,49,49,49,115,115,115,32,67,80,32,115],
 rl [49,49,99,99,99,48,48,48,32,82,69,84,32,99],
 rl [49,49,113,113,48,48,48,49,32,80,79,80,32,113],
 rl [49,49,48,48,49,48,48,49,32,82,69,84],
 rl [49,49,48,49,49,48,48,49,32,69,88,88],
 rl [49,49,49,48,49,48,48,49,32,74,80,32,40,72,76,41],
 rl [49,49,49,49,49,48,48,49,32,76,68,32,83,80,44,72,76],
 rl [49,49,99,99,99,48,49,48,32,74,80,32,99,44,119],
 rl [49,49,48,48,48,48,49,49,32,74,80,32,119],
 rl [49,49,48,49,48,48,49,49,32,79,85,84,32,40,110,41,44,65],
 rl [49,49,48,49,49,48,49,49,32,73,78,32,65,44,40,110,41],
 rl [49,49,49,48,48,48,49,49,32,69,88,32,40,83,80,41,44,72,76],
 rl [49,49,49,48,49,48,49,49,32,69,88,32,68,69,44,72,76],
 rl [49,49,49,49,48,48,49,49,32,68,73],
 rl [49,49,49,49,49,48,49,49,32,69,73],
 rl [49,49,99,99,99,49,48,48,32,67,65,76,76,32,99,44,119],
 rl [49,49,113,113,48,49,48,49,32,80,85,83,72,32,113],
 rl [49,49,48,48,49,49,48,49,32,67,65,76,76,32,119],
 rl [49,49,48,48,48,49,49,48,32,65,68,68,32,65,44,110],
 rl [49,49,48,48,49,49,49,48,32,65,68,67,32,65,44,110],
 rl [49,49,48,49,48,49,49,48,32,83,85,66,32,110],
 rl [49,49,48,49,49,49,49,48,32,83,66,67,32,65,44,110],
 rl [49,49,49,48,48,49,49,48,32,65,78,68,32,110],
 rl [49,49,49,48,49,49,49,48,32,88,79,82,32,110],
 rl [49,49,49,49,48,49,49,48,32,79,82,32,110],
 rl [49,49,49,49,49,49,49,48,32,67,80,32,110],
 rl [49,49,116,116,116,49,49,49,32,82,83,84,32,116]]
def cbR:List Rule:=[
 rl [48,48,48,48,48,115,115,115,32,82,76,67,32,115],
 rl [48,48,48,48,49,115,115,115,32,82,82,67,32,115],
 rl [48,48,48,49,48,115,115,115,32,82,76,32,115],
 rl [48,48,48,49,49,115,115,115,32,82,82,32,115],
 rl [48,48,49,48,48,115,115,115,32,83,76,65,32,115],
 rl [48,48,49,48,49,115,115,115,32,83,82,65,32,115],
 rl [48,48,49,49,48,115,115,115,32,83,76,76,32,115],
 rl [48,48,49,49,49,115,115,115,32,83,82,76,32,115],
 rl [48,49,98,98,98,115,115,115,32,66,73,84,32,98,44,115],
 rl [49,48,98,98,98,115,115,115,32,82,69,83,32,98,44,115],
 rl [49,49,98,98,98,115,115,115,32,83,69,84,32,98,44,115]]
def edR:List Rule:=[
 rl [48,49,49,49,48,48,48,48,32,73,78,32,40,67,41],
 rl [48,49,114,114,114,48,48,48,32,73,78,32,114,44,40,67,41],
 rl [48,49,49,49,48,48,48,49,32,79,85,84,32,40,67,41,44,48],
 rl [48,49,114,114,114,48,48,49,32,79,85,84,32,40,67,41,44,114],
 rl [48,49,112,112,48,48,49,48,32,83,66,67,32,72,76,44,112],
 rl [48,49,112,112,49,48,49,48,32,65,68,67,32,72,76,44,112],
 rl [48,49,49,48,48,48,49,49,32,76,68,32,40,119,41,44,72,76,32,42],
 rl [48,49,49,48,49,48,49,49,32,76,68,32,72,76,44,40,119,41,32,42],
 rl [48,49,112,112,48,48,49,49,32,76,68,32,40,119,41,44,112],
 rl [48,49,112,112,49,48,49,49,32,76,68,32,112,44,40,119,41],
 rl [48,49,48,48,48,49,48,48,32,78,69,71],
 rl [48,49,120,120,120,49,48,48,32,78,69,71,32,42],
 rl [48,49,48,48,49,49,48,49,32,82,69,84,73],
 rl [48,49,48,48,48,49,48,49,32,82,69,84,78],
 rl [48,49,120,120,120,49,48,49,32,82,69,84,78,32,42],
 rl [48,49,48,48,48,49,49,48,32,73,77,32,48],
 rl [48,49,48,49,48,49,49,48,32,73,77,32,49],
 rl [48,49,48,49,49,49,49,48,32,73,77,32,50],
 rl [48,49,120,48,120,49,49,48,32,73,77,32,48,32,42],
 rl [48,49,49,49,48,49,49,48,32,73,77,32,49,32,42],
 rl [48,49,49,49,49,49,49,48,32,73,77,32,50,32,42],
 rl [48,49,48,48,48,49,49,49,32,76,68,32,73,44,65],
 rl [48,49,48,48,49,49,49,49,32,76,68,32,82,44,65],
 rl [48,49,48,49,48,49,49,49,32,76,68,32,65,44,73],
 rl [48,49,48,49,49,49,49,49,32,76,68,32,65,44,82],
 rl [48,49,49,48,48,49,49,49,32,82,82,68],
 rl [48,49,49,48,49,49,49,49,32,82,76,68],
 rl [49,48,49,48,48,48,48,48,32,76,68,73],
 rl [49,48,49,48,48,48,48,49,32,67,80,73],
 rl [49,48,49,48,48,48,49,48,32,73,78,73],
 rl [49,48,49,48,48,48,49,49,32,79,85,84,73],
 rl [49,48,49,48,49,48,48,48,32,76,68,68],
 rl [49,48,49,48,49,48,48,49,32,67,80,68],
 rl [49,48,49,48,49,48,49,48,32,73,78,68],
 rl [49,48,49,48,49,48,49,49,32,79,85,84,68],
 rl [49,48,49,49,48,48,48,48,32,76,68,73,82],
 rl [49,48,49,49,48,48,48,49,32,67,80,73,82],
 rl [49,48,49,49,48,48,49,48,32,73,78,73,82],
 rl [49,48,49,49,48,48,49,49,32,79,84,73,82],
 rl [49,48,49,49,49,48,48,48,32,76,68,68,82],
 rl [49,48,49,49,49,48,48,49,32,67,80,68,82],
 rl [49,48,49,49,49,48,49,48,32,73,78,68,82],
 rl [49,48,49,49,49,48,49,49,32,79,84,68,82]]
def dN (p:Nat):List Rule:=if p=0∨p=3∨p=4 then mainR else if p=1∨p=5∨p=6 then cbR else if p=2 then edR else []
def Rule.fits (r:Rule) (op:Nat):Bool:=op &&& r.mask == r.val
def qD (rs:List Rule) (op:Nat):Option Rule:=rs.find? fun r=>r.fits op
def aM (op:Nat) (letter:UInt8):Nat→List UInt8→Nat→Nat
 | _,[],n=>n
 | i,b::bs,n=>aM op letter (i+1) bs (if b=letter then 2*n+(op >>> (7 - i))%2 else n)
def cV:Nat→Op3
 | 6=>(4,2,0)
 | n=>(1,n,0)
def gT (s:List UInt8):Op3 :=
 if s=[65] then (1,7,0) else if s=[73] then (9,0,0) else if s=[82] then (9,1,0)
 else if s=[72,76] then (3,2,0) else if s=[65,70] then (3,4,0) else if s=[65,70,39] then (3,7,0) else if s=[83,80] then (3,3,0) else if s=[68,69] then (3,1,0)
 else if s=[40,66,67,41] then (4,0,0) else if s=[40,68,69,41] then (4,1,0) else if s=[40,72,76,41] then (4,2,0) else if s=[40,83,80,41] then (4,3,0) else if s=[40,67,41] then (4,8,0)
 else (0,0,0)
def dS (bits:List UInt8) (op:Nat) (s:List UInt8):Op3 × List UInt8 :=
 if s=[40,110,41] then ((7,0,0),[110]) else if s=[40,119,41] then ((7,0,0),[119])
 else match s with
  | [c] =>
    let f:=aM op c 0 bits 0
    if c=114∨c=115 then (cV f,[])
    else if c=112 then ((3,f,0),[])
    else if c=113 then ((3,if f=3 then 4 else f,0),[])
    else if c=99∨c=107 then ((8,f,0),[])
    else if c=98 then ((6,0,f),[])
    else if c=116 then ((6,0,8*f),[])
    else if c=101 then ((10,0,0),[101])
    else if c=110∨c=119 then ((6,0,0),[c])
    else if c=48∨c=49∨c=50 then ((6,0,(c - 48).toNat),[])
    else (gT s,[])
  | _=>(gT s,[])
def iQ (page op:Nat) (r:Rule):Ent:=⟨page,op,r.mn,r.args.map fun s=>(dS r.bits op s).1,r.args.flatMap fun s=>(dS r.bits op s).2,r.alias⟩
def eB (page:Nat) (rs:List Rule) (op:Nat):Option Ent:=(qD rs op).map (iQ page op)
def cB (reg:Int) (o:Op3):Option Op3 :=
 if o=(4,2,0)∨o=(3,2,0) then some (o.1,reg,o.2.2)
 else if o.1=1∧(o.2.1=4∨o.2.1=5) then some (2,2*(reg - 5)+o.2.1 - 4,0) else none
def gU (l:List Op3):Option Nat:=l.findIdx? fun o=>o == (4,2,0)
def fN (e:Ent) (page:Nat):Option Ent :=
 let reg:Int:=page - 3+5
 let i:=gU e.args
 if i.isSome∧e.mn≠[74,80] then some { e with page:=page,args:=e.args.set (i.getD 0) (5,reg,0),extra:=100::e.extra }
 else if e.op=0xEB then none
 else if e.args.any (fun o=>(cB reg o).isSome) then some { e with page:=page,args:=e.args.map fun o=>(cB reg o).getD o } else none
def tH (page op:Nat):Option Ent :=
 (eB page cbR (op/8*8+6)).map fun e =>
  let s:=op%8
  let l:=e.args.set (e.args.length - 1) (5,(page:Int) - 5+5,0)
  if s=6 then { e with op:=op,extra:=[100],args:=l }
  else if e.mn=[66,73,84] then { e with op:=op,extra:=[100],args:=l,alias:=true }
  else { e with op:=op,extra:=[100],args:=l++[((1:Int),(s:Int),(0:Int))] }
def atP (page op:Nat):Option Ent × Nat :=
 if page=0 then match eB 0 mainR op with|some e=>(some e,1)|none=>(none,2)
 else if page=1 then match eB 1 cbR op with|some e=>(some e,1)|none=>(none,0)
 else if page=2 then match eB 2 edR op with|some e=>(some e,1)|none=>(none,3)
 else if page=3∨page=4 then
  if op=0xCB then (none,2) else match (eB page mainR op).bind (fN · page) with|some e=>(some e,1)|none=>(none,0)
 else if page=5∨page=6 then (tH page op,1)
 else (none,0)
abbrev aY:=List UInt8 × List Op3
def aBm (y:Nat):List UInt8:=([[65,68,68],[65,68,67],[83,85,66],[83,66,67],[65,78,68],[88,79,82],[79,82],[67,80]]:List (List UInt8)).getD y []
def Ai (y:Nat) (o:Op3):aY:=if y=0∨y=1∨y=3 then (aBm y,[(1,7,0),o]) else (aBm y,[o])
def rpR (n last:Nat):Op3:=if n=3 then (3,last,0) else (3,n,0)
def aBE (y:Nat):List UInt8:=([[82,76,67,65],[82,82,67,65],[82,76,65],[82,82,65],[68,65,65],[67,80,76],[83,67,70],[67,67,70]]:List (List UInt8)).getD y []
def aBs (y:Nat):List UInt8:=([[82,76,67],[82,82,67],[82,76],[82,82],[83,76,65],[83,82,65],[83,76,76],[83,82,76]]:List (List UInt8)).getD y []
def Nq (y z:Nat):aY × List UInt8 :=
 if z=0 then
  if y=0 then (([78,79,80],[]),[]) else if y=1 then (([69,88],[(3,4,0),(3,7,0)]),[])
  else if y=2 then (([68,74,78,90],[(10,0,0)]),[101]) else if y=3 then (([74,82],[(10,0,0)]),[101])
  else (([74,82],[(8,(y:Int) - 4,0),(10,0,0)]),[101])
 else if z=1 then
  if y%2=0 then (([76,68],[rpR (y/2) 3,(6,0,0)]),[119]) else (([65,68,68],[(3,2,0),rpR (y/2) 3]),[])
 else if z=2 then
  let place:Op3:=if y<4 then (4,((y/2:Nat):Int),0) else (7,0,0)
  let reg:Op3:=if y<4 then (1,7,0) else if y<6 then (3,2,0) else (1,7,0)
  let extra:=if y<4 then [] else [119]
  if y%2=0 then (([76,68],[place,reg]),extra) else (([76,68],[reg,place]),extra)
 else if z=3 then ((if y%2=0 then [73,78,67] else [68,69,67],[rpR (y/2) 3]),[])
 else if z=4 then (([73,78,67],[cV y]),[])
 else if z=5 then (([68,69,67],[cV y]),[])
 else if z=6 then (([76,68],[cV y,(6,0,0)]),[110])
 else ((aBE y,[]),[])
def vD (y z:Nat):aY × List UInt8 :=
 if z=0 then (([82,69,84],[(8,y,0)]),[])
 else if z=1 then
  if y%2=0 then (([80,79,80],[rpR (y/2) 4]),[])
  else if y=1 then (([82,69,84],[]),[]) else if y=3 then (([69,88,88],[]),[]) else if y=5 then (([74,80],[(4,2,0)]),[]) else (([76,68],[(3,3,0),(3,2,0)]),[])
 else if z=2 then (([74,80],[(8,y,0),(6,0,0)]),[119])
 else if z=3 then
  if y=0 then (([74,80],[(6,0,0)]),[119]) else if y=1 then (([],[]),[])
  else if y=2 then (([79,85,84],[(7,0,0),(1,7,0)]),[110]) else if y=3 then (([73,78],[(1,7,0),(7,0,0)]),[110])
  else if y=4 then (([69,88],[(4,3,0),(3,2,0)]),[]) else if y=5 then (([69,88],[(3,1,0),(3,2,0)]),[])
  else if y=6 then (([68,73],[]),[]) else (([69,73],[]),[])
 else if z=4 then (([67,65,76,76],[(8,y,0),(6,0,0)]),[119])
 else if z=5 then
  if y%2=0 then (([80,85,83,72],[rpR (y/2) 4]),[]) else if y=1 then (([67,65,76,76],[(6,0,0)]),[119]) else (([],[]),[])
 else if z=6 then (Ai y (6,0,0),[110])
 else (([82,83,84],[(6,0,8*y)]),[])
def aZ (op:Nat):aY × List UInt8 :=
 let x:=op/64
 let y:=op/8%8
 let z:=op%8
 if x=0 then Nq y z
 else if x=1 then (if y=6∧z=6 then (([72,65,76,84],[]),[]) else (([76,68],[cV y,cV z]),[]))
 else if x=2 then (Ai y (cV z),[])
 else vD y z
def wC (op:Nat) (o:Op3):aY :=
 let y:=op/8%8
 if op/64=0 then (aBs y,[o]) else if op/64=1 then ([66,73,84],[(6,0,y),o]) else if op/64=2 then ([82,69,83],[(6,0,y),o]) else ([83,69,84],[(6,0,y),o])
def aQb (y z:Nat):List UInt8:=(([[[76,68,73],[67,80,73],[73,78,73],[79,85,84,73]],[[76,68,68],[67,80,68],[73,78,68],[79,85,84,68]],[[76,68,73,82],[67,80,73,82],[73,78,73,82],[79,84,73,82]],[[76,68,68,82],[67,80,68,82],[73,78,68,82],[79,84,68,82]]]:List (List (List UInt8))).getD (y - 4) []).getD z []
def nB (op:Nat):aY × List UInt8 × Bool :=
 let x:=op/64
 let y:=op/8%8
 let z:=op%8
 if x=2∧z<4∧4≤y then ((aQb y z,[]),[],false)
 else if x≠1 then (([],[]),[],false)
 else if z=0 then (if y=6 then (([73,78],[(4,8,0)]),[],false) else (([73,78],[cV y,(4,8,0)]),[],false))
 else if z=1 then (if y=6 then (([79,85,84],[(4,8,0),(6,0,0)]),[],false) else (([79,85,84],[(4,8,0),cV y]),[],false))
 else if z=2 then ((if y%2=0 then [83,66,67] else [65,68,67],[(3,2,0),rpR (y/2) 3]),[],false)
 else if z=3 then (if y%2=0 then (([76,68],[(7,0,0),rpR (y/2) 3]),[119],y == 4) else (([76,68],[rpR (y/2) 3,(7,0,0)]),[119],y == 5))
 else if z=4 then (([78,69,71],[]),[],decide (0<y))
 else if z=5 then (if y=1 then (([82,69,84,73],[]),[],false) else (([82,69,84,78],[]),[],decide (0<y)))
 else if z=6 then (([73,77],[(6,0,([0,0,1,2]:List Int).getD (y%4) 0)]),[],y == 1 || decide (3<y))
 else if y=0 then (([76,68],[(9,0,0),(1,7,0)]),[],false) else if y=1 then (([76,68],[(9,1,0),(1,7,0)]),[],false)
 else if y=2 then (([76,68],[(1,7,0),(9,0,0)]),[],false) else if y=3 then (([76,68],[(1,7,0),(9,1,0)]),[],false)
 else if y=4 then (([82,82,68],[]),[],false) else if y=5 then (([82,76,68],[]),[],false) else (([],[]),[],false)
def bG (i:aY) (extra:List UInt8) (reg:Int):aY × List UInt8 :=
 match gU i.2 with
 | some k=>if i.1≠[74,80] then ((i.1,i.2.set k (5,reg,0)),100::extra) else ((i.1,i.2.map fun o=>(cB reg o).getD o),extra)
 | none =>
   if i.2.all (fun o=>(cB reg o).isNone)∨i=([69,88],[(3,1,0),(3,2,0)]) then (([],[]),[])
   else ((i.1,i.2.map fun o=>(cB reg o).getD o),extra)
def nC (page op:Nat):Ent :=
 let i:=wC op (5,page,0)
 if op%8=6 then ⟨page,op,i.1,i.2,[100],false⟩
 else if op/64=1 then ⟨page,op,i.1,i.2,[100],true⟩
 else ⟨page,op,i.1,i.2++[cV (op%8)],[100],false⟩
def pN (page op:Nat) (i:aY) (extra:List UInt8) (al:Bool) (none:Nat):Option Ent × Nat:=if i.1=[] then (.none,none) else (some ⟨page,op,i.1,i.2,extra,al⟩,1)
def atR (page op:Nat):Option Ent × Nat :=
 if page=0 then pN 0 op (aZ op).1 (aZ op).2 false 2
 else if page=1 then pN 1 op (wC op (cV (op%8))) [] false 0
 else if page=2 then pN 2 op (nB op).1 (nB op).2.1 (nB op).2.2 3
 else if page=3∨page=4 then
  if op=0xCB then (none,2)
  else pN page op (bG (aZ op).1 (aZ op).2 (page+2)).1 (bG (aZ op).1 (aZ op).2 (page+2)).2 false 0
 else if page=5∨page=6 then (some (nC page op),1)
 else (none,0)
theorem Uj:∀ p:Fin 7,∀ op:Fin 256,atP p.val op.val=atR p.val op.val:=by decide +kernel
def fU (i:aY):List Op3 :=
 if i.1∈([[83,85,66],[65,78,68],[88,79,82],[79,82],[67,80]]:List (List UInt8))∧i.2.length=2∧i.2.head? = some (1,7,0) then i.2.tail
 else if i.1∈([[65,68,68],[65,68,67],[83,66,67]]:List (List UInt8))∧i.2.length=1 then (1,7,0)::i.2 else i.2
def exP (mn:List UInt8) (l:List Op3):List Op3:=if mn=[69,88]∧l=[(3,2,0),(3,1,0)] then [(3,1,0),(3,2,0)] else l
def cY (i:aY):Nat :=
 if i.1∈([[66,73,84],[82,69,83],[83,69,84],[73,77],[82,83,84],[79,85,84]]:List (List UInt8)) then 0
 else if i.1∈([[74,80],[67,65,76,76]]:List (List UInt8))∨i.1=[76,68]∧i.2.head?.map (·.1)=some 3 then 2 else 1
def sC (w:Nat) (o:Op3):Op3 :=
 if o.1=6∧o.2.2<0∧(w=1∧-128≤o.2.2∨w=2∧-32768≤o.2.2) then (o.1,o.2.1,o.2.2+if w=1 then 256 else 65536) else o
def bV (i:aY):aY:=(i.1,(exP i.1 (fU i)).map (sC (cY i)))
theorem xL (i:aY):cY (i.1,exP i.1 (fU i))=cY i:=by
 obtain⟨m,l⟩:=i;unfold cY;dsimp only;split
 · rfl
 · by_cases h:m=[76,68]
   · subst h;have h1:fU ([76,68],l)=l:=by unfold fU;dsimp only;rw[if_neg (by intro h;exact absurd h.1 dc),if_neg (by intro h;exact absurd h.1 dc)]
     have h2:exP [76,68] l=l:=by unfold exP;rw[if_neg (by intro h;exact absurd h.1 dc)]
     rw[h1,h2]
   · simp[h]
def kR (ks:List Int) (l:List Op3):Option Nat:=((List.range l.length).reverse.find? fun k=>decide ((l.getD k (0,0,0)).1∈ks))
def fJ (e:Ent):Option Nat:=if 100∈e.extra then kR [5] e.args else none
def fM (e:Ent):Option (Nat × UInt8) :=
 if 101∈e.extra then (kR [10] e.args).map (·,101) else if 110∈e.extra then (kR [6,7] e.args).map (·,110) else if 119∈e.extra then (kR [6,7] e.args).map (·,119) else none
def bM (c:UInt8) (n:Int):Bool:=if c=100∨c=101 then decide (-128≤n) && decide (n≤127) else if c=110 then decide (0≤n) && decide (n≤255) else decide (0≤n) && decide (n≤65535)
def cX (l:List Op3) (k:Nat):Int:=(l.getD k (0,0,0)).2.2
def jJ (l:List Op3) (k:Nat):List Op3:=match l[k]? with|some o=>l.set k (o.1,o.2.1,0)|none=>l
def kB (l:List Op3):List (Int × Int):=l.map fun o=>(o.1,o.2.1)
def cT (e:Ent) (c:aY):Bool:=decide (e.mn=c.1) && decide (kB e.args=kB c.2)
def We (e:Ent) (l:List Op3):Bool × List Op3 × Int:=match fJ e with|none=>(true,l,0)|some k=>(bM 100 (cX l k),jJ l k,cX l k)
def Vp (e:Ent) (l:List Op3):Bool × List Op3 × Int:=match fM e with|none=>(true,l,0)|some (k,c)=>(bM c (cX l k),jJ l k,cX l k)
def lR (e:Ent) (c:aY):Option (Int × Int) :=
 if cT e c=false then none
 else
  let d:=We e c.2
  let n:=Vp e d.2.1
  if d.1 && n.1 && decide (n.2.1=e.args) then some (d.2.2,n.2.2) else none
def aV (e:Ent) (k:Nat):UInt8 :=
 let o:=e.args.getD k (0,0,0)
 if o.1=5∧100∈e.extra then 100 else if o.1=10∧101∈e.extra then 101
 else if o.1≠6∧o.1≠7 then 0
 else if (e.args.drop (k+1)).any (fun p=>decide (p.1=6) || decide (p.1=7)) then 0
 else if 110∈e.extra then 110 else if 119∈e.extra then 119 else 0
def okR (e:Ent) (l:List Op3) (k:Nat):Bool:=if aV e k=0 then decide (cX e.args k=cX l k) else bM (aV e k) (cX l k)
def aHn (e:Ent) (c:aY):Bool:=cT e c && (List.range c.2.length).all (okR e c.2)
def zF (k r:Int):Int:=if k=2 then (if r=0∨r=1 then 5 else if r=2∨r=3 then 6 else 0) else if k=3∨k=4∨k=5 then (if r=5 then 5 else if r=6 then 6 else 0) else 0
def sD:List Op3→List Nat
 | []=>[0,1,2]
 | o::l=>if zF o.1 o.2.1=5 then [3,5] else if zF o.1 o.2.1=6 then [4,6] else sD l
def aOV (o:Op3):Bool:=decide (o.1=2) || (decide (3≤o.1) && decide (o.1≤5) && (decide (o.2.1=5) || decide (o.2.1=6)))
def aHe (l:List Op3):List Nat:=if l.any aOV then [3,4,5,6] else [0,1,2]
def aHg (p:Nat):List Ent:=(List.range 256).filterMap fun op=>(atP p op).1
def aAy (p:Nat) (mn:List UInt8):List Rule:=(dN p).filter fun r=>decide (r.mn=mn)
def dQ (p:Nat) (mn:List UInt8) (op:Nat):Option Ent :=
 if (aAy p mn).any (fun r=>r.fits op)=false then none
 else match qD (dN p) op with|none=>none|some r=>if r.mn=mn then (atP p op).1 else none
def dP (mn:List UInt8) (ps:List Nat):List Ent:=ps.flatMap fun p=>(List.range 256).filterMap (dQ p mn)
def kQ (f:Ent→Bool) (c:aY):List Ent→Int→Option Ent × Int
 | [],code=>(none,code)
 | e::l,code=>if e.alias || !cT e c then kQ f c l code else if f e then (some e,0) else kQ f c l 2
def Dc (c:aY):Option Ent × Int:=kQ (fun e=>(lR e c).isSome) c (dP c.1 (sD c.2)) 11
def aIb (c:aY):Option Ent × Int:=kQ (fun e=>aHn e c) c ((aHe c.2).flatMap aHg) 11
def kH (e:Ent) (k:Nat):UInt8:=if fJ e=some k then 100 else match fM e with|some (j,c)=>if j=k then c else 0|none=>0
def qH (p op:Nat) (e:Ent):Bool :=
 (List.range 4).all (fun k=>decide (k<e.args.length→aV e k=kH e k∧(aV e k≠0→cX e.args k=0))) && decide (e.args.length≤3) &&
 decide ((fJ e).all (·<e.args.length)) && decide ((fM e).all fun x=>x.1<e.args.length && decide (fJ e≠some x.1)) &&
 (if p=3∨p=5 then e.args.any aOV && e.args.all fun o=>zF o.1 o.2.1=5 || zF o.1 o.2.1=0 else if p=4∨p=6 then e.args.any aOV && e.args.all fun o=>zF o.1 o.2.1=6 || zF o.1 o.2.1=0 else e.args.all fun o=>!aOV o) &&
 (match qD (dN p) op with|some r=>decide (r.mn=e.mn) && r.fits op && decide (r∈dN p)|none=>false) && decide (e.page=p) && decide (e.op=op) && decide (e.mn≠[]) && e.args.all (fun o=>decide (o.1=2→0≤o.2.1∧o.2.1≤3))
theorem Tq:∀ p:Fin 7,∀ op:Fin 256,(match (atP p.val op.val).1 with|some e=>qH p.val op.val e|none=>true)=true:=by decide +kernel
theorem Dd {p op:Nat} {e:Ent} (hp:p<7) (ho:op<256) (h:(atP p op).1=some e):qH p op e=true:=by
 have:=Tq ⟨p,hp⟩ ⟨op,ho⟩
 simp only[h] at this;exact this
end
end Go.Proofs.YtoigglljnklhlaaGreatDoor
