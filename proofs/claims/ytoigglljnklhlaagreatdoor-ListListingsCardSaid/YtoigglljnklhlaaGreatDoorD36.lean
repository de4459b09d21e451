/- Joined. -/
import Derived.Test.YtoigglljnklhlaaGreatDoorD35
set_option maxHeartbeats 8000000
set_option maxRecDepth 100000
namespace Go.Proofs.YtoigglljnklhlaaGreatDoor
open Go.RowKit Go.Sort
open Go.Proofs.Tryz
theorem Cj (e:Ent) (k:Nat):aV e k=0∨aV e k=100∨aV e k=101∨aV e k=110∨aV e k=119:=by
 unfold aV;dsimp only
 repeat' split
 all_goals simp
theorem Se (l m:List Op3):opc (l++m)=opc l++opc m:=by simp[opc]
theorem Ir {e:Ent} {d n:Int} {j:Nat} {o:Op3} (h:e.args[j]? = some o):(eO e d n)[j]? = some (o.1,o.2.1,qS e d n j):=by
 simp only[eO,List.getElem?_map,List.getElem?_zipIdx,h,Option.map_some,Nat.zero_add]
theorem aAR (d:Int):(d == 0)=decide (d=0):=by by_cases h:d=0<;>simp[h]
theorem aEp {p:Prop} (h:p:=by
 rw[List.take_add_one,HFL.out];show ORow _ _ _ _ (opc (_++[(x,y,_)]))
 rw[HNW.out,Se];have h1:ORow w4 (w.heap.size+1+1+1) (.slice (some ⟨g',0,none⟩) (j+1) cap') (j+1) _:=HOWN4.out;exact dV h1 ((Kb.refl (w.heap.size+1+1) w4).setCell 1 _) om):p:=h
theorem aEo {p:Prop} (h:p:=by
 intro q u hq;rw[bD];match q,hq with
 | 0,hq=>simp at hq;subst hq;simp[go_sem]
 | 1,hq=>simp at hq;subst hq;simp[go_sem]
 | 2,hq=>simp at hq;subst hq;simp[go_sem]):p:=h
theorem aFb {p:Prop} (h:p:=by
 refine (hgrow.block q (by simp[go_sem];have:=aA ho;omega) (fun e=>?_)).trans ((Below.heap_alloc _ _ q (by first|(simp[go_sem];exact aA ho)|exact aA ho)).trans ?_)
 · have:=(HRO.out.own.lt _ e.symm).1;omega
 · exact aD ho om):p:=h
theorem aEq {p:Prop} (h:p:=by
 have hrow3:ORow (w2.setCell ⟨bx,2,none⟩ (.int .i64 n)) (w.heap.size+1+1+1) (.slice av j cv) j (opc ((eO ⟨page,op,mn,args,ex,al⟩ d n).take j)):=HRO.out.kbo (Kb.setCell (Kb.refl _ _) 2 _) (fun e=>by have:=HOLT.out _ e;omega);have HR3:=Hh hrow3;clear hrow3;go_wp2_with (at_builtin;refine wpList_append_own _ rfl _ _ 51 rfl (w.heap.size+1+1+1) 144 i0 (.agg #[.int .i64 0,.int .i64 0,.int .i64 0]) 3 24 underlying51 hi hzz0 hzz1 hzz2 rfl dc _ _ _ rfl (HR3.out.own.alloc _) ⟨w2.heap.size,0,none⟩ 1 1 [.int .i64 x,.int .i64 y,.int .i64 n] rfl rfl ?c1 ?c2 ?c3 ?c4 ?c5 ?_)
 case c1 =>
  exact aEo
 case c2=>first|exact⟨rfl,rfl⟩|(intro u hu;simp at hu;rcases hu with rfl|rfl|rfl<;>rfl)|rfl
 case c3=>unfold maxLen;omega
 case c4=>omega
 case c5=>simp[go_sem];omega
 intro v' w4 hown' hgrow _;obtain⟨g',cap',rfl⟩:=ownsRow_succ hown';have hold:∀ (q:Nat) (o:Obj),q<w.heap.size+1+1+1→w2.heap[q]? = some o→w4.heap[q]? = some o:=fun q o hq ho=>by
  exact aFb
 have h40:=hold _ _ om HE2.out;have h41:=hold _ _ om HX2.out;have h42:=hold _ _ om HO2.out;have hb4:Below w.heap.size w w4:=(((HB2.out.setCell (p:=⟨bx,2,none⟩) (by show w.heap.size≤bx;omega) (.int .i64 n)).alloc (by rw[setCell_size];exact HB2.out.size) (.cells #[.int .i64 x,.int .i64 y,.int .i64 n] 144))).grown hgrow (by simp[go_sem];have:=HB2.out.size;omega) (fun q hq=>by have:=(HRO.out.own.lt _ hq).1;omega)
 have HOWN4:=Hh hown';have H40:=Hh h40;have H41:=Hh h41;have H42:=Hh h42;have HB4:=Hh hb4;obtain⟨c0,c1,f0,f1⟩:=aL h42;have hl42:=aA h42;clear hold h40 h41 h42 hb4 hown' hgrow;go_wp2_with fail
 go_roundw
 case rel =>
  refine⟨j+1,.slice (some ⟨g',0,none⟩) (j+1) cap',om,by go_num,by rw[HUSD.out,←HUD.out];simp,by rw[HUSN.out];simp,Hh ?_,Hh ?_,Hh (aD H40.out om),Hh (aD H41.out om),Hh (aG H42.out),Hh (HB4.out.setCell (p:=⟨w.heap.size+1+1,1,none⟩) (by show w.heap.size≤w.heap.size+1+1;omega) _)⟩
  · rw[List.range_succ,List.all_append,HAL.out];simp[HFIT.out]
  · exact aEp
 case measure=>simp[intOf];omega):p:=h
theorem aDO {p:Prop} (h:p:=by
 obtain⟨s0,s1,t0,t1⟩:=aL HX2.out;have hlx:=aA HX2.out;go_wp2_with fail
 have hN:lU ⟨page,op,mn,args,ex,al⟩ d n=none:=by
  unfold lU;rw[if_neg];intro h;simp only[Bool.and_eq_true,List.all_eq_true,List.mem_range] at h
  have:=h.1.1 j HLT.out
  rw[HFIT.out] at this;cases this
 generalize hF:World.setCell (World.setCell (World.setCell w2 _ _) _ _) _ _=F;have hb9:Below w.heap.size w F:=by
  rw[←hF];exact ((HB2.out.setCell (p:=⟨bx,2,none⟩) (by show w.heap.size≤bx;omega) _).setCell (p:=⟨w.heap.size+1,0,none⟩) (by show w.heap.size≤w.heap.size+1;omega) _).setCell (p:=⟨w.heap.size+1,1,none⟩) (by show w.heap.size≤w.heap.size+1;omega) _
 have h91:F.heap[w.heap.size+1]? = some (.cells #[.string ⟨#[]⟩,.slice none 0 0] 53 (0,0)):=by rw[←hF];exact aG (aG (aD HX2.out om))
 clear hF;obtain⟨r0,r1,_,_⟩:=aL h91;have hl91:=aA h91;refine bodyPost_ret (v:=iO none (.slice none 0 0)) (by simp[results,results56,go_sem,iO,r0,r1]) rfl ⟨_,by rw[hN],fun i hi=>(by rw[hN] at hi;cases hi),hb9⟩):p:=h
theorem Db (E:Ent) (v:Value) (d n:Int) (w:World) (hE:EntAt E v w) (hl:E.args.length≤1000) (hx:E.extra.length≤1000) :
 Calls prog 56 #[cP E v,.int .i64 d,.int .i64 n] w (oW (lU E d n) w):=by
 obtain⟨i0,hi,hzz0,hzz1,hzz2⟩:=info_parts Tryz.infoOperand;have HLT0:=Hh (fun j W (hb:Below w.heap.size w W) hj=>Ci E v j W (hE.below hb) hj hl hx);have HRW:=Hh (fun W (hb:Below w.heap.size w W)=>(hE.row.below hb).op);obtain⟨page,op,mn,args,ex,al⟩:=E;dsimp only at hl hx;obtain⟨a,c,rfl,_,_⟩:=hE.row;have HLN:=Hh (show ∀ j W,Below w.heap.size w W→j<args.length→∀ z:Int,((aV ⟨page,op,mn,args,ex,al⟩ j).toNat:Int)=z→Calls prog 91 #[.agg #[.int .i64 page,.int .u8 op,.string ⟨mn.toArray⟩,.slice a args.length c,.string ⟨ex.toArray⟩,.bool al],.int .i64 j] W fun e w'=>e=.returned (.int .u8 z)∧Below W.heap.size W w' from fun j W hb hj z hz=>hz ▸ HLT0.out j W hb hj)
 unfold oW;clear HLT0 hE;show Calls prog 56 #[.agg #[.int .i64 page,.int .u8 op,.string ⟨mn.toArray⟩,.slice a args.length c,.string ⟨ex.toArray⟩,.bool al],.int .i64 d,.int .i64 n] w _
 go_enter func56,ntmps56
 go_wp2_with fail
 generalize hW0:World.alloc (World.alloc (World.alloc w _) _) _=W0;have h00:W0.heap[w.heap.size]? = some (.cells #[.int .i64 page,.int .u8 op,.string ⟨mn.toArray⟩,.slice a args.length c,.string ⟨ex.toArray⟩,.bool al] 107 (0,0)):=by rw[←hW0];exact aE (aE (aF _ _))
 have h01:W0.heap[w.heap.size+1]? = some (.cells #[.string ⟨#[]⟩,.slice none 0 0] 53 (0,0)):=by
  rw[←hW0];refine aE ?_;have h1:=aF (w.alloc (.cells #[.int .i64 page,.int .u8 op,.string ⟨mn.toArray⟩,.slice a args.length c,.string ⟨ex.toArray⟩,.bool al] 107)) (.cells #[.string ⟨#[]⟩,.slice none 0 0] 53)
  rwa [World.size_alloc] at h1
 have h02:W0.heap[w.heap.size+1+1]? = some (.cells #[.string ⟨mn.toArray⟩,.slice none 0 0] 53 (0,0)):=by
  rw[←hW0];have h1:=aF ((w.alloc (.cells #[.int .i64 page,.int .u8 op,.string ⟨mn.toArray⟩,.slice a args.length c,.string ⟨ex.toArray⟩,.bool al] 107)).alloc (.cells #[.string ⟨#[]⟩,.slice none 0 0] 53)) (.cells #[.string ⟨mn.toArray⟩,.slice none 0 0] 53);rw[World.size_alloc,World.size_alloc] at h1;exact h1
 have hB0:Below w.heap.size w W0:=by rw[←hW0];exact bl
 have H00:=Hh h00;have H01:=Hh h01;have H02:=Hh h02;have HB0:=Hh hB0;clear hW0 h00 h01 h02 hB0;go_loopw [9,10,11] (fun ud un i wr=>∃ (j:Nat) (vo:Value),j≤args.length∧i=.int .i64 j∧ud=.bool (decide (d=0) || (List.range j).any (nO ⟨page,op,mn,args,ex,al⟩))∧un=.bool (decide (n=0) || (List.range j).any (nN ⟨page,op,mn,args,ex,al⟩))∧Hid ((List.range j).all (oK ⟨page,op,mn,args,ex,al⟩ d n)=true)∧Hid (ORow wr (w.heap.size+1+1+1) vo j (opc ((eO ⟨page,op,mn,args,ex,al⟩ d n).take j)))∧Hid (wr.heap[w.heap.size]? = some (.cells #[.int .i64 page,.int .u8 op,.string ⟨mn.toArray⟩,.slice a args.length c,.string ⟨ex.toArray⟩,.bool al] 107 (0,0)))∧Hid (wr.heap[w.heap.size+1]? = some (.cells #[.string ⟨#[]⟩,.slice none 0 0] 53 (0,0)))∧Hid (wr.heap[w.heap.size+1+1]? = some (.cells #[.string ⟨mn.toArray⟩,vo] 53 (0,0)))∧Hid (Below w.heap.size w wr)) (fun _ _ i _=>args.length - (intOf i).toNat)
 case atStart=>exact⟨0,.slice none 0 0,Nat.zero_le _,rfl,by simp[aAR],by simp[aAR],Hh sm,Hh (ORow.nil _ _),H00,H01,H02,HB0⟩
 case round =>
  obtain⟨j,vo,hj,rfl,rfl,rfl,HAL,HRO,HE0,HX0,HO0,HB⟩:=hrel;obtain⟨ud,hud⟩:∃ ud,(decide (d=0) || (List.range j).any (nO ⟨page,op,mn,args,ex,al⟩))=ud:=⟨_,rfl⟩;obtain⟨un,hun⟩:∃ un,(decide (n=0) || (List.range j).any (nN ⟨page,op,mn,args,ex,al⟩))=un:=⟨_,rfl⟩;rw[hud,hun];have HUD:=Hh hud;have HUN:=Hh hun;clear hud hun;obtain⟨av,cv,rfl⟩:=HRO.out.slice;obtain⟨⟨x0,x1,x2,x3,x4,x5⟩,_⟩:=aN HE0.out;obtain⟨o0,o1,_,_⟩:=aL HO0.out;have hl0:=aA HE0.out;have hl1:=aA HX0.out;have hl2:=aA HO0.out;by_cases hlt:j<args.length
  · obtain⟨⟨x,y,z⟩,ho⟩:∃ x,args[j]? = some x:=⟨_,List.getElem?_eq_getElem hlt⟩;obtain⟨_,_,hv,hcap,hop⟩:=HRW.out wr HB.out;cases hv
    obtain⟨g,off,rfl,hg,hcs⟩:=hop (by rintro rfl;exact absurd hlt (Nat.not_lt_zero _))
    obtain⟨k0,k1,k2⟩:=hcs j _ ho;dsimp only at k0 k1 k2;have hi0:(0:Int)≤(j:Int):=om
    have hi1:(j:Int)<(args.length:Int):=om
    have hfl:(eO ⟨page,op,mn,args,ex,al⟩ d n)[j]?.toList=[(x,y,qS ⟨page,op,mn,args,ex,al⟩ d n j)]:=by rw[Ir (o:=(x,y,z)) ho];rfl
    have HFL:=Hh hfl;have hnum:cX args j=z:=by unfold cX;rw[List.getD_eq_getElem?_getD,ho];rfl
    have hnw:qS ⟨page,op,mn,args,ex,al⟩ d n j=if aV ⟨page,op,mn,args,ex,al⟩ j=100 then d else if aV ⟨page,op,mn,args,ex,al⟩ j=101∨aV ⟨page,op,mn,args,ex,al⟩ j=110∨aV ⟨page,op,mn,args,ex,al⟩ j=119 then n else z:=by rw[←hnum];rfl
    have hfit:oK ⟨page,op,mn,args,ex,al⟩ d n j=(decide (aV ⟨page,op,mn,args,ex,al⟩ j=0) || bM (aV ⟨page,op,mn,args,ex,al⟩ j) (qS ⟨page,op,mn,args,ex,al⟩ d n j)):=rfl;have husd:((List.range (j+1)).any (nO ⟨page,op,mn,args,ex,al⟩))=((List.range j).any (nO ⟨page,op,mn,args,ex,al⟩) || decide (aV ⟨page,op,mn,args,ex,al⟩ j=100)):=by rw[List.range_succ,List.any_append];simp[nO]
    have husn:((List.range (j+1)).any (nN ⟨page,op,mn,args,ex,al⟩))=((List.range j).any (nN ⟨page,op,mn,args,ex,al⟩) || (decide (aV ⟨page,op,mn,args,ex,al⟩ j=101) || decide (aV ⟨page,op,mn,args,ex,al⟩ j=110) || decide (aV ⟨page,op,mn,args,ex,al⟩ j=119))):=by rw[List.range_succ,List.any_append];simp[nN]
    have hln:=fun W hb z hz=>HLN.out j W hb hlt z hz;have HLT:=Hh hlt;rcases Cj ⟨page,op,mn,args,ex,al⟩ j with hL|hL|hL|hL|hL;all_goals
     rw[hL] at hnw hfit hln husd husn;have hln2:=fun W hb=>hln W hb _ rfl;have HLN2:=Hh hln2;have HNW:=Hh hnw;have HUSD:=Hh husd;have HUSN:=Hh husn;have HFIT0:=Hh hfit;clear hln2 hln hnw hfit hL ho hcs hop hnum hfl husd husn
    · go_wp2_with fail
      have hal:Below wr.heap.size wr (wr.alloc (.cells #[.int .i64 x,.int .i64 y,.int .i64 z] 144)):=br.alloc lr _;(with_reducible refine (HLN2.out _ (HB.out.trans (hal.mono HB.out.size))).mono ?_);rintro e w2 ⟨rfl,hb2⟩;have hbx:=aB (aF wr (.cells #[.int .i64 x,.int .i64 y,.int .i64 z] 144)) hb2 sm;have hbw:=hal.trans (hb2.mono hal.size);obtain⟨bx,hbxe⟩:∃ bx,wr.heap.size=bx:=⟨_,rfl⟩;have HE2:=Hh (aB HE0.out hbw hl0);have HX2:=Hh (aB HX0.out hbw hl1);have HO2:=Hh (aB HO0.out hbw hl2);have hro2:=HRO.out.below hbw;have HB2:=Hh (HB.out.trans (hbw.mono HB.out.size));have hownlt:∀ q,(Value.slice av j cv).ownBlock=some q→q<bx:=fun q hq=>by rw[←hbxe];exact (HRO.out.own.lt q hq).2
      rw[hbxe] at hbx hl0 hl1 hl2 ⊢;clear hbxe hbw hb2 hal HRO HE0 HX0 HO0 HB k0 k1 k2 x0 x1 x2 x3 x4 x5 o0 o1 hg hlt;have HRO:=Hh hro2;have HOLT:=Hh hownlt;obtain⟨b0,b1,b2,fb0,fb1,fb2⟩:=bE hbx;obtain⟨o0,o1,_,_⟩:=aL HO2.out;have hlb:=aA hbx;clear hbx hro2 hownlt;have hfit:oK ⟨page,op,mn,args,ex,al⟩ d n j=true:=by rw[HFIT0.out];rfl
      have HFIT:=Hh hfit;clear hfit;have hrow3:ORow w2 (w.heap.size+1+1+1) (.slice av j cv) j (opc ((eO ⟨page,op,mn,args,ex,al⟩ d n).take j)):=HRO.out;have HR3:=Hh hrow3;clear hrow3;go_wp2_with (at_builtin;refine wpList_append_own _ rfl _ _ 51 rfl (w.heap.size+1+1+1) 144 i0 (.agg #[.int .i64 0,.int .i64 0,.int .i64 0]) 3 24 underlying51 hi hzz0 hzz1 hzz2 rfl dc _ _ _ rfl (HR3.out.own.alloc _) ⟨w2.heap.size,0,none⟩ 1 1 [.int .i64 x,.int .i64 y,.int .i64 z] rfl rfl ?c1 ?c2 ?c3 ?c4 ?c5 ?_)
      case c1 =>
       exact aEo
      case c2=>first|exact⟨rfl,rfl⟩|(intro u hu;simp at hu;rcases hu with rfl|rfl|rfl<;>rfl)|rfl
      case c3=>unfold maxLen;omega
      case c4=>omega
      case c5=>simp[go_sem];omega
      intro v' w4 hown' hgrow _;obtain⟨g',cap',rfl⟩:=ownsRow_succ hown';have hold:∀ (q:Nat) (o:Obj),q<w.heap.size+1+1+1→w2.heap[q]? = some o→w4.heap[q]? = some o:=fun q o hq ho=>by
       refine (hgrow.block q (by simp[go_sem];have:=aA ho;omega) (fun e=>?_)).trans ((Below.heap_alloc _ _ q (by first|(simp[go_sem];exact aA ho)|exact aA ho)).trans ?_)
       · have:=(HRO.out.own.lt _ e.symm).1;omega
       · exact ho
      have h40:=hold _ _ om HE2.out;have h41:=hold _ _ om HX2.out;have h42:=hold _ _ om HO2.out;have hb4:Below w.heap.size w w4:=(((HB2.out).alloc (by exact HB2.out.size) (.cells #[.int .i64 x,.int .i64 y,.int .i64 z] 144))).grown hgrow (by simp[go_sem];have:=HB2.out.size;omega) (fun q hq=>by have:=(HRO.out.own.lt _ hq).1;omega)
      have HOWN4:=Hh hown';have H40:=Hh h40;have H41:=Hh h41;have H42:=Hh h42;have HB4:=Hh hb4;obtain⟨c0,c1,f0,f1⟩:=aL h42;have hl42:=aA h42;clear hold h40 h41 h42 hb4 hown' hgrow;go_wp2_with fail
      go_roundw
      case rel =>
       refine⟨j+1,.slice (some ⟨g',0,none⟩) (j+1) cap',om,by go_num,by rw[HUSD.out,←HUD.out];simp,by rw[HUSN.out,←HUN.out];simp,Hh ?_,Hh ?_,Hh (aD H40.out om),Hh (aD H41.out om),Hh (aG H42.out),Hh (HB4.out.setCell (p:=⟨w.heap.size+1+1,1,none⟩) (by show w.heap.size≤w.heap.size+1+1;omega) _)⟩
       · rw[List.range_succ,List.all_append,HAL.out];simp[HFIT.out]
       · exact aEp
      case measure=>simp[intOf];omega
    · go_wp2_with fail
      have hal:Below wr.heap.size wr (wr.alloc (.cells #[.int .i64 x,.int .i64 y,.int .i64 z] 144)):=br.alloc lr _;(with_reducible refine (HLN2.out _ (HB.out.trans (hal.mono HB.out.size))).mono ?_);rintro e w2 ⟨rfl,hb2⟩;have hbx:=aB (aF wr (.cells #[.int .i64 x,.int .i64 y,.int .i64 z] 144)) hb2 sm;have hbw:=hal.trans (hb2.mono hal.size);obtain⟨bx,hbxe⟩:∃ bx,wr.heap.size=bx:=⟨_,rfl⟩;have HE2:=Hh (aB HE0.out hbw hl0);have HX2:=Hh (aB HX0.out hbw hl1);have HO2:=Hh (aB HO0.out hbw hl2);have hro2:=HRO.out.below hbw;have HB2:=Hh (HB.out.trans (hbw.mono HB.out.size));have hownlt:∀ q,(Value.slice av j cv).ownBlock=some q→q<bx:=fun q hq=>by rw[←hbxe];exact (HRO.out.own.lt q hq).2
      rw[hbxe] at hbx hl0 hl1 hl2 ⊢;clear hbxe hbw hb2 hal HRO HE0 HX0 HO0 HB k0 k1 k2 x0 x1 x2 x3 x4 x5 o0 o1 hg hlt;have HRO:=Hh hro2;have HOLT:=Hh hownlt;obtain⟨b0,b1,b2,fb0,fb1,fb2⟩:=bE hbx;obtain⟨o0,o1,_,_⟩:=aL HO2.out;have hlb:=aA hbx;clear hbx hro2 hownlt;have hwn:=fun W=>gV 100 100 d rfl W;obtain⟨V,hV⟩:∃ V,bM 100 d=V:=⟨_,rfl⟩;rw[hV] at hwn;have HWN:=Hh hwn;have hfit:oK ⟨page,op,mn,args,ex,al⟩ d n j=V:=by rw[HFIT0.out,HNW.out,←hV];rfl
      have HFIT:=Hh hfit;clear hfit hV hwn;go_wp2_with fail
      (with_reducible refine (HWN.out _).mono ?_);rintro e w3 ⟨rfl,rfl⟩;cases V
      · exact aDO
      · have hrow3:ORow (w2.setCell ⟨bx,2,none⟩ (.int .i64 d)) (w.heap.size+1+1+1) (.slice av j cv) j (opc ((eO ⟨page,op,mn,args,ex,al⟩ d n).take j)):=HRO.out.kbo (Kb.setCell (Kb.refl _ _) 2 _) (fun e=>by have:=HOLT.out _ e;omega);have HR3:=Hh hrow3;clear hrow3;go_wp2_with (at_builtin;refine wpList_append_own _ rfl _ _ 51 rfl (w.heap.size+1+1+1) 144 i0 (.agg #[.int .i64 0,.int .i64 0,.int .i64 0]) 3 24 underlying51 hi hzz0 hzz1 hzz2 rfl dc _ _ _ rfl (HR3.out.own.alloc _) ⟨w2.heap.size,0,none⟩ 1 1 [.int .i64 x,.int .i64 y,.int .i64 d] rfl rfl ?c1 ?c2 ?c3 ?c4 ?c5 ?_)
        case c1 =>
         exact aEo
        case c2=>first|exact⟨rfl,rfl⟩|(intro u hu;simp at hu;rcases hu with rfl|rfl|rfl<;>rfl)|rfl
        case c3=>unfold maxLen;omega
        case c4=>omega
        case c5=>simp[go_sem];omega
        intro v' w4 hown' hgrow _;obtain⟨g',cap',rfl⟩:=ownsRow_succ hown';have hold:∀ (q:Nat) (o:Obj),q<w.heap.size+1+1+1→w2.heap[q]? = some o→w4.heap[q]? = some o:=fun q o hq ho=>by
         exact aFb
        have h40:=hold _ _ om HE2.out;have h41:=hold _ _ om HX2.out;have h42:=hold _ _ om HO2.out;have hb4:Below w.heap.size w w4:=(((HB2.out.setCell (p:=⟨bx,2,none⟩) (by show w.heap.size≤bx;omega) (.int .i64 d)).alloc (by rw[setCell_size];exact HB2.out.size) (.cells #[.int .i64 x,.int .i64 y,.int .i64 d] 144))).grown hgrow (by simp[go_sem];have:=HB2.out.size;omega) (fun q hq=>by have:=(HRO.out.own.lt _ hq).1;omega)
        have HOWN4:=Hh hown';have H40:=Hh h40;have H41:=Hh h41;have H42:=Hh h42;have HB4:=Hh hb4;obtain⟨c0,c1,f0,f1⟩:=aL h42;have hl42:=aA h42;clear hold h40 h41 h42 hb4 hown' hgrow;go_wp2_with fail
        go_roundw
        case rel =>
         refine⟨j+1,.slice (some ⟨g',0,none⟩) (j+1) cap',om,by go_num,by rw[HUSD.out];simp,by rw[HUSN.out,←HUN.out];simp,Hh ?_,Hh ?_,Hh (aD H40.out om),Hh (aD H41.out om),Hh (aG H42.out),Hh (HB4.out.setCell (p:=⟨w.heap.size+1+1,1,none⟩) (by show w.heap.size≤w.heap.size+1+1;omega) _)⟩
         · rw[List.range_succ,List.all_append,HAL.out];simp[HFIT.out]
         · exact aEp
        case measure=>simp[intOf];omega
    · go_wp2_with fail
      have hal:Below wr.heap.size wr (wr.alloc (.cells #[.int .i64 x,.int .i64 y,.int .i64 z] 144)):=br.alloc lr _;(with_reducible refine (HLN2.out _ (HB.out.trans (hal.mono HB.out.size))).mono ?_);rintro e w2 ⟨rfl,hb2⟩;have hbx:=aB (aF wr (.cells #[.int .i64 x,.int .i64 y,.int .i64 z] 144)) hb2 sm;have hbw:=hal.trans (hb2.mono hal.size);obtain⟨bx,hbxe⟩:∃ bx,wr.heap.size=bx:=⟨_,rfl⟩;have HE2:=Hh (aB HE0.out hbw hl0);have HX2:=Hh (aB HX0.out hbw hl1);have HO2:=Hh (aB HO0.out hbw hl2);have hro2:=HRO.out.below hbw;have HB2:=Hh (HB.out.trans (hbw.mono HB.out.size));have hownlt:∀ q,(Value.slice av j cv).ownBlock=some q→q<bx:=fun q hq=>by rw[←hbxe];exact (HRO.out.own.lt q hq).2
      rw[hbxe] at hbx hl0 hl1 hl2 ⊢;clear hbxe hbw hb2 hal HRO HE0 HX0 HO0 HB k0 k1 k2 x0 x1 x2 x3 x4 x5 o0 o1 hg hlt;have HRO:=Hh hro2;have HOLT:=Hh hownlt;obtain⟨b0,b1,b2,fb0,fb1,fb2⟩:=bE hbx;obtain⟨o0,o1,_,_⟩:=aL HO2.out;have hlb:=aA hbx;clear hbx hro2 hownlt;have hwn:=fun W=>gV 101 101 n rfl W;obtain⟨V,hV⟩:∃ V,bM 101 n=V:=⟨_,rfl⟩;rw[hV] at hwn;have HWN:=Hh hwn;have hfit:oK ⟨page,op,mn,args,ex,al⟩ d n j=V:=by rw[HFIT0.out,HNW.out,←hV];rfl
      have HFIT:=Hh hfit;clear hfit hV hwn;go_wp2_with fail
      (with_reducible refine (HWN.out _).mono ?_);rintro e w3 ⟨rfl,rfl⟩;cases V
      · exact aDO
      · exact aEq
    · go_wp2_with fail
      have hal:Below wr.heap.size wr (wr.alloc (.cells #[.int .i64 x,.int .i64 y,.int .i64 z] 144)):=br.alloc lr _;(with_reducible refine (HLN2.out _ (HB.out.trans (hal.mono HB.out.size))).mono ?_);rintro e w2 ⟨rfl,hb2⟩;have hbx:=aB (aF wr (.cells #[.int .i64 x,.int .i64 y,.int .i64 z] 144)) hb2 sm;have hbw:=hal.trans (hb2.mono hal.size);obtain⟨bx,hbxe⟩:∃ bx,wr.heap.size=bx:=⟨_,rfl⟩;have HE2:=Hh (aB HE0.out hbw hl0);have HX2:=Hh (aB HX0.out hbw hl1);have HO2:=Hh (aB HO0.out hbw hl2);have hro2:=HRO.out.below hbw;have HB2:=Hh (HB.out.trans (hbw.mono HB.out.size));have hownlt:∀ q,(Value.slice av j cv).ownBlock=some q→q<bx:=fun q hq=>by rw[←hbxe];exact (HRO.out.own.lt q hq).2
      rw[hbxe] at hbx hl0 hl1 hl2 ⊢;clear hbxe hbw hb2 hal HRO HE0 HX0 HO0 HB k0 k1 k2 x0 x1 x2 x3 x4 x5 o0 o1 hg hlt;have HRO:=Hh hro2;have HOLT:=Hh hownlt;obtain⟨b0,b1,b2,fb0,fb1,fb2⟩:=bE hbx;obtain⟨o0,o1,_,_⟩:=aL HO2.out;have hlb:=aA hbx;clear hbx hro2 hownlt;have hwn:=fun W=>gV 110 110 n rfl W;obtain⟨V,hV⟩:∃ V,bM 110 n=V:=⟨_,rfl⟩;rw[hV] at hwn;have HWN:=Hh hwn;have hfit:oK ⟨page,op,mn,args,ex,al⟩ d n j=V:=by rw[HFIT0.out,HNW.out,←hV];rfl
      have HFIT:=Hh hfit;clear hfit hV hwn;go_wp2_with fail
      (with_reducible refine (HWN.out _).mono ?_);rintro e w3 ⟨rfl,rfl⟩;cases V
      · exact aDO
      · exact aEq
    · go_wp2_with fail
      have hal:Below wr.heap.size wr (wr.alloc (.cells #[.int .i64 x,.int .i64 y,.int .i64 z] 144)):=br.alloc lr _;(with_reducible refine (HLN2.out _ (HB.out.trans (hal.mono HB.out.size))).mono ?_);rintro e w2 ⟨rfl,hb2⟩;have hbx:=aB (aF wr (.cells #[.int .i64 x,.int .i64 y,.int .i64 z] 144)) hb2 sm;have hbw:=hal.trans (hb2.mono hal.size);obtain⟨bx,hbxe⟩:∃ bx,wr.heap.size=bx:=⟨_,rfl⟩;have HE2:=Hh (aB HE0.out hbw hl0);have HX2:=Hh (aB HX0.out hbw hl1);have HO2:=Hh (aB HO0.out hbw hl2);have hro2:=HRO.out.below hbw;have HB2:=Hh (HB.out.trans (hbw.mono HB.out.size));have hownlt:∀ q,(Value.slice av j cv).ownBlock=some q→q<bx:=fun q hq=>by rw[←hbxe];exact (HRO.out.own.lt q hq).2
      rw[hbxe] at hbx hl0 hl1 hl2 ⊢;clear hbxe hbw hb2 hal HRO HE0 HX0 HO0 HB k0 k1 k2 x0 x1 x2 x3 x4 x5 o0 o1 hg hlt;have HRO:=Hh hro2;have HOLT:=Hh hownlt;obtain⟨b0,b1,b2,fb0,fb1,fb2⟩:=bE hbx;obtain⟨o0,o1,_,_⟩:=aL HO2.out;have hlb:=aA hbx;clear hbx hro2 hownlt;have hwn:=fun W=>gV 119 119 n rfl W;obtain⟨V,hV⟩:∃ V,bM 119 n=V:=⟨_,rfl⟩;rw[hV] at hwn;have HWN:=Hh hwn;have hfit:oK ⟨page,op,mn,args,ex,al⟩ d n j=V:=by rw[HFIT0.out,HNW.out,←hV];rfl
      have HFIT:=Hh hfit;clear hfit hV hwn;go_wp2_with fail
      (with_reducible refine (HWN.out _).mono ?_);rintro e w3 ⟨rfl,rfl⟩;cases V
      · exact aDO
      · exact aEq
  · obtain rfl:j=args.length:=om
    have htk:(eO ⟨page,op,mn,args,ex,al⟩ d n).take args.length=eO ⟨page,op,mn,args,ex,al⟩ d n:=List.take_of_length_le (by simp[eO]);have hro2:=HRO.out;rw[htk] at hro2;have HRO2:=Hh hro2;clear hro2;have hres:lU ⟨page,op,mn,args,ex,al⟩ d n=if ud && un then some (mn,eO ⟨page,op,mn,args,ex,al⟩ d n) else none:=by
     unfold lU;dsimp only;rw[HAL.out,HUD.out,HUN.out];simp
    have HRES:=Hh hres;have hfl:(eO ⟨page,op,mn,args,ex,al⟩ d n).length=args.length:=by simp[eO]
    have HFLN:=Hh hfl;obtain⟨r0,r1,f0,f1⟩:=aL HX0.out;clear htk hres hfl;cases ud<;>cases un
    case true.true =>
     go_wp2_with fail
     generalize hF:World.setCell (World.setCell wr _ _) _ _=F;have h91:F.heap[w.heap.size+1]? = some (.cells #[.string ⟨mn.toArray⟩,.slice av args.length cv] 53 (0,0)):=by rw[←hF];exact aG (aG HX0.out)
     have hro9:ORow F (w.heap.size+1+1+1) (.slice av args.length cv) args.length (opc (eO ⟨page,op,mn,args,ex,al⟩ d n)):=by rw[←hF];exact dV HRO2.out (Kb.setCell (Kb.setCell (Kb.refl (w.heap.size+1) _) _ _) _ _) om
     have hb9:Below w.heap.size w F:=by rw[←hF];exact (HB.out.setCell (p:=⟨w.heap.size+1,0,none⟩) (by show w.heap.size≤w.heap.size+1;omega) _).setCell (p:=⟨w.heap.size+1,1,none⟩) (by show w.heap.size≤w.heap.size+1;omega) _
     clear hF;obtain⟨s0,s1,_,_⟩:=aL h91;have hl91:=aA h91;have hR:lU ⟨page,op,mn,args,ex,al⟩ d n=some (mn,eO ⟨page,op,mn,args,ex,al⟩ d n):=by rw[HRES.out];rfl
     refine bodyPost_ret (v:=iO (some (mn,eO ⟨page,op,mn,args,ex,al⟩ d n)) (.slice av args.length cv)) (by simp[results,results56,go_sem,iO,s0,s1]) rfl ⟨.slice av args.length cv,by rw[hR],fun i hi=>?_,hb9⟩
     rw[hR] at hi;cases hi
     show ORow _ _ _ (eO _ d n).length _
     rw[HFLN.out];exact hro9.mono om
    all_goals
     go_wp2_with fail
     generalize hF:World.setCell (World.setCell wr _ _) _ _=F;have h91:F.heap[w.heap.size+1]? = some (.cells #[.string ⟨#[]⟩,.slice none 0 0] 53 (0,0)):=by rw[←hF];exact aG (aG HX0.out)
     have hb9:Below w.heap.size w F:=by rw[←hF];exact (HB.out.setCell (p:=⟨w.heap.size+1,0,none⟩) (by show w.heap.size≤w.heap.size+1;omega) _).setCell (p:=⟨w.heap.size+1,1,none⟩) (by show w.heap.size≤w.heap.size+1;omega) _
     clear hF;obtain⟨s0,s1,_,_⟩:=aL h91;have hl91:=aA h91;have hR:lU ⟨page,op,mn,args,ex,al⟩ d n=none:=by rw[HRES.out];rfl
     refine bodyPost_ret (v:=iO none (.slice none 0 0)) (by simp[results,results56,go_sem,iO,s0,s1]) rfl ⟨_,by rw[hR],fun i hi=>(by rw[hR] at hi;cases hi),hb9⟩
theorem aHd (c:UInt8) (z n:Int) (hz:(c.toNat:Int)=z) (w:World):Calls prog 92 #[.int .u8 z,.int .i64 n] w fun e w'=>e=.returned (.bool (bM c n))∧w'=w :=
 (gV c z n hz w).mono fun _ _ h=>⟨h.1,h.2.symm⟩
theorem aHW {p:Prop} (h:p:=by
 have hr:R=false:=by
  rw[←HR.out,Bool.true_and];refine Bool.eq_false_iff.2 fun h=>?_
  have:=List.all_eq_true.1 h j (List.mem_range.2 hlt)
  rw[HOK.out,if_neg dc,HBB.out] at this;cases this
 subst hr;go_wp2_with fail
 go_quiet (exact Calls.quiet_of_same (HWI.out _))
 go_wp2_with fail
 go_ret;exact⟨rfl,aHb HBW3.out _⟩):p:=h
theorem aHV {p:Prop} (h:p:=by
 go_wp2_with fail
 go_quiet (exact Calls.quiet_of_same (HWI.out _))
 go_wp2_with fail
 go_roundw
 case rel =>
  refine⟨j+1,om,by go_num,Hh (aHb HB6.out _),Hh ?_⟩
  rw[List.range_succ,List.all_append,HS.out,List.all_cons,HOK.out,if_neg dc,HBB.out];rfl
 case measure=>simp[intOf];omega):p:=h
theorem aJv (E:Ent) (v:Value) (m:List UInt8) (u:Value) (_l lc:List Op3) (w:World) (hE:EntAt E v w) (hl:lc.length≤1000) (hla:E.args.length≤1000) (hx:E.extra.length≤1000)
 (hof:∀ W,Below w.heap.size w W→Calls prog 98 #[eU m u] W fun e w'=>∃ v',e=.returned (eU m v')∧Row w' v' lc.length (opc lc)∧Below W.heap.size W w') :
 Calls prog 140 #[cP E v,eU m u] w fun e w'=>e=.returned (.bool (aHn E (m,lc)))∧Below w.heap.size w w':=by
 obtain⟨R,hR⟩:∃ R,aHn E (m,lc)=R:=⟨_,rfl⟩;rw[hR];unfold aHn at hR;dsimp only at hR;have HSH:=Hh (fun q W (hE:EntAt E v W) (hq:Row W q lc.length (opc lc))=>aHs E v m q lc W hE hq hl hla);have HLT:=Hh (fun k W (hk:k<E.args.length) (hE:EntAt E v W)=>Ci E v k W hE hk hla hx);obtain⟨P,hP⟩:∃ P,cT E (m,lc)=P:=⟨_,rfl⟩;rw[hP] at hR HSH;have HR:=Hh hR;clear hR;have HP:=Hh hP;clear hP;obtain⟨a,c,rfl,_,_⟩:=id hE.row.op;have HOF:=Hh hof;have HE:=Hh hE;clear hof hE;unfold eU at HOF;obtain⟨pg,hpg⟩:∃ x,E.page=x:=⟨_,rfl⟩;obtain⟨op,hop⟩:∃ x,E.op=x:=⟨_,rfl⟩;obtain⟨mn,hmn⟩:∃ x,E.mn=x:=⟨_,rfl⟩;obtain⟨ex,hex⟩:∃ x,E.extra=x:=⟨_,rfl⟩;obtain⟨al,hal⟩:∃ x,E.alias=x:=⟨_,rfl⟩;unfold eU cP at HSH ⊢;unfold cP at HLT;rw[hpg,hop,hmn,hex,hal] at HSH HLT ⊢;go_enter func140,ntmps140
 go_wp2_with fail
 obtain⟨W0,hW0⟩:∃ W,(w.alloc (.cells #[.int .i64 pg,.int .u8 op,.string ⟨mn.toArray⟩,.slice a E.args.length c,.string ⟨ex.toArray⟩,.bool al] 107)).alloc (.cells #[.string ⟨m.toArray⟩,u] 53)=W:=⟨_,rfl⟩;rw[hW0];have hb0:Below w.heap.size w W0:=by rw[←hW0];exact bl
 have hx1:W0.heap[w.heap.size]? = some (.cells #[.int .i64 pg,.int .u8 op,.string ⟨mn.toArray⟩,.slice a E.args.length c,.string ⟨ex.toArray⟩,.bool al] 107 (0,0)):=by rw[←hW0];exact aE (aF _ _)
 clear hW0;(with_reducible refine (HOF.out _ hb0).mono ?_);rintro e w1 ⟨v',rfl,hrow,hb1⟩;obtain⟨a',c',rfl,_⟩:=id hrow.op;have hx1':=aB hx1 hb1 (aA hx1);obtain⟨p0,p1,p2,p3,p4,p5⟩:=(aN hx1').1;have hl1:=aA hx1';have HB:=Hh hb0;have HB1:=Hh hb1;have HX1:=Hh hx1';have HRW:=Hh hrow;clear hb0 hb1 hx1 hx1' hrow;go_wp2_with fail
 obtain⟨W1,hW1⟩:∃ W,w1.alloc (.cells #[.string ⟨m.toArray⟩,.slice a' lc.length c'] 53)=W:=⟨_,rfl⟩;rw[hW1];have hb2:Below w1.heap.size w1 W1:=by rw[←hW1];exact bl
 have hx2:W1.heap[w1.heap.size]? = some (.cells #[.string ⟨m.toArray⟩,.slice a' lc.length c'] 53 (0,0)):=by rw[←hW1];exact aF _ _
 have hbw1:Below w.heap.size w W1:=HB.out.trans ((HB1.out.mono HB.out.size).trans (hb2.mono (Nat.le_trans HB.out.size HB1.out.size)));have hrw1:=HRW.out.below hb2;have hx1:=aB HX1.out hb2 (aA HX1.out);have hE1:=HE.out.below hbw1;clear hW1 hb2 p0 p1 p2 p3 p4 p5 hl1 HB HB1 HX1 HRW;(with_reducible refine (HSH.out _ _ hE1 hrw1).mono ?_);rintro e w2 ⟨rfl,hb3⟩;have hb4:Below w.heap.size w w2:=hbw1.trans (hb3.mono hbw1.size);cases P
 · have hr:R=false:=by rw[←HR.out];rfl
   subst hr;go_wp2_with fail
   go_ret;exact⟨rfl,hb4⟩
 · have HBX:=Hh (fun W (hb:Below w2.heap.size w2 W)=>And.intro (aB (aB hx1 hb3 (aA hx1)) hb (Nat.lt_of_lt_of_le (aA hx1) hb3.size)) (And.intro (aB (aB hx2 hb3 (aA hx2)) hb (Nat.lt_of_lt_of_le (aA hx2) hb3.size)) (And.intro (hb4.trans (hb.mono hb4.size)) (And.intro (hE1.below (hb3.trans (hb.mono hb3.size))) (hrw1.below (hb3.trans (hb.mono hb3.size)))))));have hlen:E.args.length=lc.length:=by
    have:=HP.out
    unfold cT at this;simp only[Bool.and_eq_true,decide_eq_true_eq] at this;simpa[kB] using congrArg List.length this.2
   have HLEN:=Hh hlen;clear hx1 hx2 hb3 hb4 hE1 hrw1 hbw1 hlen;go_wp2_with fail
   go_loopw [6] (fun i wr=>∃ j:Nat,j≤lc.length∧i=.int .i64 j∧Hid (Below w2.heap.size w2 wr)∧Hid ((List.range j).all (okR E lc)=true)) (fun i _=>lc.length - (intOf i).toNat)
   case atStart=>exact⟨0,Nat.zero_le _,rfl,Hh br,Hh sm⟩
   case round =>
    obtain⟨j,hj,rfl,HB,HS⟩:=hrel;obtain⟨hx1,hx2,hbw,hE2,hrw2⟩:=HBX.out wr HB.out;obtain⟨p0,p1,p2,p3,p4,p5⟩:=(aN hx1).1;obtain⟨_,q1,_,_⟩:=aL hx2;have hl1:=aA hx1;have hl2:=aA hx2;have HBW:=Hh hbw;have HE2:=Hh hE2;have HR2:=Hh hrw2;clear hx1 hx2 hbw hE2 hrw2;by_cases hlt:j<lc.length
    · go_wp2_with fail
      (with_reducible refine (HLT.out j _ (by have:=HLEN.out;omega) HE2.out).mono ?_);rintro e w3 ⟨rfl,hb5⟩;have hb6:=HB.out.trans (hb5.mono HB.out.size);obtain⟨hx1,hx2,hbw,hE2,hrw2⟩:=HBX.out w3 hb6;have HB6:=Hh hb6;have HBW3:=Hh hbw;clear p0 p1 p2 p3 p4 p5 q1 hl1 hl2 HE2 HR2 HBW hb5 hb6 hbw;obtain⟨p0,p1,p2,p3,p4,p5⟩:=(aN hx1).1;obtain⟨_,q1,_,_⟩:=aL hx2;have hl1:=aA hx1;have hl2:=aA hx2;obtain⟨x,hxx⟩:∃ x,E.args[j]? = some x:=⟨_,List.getElem?_eq_getElem (by have:=HLEN.out;omega)⟩;obtain⟨y,hyy⟩:∃ y,lc[j]? = some y:=⟨_,List.getElem?_eq_getElem hlt⟩;obtain⟨_,_,hs1,_,hh1⟩:=hE2.row.op;obtain⟨_,_,hs2,_,hh2⟩:=hrw2.op;obtain⟨g,o,hg0,hg,hcs⟩:=hh1 (by rintro h;rw[h] at hxx;simp at hxx);obtain⟨g2,o2,hg02,hg2,hcs2⟩:=hh2 (by rintro h;rw[h] at hyy;simp at hyy);injection hs1 with hs1a _ hs1c
      subst hs1c;injection hs2 with hs2a _ hs2c
      subst hs2c;obtain rfl:=hs1a.trans hg0;obtain rfl:=hs2a.trans hg02;obtain⟨_,_,m2⟩:=hcs j x hxx;obtain⟨_,_,n2⟩:=hcs2 j y hyy;obtain⟨x0,x1,x2⟩:=x;obtain⟨y0,y1,y2⟩:=y;dsimp only at m2 n2;have hok:okR E lc j=if aV E j=0 then decide (x2=y2) else bM (aV E j) y2:=by
       unfold okR cX;rw[List.getD_eq_getElem?_getD,List.getD_eq_getElem?_getD,hxx,hyy];rfl
      have hi0:(0:Int)≤(j:Int):=om
      have hi1:(j:Int)<(lc.length:Int):=om
      have hi2:(j:Int)<(E.args.length:Int):=by have:=HLEN.out;omega
      have hlc:=Cj E j;obtain⟨L,hL⟩:∃ L,aV E j=L:=⟨_,rfl⟩;rw[hL] at hok hlc ⊢;have HOK:=Hh hok;clear hx1 hx2 hE2 hrw2 hxx hyy hcs hcs2 hh1 hh2 hL hok hs1a hs2a hg0 hg02;rcases hlc with rfl|rfl|rfl|rfl|rfl
      · by_cases hn:x2=y2
        · have hnb:(x2 != y2)=false:=by simp[hn]
          have HN:=Hh hn;clear hn;go_wp2_with fail
          go_quiet (fail)
          go_wp2_with fail
          go_roundw
          case rel =>
           refine⟨j+1,om,by go_num,Hh (aHb HB6.out _),Hh ?_⟩
           rw[List.range_succ,List.all_append,HS.out,List.all_cons,HOK.out];simp[HN.out]
          case measure=>simp[intOf];omega
        · have hnb:(x2 != y2)=true:=by simp[hn]
          have hr:R=false:=by
           rw[←HR.out,Bool.true_and];refine Bool.eq_false_iff.2 fun h=>?_
           have:=List.all_eq_true.1 h j (List.mem_range.2 hlt)
           rw[HOK.out,if_pos rfl,decide_eq_true_eq] at this;exact hn this
          subst hr;clear hn;go_wp2_with fail
          go_quiet (fail)
          go_wp2_with fail
          go_ret;exact⟨rfl,aHb HBW3.out _⟩
      · have hwi:=fun W=>aHd 100 100 y2 dc W;obtain⟨B,hB⟩:∃ B,bM 100 y2=B:=⟨_,rfl⟩;rw[hB] at hwi;have HWI:=Hh hwi;have HBB:=Hh hB;clear hwi hB;cases B
        · exact aHW
        · exact aHV
      · have hwi:=fun W=>aHd 101 101 y2 dc W;obtain⟨B,hB⟩:∃ B,bM 101 y2=B:=⟨_,rfl⟩;rw[hB] at hwi;have HWI:=Hh hwi;have HBB:=Hh hB;clear hwi hB;cases B
        · exact aHW
        · exact aHV
      · have hwi:=fun W=>aHd 110 110 y2 dc W;obtain⟨B,hB⟩:∃ B,bM 110 y2=B:=⟨_,rfl⟩;rw[hB] at hwi;have HWI:=Hh hwi;have HBB:=Hh hB;clear hwi hB;cases B
        · exact aHW
        · exact aHV
      · have hwi:=fun W=>aHd 119 119 y2 dc W;obtain⟨B,hB⟩:∃ B,bM 119 y2=B:=⟨_,rfl⟩;rw[hB] at hwi;have HWI:=Hh hwi;have HBB:=Hh hB;clear hwi hB;cases B
        · exact aHW
        · exact aHV
    · obtain rfl:j=lc.length:=om
      have hs:=HS.out;obtain rfl:R=true:=by rw[←HR.out,hs];rfl
      clear hs;go_wp2_with fail
      go_ret;exact⟨rfl,HBW.out⟩
end Go.Proofs.YtoigglljnklhlaaGreatDoor
