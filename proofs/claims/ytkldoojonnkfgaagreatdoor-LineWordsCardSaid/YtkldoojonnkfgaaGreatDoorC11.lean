/- Joined texts: TokRes, StepApp, NamesW. -/
import Derived.Test.YtkldoojonnkfgaaGreatDoorC10
import Derived.Deep.DrawnRows
import Derived.Deep.RegionHeld3
namespace Go.Proofs.YtkldoojonnkfgaaGreatDoor
open Go.RowKit Go.Sort
def TokRes (x:Except Int (List Tok)) (w:World) (e:Ending) (w':World):Prop :=
 match x with
 | .ok l=>∃ v,e=.returned (.tuple #[v,.int .i64 0])∧Row w' v l.length (tokc l)∧Below w.heap.size w w'
 | .error c=>e=.returned (.tuple #[.slice none 0 0,.int .i64 c])∧Below w.heap.size w w'
theorem tokc_one (l:List Tok) (k:Int) (t:ByteArray) (n:Int) (a:Int):tokc l++[.int .i64 k,.string t,.int .i64 n,.int .i64 a]=tokc (l++[⟨k,t,n,a⟩]):=by rw [tokc_append]; rfl
theorem alloc_at' (w:World) (o:Obj):(w.alloc o).heap[w.heap.size]? = some o:=by show (w.heap.push o)[w.heap.size]? = _; simp
def SrcAt (w:World) (v:Value) (m:Nat) (news:List Value):Prop:=(m=0∧v=.slice none 0 0)∨∃ ad c,v=.slice (some ad) m c∧∀ j u,news[j]? = some u→w.cell? (ad.add j)=some u
theorem step_append_src {P:Program} {w:World} {ops:Array Oper} {o:Oper} {a:Act} {K:Act→World→Prop} {Q:Exit→Act→World→Prop} {E:Prop} (hgd:o.guard=none) (s x:Operand) (t:TypeId)
 (ho:o.op=.call { callee:=.builtin .append,args:=#[s,x],argTypes:=#[t,t] })
 (base:Nat) (e:TypeId) (i:TypeInfo) (z:Value) (size bytes:Nat) (ht:P.underlying t=some (.slice e)) (hi:P.info? e=some i) (hz:i.zero=some z)
 (hsize:i.size=size) (hby:i.bytes=bytes) (hzs:z.cells.size=size) (hsz:0<size)
 (v:Value) (n:Nat) (xs:List Value) (hs:a.eval s=v) (hown:w.ownsRow base e size v n xs)
 (v2:Value) (m:Nat) (news:List Value) (hx:a.eval x=v2) (hsrc:SrcAt w v2 m news) (hl:news.length=m * size) (h1:∀ u∈news,u.oneCell'=true)
 (h63:n+m≤maxLen) (hbytes:(n+m) * bytes≤140737488355328) (hbase:base≤w.heap.size)
 (h:∀ v' w',w'.ownsRow base e size v' (n+m) (xs++news)→w.grownBy w' v.ownBlock→(v'=.slice none 0 0↔v=.slice none 0 0∧m=0)→K (a.put o.dst v') w') :
 if Region.wanted o (yielded ops a.tmps)=true then Oper.wp P o a w K Q else E:=by
 have hw:Region.wanted o (yielded ops a.tmps)=true:=by simp [Region.wanted,hgd]
 rw [if_pos hw]
 rcases hsrc with ⟨rfl,rfl⟩ | ⟨ad,c,rfl,hc⟩
 · have hn:news=[]:=List.eq_nil_of_length_eq_zero (by simpa using hl)
   subst hn
   have hrun:=run_append_owned_none (P:=P) (w:=w) base t o.type e i size ht hi v n xs hown
   unfold Oper.wp
   simp [execOp,ho,resolve,invoke,builtin,hs,hx,hrun,Result.andThen]
   exact h v w (by simpa using hown) (World.grownBy.refl w _) (by simp)
 · exact wp_append_own w s x t ho base e i z size bytes ht hi hz hsize hby hzs hsz v n xs hs hown ad m c news hx hl hc h1 h63 hbytes hbase h
end Go.Proofs.YtkldoojonnkfgaaGreatDoor
namespace Go.Proofs.YtkldoojonnkfgaaGreatDoor
open Go.RowKit Go.Sort
attribute [local go_sem ↓] Go.wp_at_zero Go.wp_at_succ
def NamesRes (l:List (Option Ex)) (w:World) (e:Ending) (w':World):Prop :=
 ∃ v,e=.returned v∧Row w' v (uniq (lSyms l)).length ((uniq (lSyms l)).map Proofs.encStr)∧(uniq (lSyms l)=[]→v=.slice none 0 0)∧Below w.heap.size w w'
theorem lNodes_take:∀ (l:List (Option Ex)) (k:Nat),lNodes (l.take k)≤lNodes l
 | [],k=>by simp
 | o::l,0=>by simp [lNodes]
 | o::l,k+1=>by have:=lNodes_take l k; simp only [List.take_succ_cons,lNodes]; omega
theorem lNodes_append:∀ (l m:List (Option Ex)),lNodes (l++m)=lNodes l+lNodes m
 | [],m=>by simp [lNodes]
 | o::l,m=>by have:=lNodes_append l m; simp only [List.cons_append,lNodes]; omega
theorem take_snoc {α:Type} (l:List α) (k:Nat) (x:α) (h:l[k]? = some x):l.take (k+1)=l.take k++[x]:=by
 rw [List.take_add_one,h]; rfl
theorem OptAt.ptr {T:TypeId} {w:World} {o:Option Ex} {v:Value} (h:OptAt T w o v):∃ p,v=.pointer p:=by
 cases o with
 | none=>exact ⟨none,h⟩
 | some x=>obtain ⟨g,hv,_⟩:=NodeAt.ptr h; exact ⟨_,hv⟩
theorem enc_one (U:List (List UInt8)):∀ u∈U.map Proofs.encStr,u.oneCell'=true:=by
 intro u hu
 obtain ⟨x,_,rfl⟩:=List.mem_map.1 hu
 rfl
theorem src_of_row {w:World} {v:Value} {U:List (List UInt8)} (h:Row w v U.length (U.map Proofs.encStr)) (hn:U=[]→v=.slice none 0 0):SrcAt w v U.length (U.map Proofs.encStr):=by
 by_cases hU:U=[]
 · left; exact ⟨by rw [hU]; rfl,hn hU⟩
 · right
   obtain ⟨a,cap,hv,_,hr⟩:=h
   obtain ⟨g,o,ha,hg,hc⟩:=hr (by intro e; exact hU (List.map_eq_nil_iff.1 e))
   refine ⟨⟨g,o,none⟩,cap,by rw [hv,ha],fun j u hj=>?_⟩
   rw [addr_add]
   have hlt:j<(U.map Proofs.encStr).length:=(List.getElem?_eq_some_iff.1 hj).1
   rw [hc j hlt]; exact hj
theorem own_ge {w:World} {base n:Nat} {T:TypeId} {v:Value} {xs:List Value} (h:w.ownsRow base T 1 v n xs):∀ q,v.ownBlock=some q→base≤q:=by
 intro q hq
 rcases h.2 with ⟨h,_⟩ | ⟨g,cap,cur,h,hg,_⟩
 · rw [h] at hq; cases hq
 · rw [h] at hq; cases hq; exact hg
theorem compact_sorted (base:Nat) {v:Value} {L:List (List UInt8)} {w:World} (hown:w.ownsRow base 9 1 v L.length ((L.mergeSort fun x y=>decide (x≤y)).map Proofs.encStr)) (hnil:L=[]→v=.slice none 0 0) (hlen:L.length≤1000000) (hb:base≤w.heap.size) :
 Calls Tryz.prog 36 #[v] w fun e w'=>∃ v',e=.returned v'∧Row w' v' (uniq L).length ((uniq L).map Proofs.encStr)∧(uniq L=[]→v'=.slice none 0 0)∧Below base w w' :=
 compact_any base v (L.mergeSort fun x y=>decide (x≤y)) w (by rw [List.length_mergeSort]; exact hown) (fun h=>hnil (by have:=congrArg List.length h; rw [List.length_mergeSort] at this; exact List.eq_nil_of_length_eq_zero this)) (by rw [List.length_mergeSort]; exact hlen) hb
theorem alloc_lt (w:World) (o:Obj):w.heap.size<(w.alloc o).heap.size:=by show _<(w.heap.push o).size; simp
theorem enc_append (a b:List (List UInt8)):(a++b).map Proofs.encStr=a.map Proofs.encStr++b.map Proofs.encStr:=List.map_append
set_option maxHeartbeats 8000000 in
set_option maxRecDepth 100000 in
theorem names_any:∀ (n:Nat) (l:List (Option Ex)),lNodes l≤n→n≤1000000→l.length≤1000000→∀ (v:Value) (w:World),ArgsAt 225 w l v→Calls Tryz.prog 81 #[v] w (NamesRes l w)
 | n,l,hn,hn6,hl6,v,w,hA=>by
   obtain ⟨i0,hi,hz0,hz1,hz2⟩:=info_parts Tryz.infoString
   have ih:∀ l':List (Option Ex),lNodes l'<lNodes l→l'.length≤1000000→∀ (v:Value) (w:World),ArgsAt 225 w l' v→Calls Tryz.prog 81 #[v] w (NamesRes l' w):=fun l' h h2 v w hA=>names_any (lNodes l') l' (Nat.le_refl _) (by omega) h2 v w hA
   obtain ⟨ag,ao,acap,rfl,hag,hac⟩:=hA
   have HIH:=Hh ih; clear ih
   have HAC:=Hh hac; clear hac
   go_enter Tryz.func81,Tryz.ntmps81
   go_wp2_with fail
   go_loopw [3,5,8] (fun v _ i wr=>∃ (k:Nat) (acc:List (List UInt8)),k≤l.length∧i=.int .i64 k∧wr.ownsRow w.heap.size 9 1 v acc.length (acc.map Proofs.encStr)∧(acc=[]→v=.slice none 0 0)∧Below w.heap.size w wr∧Hid (∀ y,y∈acc↔y∈lSyms (l.take k))∧acc.length≤lNodes (l.take k)) (fun _ _ i _=>l.length - (intOf i).toNat)
   case atStart=>exact ⟨0,[],Nat.zero_le _,rfl,World.ownsRow_nil _ _ _ _,fun _=>rfl,Below.refl _ _,Hh (fun y=>by simp [lSyms]),by simp [lNodes]⟩
   case round =>
    obtain ⟨k,acc,hk,rfl,hown,hnil,hbel,HM,hacn⟩:=hrel
    have hacc6:acc.length≤1000000:=by have:=lNodes_take l k; omega
    have hsz:w.heap.size≤wr.heap.size:=hbel.size
    have HOWN:=Hh hown; clear hown
    have HBEL:=Hh hbel; clear hbel
    have HNIL:=Hh hnil; clear hnil
    by_cases hlt:k<l.length
    · obtain ⟨x,hx⟩:∃ x,l[k]? = some x:=⟨l[k],by simp [hlt]⟩
      have hk0:(0:Int)≤(k:Int):=by omega
      have hk1:(k:Int)<(l.length:Int):=by omega
      obtain ⟨u,hu,hou⟩:=HAC.out k x hx
      have hcu:wr.cell? ⟨ag,ao+k,none⟩=some u:=(HBEL.out.cell (p:=⟨ag,ao+k,none⟩) hag).trans hu
      have hagr:ag<wr.heap.size:=by omega
      have hts:=take_snoc l k x hx
      have hxn:lNodes (l.take k)+oNodes x≤lNodes l:=by
       have h1:=lNodes_take l (k+1)
       rw [hts,lNodes_append] at h1
       simp only [lNodes] at h1
       omega
      have hsy:lSyms (l.take (k+1))=lSyms (l.take k)++oSyms x:=by rw [hts]; simp [lSyms]
      have hno:lNodes (l.take (k+1))=lNodes (l.take k)+oNodes x:=by rw [hts,lNodes_append]; simp [lNodes]
      clear hts hx
      have HSY:=Hh hsy; clear hsy
      have HNO:=Hh hno; clear hno
      rcases x with _ | x
      · obtain rfl:u=.pointer none:=hou
        clear hu
        go_wp2_with fail
        go_roundw
        case rel=>exact ⟨k+1,acc,by omega,by go_num,HOWN.out,HNIL.out,HBEL.out,Hh (fun y=>by rw [HSY.out]; simpa [oSyms] using HM.out y),by rw [HNO.out]; omega⟩
        case measure=>simp [intOf]; omega
      · have hnode:NodeAt 225 0 w x u:=hou
        obtain ⟨g,kk,nn,s,a,b,rfl,hg,e0,e1,e2,e3,e4,hown2,oa,ob,hkids,hoa,hob⟩:=hnode.cells
        clear hnode hou hu
        obtain ⟨pa,rfl⟩:=hoa.ptr
        obtain ⟨pb,rfl⟩:=hob.ptr
        have hkn:=kids_nodes x
        have hok:=own_kids x
        have hihk:=HIH.out x.kids (by simp only [oNodes] at hxn; omega) (by rw [hkids]; simp)
        have hkl:lNodes x.kids≤1000000:=by simp only [oNodes] at hxn; omega
        obtain ⟨U,hU⟩:∃ U,uniq (lSyms x.kids)=U:=⟨_,rfl⟩
        have hmem:∀ y,y∈U↔y∈lSyms x.kids:=fun y=>by rw [←hU,mem_uniq]
        have hul:=uniq_len (lSyms x.kids)
        have hsl:=lSyms_len x.kids
        unfold NamesRes at hihk
        rw [hU] at hihk hul
        clear hU
        have f0:=(HBEL.out.cell (p:=⟨g,0,none⟩) hg).trans e0
        have f2:=(HBEL.out.cell (p:=⟨g,2,none⟩) hg).trans e2
        have hgr:g<wr.heap.size:=by omega
        have HMEM:=Hh hmem; clear hmem
        have HIHK:=Hh hihk; clear hihk
        have HKIDS:=Hh hkids; clear hkids
        have HOK:=Hh hok; clear hok
        have HOA:=Hh hoa; clear hoa
        have HOB:=Hh hob; clear hob
        have E3:=Hh e3; clear e3
        have E4:=Hh e4; clear e4
        clear e0 e1 e2
        go_upto_if 18 with fail
        go_cut [3] from 9 to 38 (fun v3 wx=>wx.ownsRow w.heap.size 9 1 v3 (acc++x.own).length ((acc++x.own).map Proofs.encStr)∧(acc++x.own=[]→v3=.slice none 0 0)∧Below w.heap.size w wx)
        case first =>
         rcases hown2 with ⟨hk2,hown2⟩ | ⟨hk2,hown2⟩
         · have HO2:=Hh hown2; clear hown2
           go_wp2_with (at_builtin; refine wpList_append_own _ rfl _ _ 72 rfl w.heap.size 9 i0 (.string ⟨#[]⟩) 1 16 Tryz.underlying72 hi hz0 hz1 hz2 rfl (by decide) _ _ _ rfl (owns_below' HOWN.out (bl)) _ 1 1 [.string s] rfl rfl ?c1 ?c2 ?c3 ?c4 ?c5 ?_)
           case c1 =>
            intro q u hq
            rw [addr_add]
            match q,hq with
            | 0,hq=>simp at hq; subst hq; simp [go_sem]
           case c2=>first | exact ⟨rfl,rfl⟩ | (intro u hu; simp at hu; subst hu; rfl) | rfl
           case c3=>unfold maxLen; omega
           case c4=>omega
           case c5=>(first | omega | (simp [go_sem]; done) | (simp [go_sem]; omega))
           intro v' w1 hown' hgrow hiff'
           have hb':Below w.heap.size w w1:=(HBEL.out.trans (Below.mono (show Below wr.heap.size wr _ from bl) hsz)).grown hgrow (by simp [go_sem]; omega) (by
            intro q hq
            have:=HOWN.out.2
            rcases this with ⟨h,_⟩ | ⟨g,cap,cur,h,hg,_⟩
            · rw [h] at hq; cases hq
            · rw [h] at hq; cases hq; exact hg)
           have HOWN3:=Hh hown'; clear hown' hgrow
           have HIFF3:=Hh hiff'; clear hiff'
           have HB':=Hh hb'; clear hb'
           go_wp2_with fail
           go_meet
           case rel=>exact ⟨by rw [HO2.out,enc_append,List.length_append]; exact HOWN3.out,fun h=>by simp [HO2.out] at h,HB'.out⟩
         · have HO2:=Hh hown2; clear hown2
           go_wp2_with fail
           go_meet
           case rel=>exact ⟨by rw [HO2.out,List.append_nil]; exact HOWN.out,by rw [HO2.out,List.append_nil]; exact HNIL.out,HBEL.out⟩
        case rest =>
         obtain ⟨hown3,hnil3,hb3⟩:=hcut
         have hol:x.own.length≤1:=by rcases hown2 with ⟨_,h⟩ | ⟨_,h⟩<;>rw [h]<;>simp
         have hnn:acc.length+x.own.length+lNodes x.kids≤lNodes l:=by
          have h1:x.own.length+lNodes x.kids≤x.nodes:=by omega
          simp only [oNodes] at hxn
          omega
         clear f0 f2 hown2
         have g3:=(hb3.cell (p:=⟨g,3,none⟩) hg).trans E3.out
         have g4:=(hb3.cell (p:=⟨g,4,none⟩) hg).trans E4.out
         have hgc:g<wc.heap.size:=Nat.lt_of_lt_of_le hg hb3.size
         have hszc:=hb3.size
         have hoa2:=HOA.out.below hb3
         have hob2:=HOB.out.below hb3
         have HOA2:=Hh hoa2; clear hoa2
         have HOB2:=Hh hob2; clear hob2
         have hlen3:(acc++x.own).length≤1000000:=by rw [List.length_append]; omega
         have HOWNC:=Hh hown3; clear hown3
         have HNIL2:=Hh hnil3; clear hnil3
         have HBELC:=Hh hb3; clear hb3
         clear hsz hagr hgr hcu
         have hargs:ArgsAt 225 (wc.alloc (.cells #[.pointer pa,.pointer pb] 82)).drew x.kids (.slice (some ⟨wc.heap.size,0,none⟩) 2 2):=by
          rw [HKIDS.out]
          refine ⟨_,0,2,rfl,alloc_lt _ _,fun j x hx=>?_⟩
          match j,hx with
          | 0,hx=>simp at hx; subst hx; exact ⟨.pointer pa,by simp [go_sem],OptAt.below HOA2.out (bl)⟩
          | 1,hx=>simp at hx; subst hx; exact ⟨.pointer pb,by simp [go_sem],OptAt.below HOB2.out (bl)⟩
         have hcall:=HIHK.out _ _ hargs
         have HCALL:=Hh hcall; clear hcall hargs
         have hbk:∀ w4,Below (wc.alloc (.cells #[.pointer pa,.pointer pb] 82)).drew.heap.size (wc.alloc (.cells #[.pointer pa,.pointer pb] 82)).drew w4→Below wc.heap.size wc w4:=fun w4 h=>Below.trans (b:=(wc.alloc (.cells #[.pointer pa,.pointer pb] 82)).drew) (bl) (h.mono (by (first | omega | (simp [go_sem]; done) | (simp [go_sem]; omega))))
         have HBK:=Hh hbk; clear hbk
         go_wp2_with fail
         go_region_held3 (fun w'=>w'.cell? ⟨g,3,none⟩=some (.pointer pa)∧w'.cell? ⟨g,4,none⟩=some (.pointer pb)) (first | exact ⟨(hb5.cell (p:=⟨g,3,none⟩) hg).trans E3.out,(hb5.cell (p:=⟨g,4,none⟩) hg).trans E4.out⟩ | exact ⟨((HBK.out _ hb4).cell (p:=⟨g,3,none⟩) hgc).trans g3,((HBK.out _ hb4).cell (p:=⟨g,4,none⟩) hgc).trans g4⟩ | exact ⟨g3,g4⟩ | (refine ⟨?_,?_⟩<;>simp [g3,g4,hgc,go_sem])) (first | (refine step_append_src (by rfl) _ _ 72 (by rfl) w.heap.size 9 i0 (.string ⟨#[]⟩) 1 16 Tryz.underlying72 hi hz0 hz1 hz2 rfl (by decide) _ _ _ (by rfl) (owns_below' HOWNC.out (HBK.out _ hb4)) v4 _ _ (by rfl) (src_of_row hrow4 hnil4) (by rw [List.length_map,Nat.mul_one]) (enc_one _) (by unfold maxLen; omega) (by omega) (Nat.le_trans (by omega) (HBK.out _ hb4).size) ?_; intro v5 w5 hown5 hgrow5 hiff5; have hb5:Below w.heap.size w w5:=(HBELC.out.trans ((HBK.out _ hb4).mono (by omega))).grown hgrow5 (Nat.le_trans (by omega) (HBK.out _ hb4).size) (own_ge HOWNC.out)) | (go_simp; refine HCALL.out.mono ?_; rintro e w4 ⟨v4,rfl,hrow4,hnil4,hb4⟩))
         all_goals
          have HOWN5:=Hh hown5; clear hown5 hgrow5
          have HB5:=Hh hb5; clear hb5 hb4 hrow4
          have HIFF:=Hh hiff5; clear hiff5
          clear hnil4
          go_wp2_with fail
          go_roundw
          case rel=>exact ⟨k+1,(acc++x.own)++U,by omega,by go_num,by rw [enc_append,List.length_append]; exact HOWN5.out,fun h=>HIFF.out.2 ⟨HNIL2.out (List.append_eq_nil_iff.1 h).1,by rw [(List.append_eq_nil_iff.1 h).2]; rfl⟩,HB5.out,Hh (fun y=>by rw [HSY.out,HOK.out,List.mem_append,List.mem_append,List.mem_append,HM.out y,HMEM.out y]; simp [or_assoc]),by rw [List.length_append,List.length_append,HNO.out]; simp only [oNodes]; omega⟩
          case measure=>simp [intOf]; omega
    · obtain rfl:k=l.length:=by omega
      have hun:=uniq_ext (l:=acc) (m:=lSyms l) (fun y=>by rw [HM.out,List.take_length])
      have hacl:acc.length≤1000000:=hacc6
      have hul:=uniq_len (lSyms l)
      have HUN:=Hh hun; clear hun
      have hca:∀ wx,Below wr.heap.size wr wx→True:=fun _ _=>trivial
      clear hca
      have hsort:=sort_any w.heap.size _ acc wr HOWN.out HNIL.out hacl hsz
      have HSORT:=Hh hsort; clear hsort
      go_wp2_with fail
      refine HSORT.out.mono ?_
      rintro e w1 ⟨rfl,hown1,hb1⟩
      have hcmp:=compact_sorted w.heap.size hown1 HNIL.out hacl (Nat.le_trans hsz hb1.size)
      have HCMP:=Hh hcmp; clear hcmp
      have HB1:=Hh hb1; clear hb1 hown1
      go_wp2_with fail
      refine HCMP.out.mono ?_
      rintro e w2 ⟨v',rfl,hrow,hnil2,hb2⟩
      have HB2:=Hh (HBEL.out.trans (HB1.out.trans (hb2))); clear hb2
      have HROW:=Hh hrow; clear hrow
      have HNIL3:=Hh hnil2; clear hnil2
      go_wp2_with fail
      go_ret
      exact ⟨_,rfl,by rw [←HUN.out]; exact HROW.out,by rw [←HUN.out]; exact HNIL3.out,HB2.out⟩
termination_by _ l=>lNodes l
end Go.Proofs.YtkldoojonnkfgaaGreatDoor
