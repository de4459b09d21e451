/- Joined texts: Parts, StepAt, SplitT, AllT, DataT. -/
import Derived.Test.YtkldoojonnkfgaaGreatDoorC34
namespace Go.Proofs.YtkldoojonnkfgaaGreatDoor
open Go.RowKit Go.Sort
structure PartsAt (w:World) (base:Nat) (v:Value) (ps:List (List Tok × Value)) (cur:List Tok) (u:Value):Prop where
 own:w.ownsRow base 28 1 v (ps.length+1) (ps.map Prod.snd++[u])
 args:∀ x∈ps,WRow w base x.2 x.1.length (tokc x.1)
 apart:∀ x∈ps,tokc x.1≠[]→x.2.ownBlock≠v.ownBlock∧x.2.ownBlock≠u.ownBlock
 last:w.ownsRow base 34 4 u cur.length (tokc cur)
theorem PartsAt.below {w w':World} {base:Nat} {v u:Value} {ps:List (List Tok × Value)} {cur:List Tok} (h:PartsAt w base v ps cur u) (hb:Below w.heap.size w w'):PartsAt w' base v ps cur u :=
 ⟨owns_below h.own hb,fun x hx=>(h.args x hx).below hb,h.apart,owns_below h.last hb⟩
theorem PartsAt.new (w:World) (base:Nat) (hb:base≤w.heap.size):PartsAt (w.alloc (.cells #[.slice none 0 0] 28)) base (.slice (some ⟨w.heap.size,0,none⟩) 1 1) [] [] (.slice none 0 0) :=
 ⟨⟨rfl,.inr ⟨w.heap.size,1,#[.slice none 0 0],rfl,hb,blk_new _ _,Nat.le_refl _,by unfold maxLen; decide,rfl,rfl⟩⟩,by simp,by simp,World.ownsRow_nil _ _ _ _⟩
theorem PartsAt.comma {w w':World} {base:Nat} {v v' u:Value} {ps:List (List Tok × Value)} {cur:List Tok} (h:PartsAt w base v ps cur u)
 (hown:w'.ownsRow base 28 1 v' (ps.length+1+1) ((ps.map Prod.snd++[u])++[.slice none 0 0])) (hg:w.grownBy w' v.ownBlock) (hat:v'.ownBlock=v.ownBlock∨v'.ownBlock=some w.heap.size):PartsAt w' base v' (ps++[(cur,u)]) [] (.slice none 0 0):=by
 have hcu:tokc cur≠[]→u.ownBlock≠v.ownBlock:=fun hne=>by
  obtain ⟨g,hg,_⟩:=(WRow.of_owns h.last).block_lt hne
  rw [hg]
  exact owns_types h.last h.own (by decide) g hg
 have hw:∀ x∈ps++[(cur,u)],WRow w base x.2 x.1.length (tokc x.1):=fun x hx=>by
  rcases List.mem_append.1 hx with hx | hx
  · exact h.args x hx
  · obtain rfl:x=(cur,u):=by simpa using hx
    exact WRow.of_owns h.last
 have hap:∀ x∈ps++[(cur,u)],tokc x.1≠[]→x.2.ownBlock≠v.ownBlock:=fun x hx hne=>by
  rcases List.mem_append.1 hx with hx | hx
  · exact (h.apart x hx hne).1
  · obtain rfl:x=(cur,u):=by simpa using hx
    exact hcu hne
 refine ⟨by rw [List.length_append,List.map_append]; exact hown,fun x hx=>(hw x hx).grown hg (hap x hx),fun x hx hne=>⟨?_,?_⟩,World.ownsRow_nil _ _ _ _⟩
 · rcases hat with e | e
   · rw [e]; exact hap x hx hne
   · obtain ⟨g,h1,h2⟩:=(hw x hx).block_lt hne
     rw [e,h1]
     intro q
     have:g=w.heap.size:=Option.some.inj q
     omega
 · obtain ⟨g,h1,h2⟩:=(hw x hx).block_lt hne
   rw [h1]
   exact fun q=>by cases q
theorem PartsAt.token {w w':World} {base g cap n:Nat} {a:Option Addr} {u u':Value} {ps:List (List Tok × Value)} {cur:List Tok} {t:Tok} (h:PartsAt w base (.slice a n cap) ps cur u)
 (ha:a=some ⟨g,0,none⟩) (hn:n=ps.length+1)
 (hown:w'.ownsRow base 34 4 u' (cur.length+1) (tokc cur++tokc [t])) (hg:w.grownBy w' u.ownBlock) (hat:u'.ownBlock=u.ownBlock∨u'.ownBlock=some w.heap.size) :
 PartsAt (w'.setCell ⟨g,ps.length,none⟩ u') base (.slice a n cap) ps (cur++[t]) u':=by
 subst ha hn
 have hv:w'.ownsRow base 28 1 (.slice (some ⟨g,0,none⟩) (ps.length+1) cap) (ps.length+1) (ps.map Prod.snd++[u]):=owns_grown h.own hg (fun k hk=>by
  have:=owns_types h.own h.last (by decide) k hk
  exact this)
 have hset:=owns_set (i:=ps.length) (u:=u') hv (by simp)
 rw [List.set_append_right _ _ (by simp)] at hset
 have h0:(ps.length - (ps.map Prod.snd).length)=0:=by simp
 rw [h0] at hset
 have hkb:Kb g w' (w'.setCell ⟨g,ps.length,none⟩ u'):=(Kb.refl g w').setCell _ _
 have hu':tokc (cur++[t])≠[]→u'.ownBlock≠some g:=fun hne=>by
  have ht:=owns_types hown hv (by decide)
  obtain ⟨k,hk,_⟩:=(WRow.of_owns hown).block_lt (by rw [←tokc_append]; exact hne)
  rw [hk]
  exact ht k hk
 refine ⟨hset,fun x hx=>((h.args x hx).grown hg fun hne=>(h.apart x hx hne).2).kb_ne hkb fun hne=>(h.apart x hx hne).1,fun x hx hne=>⟨(h.apart x hx hne).1,?_⟩,?_⟩
 · rcases hat with e | e
   · rw [e]; exact (h.apart x hx hne).2
   · obtain ⟨k,h1,h2⟩:=(h.args x hx).block_lt hne
     rw [e,h1]
     intro q
     have:k=w.heap.size:=Option.some.inj q
     omega
 · rw [tokc_append,List.length_append]
   exact Kb.owns hown hkb (fun e=>(hu' (by rw [tokc_append]; unfold tokc; simp) e))
def PartsRow (w:World) (v:Value) (ps:List (List Tok)):Prop:=∃ us:List Value,us.length=ps.length∧Row w v ps.length us∧∀ (i:Nat) (p:List Tok) (u:Value),ps[i]? = some p→us[i]? = some u→Row w u p.length (tokc p)
theorem PartsRow.below {w w':World} {v:Value} {ps:List (List Tok)} (h:PartsRow w v ps) (hb:Below w.heap.size w w'):PartsRow w' v ps:=by
 obtain ⟨us,h1,h2,h3⟩:=h
 exact ⟨us,h1,h2.below hb,fun i p u hp hu=>(h3 i p u hp hu).below hb⟩
theorem t120_0 {p:Prop} (h:p:=by
 rcases Nat.eq_zero_or_pos (i - ps.length) with h | h
 · exact h
 · rw [List.length_map,List.getElem?_eq_none (by simp; omega)] at hp; cases hp):p:=h
theorem PartsAt.row {w:World} {base:Nat} {v u:Value} {ps:List (List Tok × Value)} {cur:List Tok} (h:PartsAt w base v ps cur u):PartsRow w v (ps.map Prod.fst++[cur]):=by
 refine ⟨ps.map Prod.snd++[u],by simp,by simpa using (WRow.of_owns h.own).row,fun i p u' hp hu=>?_⟩
 rcases Nat.lt_or_ge i ps.length with hi | hi
 · rw [List.getElem?_append_left (by simpa using hi),List.getElem?_map,List.getElem?_eq_getElem hi] at hp hu
   cases hp; cases hu
   exact (h.args _ (List.getElem_mem hi)).row
 · rw [List.getElem?_append_right (by simpa using hi)] at hp hu
   have hi0:i - ps.length=0:=by
    exact t120_0
   rw [List.length_map,hi0] at hp hu
   simp at hp hu
   subst hp hu
   exact (WRow.of_owns h.last).row
def PartsNew (w:World) (base:Nat) (v:Value) (ps:List (List Tok)):Prop:=∃ us:List Value,us.length=ps.length∧WRow w base v ps.length us∧∀ (i:Nat) (p:List Tok) (u:Value),ps[i]? = some p→us[i]? = some u→WRow w base u p.length (tokc p)
theorem PartsNew.parts {w:World} {base:Nat} {v:Value} {ps:List (List Tok)} (h:PartsNew w base v ps):PartsRow w v ps:=by
 obtain ⟨us,h1,h2,h3⟩:=h
 exact ⟨us,h1,h2.row,fun i p u hp hu=>(h3 i p u hp hu).row⟩
theorem PartsAt.fresh {w:World} {base:Nat} {v u:Value} {ps:List (List Tok × Value)} {cur:List Tok} (h:PartsAt w base v ps cur u):PartsNew w base v (ps.map Prod.fst++[cur]):=by
 refine ⟨ps.map Prod.snd++[u],by simp,by simpa using WRow.of_owns h.own,fun i p u' hp hu=>?_⟩
 rcases Nat.lt_or_ge i ps.length with hi | hi
 · rw [List.getElem?_append_left (by simpa using hi),List.getElem?_map,List.getElem?_eq_getElem hi] at hp hu
   cases hp; cases hu
   exact h.args _ (List.getElem_mem hi)
 · rw [List.getElem?_append_right (by simpa using hi)] at hp hu
   have hi0:i - ps.length=0:=by
    exact t120_0
   rw [List.length_map,hi0] at hp hu
   simp at hp hu
   subst hp hu
   exact WRow.of_owns h.last
theorem step_append_at {P:Program} {w:World} {ops:Array Oper} {o:Oper} {a:Act} {K:Act→World→Prop} {Q:Exit→Act→World→Prop} {E:Prop} (hgd:o.guard=none) (s x:Operand) (t:TypeId)
 (ho:o.op=.call { callee:=.builtin .append,args:=#[s,x],argTypes:=#[t,t] })
 (base:Nat) (e:TypeId) (i:TypeInfo) (z:Value) (size bytes:Nat) (ht:P.underlying t=some (.slice e)) (hi:P.info? e=some i) (hz:i.zero=some z)
 (hsize:i.size=size) (hby:i.bytes=bytes) (hzs:z.cells.size=size) (hsz:0<size)
 (v:Value) (n:Nat) (xs:List Value) (hs:a.eval s=v) (hown:w.ownsRow base e size v n xs)
 (ad:Addr) (m c:Nat) (news:List Value) (hx:a.eval x=.slice (some ad) m c) (hl:news.length=m * size) (hnews:∀ j u,news[j]? = some u→w.cell? (ad.add j)=some u) (h1:∀ u∈news,u.oneCell'=true)
 (h63:n+m≤maxLen) (hbytes:(n+m) * bytes≤140737488355328) (hbase:base≤w.heap.size)
 (h:∀ v' w',w'.ownsRow base e size v' (n+m) (xs++news)→w.grownBy w' v.ownBlock→(v'.ownBlock=v.ownBlock∨v'.ownBlock=some w.heap.size)→K (a.put o.dst v') w') :
 if Region.wanted o (yielded ops a.tmps)=true then Oper.wp P o a w K Q else E:=by
 have hw:Region.wanted o (yielded ops a.tmps)=true:=by simp [Region.wanted,hgd]
 rw [if_pos hw]
 obtain ⟨v',w',hr,h2,h3,_,h5⟩:=run_append_own_at (P:=P) w base t o.type e i z size bytes ht hi hz hsize hby hzs hsz v n xs hown ad m c news hl hnews h1 h63 hbytes hbase
 unfold Oper.wp execOp
 simp only [ho,resolve,invoke,builtin,Sem.run_bind,Sem.run_pure,Result.andThen_ok,List.map_toArray,List.map_cons,List.map_nil,hs,hx,hr]
 exact h v' w' h2 h3 h5
theorem Tryz.infoTokR:(Tryz.prog.info? 28).map (fun i=>(i.zero,i.size,i.bytes))=some (some (.slice none 0 0),1,24):=by kernel_rfl
theorem Tryz.infoTokS:(Tryz.prog.info? 34).map (fun i=>(i.zero,i.size,i.bytes))=some (some (.agg #[.int .i64 0,.string ⟨#[]⟩,.int .i64 0,.int .i64 0]),4,40):=by kernel_rfl
theorem deep_small (t:Tok):-1≤deeperP t∧deeperP t≤1:=by
 unfold deeperP
 repeat' split
 all_goals omega
theorem split_bounds (l:List Tok):∀ n,n≤l.length→(splitSt (l.take n)).2.1.length≤n∧(splitSt (l.take n)).2.2.length≤n
 | 0,_=>by simp [splitSt]
 | n+1,h=>by
   have ih:=split_bounds l n (by omega)
   obtain ⟨t,ht⟩:∃ t,l[n]? = some t:=⟨_,List.getElem?_eq_getElem (by omega)⟩
   rw [List.take_add_one,ht]
   show (splitSt (l.take n++[t])).2.1.length≤n+1∧(splitSt (l.take n++[t])).2.2.length≤n+1
   rw [splitSt_snoc]
   split
   · simp; omega
   · simp; omega
theorem PartsAt.opened {w:World} {base co:Nat} {ao:Option Addr} {u:Value} {ps:List (List Tok × Value)} {cur:List Tok} (h:PartsAt w base (.slice ao (ps.length+1) co) ps cur u) :
 ∃ gv,ao=some ⟨gv,0,none⟩∧ps.length+1≤co∧base≤gv∧gv<w.heap.size∧w.cell? ⟨gv,ps.length,none⟩=some u∧w.frozen? ⟨gv,ps.length,none⟩=false:=by
 obtain ⟨a,cap,hv,hn,hh⟩:=WRow.of_owns h.own
 cases hv
 rcases h.own.2 with ⟨_,h0⟩ | ⟨g,cap,cur,hv,hg,hb,hn2,_⟩
 · exact absurd h0 (by omega)
 · cases hv
   obtain ⟨g',o',he,h0,hlt,hc,hf⟩:=hh (by simp)
   cases he
   have c1:=hc ps.length (by simp)
   have f1:=hf ps.length (by simp)
   rw [Nat.zero_add] at c1 f1
   exact ⟨g,rfl,hn2,hg,hlt,c1.trans (by simp),f1⟩
theorem PartsAt.openG {w w':World} {base co gv:Nat} {u:Value} {ps:List (List Tok × Value)} {cur:List Tok} (h:PartsAt w base (.slice (some ⟨gv,0,none⟩) (ps.length+1) co) ps cur u) (hg:w.grownBy w' u.ownBlock):w'.cell? ⟨gv,ps.length,none⟩=some u∧w'.frozen? ⟨gv,ps.length,none⟩=false:=by
 have hv:=owns_grown h.own hg (fun k hk=>owns_types h.own h.last (by decide) k hk)
 obtain ⟨a,cap,hv,hn,hh⟩:=WRow.of_owns hv
 cases hv
 obtain ⟨g',o',he,h0,hlt,hc,hf⟩:=hh (by simp)
 cases he
 have f1:=hf ps.length (by simp)
 have c1:=hc ps.length (by simp)
 rw [Nat.zero_add] at f1 c1
 exact ⟨c1.trans (by simp),f1⟩
theorem PartsAt.token2 {w w' W:World} {base n0 co gv:Nat} {u u':Value} {ps:List (List Tok × Value)} {cur:List Tok} {t:Tok} (h:PartsAt w base (.slice (some ⟨gv,0,none⟩) (ps.length+1) co) ps cur u)
 (hown:w'.ownsRow base 34 4 u' (cur.length+1) (tokc cur++tokc [t])) (hg:w.grownBy w' u.ownBlock) (hat:u'.ownBlock=u.ownBlock∨u'.ownBlock=some w.heap.size) (hb:Below base W w) (hW:W.heap.size=n0) (hn0:base≤n0) (hgv:base≤gv) :
 PartsAt (w'.setCell ⟨gv,ps.length,none⟩ u') base (.slice (some ⟨gv,0,none⟩) (ps.length+1) co) ps (cur++[t]) u'∧Below base W (w'.setCell ⟨gv,ps.length,none⟩ u') :=
 ⟨h.token rfl rfl hown hg hat,(hb.grown hg (by have:=hb.size; omega) (fun k hk=>(h.last.lt k hk).1)).setCell (p:=⟨gv,ps.length,none⟩) hgv _⟩
theorem src4 {w:World} {g:Nat} {x0 x1 x2 x3:Value} {T:TypeId} (h:w.heap[g]? = some (.cells #[x0,x1,x2,x3] T (0,0))):∀ (j:Nat) (u:Value),[x0,x1,x2,x3][j]? = some u→w.cell? ((⟨g,0,none⟩:Addr).add j)=some u:=by
 intro j u hj
 rw [addr_add,Nat.zero_add,blk_cell h]
 simpa using hj
set_option maxRecDepth 100000 in
set_option maxHeartbeats 8000000 in
theorem split_new (l:List Tok) (v:Value) (w:World) (hr:Row w v l.length (tokc l)) (hl:l.length≤100000) :
 Calls Tryz.prog 18 #[v] w fun e w'=>∃ a n c,e=.returned (.slice a n c)∧PartsNew w' w.heap.size (.slice a n c) (splitP l)∧Below w.heap.size w w':=by
 obtain ⟨i0,hi,hz0,hz1,hz2⟩:=info_parts Tryz.infoTokR
 obtain ⟨j0,hq0,hy0,hy1,hy2⟩:=info_parts Tryz.infoTokS
 have HTOK:=Hh hr
 obtain ⟨a,c,rfl,hc,_⟩:=hr
 have hlc:(l.length:Int)≤(c:Int):=by omega
 have hl1:(l.length:Int)≤100000:=by omega
 by_cases hnil:l=[]
 · subst hnil
   go_enter Tryz.func18,Tryz.ntmps18
   go_wp2_with fail
   go_ret
   exact ⟨none,0,0,rfl,⟨[],rfl,WRow.nil _ _,fun i p u hp=>by simp [splitP] at hp⟩,bl⟩
 · have hpos:0<l.length:=List.length_pos_iff.2 hnil
   have hne0:((l.length:Int) == 0)=false:=by rw [beq_eq_false_iff_ne]; omega
   have HST:=Hh (splitP_st hnil)
   clear hnil
   go_enter Tryz.func18,Tryz.ntmps18
   go_wp2_with fail
   go_loopw [3,4,14] (fun out d i wr=>∃ (j:Nat) (dd:Int) (ps:List (List Tok × Value)) (u:Value),j≤l.length∧-(j:Int)≤dd∧dd≤j∧i=.int .i64 j∧d=.int .i64 dd∧ps.length≤j∧Hid (dd=(splitSt (l.take j)).1∧ps.map Prod.fst=(splitSt (l.take j)).2.1)∧Hid (PartsAt wr w.heap.size out ps (splitSt (l.take j)).2.2 u)∧Hid (Below w.heap.size w wr)) (fun _ _ i _=>l.length - (intOf i).toNat)
   case atStart=>exact ⟨0,0,[],.slice none 0 0,Nat.zero_le _,by omega,by omega,rfl,rfl,Nat.le_refl _,Hh ⟨rfl,rfl⟩,Hh (PartsAt.new w w.heap.size (Nat.le_refl _)),Hh (bl)⟩
   case round =>
    obtain ⟨j,dd,ps,u,hj,hd1,hd2,rfl,rfl,hps,HD,HP,HB⟩:=hrel
    by_cases hlt:j<l.length
    · obtain ⟨t,ht⟩:∃ t,l[j]? = some t:=⟨_,List.getElem?_eq_getElem hlt⟩
      have htk:l.take (j+1)=l.take j++[t]:=by rw [List.take_add_one,ht]; rfl
      have hsn:=splitSt_snoc (l.take j) t
      rw [←htk,←HD.out.1] at hsn
      have hcl:=(split_bounds l j hj).2
      obtain ⟨_,_,hv,hcap,hcs⟩:=Row.tok (HTOK.out.below HB.out)
      cases hv
      obtain ⟨g,o,rfl,hg,hcs⟩:=hcs (by rintro rfl; exact absurd hlt (Nat.not_lt_zero _))
      obtain ⟨k0,k1,k2,k3⟩:=hcs j t ht
      have hdp:=fun W=>deeper_any t W
      have hds:=deep_small t
      obtain ⟨D,hD⟩:∃ D,deeperP t=D:=⟨_,rfl⟩
      rw [hD] at hdp hds hsn
      obtain ⟨S,hS⟩:∃ S,splitSt (l.take j)=S:=⟨_,rfl⟩
      rw [hS] at HP HD hsn hcl
      obtain ⟨S0,S1,S2⟩:=S
      dsimp only at HP HD hsn hcl
      have HDP:=Hh hdp; clear hdp
      obtain ⟨hds1,hds2⟩:=hds
      obtain ⟨tk,tt,tn,tq⟩:=t
      dsimp only at k0 k1 k2 k3
      have his:=fun b W h=>is1_any tk tt tn tq 44 b W h
      have hown0:=HP.out.own
      obtain ⟨ao,co,rfl⟩:=owns_slice hown0
      obtain ⟨cm,hcm⟩:∃ cm,signIs ⟨tk,tt,tn,tq⟩ [44]=cm:=⟨_,rfl⟩
      rw [hcm] at his hsn
      have HIS:=Hh his; clear his
      have hi0:(0:Int)≤(j:Int):=by omega
      have hi1:(j:Int)<(l.length:Int):=by omega
      have HSN:=Hh hsn
      clear hsn hcs ht htk hD hS hcm hown0
      by_cases hcomma:cm=true∧dd+D≤0
      · obtain ⟨rfl,hle⟩:=hcomma
        have hsn:=HSN.out
        rw [if_pos ⟨rfl,hle⟩] at hsn
        have HSN2:=Hh hsn; clear hsn HSN
        go_wp2_with fail
        (with_reducible refine (HDP.out _).mono ?_)
        rintro e w2 ⟨rfl,hb2⟩
        have hbx:Below wr.heap.size wr w2:=below_of_alloc hb2
        have hbk:=box_kept hb2
        have c0:=blk_cell hbk 0
        have c1:=blk_cell hbk 1
        have c2:=blk_cell hbk 2
        have c3:=blk_cell hbk 3
        have hwl:=blk_lt hbk
        have HBX:=Hh (HB.out.trans (hbx.mono HB.out.size))
        have HP2:=Hh (HP.out.below hbx)
        have HBK:=Hh hbk
        simp only [List.getElem?_toArray,List.getElem?_cons_zero,List.getElem?_cons_succ] at c0 c1 c2 c3
        clear hbk hb2 hbx k0 k1 k2 k3
        go_wp2_with fail
        (with_reducible refine (HIS.out _ _ ?_).mono ?_)
        · simp [go_sem]
        rintro e w3 ⟨rfl,hb3⟩
        have hbx3:Below w2.heap.size w2 w3:=below_of_alloc hb3
        have HP3:=Hh (HP2.out.below hbx3)
        have HB3:=Hh (HBX.out.trans (hbx3.mono HBX.out.size))
        have HBK3:=Hh (blk_below HBK.out hbx3 hwl)
        clear hbx3 hb3 c0 c1 c2 c3 hwl
        go_wp2_with (at_builtin; refine wpList_append_own_at _ rfl _ _ 48 rfl w.heap.size 28 i0 (.slice none 0 0) 1 24 Tryz.underlying48 hi hz0 hz1 hz2 rfl (by decide) _ _ _ rfl (HP3.out.own.alloc _) ⟨w3.heap.size,0,none⟩ 1 1 [.slice none 0 0] rfl rfl ?c1 ?c2 ?c3 ?c4 ?c5 ?_)
        case c1=>exact cell_one_new _ _ _
        case c2=>intro u hu; simp at hu; subst hu; rfl
        case c3=>unfold maxLen; omega
        case c4=>omega
        case c5=>rw [World.size_alloc]; have:=HB3.out.size; omega
        intro v4 w4 hown4 hgrow4 _ hat4
        have hal:Below w3.heap.size w3 (w3.alloc (.cells #[.slice none 0 0] 28)):=(Below.refl _ _).alloc (Nat.le_refl _) _
        have hp4:=(HP3.out.below hal).comma (by rw [List.append_assoc]; exact hown4) hgrow4 (by rw [World.size_alloc]; exact hat4)
        have hb4:Below w.heap.size w w4:=(HB3.out.trans (hal.mono HB3.out.size)).grown hgrow4 (by rw [World.size_alloc]; have:=HB3.out.size; omega) (fun k hk=>(HP3.out.own.lt k hk).1)
        have HP4:=Hh hp4; have HB4:=Hh hb4
        clear hal hp4 hb4 hown4 hgrow4 hat4
        go_wp2_with fail
        go_roundw
        case rel=>exact ⟨j+1,dd+D,ps++[(S2,u)],.slice none 0 0,by omega,by omega,by omega,by go_num,rfl,by simp; omega,Hh ⟨by rw [HSN2.out],by rw [HSN2.out,List.map_append,HD.out.2]; rfl⟩,Hh (by rw [HSN2.out]; exact HP4.out),HB4⟩
        case measure=>simp [intOf]; omega
      · have hsn:=HSN.out
        rw [if_neg hcomma] at hsn
        have HSN2:=Hh hsn; clear hsn HSN
        cases cm with
        | false =>
          clear hcomma
          go_wp2_with fail
          (with_reducible refine (HDP.out _).mono ?_)
          rintro e w2 ⟨rfl,hb2⟩
          have hbx:Below wr.heap.size wr w2:=below_of_alloc hb2
          have hbk:=box_kept hb2
          have c0:=blk_cell hbk 0
          have c1:=blk_cell hbk 1
          have c2:=blk_cell hbk 2
          have c3:=blk_cell hbk 3
          have hwl:=blk_lt hbk
          have HBX:=Hh (HB.out.trans (hbx.mono HB.out.size))
          have HP2:=Hh (HP.out.below hbx)
          have HBK:=Hh hbk
          simp only [List.getElem?_toArray,List.getElem?_cons_zero,List.getElem?_cons_succ] at c0 c1 c2 c3
          clear hbk hb2 hbx k0 k1 k2 k3
          go_wp2_with fail
          (with_reducible refine (HIS.out _ _ ?_).mono ?_)
          · simp [go_sem]
          rintro e w3 ⟨rfl,hb3⟩
          have hbx3:Below w2.heap.size w2 w3:=below_of_alloc hb3
          have HP3:=Hh (HP2.out.below hbx3)
          have HB3:=Hh (HBX.out.trans (hbx3.mono HBX.out.size))
          have HBK3:=Hh (blk_below HBK.out hbx3 hwl)
          clear hbx3 hb3 c0 c1 c2 c3 hwl
          obtain ⟨b0,hb0⟩:∃ b0,wr.heap.size=b0:=⟨_,rfl⟩
          obtain ⟨z0,z1,z2,z3⟩:w3.cell? ⟨b0,0,none⟩=some (.int .i64 tk)∧w3.cell? ⟨b0,1,none⟩=some (.string tt)∧w3.cell? ⟨b0,2,none⟩=some (.int .i64 tn)∧w3.cell? ⟨b0,3,none⟩=some (.int .i64 tq):=by rw [←hb0]; exact ⟨blk_cell HBK3.out 0,blk_cell HBK3.out 1,blk_cell HBK3.out 2,blk_cell HBK3.out 3⟩
          rw [hb0]
          obtain ⟨gv,rfl,hcv,hgb,hgs,y0,y1⟩:=HP3.out.opened
          have hlb:b0<w3.heap.size:=by rw [←hb0]; exact blk_lt HBK3.out
          have hq1:(ps.length:Int)<(ps.length:Int)+1:=by omega
          have hq2:(0:Int)≤(ps.length:Int):=by omega
          have HB0:=Hh hb0
          clear hb0
          go_wp2_with fail
          go_region_law ((
           refine step_append_at (by rfl) _ _ 28 (by rfl) w.heap.size 34 j0 (.agg #[.int .i64 0,.string ⟨#[]⟩,.int .i64 0,.int .i64 0]) 4 40 Tryz.underlying28 hq0 hy0 hy1 hy2 rfl (by decide) u S2.length (tokc S2) ?_ ?_ ⟨w3.heap.size,0,none⟩ 1 1 [.int .i64 tk,.string tt,.int .i64 tn,.int .i64 tq] ?_ (by rfl) ?_ ?_ (by unfold maxLen; omega) (by omega) ?_ ?_
           · rfl
           · exact owns_below HP3.out.last (bl)
           · rfl
           · exact src4 (blk_new _ _)
           · intro u hu; simp at hu; rcases hu with rfl | rfl | rfl | rfl<;>rfl
           · exact Nat.le_trans HB3.out.size (Below.size (show Below w3.heap.size w3 _ from bl))
           intro u5 w5 hown5 hgrow5 hat5
           obtain ⟨ua,uc,rfl⟩:=owns_slice hown5
           obtain ⟨c5,f5⟩:=PartsAt.openG (HP3.out.below (bl)) hgrow5))
          all_goals
           obtain ⟨hp6,hb6⟩:=PartsAt.token2 (t:=⟨tk,tt,tn,tq⟩) (HP3.out.below (bl)) hown5 hgrow5 (by first | exact hat5 | (simp only [World.size_alloc]; exact hat5)) (HB3.out.trans (Below.mono (show Below w3.heap.size w3 _ from bl) HB3.out.size)) rfl (Nat.le_refl _) hgb
           have HP6:=Hh hp6
           have HB6:=Hh hb6
           clear hp6 hb6 hown5 hgrow5 hat5 c5 f5
           go_wp2_with fail
           go_roundw
           case rel=>exact ⟨j+1,dd+D,ps,_,by omega,by omega,by omega,by go_num,rfl,by omega,Hh ⟨by rw [HSN2.out],by rw [HSN2.out]; exact HD.out.2⟩,Hh (by rw [HSN2.out]; exact HP6.out),HB6⟩
           case measure=>simp [intOf]; omega
        | true =>
          have hgt:¬ (dd+D≤0):=fun h=>hcomma ⟨rfl,h⟩
          clear hcomma
          go_wp2_with fail
          (with_reducible refine (HDP.out _).mono ?_)
          rintro e w2 ⟨rfl,hb2⟩
          have hbx:Below wr.heap.size wr w2:=below_of_alloc hb2
          have hbk:=box_kept hb2
          have c0:=blk_cell hbk 0
          have c1:=blk_cell hbk 1
          have c2:=blk_cell hbk 2
          have c3:=blk_cell hbk 3
          have hwl:=blk_lt hbk
          have HBX:=Hh (HB.out.trans (hbx.mono HB.out.size))
          have HP2:=Hh (HP.out.below hbx)
          have HBK:=Hh hbk
          simp only [List.getElem?_toArray,List.getElem?_cons_zero,List.getElem?_cons_succ] at c0 c1 c2 c3
          clear hbk hb2 hbx k0 k1 k2 k3
          go_wp2_with fail
          (with_reducible refine (HIS.out _ _ ?_).mono ?_)
          · simp [go_sem]
          rintro e w3 ⟨rfl,hb3⟩
          have hbx3:Below w2.heap.size w2 w3:=below_of_alloc hb3
          have HP3:=Hh (HP2.out.below hbx3)
          have HB3:=Hh (HBX.out.trans (hbx3.mono HBX.out.size))
          have HBK3:=Hh (blk_below HBK.out hbx3 hwl)
          clear hbx3 hb3 c0 c1 c2 c3 hwl
          obtain ⟨b0,hb0⟩:∃ b0,wr.heap.size=b0:=⟨_,rfl⟩
          obtain ⟨z0,z1,z2,z3⟩:w3.cell? ⟨b0,0,none⟩=some (.int .i64 tk)∧w3.cell? ⟨b0,1,none⟩=some (.string tt)∧w3.cell? ⟨b0,2,none⟩=some (.int .i64 tn)∧w3.cell? ⟨b0,3,none⟩=some (.int .i64 tq):=by rw [←hb0]; exact ⟨blk_cell HBK3.out 0,blk_cell HBK3.out 1,blk_cell HBK3.out 2,blk_cell HBK3.out 3⟩
          rw [hb0]
          obtain ⟨gv,rfl,hcv,hgb,hgs,y0,y1⟩:=HP3.out.opened
          have hlb:b0<w3.heap.size:=by rw [←hb0]; exact blk_lt HBK3.out
          have hq1:(ps.length:Int)<(ps.length:Int)+1:=by omega
          have hq2:(0:Int)≤(ps.length:Int):=by omega
          have HB0:=Hh hb0
          clear hb0
          go_wp2_with fail
          go_region_law ((
           refine step_append_at (by rfl) _ _ 28 (by rfl) w.heap.size 34 j0 (.agg #[.int .i64 0,.string ⟨#[]⟩,.int .i64 0,.int .i64 0]) 4 40 Tryz.underlying28 hq0 hy0 hy1 hy2 rfl (by decide) u S2.length (tokc S2) ?_ ?_ ⟨w3.heap.size,0,none⟩ 1 1 [.int .i64 tk,.string tt,.int .i64 tn,.int .i64 tq] ?_ (by rfl) ?_ ?_ (by unfold maxLen; omega) (by omega) ?_ ?_
           · rfl
           · exact owns_below HP3.out.last (bl)
           · rfl
           · exact src4 (blk_new _ _)
           · intro u hu; simp at hu; rcases hu with rfl | rfl | rfl | rfl<;>rfl
           · exact Nat.le_trans HB3.out.size (Below.size (show Below w3.heap.size w3 _ from bl))
           intro u5 w5 hown5 hgrow5 hat5
           obtain ⟨ua,uc,rfl⟩:=owns_slice hown5
           obtain ⟨c5,f5⟩:=PartsAt.openG (HP3.out.below (bl)) hgrow5))
          all_goals
           obtain ⟨hp6,hb6⟩:=PartsAt.token2 (t:=⟨tk,tt,tn,tq⟩) (HP3.out.below (bl)) hown5 hgrow5 (by first | exact hat5 | (simp only [World.size_alloc]; exact hat5)) (HB3.out.trans (Below.mono (show Below w3.heap.size w3 _ from bl) HB3.out.size)) rfl (Nat.le_refl _) hgb
           have HP6:=Hh hp6
           have HB6:=Hh hb6
           clear hp6 hb6 hown5 hgrow5 hat5 c5 f5
           go_wp2_with fail
           go_roundw
           case rel=>exact ⟨j+1,dd+D,ps,_,by omega,by omega,by omega,by go_num,rfl,by omega,Hh ⟨by rw [HSN2.out],by rw [HSN2.out]; exact HD.out.2⟩,Hh (by rw [HSN2.out]; exact HP6.out),HB6⟩
           case measure=>simp [intOf]; omega
    · obtain rfl:j=l.length:=by omega
      have hp:=HP.out
      have hd:=HD.out
      rw [List.take_length] at hp hd
      have hrow:=hp.fresh
      rw [hd.2,←HST.out] at hrow
      obtain ⟨us,h1,h2,h3⟩:=hrow
      have h2c:=h2
      obtain ⟨ao,co,rfl,_⟩:=h2c
      have HR:=Hh (show PartsNew wr w.heap.size (.slice ao (splitP l).length co) (splitP l) from ⟨us,h1,h2,h3⟩)
      go_wp2_with fail
      go_ret
      exact ⟨_,_,_,rfl,HR.out,HB.out⟩
theorem split_any (l:List Tok) (v:Value) (w:World) (hr:Row w v l.length (tokc l)) (hl:l.length≤100000) :
 Calls Tryz.prog 18 #[v] w fun e w'=>∃ a n c,e=.returned (.slice a n c)∧PartsRow w' (.slice a n c) (splitP l)∧Below w.heap.size w w':=by
 refine (split_new l v w hr hl).mono ?_
 rintro e w' ⟨a,n,c,he,hp,hb⟩
 exact ⟨a,n,c,he,hp.parts,hb⟩
theorem Tryz.infoArg:(Tryz.prog.info? 84).map (fun i=>(i.zero,i.size,i.bytes))=some (some (.agg #[.int .i64 0,.string ⟨#[]⟩,.pointer none]),3,32):=by kernel_rfl
def arc (l:List (Ar × Option Addr)):List Value:=l.flatMap fun x=>[.int .i64 x.1.kind,.string x.1.text,.pointer x.2]
theorem arc_snoc (l:List (Ar × Option Addr)) (x:Ar × Option Addr):arc (l++[x])=arc l++[.int .i64 x.1.kind,.string x.1.text,.pointer x.2]:=by simp [arc]
theorem OptAt.grown {T T2:TypeId} {w w':World} {o:Option Ex} {v u:Value} {base size n:Nat} {xs:List Value} (h:OptAt T w o v) (hown:w.ownsRow base T2 size u n xs) (hg:w.grownBy w' u.ownBlock) (hT:T2≠T):OptAt T w' o v:=by
 cases o with
 | none=>exact h
 | some x =>
   refine NodeAt.keepN (fun k c r hk=>(hg.block k (blk_lt hk) (fun e=>?_)).trans hk) x v h
   rcases hown.2 with ⟨h1,_⟩ | ⟨g,cap,cur,h1,_,h2,_⟩
   · rw [h1] at e; cases e
   · rw [h1] at e
     have:k=g:=Option.some.inj e
     rw [this,h2] at hk
     have:=Option.some.inj hk
     simp only [Obj.cells.injEq] at this
     exact hT this.2.1
def combA (d:List Ar) (x:List Ar × Int):List Ar × Int:=if x.2=0 then (d++x.1,0) else ([],x.2)
theorem comb_step {d:List Ar} {ps:List (List Tok)} {j:Nat} {p:List Tok} (h:ps[j]? = some p):combA d (argsGo (ps.drop j))=if (argOf p).2=0 then combA (d++[(argOf p).1]) (argsGo (ps.drop (j+1))) else ([],(argOf p).2):=by
 obtain ⟨h1,h2⟩:=List.getElem?_eq_some_iff.1 h
 rw [List.drop_eq_getElem_cons h1,h2]
 unfold combA
 simp only [argsGo]
 by_cases h0:(argOf p).2=0
 · by_cases h3:(argsGo (ps.drop (j+1))).2=0
   · simp [h0,h3]
   · simp [h0,h3]
 · simp [h0]
def AllRes (x:List Ar × Int) (w:World) (e:Ending) (w':World):Prop:=∃ a c,∃ vs:List (Ar × Option Addr),e=.returned (.tuple #[.slice a vs.length c,.int .i64 x.2])∧vs.map Prod.fst=x.1∧Row w' (.slice a vs.length c) vs.length (arc vs)∧(∀ y∈vs,OptAt 225 w' y.1.ex (.pointer y.2))∧Below w.heap.size w w'
theorem part_small {l:List Tok}:∀ (m:List Tok) (d:Int) (cur:List Tok),(∀ t∈m,t∈l)→(∀ t∈cur,t∈l)→∀ p∈splitGo d cur m,∀ t∈p,t∈l
 | [],d,cur,_,hc,p,hp,t,ht=>by
   simp [splitGo] at hp
   subst hp
   exact hc t ht
 | x::m,d,cur,hm,hc,p,hp,t,ht=>by
   unfold splitGo at hp
   split at hp
   · rcases List.mem_cons.1 hp with rfl | hp
     · exact hc t ht
     · exact part_small m _ [] (fun t ht=>hm t (List.mem_cons_of_mem _ ht)) (fun t ht=>by cases ht) p hp t ht
   · refine part_small m _ (cur++[x]) (fun t ht=>hm t (List.mem_cons_of_mem _ ht)) (fun t ht=>?_) p hp t ht
     rcases List.mem_append.1 ht with h | h
     · exact hc t h
     · rw [List.mem_singleton] at h; subst h; exact hm _ List.mem_cons_self
theorem split_mem {l p:List Tok} (h:p∈splitP l):∀ t∈p,t∈l:=by
 unfold splitP at h
 split at h
 · cases h
 · exact part_small l 0 [] (fun t ht=>ht) (fun t ht=>by cases ht) p h
theorem sum_ge:∀ (ps:List (List Tok)) (p:List Tok),p∈ps→p.length≤sumLen ps
 | [],p,h=>by cases h
 | q::ps,p,h=>by
   unfold sumLen
   rw [List.map_cons,List.sum_cons]
   rcases List.mem_cons.1 h with rfl | h
   · omega
   · have:=sum_ge ps p h; unfold sumLen at this; omega
theorem split_lens {l p:List Tok} (h:p∈splitP l):p.length≤l.length:=by
 by_cases hl:l=[]
 · subst hl; simp [splitP] at h
 · have h1:=splitP_sum hl
   have h2:=sum_ge _ _ h
   omega
theorem split_count {l:List Tok} (hl:l≠[]):(splitP l).length≤l.length+1:=by
 have h1:=splitP_sum hl
 omega
set_option maxRecDepth 100000 in
set_option maxHeartbeats 4000000 in
theorem all_any (l:List Tok) (v:Value) (w:World) (hr:Row w v l.length (tokc l)) (hs:TokOk l) (hl:l.length≤100000):Calls Tryz.prog 14 #[v] w (AllRes (argsP l) w):=by
 obtain ⟨i0,hi,hz0,hz1,hz2⟩:=info_parts Tryz.infoArg
 have hsp:=split_any l v w hr hl
 have hcnt:(splitP l).length≤100001:=by
  by_cases h:l=[]
  · subst h; simp [splitP]
  · have:=split_count h; omega
 have hpar:=fun p (hp:p∈splitP l) X v2 h=>parseA_any p v2 X h (fun t ht=>hs t (split_mem hp t ht)) (by have:=split_lens hp; omega)
 unfold argsP
 obtain ⟨ps,hps⟩:∃ ps,splitP l=ps:=⟨_,rfl⟩
 rw [hps] at hsp hcnt ⊢
 rw [hps] at hpar
 obtain ⟨R,hR⟩:∃ R,argsGo ps=R:=⟨_,rfl⟩
 rw [hR]
 have hR0:R=combA [] (argsGo (ps.drop 0)):=by
  rw [List.drop_zero,hR]
  unfold combA
  by_cases h:R.2=0
  · rw [if_pos h,List.nil_append,←h]
  · rw [if_neg h,←hR]
    have:∀ qs,(argsGo qs).2≠0→(argsGo qs).1=[]:=by
     intro qs
     cases qs with
     | nil=>intro h; exact absurd rfl h
     | cons q qs =>
       simp only [argsGo]
       split
       · split
         · intro h; exact absurd rfl h
         · intro _; rfl
       · intro _; rfl
    exact Prod.ext (this ps (by rw [hR]; exact h)) rfl
 have HSP:=Hh hsp; have HPAR:=Hh hpar; have HR0:=Hh hR0
 clear hsp hpar hps hR hR0
 obtain ⟨Ra,Rc⟩:=R
 unfold AllRes
 dsimp only
 obtain ⟨a0,c0,rfl,_,_⟩:=hr
 go_enter Tryz.func14,Tryz.ntmps14
 go_wp2_with fail
 (with_reducible refine HSP.out.mono ?_)
 rintro e w1 ⟨a,n,c,rfl,hpr,hb1⟩
 have hn:n=ps.length:=by obtain ⟨us,h1,h2,h3⟩:=hpr; obtain ⟨_,_,h,_⟩:=h2; cases h; rfl
 subst hn
 have HPR:=Hh hpr; have HB1:=Hh hb1
 clear hpr hb1
 have hcI:(ps.length:Int)≤100001:=by omega
 go_wp2_with fail
 go_loopw [4,12] (fun out i wr=>∃ (j:Nat) (vs:List (Ar × Option Addr)),j≤ps.length∧vs.length=j∧i=.int .i64 j∧Hid (((Ra,Rc):List Ar × Int)=combA (vs.map Prod.fst) (argsGo (ps.drop j)))∧Hid (wr.ownsRow w1.heap.size 84 3 out vs.length (arc vs))∧Hid (∀ y∈vs,OptAt 225 wr y.1.ex (.pointer y.2))∧Hid (Below w1.heap.size w1 wr)) (fun _ i _=>ps.length - (intOf i).toNat)
 case atStart=>exact ⟨0,[],Nat.zero_le _,rfl,rfl,HR0,Hh (World.ownsRow_nil _ _ _ _),Hh (by simp),Hh (Below.refl _ _)⟩
 case round =>
  obtain ⟨j,vs,hj,hvj,rfl,HC,HO,HX,HB⟩:=hrel
  obtain ⟨ao,co,rfl⟩:=owns_slice HO.out
  by_cases hlt:j<ps.length
  · obtain ⟨p,hp⟩:∃ p,ps[j]? = some p:=⟨_,List.getElem?_eq_getElem hlt⟩
    obtain ⟨us,hu1,hu2,hu3⟩:=HPR.out.below HB.out
    obtain ⟨u,hu⟩:∃ u,us[j]? = some u:=⟨_,List.getElem?_eq_getElem (by omega)⟩
    have hpu:=hu3 j p u hp hu
    obtain ⟨_,_,hv,_,hh⟩:=hu2
    cases hv
    obtain ⟨g,o,rfl,hg,hh⟩:=hh (by rintro rfl; simp at hu)
    have hcy:wr.cell? ⟨g,o+j,none⟩=some u:=(hh j (by omega)).trans hu
    have hcall:=HPAR.out p (List.mem_of_getElem? hp) wr u hpu
    have hstep:=HC.out.trans (comb_step (d:=vs.map Prod.fst) hp)
    unfold ArRes at hcall
    obtain ⟨x,hx⟩:∃ x,argOf p=x:=⟨_,rfl⟩
    rw [hx] at hcall hstep
    obtain ⟨⟨kd,tx,ex⟩,cd⟩:=x
    dsimp only at hcall hstep
    have HCALL:=Hh hcall; have HSTEP:=Hh hstep
    have hi0:(0:Int)≤(j:Int):=by omega
    have hi1:(j:Int)<(ps.length:Int):=by omega
    obtain ⟨au,cu,rfl,_,_⟩:=hpu
    clear hh hcall hstep hx hp hu hu1 hu3
    have HVJ:=Hh hvj
    clear hvj
    go_wp2_with fail
    (with_reducible refine HCALL.out.mono ?_)
    rintro e w2 ⟨q,rfl,ho,hb2⟩
    have HB2:=Hh (HB.out.trans (hb2.mono HB.out.size))
    have HBR:=Hh hb2
    have HO2:=Hh ho
    clear hb2 ho hcy
    by_cases h0:cd=0
    · subst h0
      have hst:=HSTEP.out
      rw [if_pos rfl] at hst
      have HST:=Hh hst; clear hst
      have hvl:vs.length≤100001:=by have:=HVJ.out; omega
      go_wp2_with (at_builtin; refine wpList_append_own _ rfl _ _ 35 rfl w1.heap.size 84 i0 (.agg #[.int .i64 0,.string ⟨#[]⟩,.pointer none]) 3 32 Tryz.underlying35 hi hz0 hz1 hz2 rfl (by decide) _ _ _ rfl (((owns_below HO.out HBR.out).alloc _).alloc _) ⟨w2.heap.size+1,0,none⟩ 1 1 [.int .i64 kd,.string tx,.pointer q] rfl rfl ?d1 ?d2 ?d3 ?d4 ?d5 ?_)
      case d1 =>
       have hnb:=blk_new (w2.alloc (.cells #[.int .i64 kd,.string tx,.pointer q] 84)) (.cells #[.int .i64 kd,.string tx,.pointer q] 84)
       rw [World.size_alloc] at hnb
       intro k u hk
       rw [addr_add,Nat.zero_add,blk_cell hnb]
       simpa using hk
      case d2=>intro u hu; simp at hu; rcases hu with rfl | rfl | rfl<;>rfl
      case d3=>unfold maxLen; omega
      case d4=>omega
      case d5=>rw [World.size_alloc,World.size_alloc]; have:=HB2.out.size; omega
      intro v4 w4 hown4 hgrow4 _
      have hal:Below w2.heap.size w2 ((w2.alloc (.cells #[.int .i64 kd,.string tx,.pointer q] 84)).alloc (.cells #[.int .i64 kd,.string tx,.pointer q] 84)):=((Below.refl _ _).alloc (Nat.le_refl _) _).alloc (by rw [World.size_alloc]; omega) _
      have hownb:=((owns_below HO.out HBR.out).alloc (.cells #[.int .i64 kd,.string tx,.pointer q] 84)).alloc (.cells #[.int .i64 kd,.string tx,.pointer q] 84)
      have hopt:∀ y∈vs++[((⟨kd,tx,ex⟩:Ar),q)],OptAt 225 w4 y.1.ex (.pointer y.2):=fun y hy=>by
       rcases List.mem_append.1 hy with hy | hy
       · exact (((HX.out y hy).below HBR.out).below hal).grown hownb hgrow4 (by decide)
       · obtain rfl:y=((⟨kd,tx,ex⟩:Ar),q):=by simpa using hy
         exact (HO2.out.below hal).grown hownb hgrow4 (by decide)
      have hb4:Below w1.heap.size w1 w4:=(HB2.out.trans (hal.mono HB2.out.size)).grown hgrow4 (by rw [World.size_alloc,World.size_alloc]; have:=HB2.out.size; omega) (fun k hk=>(HO.out.lt k hk).1)
      have HOWN4:=Hh hown4; have HOPT:=Hh hopt; have HB4:=Hh hb4
      clear hal hownb hopt hb4 hown4 hgrow4
      go_wp2_with fail
      go_roundw
      case rel=>exact ⟨j+1,vs++[((⟨kd,tx,ex⟩:Ar),q)],by omega,by rw [List.length_append,HVJ.out]; rfl,by go_num,Hh (by rw [HST.out,List.map_append]; rfl),Hh (by rw [arc_snoc,List.length_append]; exact HOWN4.out),HOPT,HB4⟩
      case measure=>simp [intOf]; omega
    · have hst:=HSTEP.out
      rw [if_neg h0] at hst
      have HST:=Hh hst; clear hst
      have hne:(cd != 0)=true:=bne_iff_ne.2 h0
      clear h0
      go_wp2_with fail
      refine bodyPost_ret (v:=.tuple #[.slice none 0 0,.int .i64 cd]) (by simp [results,Tryz.results14,go_sem]) rfl ⟨none,0,[],?_,?_,(WRow.nil _ 0).row,by simp,?_⟩
      · have q:=HST.out
        cases q
        rfl
      · have q:=HST.out
        cases q
        rfl
      · exact (HB1.out.trans (HB2.out.mono HB1.out.size)).alloc (HB1.out.trans (HB2.out.mono HB1.out.size)).size _
  · obtain rfl:j=ps.length:=by omega
    have hc:=HC.out
    rw [List.drop_length] at hc
    have hc2:((Ra,Rc):List Ar × Int)=(vs.map Prod.fst,0):=by rw [hc]; unfold combA; simp [argsGo]
    cases hc2
    go_wp2_with fail
    refine bodyPost_ret (v:=.tuple #[.slice ao vs.length co,.int .i64 0]) (by simp [results,Tryz.results14,go_sem]) rfl ⟨_,_,vs,rfl,rfl,(WRow.of_owns HO.out).row,HX.out,HB1.out.trans (HB.out.mono HB1.out.size)⟩
def ptc (l:List (Pt × Option Addr)):List Value:=l.flatMap fun x=>[.string x.1.text,.pointer x.2]
theorem ptc_len (l:List (Pt × Option Addr)):(ptc l).length=l.length * 2:=by
 unfold ptc
 induction l with
 | nil=>rfl
 | cons a l ih=>simp at ih ⊢; omega
theorem ptc_snoc (l:List (Pt × Option Addr)) (x:Pt × Option Addr):ptc (l++[x])=ptc l++[.string x.1.text,.pointer x.2]:=by simp [ptc]
theorem infoPart:(Tryz.prog.info? 130).map (fun i=>(i.zero,i.size,i.bytes))=some (some (.agg #[.string ⟨#[]⟩,.pointer none]),2,24):=by kernel_rfl
def combP (done:List Pt) (r:List Pt × Int):List Pt × Int:=if r.2=0 then (done++r.1,0) else ([],r.2)
theorem partsGo_bad (d:List UInt8):∀ qs,(partsGo d qs).2≠0→(partsGo d qs).1=[]
 | [],h=>absurd rfl h
 | q::qs,h=>by
   unfold partsGo at h ⊢
   split
   · split
     · rename_i h1 h2; rw [if_pos h1,if_pos h2] at h; exact absurd rfl h
     · rfl
   · rfl
theorem combP_nil (d:List UInt8) (qs:List (List Tok)):partsGo d qs=combP [] (partsGo d qs):=by
 unfold combP
 by_cases h:(partsGo d qs).2=0
 · rw [if_pos h,List.nil_append,←h]
 · rw [if_neg h,←partsGo_bad d qs h]
theorem combP_step {d:List UInt8} {done:List Pt} {qs:List (List Tok)} {j:Nat} {p:List Tok} (hp:qs[j]? = some p) :
 combP done (partsGo d (qs.drop j))=if (partP d p).2=0 then combP (done++[(partP d p).1]) (partsGo d (qs.drop (j+1))) else ([],(partP d p).2):=by
 have hj:j<qs.length:=(List.getElem?_eq_some_iff.1 hp).1
 have hd:qs.drop j=p::qs.drop (j+1):=by
  rw [List.drop_eq_getElem_cons hj]
  rw [List.getElem?_eq_getElem hj] at hp
  cases hp; rfl
 rw [hd]
 unfold combP
 by_cases h:(partP d p).2=0
 · rw [if_pos h]
   by_cases h2:(partsGo d (qs.drop (j+1))).2=0
   · simp only [partsGo,if_pos h,if_pos h2,if_true]
     simp
   · simp only [partsGo,if_pos h,if_neg h2]
 · rw [if_neg h]
   simp only [partsGo,if_neg h]
def PB (w:World) (b:Nat) (vl:Value) (lab op:ByteArray) (va vp:Value):Prop:=w.heap[b]? = some (.cells #[vl,.string lab,.string op,va,vp] 118 (0,0))
theorem LP.pb {w:World} {b:Nat} {l:List Tok} {lab op:ByteArray} {va vp:Value} (h:LP w b l lab op va vp):∃ vl,PB w b vl lab op va vp∧Row w vl l.length (tokc l):=by
 obtain ⟨a,cap,h1,h2,_⟩:=h
 exact ⟨_,h1,h2⟩
theorem PB.below {w w':World} {b:Nat} {vl:Value} {lab op:ByteArray} {va vp:Value} (h:PB w b vl lab op va vp) (hb:Below w.heap.size w w'):PB w' b vl lab op va vp:=blk_below h hb (blk_lt h)
theorem OptAt.kbT {T T2:TypeId} {w w':World} {b:Nat} {C:Array Value} {r2:Nat × Nat} {o:Option Ex} {v:Value} (h:OptAt T w o v) (hk:Kb b w w') (hb:w.heap[b]? = some (.cells C T2 r2)) (hT:T2≠T):OptAt T w' o v:=by
 cases o with
 | none=>exact h
 | some x =>
   refine NodeAt.keepN (fun k c r hc=>?_) x v h
   have hne:k≠b:=by
    rintro rfl
    rw [hb] at hc
    cases hc
    exact hT rfl
   exact (hk.block k (blk_lt hc) hne).trans hc
theorem LP.rowSet {w W:World} {b:Nat} {l:List Tok} {lab op:ByteArray} {va vp:Value} {a:Option Addr} {cap:Nat} (h:LP w b l lab op va vp) (hc:w.cell? ⟨b,0,none⟩=some (.slice a l.length cap)) (hb:Below w.heap.size w W) (i:Nat) (v:Value):Row (W.setCell ⟨b,i,none⟩ v) (.slice a l.length cap) l.length (tokc l):=by
 obtain ⟨a',cap',h1,h2,h3⟩:=h
 have hv:=(blk_cell h1 0).symm.trans hc
 have e:a'=a∧cap'=cap:=by simpa using hv
 obtain ⟨rfl,rfl⟩:=e
 exact LP.row_set (h2.below hb) h3 v
theorem Kb.grown {b:Nat} {u v w:World} {row:Option Nat} (h:Kb b u v) (hg:v.grownBy w row) (hr:∀ k,row=some k→u.heap.size≤k):Kb b u w :=
 ⟨hg.os.trans h.os,hg.tape.trans h.tape,hg.output.trans h.output,Nat.le_trans h.size hg.size,fun k hk hb=>(hg.block k (Nat.lt_of_lt_of_le hk h.size) (fun e=>by have:=hr k e.symm; omega)).trans (h.block k hk hb)⟩
theorem src2 {w:World} {g:Nat} {x0 x1:Value} {T:TypeId} (h:w.heap[g]? = some (.cells #[x0,x1] T (0,0))):∀ (j:Nat) (u:Value),[x0,x1][j]? = some u→w.cell? ((⟨g,0,none⟩:Addr).add j)=some u:=by
 intro j u hj
 rw [addr_add,Nat.zero_add,blk_cell h]
 simpa using hj
def DataRes (b:Nat) (lab:ByteArray) (x:Stm × Int) (w:World) (e:Ending) (w':World):Prop :=
 e=.returned (.int .i64 x.2)∧Kb b w w'∧(x.2=0→∃ vl vp,∃ ps:List (Pt × Option Addr),PB w' b vl lab ⟨x.1.op.toArray⟩ (.slice none 0 0) vp∧x.1.label=lab∧x.1.args=[]∧ps.map Prod.fst=x.1.parts∧Row w' vp ps.length (ptc ps)∧∀ y∈ps,OptAt 225 w' y.1.ex (.pointer y.2))
theorem countP_eq (d:List UInt8) (n:Nat):countP d n=(decide ((1:Int)≤n) && decide ((n:Int)≤dirHi d)):=by
 unfold countP dirHi
 split
 · rw [Bool.eq_iff_iff]; simp; omega
 · split
   · rw [Bool.eq_iff_iff]; simp; omega
   · rw [Bool.eq_iff_iff]; simp; omega
theorem t124_0 {p:Prop} (h:p:=by
 go_wp2_with fail
 go_ret
 have hr:RR=(⟨lab,d,[],vs.map Prod.fst⟩,0):=by rw [←HRR2.out]; rfl
 rw [hr]
 exact ⟨rfl,(HK1.out.trans HK.out).trans (Kb.of_below HBW.out),fun _=>⟨_,_,vs,(show PB w4 b _ lab ⟨d.toArray⟩ _ _ from hDE ▸ HPB.out.below HBW.out),rfl,rfl,rfl,(Row.of_owns HO.out).below HBW.out,fun y hy=>(HX.out y hy).below HBW.out⟩⟩):p:=h
set_option maxRecDepth 100000 in
set_option maxHeartbeats 8000000 in
theorem data_any (d:List UInt8) (p q:Nat) (l:List Tok) (lab op:ByteArray) (b:Nat) (w:World) (h:LP w b l lab op (.slice none 0 0) (.slice none 0 0)) (hs:TokOk l) (hl:l.length≤100000)
 (hp:w.heap[p]? = some (.cells #[.int .i64 1] 3 (0,0))) (hq:w.heap[q]? = some (.cells #[.int .i64 (dirHi d)] 3 (0,0))) :
 Calls Tryz.prog 127 #[.pointer (some ⟨b,0,none⟩),.agg #[.string ⟨d.toArray⟩,.bool (decide (d=wDEFB)),.func (.func 228) #[] #[.pointer (some ⟨p,0,none⟩),.pointer (some ⟨q,0,none⟩)]]] w (DataRes b lab (dataP lab d l) w):=by
 obtain ⟨i0,hi,hz0,hz1,hz2⟩:=info_parts infoPart
 have hlt:=h.lt
 have hcnt:(splitP l).length≤100001:=by
  by_cases h:l=[]
  · subst h; simp [splitP]
  · have:=split_count h; omega
 have hsp:=fun W v hr=>split_new l v W hr hl
 have hpar:=fun p' (hp:p'∈splitP l) fv X v2 h=>linePart_any d fv p' v2 X h (fun t ht=>hs t (split_mem hp t ht)) (by have:=split_lens hp; omega)
 have hcp:=countP_eq d
 obtain ⟨RR,hRR⟩:∃ RR,dataP lab d l=RR:=⟨_,rfl⟩
 rw [hRR]
 unfold dataP at hRR
 obtain ⟨qs,hqs⟩:∃ qs,splitP l=qs:=⟨_,rfl⟩
 rw [hqs] at hsp hcnt hRR
 rw [hqs] at hpar
 obtain ⟨R,hR⟩:∃ R,partsGo d qs=R:=⟨_,rfl⟩
 rw [hR] at hRR
 have hR0:R=combP [] (partsGo d (qs.drop 0)):=by rw [List.drop_zero,hR,←hR]; exact combP_nil d qs
 have hpb:p≠b:=by
  rintro rfl
  obtain ⟨_,_,h1,_⟩:=h
  rw [h1] at hp; cases hp
 have hqb:q≠b:=by
  rintro rfl
  obtain ⟨_,_,h1,_⟩:=h
  rw [h1] at hq; cases hq
 have HSP:=Hh hsp; have HPAR:=Hh hpar; have HR0:=Hh hR0; have HCP:=Hh hcp; have HRR:=Hh hRR; have HS:=Hh hs
 clear hsp hpar hqs hR hR0 hcp hRR hs
 obtain ⟨Ra,Rc⟩:=R
 obtain ⟨DB,hDB⟩:∃ DB,decide (d=wDEFB)=DB:=⟨_,rfl⟩
 obtain ⟨DE,hDE⟩:∃ DE:ByteArray,(⟨d.toArray⟩:ByteArray)=DE:=⟨_,rfl⟩
 rw [hDE,hDB]
 rw [hDB,hDE] at HPAR
 obtain ⟨FV,hFV⟩:∃ FV,Value.func (.func 228) #[] #[.pointer (some ⟨p,0,none⟩),.pointer (some ⟨q,0,none⟩)]=FV:=⟨_,rfl⟩
 obtain ⟨a,cap,c0,c1,c2,c3,c4,hf,hcap,hr⟩:=h.cells
 have hf2:=hf 2
 obtain ⟨W0,hW0⟩:∃ W0,(w.setCell ⟨b,2,none⟩ (.string DE)).alloc (.cells #[.string DE,.bool DB,FV] 136)=W0:=⟨_,rfl⟩
 have hal:Below (w.setCell ⟨b,2,none⟩ (.string DE)).heap.size (w.setCell ⟨b,2,none⟩ (.string DE)) W0:=by rw [←hW0]; exact (Below.refl _ _).alloc (Nat.le_refl _) _
 have hk0:Kb b w W0:=by rw [←hW0]; exact ((Kb.refl b w).setCell 2 _).alloc _
 have hsz:W0.heap.size=w.heap.size+1:=by rw [←hW0,World.size_alloc]; show (w.heap.modify _ _).size+1=_; rw [Array.size_modify]
 have hbx:W0.heap[w.heap.size]? = some (.cells #[.string DE,.bool DB,FV] 136 (0,0)):=by
  rw [←hW0]
  have:=blk_new (w.setCell ⟨b,2,none⟩ (.string DE)) (.cells #[.string DE,.bool DB,FV] 136)
  rwa [show (w.setCell ⟨b,2,none⟩ (.string DE)).heap.size=w.heap.size by show (w.heap.modify _ _).size=_; rw [Array.size_modify]] at this
 have hrow:=(h.rowSet c0 (Below.refl _ _) 2 (.string DE)).below hal
 have hpb0:PB W0 b (.slice a l.length cap) lab DE (.slice none 0 0) (.slice none 0 0):=by
  have k:PB w b (.slice a l.length cap) lab op (.slice none 0 0) (.slice none 0 0):=by
   obtain ⟨a',cap',k1,_,_⟩:=id h
   have e:a'=a∧cap'=cap:=by simpa using (blk_cell k1 0).symm.trans c0
   obtain ⟨rfl,rfl⟩:=e
   exact k1
  have k2:PB (w.setCell ⟨b,2,none⟩ (.string DE)) b (.slice a l.length cap) lab DE (.slice none 0 0) (.slice none 0 0):=blk_set k
  exact k2.below hal
 have hp0:=(hk0.block p (blk_lt hp) hpb).trans hp
 have hq0:=(hk0.block q (blk_lt hq) hqb).trans hq
 have HK0:=Hh hk0; have HBX:=Hh hbx; have HROW:=Hh hrow; have HPB0:=Hh hpb0; have HP0:=Hh hp0; have HQ0:=Hh hq0; have HW0:=Hh hW0; have HSZ:=Hh hsz
 clear hal hk0 hbx hrow hpb0 hp0 hq0 hr h hf hp hq hpb hqb hsz hW0
 subst hFV
 go_enter Tryz.func127,Tryz.ntmps127
 go_wp2_with fail
 rw [HW0.out]
 (with_reducible refine (HSP.out _ _ HROW.out).mono ?_)
 rintro e w1 ⟨a1,n1,c1',rfl,hpn,hb1⟩
 have hn1:n1=qs.length:=by obtain ⟨us,h1,h2,h3⟩:=hpn; obtain ⟨_,_,h,_⟩:=h2; cases h; rfl
 subst hn1
 have HK1:=Hh (HK0.out.trans (Kb.of_below (b:=b) hb1))
 have HPB1:=Hh (HPB0.out.below hb1)
 have HBX1:=Hh (blk_below HBX.out hb1 (by rw [HSZ.out]; omega))
 have HP1:=Hh (blk_below HP0.out hb1 (blk_lt HP0.out))
 have HQ1:=Hh (blk_below HQ0.out hb1 (blk_lt HQ0.out))
 have hsz1:w.heap.size<w1.heap.size:=by have:=hb1.size; have:=HSZ.out; omega
 have hbn:b<W0.heap.size:=by have:=HSZ.out; omega
 have HBN:=Hh hbn
 have HPN:=Hh hpn
 have hcI:(qs.length:Int)≤100001:=by omega
 clear hb1 hpn c0 c1 c2 c3 c4 hf2 hbn
 go_wp2_with fail
 go_loopw [22] (fun i wr=>∃ (j:Nat) (vs:List (Pt × Option Addr)) (vp:Value),j≤qs.length∧vs.length=j∧i=.int .i64 j∧Hid (((Ra,Rc):List Pt × Int)=combP (vs.map Prod.fst) (partsGo d (qs.drop j)))∧Hid (PB wr b (.slice a l.length cap) lab DE (.slice none 0 0) vp)∧Hid (wr.ownsRow w1.heap.size 130 2 vp vs.length (ptc vs))∧Hid (∀ y∈vs,OptAt 225 wr y.1.ex (.pointer y.2))∧Hid (Kb b w1 wr)) (fun i _=>qs.length - (intOf i).toNat)
 case atStart=>exact ⟨0,[],_,Nat.zero_le _,rfl,rfl,HR0,HPB1,Hh (World.ownsRow_nil _ _ _ _),Hh (by simp),Hh (Kb.refl _ _)⟩
 case round =>
  obtain ⟨j,vs,vp,hj,hvj,rfl,HC,HPB,HO,HX,HK⟩:=hrel
  obtain ⟨ao,co,rfl⟩:=owns_slice HO.out
  have HBXr:=Hh ((HK.out.block _ hsz1 (by omega)).trans HBX1.out)
  have b0:=blk_cell HBXr.out 0
  have b1:=blk_cell HBXr.out 1
  have b2:=blk_cell HBXr.out 2
  by_cases hlt2:j<qs.length
  · obtain ⟨p',hp'⟩:∃ p',qs[j]? = some p':=⟨_,List.getElem?_eq_getElem hlt2⟩
    obtain ⟨us,hu1,hu2,hu3⟩:=HPN.out
    obtain ⟨u,hu⟩:∃ u,us[j]? = some u:=⟨_,List.getElem?_eq_getElem (by omega)⟩
    have hpu:=((hu3 j p' u hp' hu).kb HK.out HBN.out).row
    obtain ⟨_,_,hv,_,hh⟩:=(hu2.kb HK.out HBN.out).row
    cases hv
    obtain ⟨g,o,rfl,hg,hh⟩:=hh (by rintro rfl; simp at hu)
    have hcy:wr.cell? ⟨g,o+j,none⟩=some u:=(hh j (by omega)).trans hu
    have hcall:=HPAR.out p' (List.mem_of_getElem? hp') (.func (.func 228) #[] #[.pointer (some ⟨p,0,none⟩),.pointer (some ⟨q,0,none⟩)]) wr u hpu
    have hstep:=HC.out.trans (combP_step (d:=d) (done:=vs.map Prod.fst) hp')
    unfold PtRes at hcall
    obtain ⟨x,hx⟩:∃ x,partP d p'=x:=⟨_,rfl⟩
    rw [hx] at hcall hstep
    obtain ⟨⟨tx,ex⟩,cd⟩:=x
    dsimp only at hcall hstep
    have HCALL:=Hh hcall; have HSTEP:=Hh hstep
    have hi0:(0:Int)≤(j:Int):=by omega
    have hi1:(j:Int)<(qs.length:Int):=by omega
    obtain ⟨au,cu,rfl,_,_⟩:=hpu
    have HVJ:=Hh hvj
    clear hh hcall hstep hx hp' hu hu1 hu2 hu3 hvj
    go_wp2_with fail
    (with_reducible refine HCALL.out.mono ?_)
    rintro e w2 ⟨r,rfl,ho,hb2⟩
    have HK2:=Hh (HK.out.trans (Kb.of_below (b:=b) hb2))
    have HBR:=Hh hb2
    have HO2:=Hh ho
    have HPB2:=Hh (HPB.out.below hb2)
    have HOW2:=Hh (owns_below HO.out hb2)
    clear hb2 ho hcy b0 b1 b2
    by_cases h0:cd=0
    · subst h0
      have hst:=HSTEP.out
      rw [if_pos rfl] at hst
      have HST:=Hh hst; clear hst
      have hvl:vs.length≤100001:=by have:=HVJ.out; omega
      have p4:=blk_cell HPB2.out 4
      have f4:=blk_frozen HPB2.out 4
      have hblt2:=blk_lt HPB2.out
      have hVb:Below w2.heap.size w2 (((w2.alloc (.cells #[.string tx,.pointer r] 130)).alloc (.cells #[.string tx,.pointer r] 130)).drew):=bl
      have hVs:(((w2.alloc (.cells #[.string tx,.pointer r] 130)).alloc (.cells #[.string tx,.pointer r] 130)).drew).heap[w2.heap.size+1]? = some (.cells #[.string tx,.pointer r] 130 (0,0)):=by
       have:=blk_new (w2.alloc (.cells #[.string tx,.pointer r] 130)) (.cells #[.string tx,.pointer r] 130)
       rwa [World.size_alloc] at this
      have HVO:=Hh (owns_below HOW2.out hVb)
      have HVS:=Hh (src2 hVs)
      have HVP:=Hh (HPB2.out.below hVb)
      have HVB:=Hh hVb
      have HVK:=Hh (HK2.out.trans (Kb.of_below (b:=b) hVb))
      have HONE:=Hh (show ∀ u∈[Value.string tx,Value.pointer r],u.oneCell'=true from fun u hu=>by simp at hu; rcases hu with rfl | rfl<;>rfl)
      have HBASE:=Hh (show w1.heap.size≤(((w2.alloc (.cells #[.string tx,.pointer r] 130)).alloc (.cells #[.string tx,.pointer r] 130)).drew).heap.size from HVK.out.size)
      have HOB:=Hh (fun k (hk:(Value.slice ao vs.length co).ownBlock=some k)=>(HVO.out.lt k hk).1)
      have hb1w:b<w1.heap.size:=by have:=blk_lt HPB1.out; exact this
      clear hVb hVs
      go_wp2_with fail
      go_region_law (refine step_append_src (by rfl) _ _ 57 (by rfl) w1.heap.size 130 i0 (.agg #[.string ⟨#[]⟩,.pointer none]) 2 24 Tryz.underlying57 hi hz0 hz1 hz2 rfl (by decide) _ vs.length (ptc vs) (by rfl) HVO.out _ 1 [.string tx,.pointer r] (by rfl) (.inr ⟨_,1,rfl,HVS.out⟩) (by rfl) HONE.out (by unfold maxLen; omega) (by omega) HBASE.out ?_; intro v3 w3 hown3 hgrow3 hnil3; obtain ⟨a3,c3,rfl⟩:=owns_slice hown3; have hpb3:=(hgrow3.block b (blk_lt HVP.out) (fun e=>by have:=HOB.out b e.symm; omega)).trans HVP.out; have p43:w3.cell? ⟨b,4,none⟩=some (.slice ao vs.length co):=blk_cell hpb3 4; have f43:=blk_frozen hpb3 4; have hb3:=blk_lt hpb3)
      all_goals
       have HPB3:=Hh (show PB (w3.setCell ⟨b,4,none⟩ (.slice a3 (vs.length+1) c3)) b (.slice a l.length cap) lab DE (.slice none 0 0) (.slice a3 (vs.length+1) c3) from blk_set hpb3)
       have HK3:=Hh ((HVK.out.grown hgrow3 HOB.out).setCell 4 (.slice a3 (vs.length+1) c3))
       have hne3:(Value.slice a3 (vs.length+1) c3).ownBlock≠some b:=fun e=>by have:=(hown3.lt b e).1; omega
       have HO3:=Hh (Kb.owns hown3 ((Kb.refl b w3).setCell 4 (.slice a3 (vs.length+1) c3)) hne3)
       have hopt:∀ y∈vs++[((⟨tx,ex⟩:Pt),r)],OptAt 225 (w3.setCell ⟨b,4,none⟩ (.slice a3 (vs.length+1) c3)) y.1.ex (.pointer y.2):=fun y hy=>by
        rcases List.mem_append.1 hy with hy | hy
        · exact ((((HX.out y hy).below HBR.out).below HVB.out).grown HVO.out hgrow3 (by decide)).setBox hpb3 (by decide)
        · obtain rfl:y=((⟨tx,ex⟩:Pt),r):=by simpa using hy
          exact ((HO2.out.below HVB.out).grown HVO.out hgrow3 (by decide)).setBox hpb3 (by decide)
       have HOPT:=Hh hopt
       clear hopt hown3 hgrow3 hnil3 hpb3 p43 f43 hne3
       go_wp2_with fail
       go_roundw
       case rel=>exact ⟨j+1,vs++[((⟨tx,ex⟩:Pt),r)],_,by omega,by rw [List.length_append,HVJ.out]; rfl,by go_num,Hh (by rw [HST.out,List.map_append]; rfl),HPB3,Hh (by rw [ptc_snoc,List.length_append]; exact HO3.out),HOPT,HK3⟩
       case measure=>simp [intOf]; omega
    · have hst:=HSTEP.out
      rw [if_neg h0] at hst
      have HST:=Hh hst; clear hst
      have hcn:(cd != 0)=true:=by simpa using h0
      go_wp2_with fail
      go_ret
      have hRc:Rc=cd∧Ra=[]:=by have:=HST.out; simp only [Prod.mk.injEq] at this; exact ⟨this.2,this.1⟩
      have hrr:RR=(stm0,cd):=by rw [←HRR.out,if_pos (by show Rc≠0; rw [hRc.1]; exact h0),hRc.1]
      rw [hrr]
      exact ⟨rfl,(HK1.out.trans HK2.out).alloc _,fun h=>absurd h h0⟩
  · obtain rfl:j=qs.length:=by omega
    have hc:=HC.out
    rw [List.drop_length] at hc
    have hc:Ra=vs.map Prod.fst∧Rc=0:=by
     have h2:combP (vs.map Prod.fst) (partsGo d [])=(vs.map Prod.fst,0):=by unfold combP partsGo; simp
     rw [h2] at hc
     simpa using hc
    have hrr:=HRR.out
    rw [hc.1,hc.2] at hrr
    have hll:(vs.map Prod.fst).length=qs.length:=by rw [List.length_map,hvj]
    rw [if_neg (by decide),hll,HCP.out] at hrr
    have hpbq:=HPB.out
    rw [hvj] at hpbq
    have p4:wr.cell? ⟨b,4,none⟩=some (.slice ao qs.length co):=blk_cell hpbq 4
    have p1:wr.cell? ⟨b,1,none⟩=some (.string lab):=blk_cell hpbq 1
    have hbr:=blk_lt hpbq
    have hxr:=blk_lt HBXr.out
    have b2:wr.cell? ⟨w.heap.size,2,none⟩=some (.func (.func 228) #[] #[.pointer (some ⟨p,0,none⟩),.pointer (some ⟨q,0,none⟩)]):=b2
    have hpk:=(HK.out.block p (blk_lt HP1.out) (fun e=>by have h1:=HP1.out; have h2:=HPB1.out; unfold PB at h2; rw [e,h2] at h1; cases h1)).trans HP1.out
    have hqk:=(HK.out.block q (blk_lt HQ1.out) (fun e=>by have h1:=HQ1.out; have h2:=HPB1.out; unfold PB at h2; rw [e,h2] at h1; cases h1)).trans HQ1.out
    have hct:=fun W (hb:Below wr.heap.size wr W)=>count1_any (qs.length:Int) 1 (dirHi d) p q W (by rw [hb.cell (p:=⟨p,0,none⟩) (blk_lt hpk)]; exact blk_cell hpk 0) (by rw [hb.cell (p:=⟨q,0,none⟩) (blk_lt hqk)]; exact blk_cell hqk 0)
    obtain ⟨N,hN⟩:∃ N,(decide ((1:Int)≤(qs.length:Int)) && decide ((qs.length:Int)≤dirHi d))=N:=⟨_,rfl⟩
    rw [hN] at hrr
    simp only [hN] at hct
    have hE:(DE.toList == [69,81,85])=decide (d=wEQU):=by
     rw [←hDE,ByteArray.toList_eq,Bool.eq_iff_iff,beq_iff_eq,decide_eq_true_eq]; rfl
    have hL:lab.toList.isEmpty=decide (lab.size=0):=by
     rw [ByteArray.toList_eq,Bool.eq_iff_iff,List.isEmpty_iff,decide_eq_true_eq,Lib.size_eq]
     exact ⟨fun h=>by rw [h]; rfl,fun h=>List.eq_nil_of_length_eq_zero h⟩
    obtain ⟨E,hEE⟩:∃ E,decide (d=wEQU)=E:=⟨_,rfl⟩
    obtain ⟨L,hLL⟩:∃ L,decide (lab.size=0)=L:=⟨_,rfl⟩
    rw [hEE] at hE
    rw [hLL] at hL
    have hrr:(if N=false then (stm0,11) else if E=true∧L=true then (stm0,3) else (⟨lab,d,[],vs.map Prod.fst⟩,0))=RR:=by
     rw [←hrr,←hEE,←hLL]
     simp only [decide_eq_true_eq]
    have b0:wr.cell? ⟨w.heap.size,0,none⟩=some (.string DE):=b0
    have HRR2:=Hh hrr; have HCT:=Hh hct
    clear hrr hct hN hpk hqk hc hll hEE hLL
    go_wp2_with fail
    go_region_held3 (fun w'=>w'.cell? ⟨w.heap.size,2,none⟩=some (.func (.func 228) #[] #[.pointer (some ⟨p,0,none⟩),.pointer (some ⟨q,0,none⟩)])∧w'.cell? ⟨b,4,none⟩=some (.slice ao qs.length co)∧w'.cell? ⟨w.heap.size,0,none⟩=some (.string DE)∧w'.cell? ⟨b,1,none⟩=some (.string lab)) (first | exact ⟨b2,p4,b0,p1⟩ | exact K4) (first | (refine (HCT.out _ (bl)).mono ?_; rintro e w4 ⟨rfl,hb4⟩; have K4:w4.cell? ⟨w.heap.size,2,none⟩=some _∧w4.cell? ⟨b,4,none⟩=some _∧w4.cell? ⟨w.heap.size,0,none⟩=some _∧w4.cell? ⟨b,1,none⟩=some _:=⟨(hb4.cell (p:=⟨w.heap.size,2,none⟩) hxr).trans b2,(hb4.cell (p:=⟨b,4,none⟩) hbr).trans p4,(hb4.cell (p:=⟨w.heap.size,0,none⟩) hxr).trans b0,(hb4.cell (p:=⟨b,1,none⟩) hbr).trans p1⟩))
    all_goals
     have HBW:=Hh (Below.trans (show Below wr.heap.size wr wr.drew from bl) hb4)
     obtain ⟨_,_,q0,q1⟩:=K4
     have hxl:=Nat.lt_of_lt_of_le hxr HBW.out.size
     have hbl:=Nat.lt_of_lt_of_le hbr HBW.out.size
     clear hb4
     cases N with
     | false =>
       go_wp2_with fail
       go_ret
       have hr:RR=(stm0,11):=by rw [←HRR2.out]; rfl
       rw [hr]
       exact ⟨rfl,(HK1.out.trans HK.out).trans (Kb.of_below HBW.out),fun h=>absurd h (by decide)⟩
     | true =>
       cases E with
       | true =>
         cases L with
         | true =>
           go_wp2_with fail
           go_ret
           have hr:RR=(stm0,3):=by rw [←HRR2.out]; rfl
           rw [hr]
           exact ⟨rfl,(HK1.out.trans HK.out).trans (Kb.of_below HBW.out),fun h=>absurd h (by decide)⟩
         | false =>
           exact t124_0
       | false =>
         exact t124_0
end Go.Proofs.YtkldoojonnkfgaaGreatDoor
