/- Joined. -/
import Derived.Test.YtoigglljnklhlaaGreatDoorD12
set_option maxHeartbeats 8000000
set_option maxRecDepth 100000
namespace Go.Proofs.YtoigglljnklhlaaGreatDoor
section
open Go.RowKit Go.Sort
theorem Bv {w w':World} {base:Nat} {e:TypeId} {size n:Nat} {v:Value} {xs:List Value} {ob:Option Nat} (h:w.ownsRow base e size v n xs) (hg:w.grownBy w' ob) (hne:∀ k,v.ownBlock=some k→some k≠ob):w'.ownsRow base e size v n xs:=by
 obtain⟨h1,h2⟩:=h;refine⟨h1,?_⟩;rcases h2 with h2|⟨g,cap,cur,rfl,hb,hh,r⟩
 · exact Or.inl h2
 · exact Or.inr ⟨g,cap,cur,rfl,hb,(hg.block g (aA hh) (hne g rfl)).trans hh,r⟩
theorem Bt {w:World} {b1 b2:Nat} {e1 e2:TypeId} {s1 s2 n1 n2:Nat} {v1 v2:Value} {x1 x2:List Value} (h1:w.ownsRow b1 e1 s1 v1 n1 x1) (h2:w.ownsRow b2 e2 s2 v2 n2 x2) (hne:e1≠e2) (k:Nat) (hk:v1.ownBlock=some k):some k≠v2.ownBlock:=by
 intro e;rcases h1.2 with⟨rfl,_⟩|⟨g,cap,cur,rfl,_,hh,_⟩
 · cases hk
 · rcases h2.2 with⟨rfl,_⟩|⟨g2,cap2,cur2,rfl,_,hh2,_⟩
   · cases e
   · have e1:g=k:=Xi hk;have e2:k=g2:=Xi e;subst e1 e2;rw[hh] at hh2
     have:=Xi hh2
     simp only[Obj.cells.injEq] at this;exact hne this.2.1
theorem WRow.grown {w w':World} {b n:Nat} {v:Value} {xs:List Value} {ob:Option Nat} (h:WRow w b v n xs) (hg:w.grownBy w' ob) (hne:xs≠[]→v.ownBlock≠ob):WRow w' b v n xs:=by
 obtain⟨a,cap,rfl,hn,h⟩:=h;refine⟨a,cap,rfl,hn,fun hx=>?_⟩;obtain⟨g,o,rfl,h0,hlt,hc,hf⟩:=h hx;have hk:w'.heap[g]? = w.heap[g]? := hg.block g hlt (hne hx);exact⟨g,o,rfl,h0,Qj hlt hg.size,fun j hj=>(World.cell?_of_block (a:=⟨g,o+j,none⟩) hk).trans (hc j hj),fun j hj=>(World.frozen?_of_block (a:=⟨g,o+j,none⟩) hk).trans (hf j hj)⟩
theorem WRow.kb_ne {w w':World} {b k n:Nat} {v:Value} {xs:List Value} (h:WRow w b v n xs) (hk:Kb k w w') (hne:xs≠[]→v.ownBlock≠some k):WRow w' b v n xs:=by
 obtain⟨a,cap,hv,hn,h⟩:=h;refine⟨a,cap,hv,hn,fun hx=>?_⟩;obtain⟨g,o,rfl,h0,hg,hc,hf⟩:=h hx;have hgk:g≠k:=fun e=>hne hx (by rw[hv,e];rfl);exact⟨g,o,rfl,h0,Qj hg hk.size,fun j hj=>(hk.cell (p:=⟨g,o+j,none⟩) hg hgk).trans (hc j hj),fun j hj=>(hk.frozen (p:=⟨g,o+j,none⟩) hg hgk).trans (hf j hj)⟩
def jV (x:Ent × Value):List Value:=[.int .i64 x.1.page,.int .u8 x.1.op,.string ⟨x.1.mn.toArray⟩,x.2,.string ⟨x.1.extra.toArray⟩,.bool x.1.alias]
def sY (vs:List (Ent × Value)):List Value:=vs.flatMap jV
theorem Iw (vs:List (Ent × Value)) (x:Ent × Value):sY (vs++[x])=sY vs++jV x:=by simp[sY]
structure EntsAt (w:World) (base:Nat) (v:Value) (vs:List (Ent × Value)):Prop where
 own:w.ownsRow base 211 6 v vs.length (sY vs)
 args:∀ x∈vs,WRow w base x.2 x.1.args.length (opc x.1.args)
 apart:∀ x∈vs,opc x.1.args≠[]→x.2.ownBlock≠v.ownBlock
theorem EntsAt.nil (w:World) (base:Nat):EntsAt w base (.slice none 0 0) []:=⟨Xa _ _ _ _,by simp,by simp⟩
theorem EntsAt.below {w w':World} {base:Nat} {v:Value} {vs:List (Ent × Value)} (h:EntsAt w base v vs) (hb:Below w w w'):EntsAt w' base v vs :=
 ⟨cI h.own hb,fun x hx=>(h.args x hx).below hb,h.apart⟩
theorem EntsAt.snoc {w w':World} {base b0:Nat} {v v':Value} {vs:List (Ent × Value)} {E:Ent} {x:Value} (h:EntsAt w base v vs) (hx:WRow w b0 x E.args.length (opc E.args)) (h0:base≤b0) (hlt:∀ k,v.ownBlock=some k→k<b0)
 (hown:w'.ownsRow base 211 6 v' (vs.length+1) (sY vs++jV (E,x))) (hg:w.grownBy w' v.ownBlock) (hat:v'.ownBlock=v.ownBlock∨v'.ownBlock=some w.heap.size):EntsAt w' base v' (vs++[(E,x)]):=by
 have hxa:opc E.args≠[]→x.ownBlock≠v.ownBlock∧∃ g,x.ownBlock=some g∧g<w.heap.size:=by
  intro hne;obtain⟨a,cap,rfl,_,h1⟩:=hx;obtain⟨g,o,rfl,h2,h3,_⟩:=h1 hne;refine⟨fun e=>?_,g,rfl,h3⟩
  have:=hlt g e.symm
  omega
 refine⟨by rw[Iw,Qc];exact hown,fun y hy=>?_,fun y hy hne=>?_⟩
 · rcases Xs.1 hy with hy|hy
   · exact (h.args y hy).grown hg (h.apart y hy)
   · obtain rfl:y=(E,x):=by simpa using hy
     exact (hx.mono h0).grown hg fun hne=>(hxa hne).1
 · rcases Xs.1 hy with hy|hy
   · rcases hat with e|e
     · rw[e];exact h.apart y hy hne
     · obtain⟨a,cap,hv,_,h1⟩:=h.args y hy;obtain⟨g,o,rfl,h2,h3,_⟩:=h1 hne;rw[hv,e];intro q
       have:g=w.heap.size:=Xi q
       omega
   · obtain rfl:y=(E,x):=by simpa using hy
     rcases hat with e|e
     · rw[e];exact (hxa hne).1
     · obtain⟨_,g,h2,h3⟩:=hxa hne;rw[e];show x.ownBlock≠_
       rw[h2];intro q
       have:g=w.heap.size:=Xi q
       omega
theorem kY (p:Nat):∀ r∈dN p,r∈iU:=by
 unfold dN;split
 · exact lG
 · split
   · exact xB
   · split
     · exact Pk
     · simp
def eA (p:Nat):List RA:=qQ (dN p) (kY p)
theorem pG (p:Nat):(eA p).length=(dN p).length:=by unfold eA qQ;simp
theorem qY:∀ p:Fin 7,(dN p.val).length≤1000∧dN p.val≠[]∧∀ op:Fin 256,((atP p.val op.val).2=1↔(atP p.val op.val).1.isSome=true):=by decide +kernel
theorem Gm (p:Nat):qR p=dA (eA p):=by
 unfold dA eA;rw[uO];unfold qR dN;split
 · exact nZ
 · split
   · exact Du
   · split
     · exact Pm
     · rfl
theorem Rh {r r':RA} (h:r.1.text=r'.1.text):r.1.mn=r'.1.mn:=by
 rw[←rY r,←rY r',h]
theorem aPF (mn:List UInt8) (l:List RA) (r:RA) (hr:r∈l):decide (r.1.text∈(eS mn l).map fun x=>x.1.text)=decide (r.1.mn=mn):=by
 rw[decide_eq_decide];constructor
 · intro h;obtain⟨x,hx,he⟩:=Yo.1 h;have h2:=of_decide_eq_true (Zr.1 hx).2;rw[←Rh he];exact h2
 · intro h;exact Yo.2 ⟨r,Zr.2 ⟨hr,Qh h⟩,rfl⟩
theorem Ep (mn:List UInt8) (op:Nat) (hop:op<256):∀ (l:List Rule) (h:∀ r∈l,r∈iU),(eS mn (qQ l h)).any (fun r=>eH r.1.text op)=(l.filter fun r=>decide (r.mn=mn)).any fun r=>r.fits op
 | [],_=>rfl
 | r::l,h=>by
   have ih:=Ep mn op hop l (fun x hx=>h x (Qv _ hx));have hf:eH r.text op=r.fits op:=zM r (h r Qq) ⟨op,hop⟩;unfold eS qQ at *;simp only[List.pmap_cons,List.filter_cons];by_cases hm:r.mn=mn
   · rw[if_pos (Qh hm),if_pos (Qh hm),List.any_cons,List.any_cons,hf];exact congrArg _ ih
   · rw[if_neg (by rw[Qg hm];decide),if_neg (by rw[Qg hm];decide)];exact ih
theorem Cb (p:Nat) (mn:List UInt8) (op:Nat) (hop:op<256) :
 ((eS mn (eA p)).any (fun r=>eH r.1.text op)=false∧dQ p mn op=none) ∨
 (eS mn (eA p)).any (fun r=>eH r.1.text op)=true∧∃ r,jA op (eA p)=some r ∧
  (decide (r.1.text∈(eS mn (eA p)).map fun x=>x.1.text)=false∧dQ p mn op=none∨decide (r.1.text∈(eS mn (eA p)).map fun x=>x.1.text)=true∧dQ p mn op=(atP p op).1):=by
 have ha:=Ep mn op hop (dN p) (kY p);have hl:=pJ op hop (dN p) (kY p);change (eS mn (eA p)).any _=(aAy p mn).any _ at ha;change (jA op (eA p)).map _=_ at hl;unfold dQ;cases hx:(eS mn (eA p)).any (fun r=>eH r.1.text op) with
 | false=>left;rw[ha] at hx;rw[if_pos hx];exact⟨rfl,rfl⟩
 | true =>
   right
   rw[ha] at hx;rw[if_neg (by rw[hx];decide)];have hsome:∃ r,jA op (eA p)=some r:=by
    rw[←ha] at hx;obtain⟨y,hy,hf⟩:=Xx.1 hx;cases hq:jA op (eA p) with
    | some r=>exact⟨r,rfl⟩
    | none=>exact absurd hf (List.find?_eq_none.1 hq y (Zr.1 hy).1)
   obtain⟨r,hr⟩:=hsome;have hmem:r∈eA p:=Za hr;rw[hr] at hl;rw[←hl];refine⟨rfl,r,hr,?_⟩;rw[aPF mn (eA p) r hmem];simp only[Yx];by_cases hm:r.1.mn=mn
   · right;rw[if_pos hm];exact⟨Qh hm,rfl⟩
   · left;rw[if_neg hm];exact⟨Qg hm,rfl⟩
theorem sH (mn:List UInt8):∀ ps:List Nat,(dP mn ps).length≤256*ps.length
 | []=>by simp[dP]
 | p::ps=>by
   have ih:=sH mn ps;have h:=List.length_filterMap_le (dQ p mn) (List.range 256);unfold dP at *;rw[Xz,Qc,Qp];rw[List.length_range] at h;omega
theorem yS (mn:List UInt8) (ps:List Nat) (i p:Nat) (h:ps[i]? = some p):dP mn (ps.take (i+1))=dP mn (ps.take i)++(List.range 256).filterMap (dQ p mn):=by
 rw[Qo,h];simp[dP]
theorem kD (p:Nat) (mn:List UInt8) (k:Nat):(List.range (k+1)).filterMap (dQ p mn)=(List.range k).filterMap (dQ p mn)++(dQ p mn k).toList:=by
 rw[Yw,List.filterMap_append];cases h:dQ p mn k<;>simp[h]
end
section
open Go.RowKit Go.Sort
open Go.Proofs.Tryz
theorem oQ (L:List (List UInt8)) (s:ByteArray) (v:Value) (w:World) (hr:Row w v L.length (L.map Proofs.encStr)) (hl:L.length≤1000000) :
 Calls prog 244 #[v,.string s] w fun e w'=>e=.returned (.bool (decide (s.data.toList∈L)))∧w'=w:=by
 obtain⟨a,cap,rfl,hcap,hc⟩:=hr;have hM:(L.map fun y=>(⟨y.toArray⟩:ByteArray)).length=L.length:=by simp
 have hmem:s∈L.map (fun y=>(⟨y.toArray⟩:ByteArray))↔s.data.toList∈L:=by
  simp only[Yo];constructor
  · rintro⟨y,hy,rfl⟩;simpa using hy
  · intro h;exact⟨_,h,by simp⟩
 by_cases hL:L=[]
 · subst hL;refine (Tryz.slices_Contains_string_empty a cap s w).mono ?_;rintro e w' ⟨rfl,rfl⟩;exact⟨by simp,rfl⟩
 · obtain⟨g,o,rfl,hg,hcc⟩:=hc (by simpa using hL);refine (Tryz.slices_Contains_string g o L.length cap (L.map fun y=>(⟨y.toArray⟩:ByteArray)) s w (by rw[hM];exact Qk _) om (fun j hj=>(hcc j (by rw[Qs];rw[hM] at hj;exact hj)).trans ?_)).mono ?_
   · rw[hM] at hj;simp[List.getD,Qb hj,Proofs.encStr]
   · rintro e w' ⟨he,rfl⟩;refine⟨?_,rfl⟩;rw[he];congr 2
     rw[Yl,decide_eq_true_iff,←hmem,Lib.containsS_iff,Xj sm]
theorem aBr {w:World} {g:Nat} {x0 x1 x2 x3 x4 x5:Value} {T:TypeId} (h:w.heap[g]? = some (.cells #[x0,x1,x2,x3,x4,x5] T (0,0))):∀ (j:Nat) (u:Value),[x0,x1,x2,x3,x4,x5][j]? = some u→w.cell? ((⟨g,0,none⟩:Addr).add j)=some u:=by
 intro j u hj;rw[bD,Xb,aC h];simpa using hj
theorem nU (L:List RA) (t:List UInt8) (D:Bool) (v:Value) (w:World) (hD:decide (t∈L.map fun x=>x.1.text)=D) (hr:Row w v L.length (fH (kP L))) (hl:L.length≤1000000) :
 Calls prog 244 #[v,t] w fun e w'=>e=.returned (.bool D)∧w'=w:=by
 have h:=oQ (L.map fun x=>x.1.text) ⟨t.toArray⟩ v w (by
  rw[Qs];have:(L.map fun r=>r.1.text).map Proofs.encStr=fH (kP L):=by unfold fH kP;simp[Proofs.encStr]
  rw[this];exact hr) (by rw[Qs];exact hl)
 rw[←hD];exact h
theorem Tryz.infoEntry:(prog.info? 211).map (fun i=>(i.zero,i.size,i.bytes))=some (some (.agg #[(0:Int),.int .u8 0,(),zz,(),.bool false]),6,80):=by kernel_rfl
theorem Cf (mn:List UInt8) (a:Option Addr) (c:Nat) (ps:List Nat) (w:World) (hT:TabsA w) (h0:0<ps.length) (hlen:ps.length≤1000) (hp:∀ p∈ps,p<7) (hrow:Row w (.slice a ps.length c) ps.length (ps.map fun p:Nat=>Value.int .i64 (p:Int))) :
 Calls prog 239 #[mn,.slice a ps.length c] w fun e w'=>∃ v vs,e=.returned v∧vs.map Prod.fst=dP mn ps∧EntsAt w' w v vs∧Below w w w':=by
 obtain⟨i0,hi,hz0,hz1,hz2⟩:=info_parts Tryz.infoEntry;have HT:=Hh hT;clear hT;have HP:=Hh hp;clear hp;have HR:=Hh hrow;clear hrow;have hevery:=fun W=>Iv a ps.length c h0 om W;have HE:=Hh hevery;clear hevery;go_enter func239,ntmps239
 go_wp2_with fail
 refine (HE.out _).mono ?_;rintro e w' ⟨rfl,rfl⟩;go_wp2_with fail
 go_loopw [5,17] (fun v i wr=>∃ (j:Nat) (vs:List (Ent × Value)),j≤ps.length∧i=.int .i64 j∧Below w w wr∧Hid (vs.map Prod.fst=dP mn (ps.take j)∧EntsAt wr w v vs)) (fun _ i _=>ps.length - (intOf i).toNat)
 case atStart=>exact⟨0,[],Qi _,rfl,Below.refl _ _,Hh ⟨rfl,EntsAt.nil _ _⟩⟩
 case round =>
  obtain⟨j,vs,hj,rfl,hbel,HV⟩:=hrel;have HBEL:=Hh hbel;clear hbel;by_cases hlt:j<ps.length
  · obtain⟨p,hpj⟩:∃ p,ps[j]? = some p:=⟨_,Qb hlt⟩;obtain⟨a',c',hv,hcap,hc⟩:=HR.out;cases hv
    obtain⟨g,o,rfl,hg,hc⟩:=hc (by intro e;rw[List.map_eq_nil_iff] at e;rw[e] at hlt;exact absurd hlt (Qw _))
    have hcy:wr.cell? ⟨g,o+j,none⟩=some (.int .i64 p):=by
     rw[HBEL.out.cell (p:=⟨g,o+j,none⟩) hg,hc j (by rw[Qs];exact hlt),Ya,hpj];rfl
    clear hc;have hp7:p<7:=HP.out p (Qu hpj);obtain⟨r0,rl,hpg⟩:∃ r0 rl,eA p=r0::rl:=by
     cases hx:eA p with
     | nil=>exact absurd (Xc (by rw[←pG,hx];rfl)) (qY ⟨p,hp7⟩).2.1
     | cons x y=>exact⟨x,y,rfl⟩
    have hrl:rl.length≤1000:=by have:=(qY ⟨p,hp7⟩).1;rw[←pG] at this;dsimp only at this;rw[hpg] at this;simp at this;omega
    have hjoin:qR p=dA (r0::rl):=by rw[Gm,hpg]
    have hpat:=fun W=>wG p hp7 W;have hwith:=fun W=>Ju r0 rl mn W hrl;have hlook:=fun op hop W=>nE r0 rl op W hrl hop;have hat:=fun op hop W hT=>Dw p op W hp7 hop hT;have hstep:=fun op hop=>Cb p mn op hop;have hleg:=fun op hop=>(qY ⟨p,hp7⟩).2.2 ⟨op,hop⟩;rw[←hjoin] at hwith hlook;rw[←hpg] at hwith hlook;generalize qR p=J at *;have HPAT:=Hh hpat;clear hpat;have HWITH:=Hh hwith;clear hwith;have HLOOK:=Hh hlook;clear hlook;have HAT:=Hh hat;clear hat;have HSTEP:=Hh hstep;clear hstep;have HLEG:=Hh hleg;clear hleg;have hownl:(eS mn (eA p)).length≤1000:=by have h1:=(qY ⟨p,hp7⟩).1;rw[←pG] at h1;exact Qn (List.length_filter_le _ _) h1
    have HPJ:=Hh hpj;clear hpj hjoin hpg;have hi0:(0:Int)≤(j:Int):=om
    have hi1:(j:Int)<(ps.length:Int):=om
    have hgw:g<wr:=by have:=HBEL.out.size;omega
    go_wp2_with fail
    refine (HPAT.out _).mono ?_;rintro e w' ⟨rfl,rfl⟩;go_wp2_with fail
    refine (HWITH.out _).mono ?_;rintro e w1 ⟨vo,rfl,hown,hb1⟩;have HO:=Hh (aP hown HBEL.out.size);clear hown;have HB1:=Hh (HBEL.out.trans (hb1.mono HBEL.out.size));have HV1:=Hh (HV.out.2.below hb1);clear hb1;go_wp2_with fail
    go_loopw [5,25] (fun v k W=>∃ (q:Nat) (us:List (Ent × Value)),q≤256∧k=.int .i64 q∧Below w w W∧Hid (us.map Prod.fst=dP mn (ps.take j)++(List.range q).filterMap (dQ p mn)∧EntsAt W w v us∧W.ownsRow w 9 1 vo (eS mn (eA p)).length (fH (kP (eS mn (eA p)))))) (fun _ k _=>256 - (intOf k).toNat)
    case atStart=>exact⟨0,vs,om,rfl,HB1.out,Hh ⟨by rw[HV.out.1];simp,HV1.out,HO.out⟩⟩
    case round =>
     obtain⟨q,us,hq,rfl,hbel,HU⟩:=hrel;have HB2:=Hh hbel;clear hbel;by_cases hlt2:q<256
     · have hw8:IntKind.u8.wrap (q:Int)=(q:Int):=IntWalk.u8_in _ om;have hul:us.length≤300000:=by
        have h1:=congrArg List.length HU.out.1;have h2:=sH mn (ps.take j);have h3:=List.length_filterMap_le (dQ p mn) (List.range q);rw[Qs,Qc] at h1;rw[List.length_range] at h3;rw[Qt] at h2;omega
       go_wp2_with fail
       obtain⟨WB,hWB⟩:∃ WB,wr.alloc (.cells #[q] 3)=WB:=⟨_,rfl⟩;have hbW:Below wr wr WB:=by rw[←hWB];exact br.alloc lr _
       have hbox:WB.heap[wr.heap.size]? = some (.cells #[q] 3 (0,0)):=by rw[←hWB];exact aF _ _
       rw[hWB];clear hWB;have hbl:=aA hbox;have hask:=Ul wr q (eS mn (eA p)) vo WB hlt2 hbl (aC hbox 0) om (WRow.of_owns (cI HU.out.2.2 hbW)).row;rcases HSTEP.out q hlt2 with⟨h1,h2⟩|⟨h1,r,hr,h23⟩
       · rw[h1] at hask;have H2:=Hh h2;clear h2 h1;refine hask.mono ?_;clear hask;rintro e W2 ⟨rfl,hb2⟩;have HX:=Hh (hbW.trans (hb2.mono hbW.size));clear hbW hb2 hbox;go_wp2_with fail
         go_roundw
         case rel=>exact⟨q+1,us,om,by go_num,HB2.out.trans (HX.out.mono HB2.out.size),Hh ⟨by rw[kD,H2.out,HU.out.1];simp,HU.out.2.1.below HX.out,cI HU.out.2.2 HX.out⟩⟩
         case measure=>simp[intOf];omega
       · rw[h1] at hask;clear h1;have hlook:∀ W,Calls prog 249 #[.string J,.int .u8 q] W fun e w'=>e=.returned (.tuple #[r.1.text,.bool true])∧Below W W w':=fun W=>by have:=HLOOK.out q hlt2 W;rw[hr] at this;exact this
         have HLK:=Hh hlook;clear hlook hr;have H23:=Hh h23;clear h23;refine hask.mono ?_;clear hask;rintro e W2 ⟨rfl,hb2⟩;have hc2:W2.cell? wr=some (.int .i64 q):=aC (aB hbox hb2 hbl) 0;have HX:=Hh (hbW.trans (hb2.mono hbW.size));have hlt3:wr.heap.size<W2.heap.size:=Qj hbl hb2.size;clear hbW hb2 hbox;go_wp2_with fail
         refine bO kr kr ?_;repeat (go_big_quiet_step (first|exact mR (HPAT.out _)|exact eG (HLK.out _)))
         refine wpQuiet_nil ?_;rintro W3 ⟨p3,hW3⟩;have hb3:Below W2 W2 W3:=by rw[hW3];exact bl
         clear hW3 p3;have HX3:=Hh (HX.out.trans (hb3.mono HX.out.size));have hc3:W3.cell? wr=some (.int .i64 q):=(hb3.cell (p:=wr) hlt3).trans hc2;have hlt4:wr.heap.size<W3.heap.size:=Qj hlt3 hb3.size;clear hb3 hc2 hlt3;rcases H23.out with⟨h2,h3⟩|⟨h2,h3⟩
         · have H3:=Hh h3;clear h3;have hcont:=nU (eS mn (eA p)) r.1.text false vo W3 h2 (WRow.of_owns (cI HU.out.2.2 HX3.out)).row om;have HC:=Hh hcont;clear hcont h2 H23;go_wp2_with fail
           refine HC.out.mono ?_;rintro e W4 ⟨rfl,rfl⟩;go_wp2_with fail
           go_roundw
           case rel=>exact⟨q+1,us,om,by go_num,HB2.out.trans (HX3.out.mono HB2.out.size),Hh ⟨by rw[kD,H3.out,HU.out.1];simp,HU.out.2.1.below HX3.out,cI HU.out.2.2 HX3.out⟩⟩
           case measure=>simp[intOf];omega
         · have hcont:=nU (eS mn (eA p)) r.1.text true vo W3 h2 (WRow.of_owns (cI HU.out.2.2 HX3.out)).row om;have HC:=Hh hcont;clear hcont h2 H23;have hat:=HAT.out q hlt2 W3 (HT.out.below (HB2.out.trans (HX3.out.mono HB2.out.size)));have hleg:=HLEG.out q hlt2;obtain⟨x,kd,hx⟩:∃ x kd,atP p q=(x,kd):=⟨_,_,rfl⟩;rw[hx] at hat hleg h3;dsimp only at hleg h3;clear hx;have H3:=Hh h3;clear h3;cases x with
           | none =>
             have hkd:((kd:Int) == 1)=false:=by
              rw[Xd];intro e
              have:=hleg.1 om
              cases this
             clear hleg;have hat2:Calls prog 196 #[p,.int .u8 q] W3 fun e w'=>∃ v,e=.returned (.tuple #[.agg #[ent0.page,.int .u8 ent0.op,ent0.mn,v,ent0.extra,.bool ent0.alias],kd])∧WRow w' W3 v ent0.args.length (opc ent0.args)∧Below W3 W3 w':=hat;generalize ent0=E at *;have HA:=Hh hat2;clear hat2 hat;go_wp2_with fail
             refine HC.out.mono ?_;rintro e W4 ⟨rfl,rfl⟩;go_wp2_with fail
             refine HA.out.mono ?_;rintro e W5 ⟨v5,rfl,hw5,hb5⟩;have HX5:=Hh (HX3.out.trans (hb5.mono HX3.out.size));have hw6:=hw5;obtain⟨a5,c5,rfl,_⟩:=hw6;clear hw5 hb5 HC HA;go_wp2_with fail
             go_roundw
             case rel =>
              have hz:=HX5.out.trans ((Below.refl wr W5).alloc HX5.out.size (.cells #[E.page,.int .u8 E.op,E.mn,.slice a5 E.args.length c5,E.extra,.bool E.alias] 211));exact⟨q+1,us,om,by go_num,HB2.out.trans (hz.mono HB2.out.size),Hh ⟨by rw[kD,H3.out,HU.out.1];simp,HU.out.2.1.below hz,cI HU.out.2.2 hz⟩⟩
             case measure=>simp[intOf];omega
           | some E =>
             have hkd:((kd:Int) == 1)=true:=by
              rw[Yq]
              have:=hleg.2 rfl
              omega
             clear hleg;have hat2:Calls prog 196 #[p,.int .u8 q] W3 fun e w'=>∃ v,e=.returned (.tuple #[.agg #[E.page,.int .u8 E.op,E.mn,v,E.extra,.bool E.alias],kd])∧WRow w' W3 v E.args.length (opc E.args)∧Below W3 W3 w':=hat;have HA:=Hh hat2;clear hat2 hat;go_wp2_with fail
             refine HC.out.mono ?_;rintro e W4 ⟨rfl,rfl⟩;go_wp2_with fail
             refine HA.out.mono ?_;rintro e W5 ⟨v5,rfl,hw5,hb5⟩;have HX5:=Hh (HX3.out.trans (hb5.mono HX3.out.size));have hw6:=hw5;obtain⟨a5,c5,rfl,_⟩:=hw6;have HW5:=Hh hw5;clear hw5 hb5 HC HA;have hHU:=HU.out.2.1.below HX5.out;have hvb:∀ k,u5.ownBlock=some k→k<wr.heap.size:=fun k hk=>(HU.out.2.1.own.lt k hk).2;have hos:=cI HU.out.2.2 HX5.out;go_wp2_with (at_builtin;refine wpList_append_own_at _ rfl _ _ 299 rfl w 211 i0 (.agg #[(0:Int),.int .u8 0,(),zz,(),.bool false]) 6 80 underlying299 hi hz0 hz1 hz2 rfl dc _ _ _ rfl ((hHU.own.alloc _).alloc _) ⟨W5+1,0,none⟩ 1 1 (jV (E,.slice a5 E.args.length c5)) rfl rfl ?c1 ?c2 ?c3 ?c4 ?c5 ?_)
             case c1=>exact aBr (by rw[show W5.heap.size+1=(W5.alloc (.cells #[E.page,.int .u8 E.op,E.mn,.slice a5 E.args.length c5,E.extra,.bool E.alias] 211)).heap.size by rw[Qa]];exact jT _ _)
             case c2=>intro u hu;simp[jV] at hu;rcases hu with rfl|rfl|rfl|rfl|rfl|rfl<;>rfl
             case c3=>unfold maxLen;omega
             case c4=>omega
             case c5=>rw[Qa,Qa];have:=HX5.out.size;have:=HB2.out.size;omega
             intro v7 W7 hown7 hgrow7 _ hat7;have hal:Below W5 W5 ((W5.alloc (.cells #[E.page,.int .u8 E.op,E.mn,.slice a5 E.args.length c5,E.extra,.bool E.alias] 211)).alloc (.cells #[E.page,.int .u8 E.op,E.mn,.slice a5 E.args.length c5,E.extra,.bool E.alias] 211)):=(br.alloc lr _).alloc (by rw[Qa];omega) _;have hs3:=HX3.out.size;have hs2:=HB2.out.size;have hs5:=HX5.out.size;have hen:=(hHU.below hal).snoc (HW5.out.below hal) om (fun k hk=>Qj (hvb k hk) hs3) hown7 hgrow7 (by rw[Qa,Qa];exact hat7);have hst:=Bv (cI hos hal) hgrow7 (Bt (cI hos hal) (hHU.below hal).own dc);have hbe:=((HB2.out.trans (HX5.out.mono hs2)).trans (hal.mono om)).grown hgrow7 (by rw[Qa,Qa];omega) (fun k hk=>(hHU.own.lt k hk).1);have HEN:=Hh hen;have HST:=Hh hst;have HBE:=Hh hbe;clear hen hst hbe hown7 hgrow7 hat7 hal hos hHU hs3 hs2 hs5;go_wp2_with fail
             go_roundw
             case rel=>exact⟨q+1,us++[(E,.slice a5 E.args.length c5)],om,by go_num,HBE.out,Hh ⟨by rw[kD,H3.out,Ym,HU.out.1,Yc];rfl,HEN.out,HST.out⟩⟩
             case measure=>simp[intOf];omega
     · obtain rfl:q=256:=om
       have hfin:=HU.out.1;rw[←yS mn ps j p HPJ.out] at hfin;have HF:=Hh hfin;clear hfin;go_wp2_with fail
       go_roundw
       case rel=>exact⟨j+1,us,om,by go_num,HB2.out,Hh ⟨HF.out,HU.out.2.1⟩⟩
       case measure=>simp[intOf];omega
  · obtain rfl:j=ps.length:=om
    have hfin:=HV.out;rw[Qy] at hfin;have HF:=Hh hfin;clear hfin;go_wp2_with fail
    go_ret;exact⟨_,vs,rfl,HF.out.1,HF.out.2,HBEL.out⟩
end
end Go.Proofs.YtoigglljnklhlaaGreatDoor
