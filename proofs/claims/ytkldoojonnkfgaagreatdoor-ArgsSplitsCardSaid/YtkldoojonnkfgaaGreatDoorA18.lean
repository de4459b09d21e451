/- Joined texts: LexN, Five, TextE, LexT, Lists, TokI. -/
import Derived.Test.YtkldoojonnkfgaaGreatDoorA16
import Derived.Test.YtkldoojonnkfgaaGreatDoorA17
namespace Go.Proofs.YtkldoojonnkfgaaGreatDoor
open Go.RowKit Go.Sort
end Go.Proofs.YtkldoojonnkfgaaGreatDoor
namespace Go.Proofs.YtkldoojonnkfgaaGreatDoor
open Go.RowKit Go.Sort
section
variable {P:Program}
theorem run_equalIn_nil_some (w:World) (d:Nat) (t:TypeId) (p:Addr) (h:P.underlying t=some (.pointer (P.pointee t))) :
 (Op.equalIn (d+1) t (.pointer none) (.pointer (some p))).run P w=.ok false w:=by
 simp [Op.equalIn,run_underlying h]
theorem run_equal_nil_some (w:World) (t:TypeId) (p:Addr) (h:P.underlying t=some (.pointer (P.pointee t))) :
 (Op.equal t (.pointer none) (.pointer (some p))).run P w=.ok false w:=run_equalIn_nil_some w 9999 t p h
@[go_sem] theorem run_eql_nil_some (w:World) (t:TypeId) (p:Addr) (h:P.underlying t=some (.pointer (P.pointee t))) :
 (binOp .eql t (.pointer none) (.pointer (some p))).run P w=.ok (.bool false) w:=by
 simp only [binOp]
 simp [run_equal_nil_some w t p h]
end
def Ex.kd:Ex→Int | .num _=>1 | .sym _=>2 | .here=>3 | .un _ _=>4 | .bin _ _ _=>5
def Ex.nn:Ex→Int | .num n=>n | _=>0
def Ex.nm:Ex→ByteArray | .sym s=>s | .un op _=>op | .bin op _ _=>op | _=>⟨#[]⟩
def Ex.ka:Ex→Option Ex | .un _ a=>some a | .bin _ a _=>some a | _=>none
def Ex.kb:Ex→Option Ex | .bin _ _ b=>some b | _=>none
theorem t54_0 {p:Prop} (h:p:=by
 obtain ⟨g,_,hv,hh⟩:=h
 obtain ⟨e0,e1,e2,e3,e4⟩:=mk hh
 exact ⟨g,_,_,hv,lt_of_block hh,e0,e1,e2,e3,e4,rfl,rfl⟩):p:=h
theorem NodeAt.five {T:TypeId} {B:Nat} {w:World} {x:Ex} {v:Value} (h:NodeAt T B w x v):∃ g a b,v=.pointer (some ⟨g,0,none⟩)∧g<w.heap.size∧w.cell? ⟨g,0,none⟩=some (.int .i64 x.kd)∧w.cell? ⟨g,1,none⟩=some (.int .i64 x.nn)∧w.cell? ⟨g,2,none⟩=some (.string x.nm)∧w.cell? ⟨g,3,none⟩=some a∧w.cell? ⟨g,4,none⟩=some b∧OptAt T w x.ka a∧OptAt T w x.kb b:=by
 have mk:∀ {g:Nat} {c0 c1 c2 c3 c4:Value},w.heap[g]? = some (.cells #[c0,c1,c2,c3,c4] T (0,0))→w.cell? ⟨g,0,none⟩=some c0∧w.cell? ⟨g,1,none⟩=some c1∧w.cell? ⟨g,2,none⟩=some c2∧w.cell? ⟨g,3,none⟩=some c3∧w.cell? ⟨g,4,none⟩=some c4:=fun h=>by
  refine ⟨?_,?_,?_,?_,?_⟩<;>simp [World.cell?,h]
 cases x with
 | num n =>
   exact t54_0
 | sym s =>
   exact t54_0
 | here =>
   exact t54_0
 | un op a =>
   obtain ⟨g,va,_,hv,hh,ha⟩:=h
   obtain ⟨e0,e1,e2,e3,e4⟩:=mk hh
   exact ⟨g,_,_,hv,lt_of_block hh,e0,e1,e2,e3,e4,ha.mono (Nat.zero_le _),rfl⟩
 | bin op a b =>
   obtain ⟨g,va,vb,_,hv,hh,ha,hb⟩:=h
   obtain ⟨e0,e1,e2,e3,e4⟩:=mk hh
   exact ⟨g,_,_,hv,lt_of_block hh,e0,e1,e2,e3,e4,ha.mono (Nat.zero_le _),hb.mono (Nat.zero_le _)⟩
end Go.Proofs.YtkldoojonnkfgaaGreatDoor
namespace Go.Proofs.YtkldoojonnkfgaaGreatDoor
open Go.RowKit Go.Sort
def brk (c:Bool) (s:ByteArray):ByteArray:=if c then ⟨#[40]⟩++s++⟨#[41]⟩ else s
def Ex.text:Ex→ByteArray
 | .num n=>numText n
 | .sym s=>s
 | .here=>⟨#[36]⟩
 | .un op a=>op++brk (a.kd == 5) a.text
 | .bin op a b=>brk (a.kd == 5 && decide (lvlS a.nm<lvlS op)) a.text++⟨#[32]⟩++op++⟨#[32]⟩++brk (b.kd == 5 && decide (lvlS b.nm≤lvlS op)) b.text
end Go.Proofs.YtkldoojonnkfgaaGreatDoor
namespace Go.Proofs.YtkldoojonnkfgaaGreatDoor
open Go.RowKit Go.Sort
def Ex.words:Ex→Prop
 | .num _=>True
 | .sym s=>WordOk s∧(upper s).toList≠[77,79,68]
 | .here=>True
 | .un _ a=>a.words
 | .bin _ a b=>a.words∧b.words
def Reads (s:ByteArray) (i j:Nat) (k:Option Nat) (x:Ex):Prop:=∃ l,Lx s i l j∧G exLang k l x
theorem Reads.one {s:ByteArray} {i j:Nat} {x:Ex} (h:Reads s i j none x) (k:Nat):Reads s i j (some k) x:=by
 obtain ⟨l,h1,h2⟩:=h
 exact ⟨l,h1,.one _ _ _ h2⟩
theorem Reads.mono {s:ByteArray} {i j k m:Nat} {x:Ex} (h:Reads s i j (some m) x) (hk:k≤m):Reads s i j (some k) x:=by
 obtain ⟨l,h1,h2⟩:=h
 exact ⟨l,h1,h2.mono exLang hk⟩
theorem atom_num (n i:Int):tatom ⟨2,⟨#[]⟩,n,i⟩=some (.num n):=by
 have h:(tnm ⟨2,⟨#[]⟩,n,i⟩).toList=[]:=by
  show (⟨#[]⟩:ByteArray).toList=[]
  rw [ByteArray.toList_eq]
 unfold tatom
 rw [h]
 rfl
end Go.Proofs.YtkldoojonnkfgaaGreatDoor
namespace Go.Proofs.YtkldoojonnkfgaaGreatDoor
open Go.RowKit Go.Sort
theorem texts_succ (l:List Op3) (j:Nat) (x:Op3) (h:l[j]? = some x):texts (l.take (j+1))=texts (l.take j)++[opText x.1 x.2.1 x.2.2]:=by
 rw [List.take_add_one,h]
 simp [texts]
set_option maxHeartbeats 1000000 in
set_option maxRecDepth 100000 in
theorem list_any (v1:Value) (l:List Op3) (w:World) (h1:Row w v1 l.length (opc l)) (hl:l.length≤1000) (hT:Tabs w) :
 Calls Tryz.prog 41 #[v1] w fun e w'=>e=.returned (.string (listS l))∧Below w.heap.size w w':=by
 obtain ⟨i0,hi,hz0,hz1,hz2⟩:=info_parts Tryz.infoString
 obtain ⟨a1,c1,rfl,hc1,h1⟩:=h1.op
 obtain ⟨B,hB⟩:∃ B,w.heap.size=B:=⟨_,rfl⟩
 have HT:=Hh hT; clear hT
 have H1:=Hh h1; clear h1
 have HB:=Hh hB; clear hB
 go_enter Tryz.func41,Tryz.ntmps41
 go_wp2_with fail
 go_loopw [3,8] (fun v i wr=>∃ j:Nat,j≤l.length∧i=.int .i64 j∧wr.ownsRow B 9 1 v j (strc (texts (l.take j)))∧Below B w wr) (fun _ i _=>l.length - (intOf i).toNat)
 case atStart=>exact ⟨0,Nat.zero_le _,rfl,World.ownsRow_nil _ _ _ _,Below.refl _ _⟩
 case round =>
  obtain ⟨j,hj,rfl,hown,hbel⟩:=hrel
  have HOWN:=Hh hown; clear hown
  have HBEL:=Hh hbel; clear hbel
  by_cases hlt:j<l.length
  · obtain ⟨⟨x0,x1,x2⟩,hx⟩:∃ x,l[j]? = some x:=⟨_,List.getElem?_eq_getElem hlt⟩
    obtain ⟨g,o,rfl,hg,hc⟩:=H1.out (by intro e; rw [e] at hlt; exact absurd hlt (Nat.not_lt_zero _))
    obtain ⟨cx0,cx1,cx2⟩:=hc j _ hx
    clear hc
    rw [←HBEL.out.cell (p:=⟨_,_,none⟩) (by rw [←HB.out]; exact hg)] at cx0 cx1 cx2
    have Hx:=Hh hx; clear hx
    have hi0:(0:Int)≤(j:Int):=by omega
    have hi1:(j:Int)<(l.length:Int):=by omega
    go_wp2_with fail
    refine (text_any x0 x1 x2 _ ((HT.out.below (by rw [HB.out]; exact HBEL.out)).below (bl))).mono ?_
    rintro e w1 ⟨rfl,hb⟩
    obtain ⟨p1,rfl⟩:=gw_of_below hb
    clear hb
    go_wp2_with (at_builtin; refine wpList_append_own _ rfl _ _ 72 rfl B 9 i0 (.string ⟨#[]⟩) 1 16 Tryz.underlying72 hi hz0 hz1 hz2 rfl (by decide) _ _ _ rfl (owns_below' HOWN.out (bl)) _ 1 1 [.string (opText x0 x1 x2)] rfl rfl ?c1 ?c2 ?c3 ?c4 ?c5 ?_)
    case c1 =>
     intro q u hq
     rw [addr_add]
     match q,hq with
     | 0,hq=>simp at hq; subst hq; simp [go_sem]
    case c2=>intro u hu; simp at hu; subst hu; rfl
    case c3=>unfold maxLen; omega
    case c4=>omega
    case c5=>have:=HBEL.out.size; have:=HB.out; simp [go_sem]; omega
    intro v' w1 hown' hgrow _
    have hsz:B≤wr.heap.size:=by have:=HBEL.out.size; have:=HB.out; omega
    have hb':Below B w w1:=(HBEL.out.trans (Below.mono (show Below wr.heap.size wr _ from bl) hsz)).grown hgrow (by simp [go_sem]; omega) (by
     intro q hq
     have:=HOWN.out.2
     rcases this with ⟨h,_⟩ | ⟨g,cap,cur,h,hg,_⟩
     · rw [h] at hq; cases hq
     · rw [h] at hq; cases hq; exact hg)
    have HOWN3:=Hh hown'; clear hown'
    have HB':=Hh hb'; clear hb' hgrow
    go_wp2_with fail
    go_roundw
    case rel=>exact ⟨j+1,by omega,by go_num,by rw [texts_succ l j _ Hx.out,strc_append]; exact HOWN3.out,HB'.out⟩
    case measure=>simp [intOf]; omega
  · obtain rfl:j=l.length:=by omega
    have hrow:=Row.of_owns HOWN.out
    rw [List.take_length] at hrow
    obtain ⟨a2,c2,rfl,hc2,hr⟩:=hrow
    have HR:=Hh hr; clear hr
    have hjoin:Calls Tryz.prog 70 #[.slice a2 l.length c2,.string ⟨#[44]⟩] wr fun e w'=>e=.returned (.string (listS l))∧Below wr.heap.size wr w':=by
     by_cases hnil:l=[]
     · subst hnil
       exact (Tryz.strings_Join_none a2 c2 ⟨#[44]⟩ wr).mono fun e w' ⟨he,hw⟩=>⟨he,hw ▸ Below.refl _ _⟩
     · have hlen:(texts l).length=l.length:=by simp [texts]
       obtain ⟨g,o,rfl,hg,hcs⟩:=HR.out (by intro e; have h2:=strc_len (texts l); rw [e,hlen] at h2; exact hnil (List.eq_nil_of_length_eq_zero h2.symm))
       have hj:=Tryz.strings_Join g o c2 (texts l) ⟨#[44]⟩ wr (fun j x hx=>by
        have hjl:j<(texts l).length:=(List.getElem?_eq_some_iff.1 hx).1
        rw [hcs j (by rw [strc_len]; exact hjl)]
        simp [strc,hx]) hg (by omega) (by omega) (by have:=join_len l; show (Lib.join ((texts l).map (·.data.toList)) [44]).length≤_; omega)
       rw [hlen] at hj
       exact hj
    go_wp2_with fail
    refine hjoin.mono ?_
    rintro e w1 ⟨rfl,hb⟩
    obtain ⟨p1,rfl⟩:=gw_of_below hb
    clear hb
    go_wp2_with fail
    go_ret
    refine ⟨rfl,?_⟩
    rw [HB.out]
    exact HBEL.out.trans (Below.mono (show Below wr.heap.size wr _ from bl) (by have:=HBEL.out.size; have:=HB.out; omega))
end Go.Proofs.YtkldoojonnkfgaaGreatDoor
namespace Go.Proofs.YtkldoojonnkfgaaGreatDoor
open Go.RowKit Go.Sort
theorem parse_gram {l:List Tok} {x:Ex} (h:G exLang (some 1) l x) (hr:(oSyms (some x)).any resv=false):parseR l=(0,some x):=by
 obtain ⟨r,hp⟩:=P.some_res l
 have he:=(P.full exLang hp x).2 h
 subst he
 rw [←parseR_of hp]
 unfold parsed
 dsimp only
 rw [if_pos rfl,any_uniq]
 have e:lSyms [some x]=oSyms (some x):=by simp [lSyms]
 rw [e,hr]
 rfl
theorem tU_sign (c:UInt8) (i:Int) (h:c=43∨c=45):tU ⟨4,⟨#[c]⟩,0,i⟩=true∧lvlS (tnm ⟨4,⟨#[c]⟩,0,i⟩)=5:=by
 have h1:(tnm ⟨4,⟨#[c]⟩,0,i⟩).toList=[c]:=by
  show (⟨#[c]⟩:ByteArray).toList=[c]
  rw [ByteArray.toList_eq]
 unfold tU lvlS
 rw [h1]
 rcases h with rfl | rfl<;>exact ⟨rfl,rfl⟩
theorem parse_signed (c:UInt8) (n i j:Int) (h:c=43∨c=45):∃ x,parseR [⟨4,⟨#[c]⟩,0,i⟩,⟨2,⟨#[]⟩,n,j⟩]=(0,some x) :=
 ⟨_,parse_gram (.one _ _ _ (.un _ _ _ (tU_sign c i h).1 (.atom _ _ (atom_num n j)))) rfl⟩
theorem expr_of {kind:Int} {text:ByteArray} {l:List Tok} {x:Ex} (h:parseR l=(0,some x)):exprA kind text l=(⟨kind,text,some x⟩,0):=by
 unfold exprA
 rw [h]
 simp
def kt (a:Ar):Int × ByteArray:=(a.kind,a.text)
theorem argOf_long {l:List Tok} (h:l.length≠1):argOf l=argP1 l:=by
 unfold argOf
 rw [if_neg (fun e=>h e.1)]
theorem args_cons {p:List Tok} {ps:List (List Tok)} (h:(argOf p).2=0) (h2:(argsGo ps).2=0):(argsGo (p::ps)).2=0∧(argsGo (p::ps)).1=(argOf p).1::(argsGo ps).1:=by
 have e:argsGo (p::ps)=if (argOf p).2=0 then (if (argsGo ps).2=0 then ((argOf p).1::(argsGo ps).1,0) else ([],(argsGo ps).2)) else ([],(argOf p).2):=rfl
 rw [e,if_pos h,if_pos h2]
 exact ⟨rfl,rfl⟩
end Go.Proofs.YtkldoojonnkfgaaGreatDoor
