/- Joined. -/
import Derived.Test.YtoigglljnklhlaaGreatDoorD33
set_option maxHeartbeats 8000000
set_option maxRecDepth 100000
namespace Go.Proofs.YtoigglljnklhlaaGreatDoor
open Go.RowKit Go.Sort
def txB (B:Bool):Nat→It→ByteArray:=bif B then aCs else fun _ x=>dH x
def aDl (tx:Nat→It→ByteArray) (T:List UInt8) (a:Nat) (L:List It) (m:Nat):ByteArray:=⟨(T++(tS a++mJ tx ((iT a L).take m))).toArray⟩
theorem aFj (tx:Nat→It→ByteArray) (T:List UInt8) (a:Nat) (L:List It):(⟨T.toArray⟩:ByteArray)++⟨#[9,79,82,71,32]⟩++aX (a:Int)++⟨#[10]⟩=aDl tx T a L 0:=by
 apply aFA
 simp[aDl,tS,mJ,ByteArray.data_append]
theorem aFl {tx:Nat→It→ByteArray} {T:List UInt8} {a:Nat} {L:List It} {m:Nat} {x:It} (h:L[m]? = some x):aDl tx T a L m++⟨#[9]⟩++tx (a+dJ (L.take m)) x++⟨#[10]⟩=aDl tx T a L (m+1):=by
 have h1:=aDM a L m x h;apply aFA
 unfold aDl;rw[List.take_add_one,h1,Option.toList_some,Hp];simp[lnG,ByteArray.data_append]
theorem aFG (tx:Nat→It→ByteArray) {R:List Rn} {j:Nat} {a:Nat} {b:List UInt8} (h:R[j]? = some (a,b)):aDl tx (eD tx (R.take j)) a (dI b) (dI b).length=⟨(eD tx (R.take (j+1))).toArray⟩:=by
 unfold aDl;rw[xI h,List.take_of_length_le (l:=iT a (dI b)) (by rw[vR];exact Nat.le_refl _)];rfl
theorem aFk {tx:Nat→It→ByteArray} (ht:TxS tx) {R:List Rn} {j:Nat} {a:Nat} {b:List UInt8} (h:R[j]? = some (a,b)) (hR:∀ r∈R,r.2.length≤60000) (hn:∀ r∈R,(aX (r.1:Int)).size≤1000) (hl:R.length≤60000) (m:Nat) :
 (aDl tx (eD tx (R.take j)) a (dI b) m).size≤100000000000000:=by
 have hg:∀ r∈R,(Gg tx r).length≤1300000000:=fun r hr=>Md ht r (hR r hr) (hn r hr);have h1:=rH (tx:=tx) (R.take (j+1)) (fun r hr=>hg r (List.mem_of_mem_take hr));have h2:(R.take (j+1)).length*1300000000≤60000*1300000000:=Nat.mul_le_mul_right _ (by rw[List.length_take];omega);rw[xI h] at h1;have h3:(mJ tx ((iT a (dI b)).take m)).length≤(mJ tx (iT a (dI b))).length:=by
  conv=>rhs;rw[←List.take_append_drop m (iT a (dI b))]
  unfold mJ;rw[List.flatMap_append,List.length_append];omega
 show (_:List UInt8).toArray.size≤_
 rw[List.size_toArray,List.length_append,List.length_append];rw[List.length_append] at h1;unfold Gg at h1;rw[List.length_append] at h1;dsimp only at h1;omega
theorem aEm {tx:Nat→It→ByteArray} (ht:TxS tx) {R:List Rn} (hR:∀ r∈R,r.2.length≤60000) (hn:∀ r∈R,(aX (r.1:Int)).size≤1000) (hl:R.length≤60000) (j:Nat) :
 (⟨(eD tx (R.take j)).toArray⟩:ByteArray).size≤100000000000000:=by
 have hg:∀ r∈R,(Gg tx r).length≤1300000000:=fun r hr=>Md ht r (hR r hr) (hn r hr);have h1:=rH (tx:=tx) (R.take j) (fun r hr=>hg r (List.mem_of_mem_take hr));have h2:(R.take j).length*1300000000≤60000*1300000000:=Nat.mul_le_mul_right _ (by rw[List.length_take];omega);show (_:List UInt8).toArray.size≤_
 rw[List.size_toArray];omega
def aId (S:ByteArray) (ad:Nat) (x:It) (n:Nat):ByteArray:=S++⟨#[9]⟩++dH x++⟨#[9,59,32]⟩++⟨(hx 4 ad).toArray⟩++⟨(aEs (x.raw.take n)).toArray⟩
theorem aJJ (S:ByteArray) (ad:Nat) (x:It):S++⟨#[9]⟩++dH x++⟨#[9,59,32]⟩++⟨(hx 4 ad).toArray⟩=aId S ad x 0:=by
 apply aFA
 simp[aId,aEs,ByteArray.data_append]
theorem aJL {S:ByteArray} {ad:Nat} {x:It} {n:Nat} {b:UInt8} (h:x.raw[n]? = some b):aId S ad x n++⟨#[32]⟩++⟨(hx 2 b.toNat).toArray⟩=aId S ad x (n+1):=by
 apply aFA
 unfold aId;rw[aEP h];simp[ByteArray.data_append]
theorem aKa (S:ByteArray) (ad:Nat) (x:It):aId S ad x x.raw.length++⟨#[10]⟩=S++⟨#[9]⟩++aCs ad x++⟨#[10]⟩:=by
 apply aFA
 simp[aId,aCs,aDn,ByteArray.data_append]
theorem aJK (S:ByteArray) (ad:Nat) (x:It) (n:Nat):(aId S ad x n).size≤S.size+(dH x).size+8+x.raw.length*3:=by
 have h1:=aDZ (x.raw.take n);have h2:(x.raw.take n).length≤x.raw.length:=by rw[List.length_take];omega
 have h3:=aCI 4 ad;unfold aId;rw[ByteArray.size_append,ByteArray.size_append,ByteArray.size_append,ByteArray.size_append,ByteArray.size_append];show S.size+1+(dH x).size+3+(hx 4 ad).toArray.size+(aEs (x.raw.take n)).toArray.size≤_
 rw[List.size_toArray,List.size_toArray];omega
theorem aFY (B:Bool):TxS (txB B):=by
 cases B
 · exact fun a x h=>Nat.le_trans (Cp x h) om
 · exact aDi
end Go.Proofs.YtoigglljnklhlaaGreatDoor
namespace Go.Proofs.YtoigglljnklhlaaGreatDoor
open Go.RowKit Go.Sort
open Go.Proofs.Tryz
def lW (l:List (Int × List UInt8)):Nat:=(l.map fun r=>min r.2.length 5000).sum
def tW (l:List (Int × List UInt8)):Bool:=decide (l.length≤60) && decide (lW l≤3000)
abbrev RgX:=(Int × List UInt8) × Value
def Xd (x:RgX):List Value:=[.int .i64 x.1.1,x.2]
def rgc (l:List RgX):List Value:=l.flatMap Xd
structure RgAt (w:World) (v:Value) (rs:List RgX):Prop where
 row:Row w v rs.length (rgc rs)
 has:∀ x∈rs,Row w x.2 x.1.2.length (aT x.1.2)
theorem RgAt.below {w w':World} {v:Value} {rs:List RgX} (h:RgAt w v rs) (hb:Below w.heap.size w w'):RgAt w' v rs:=⟨h.row.below hb,fun x hx=>(h.has x hx).below hb⟩
theorem RgAt.get {w:World} {v:Value} {rs:List RgX} (h:RgAt w v rs):∃ a cap,v=.slice a rs.length cap∧rs.length≤cap∧(rs≠[]→∃ g o,a=some ⟨g,o,none⟩∧g<w.heap.size∧∀ i x,rs[i]? = some x →
 w.cell? ⟨g,o+i*2,none⟩=some (.int .i64 x.1.1)∧w.cell? ⟨g,o+i*2+1,none⟩=some x.2):=by
 obtain⟨a,cap,hv,hn,hh⟩:=h.row.structs Xd 2 (fun _=>rfl) dc;refine⟨a,cap,hv,hn,fun hne=>?_⟩;obtain⟨g,o,rfl,hg,hc⟩:=hh hne;exact⟨g,o,rfl,hg,fun i x hx=>⟨hc i x hx 0 dc,hc i x hx 1 dc⟩⟩
theorem Fb:∀ l:List (Int × List UInt8),lW l≤l.length*5000
 | []=>Nat.le_refl _
 | r::l=>by
   have:=Fb l
   simp only[lW,List.map_cons,List.sum_cons,List.length_cons,Nat.succ_mul] at this ⊢;omega
theorem Fa (rs:List RgX) (v:Value) (w:World) (h:RgAt w v rs) (hl:rs.length≤maxLen):Calls prog 10 #[v] w fun e w'=>e=.returned (.bool (tW (rs.map Prod.fst)))∧w=w':=by
 obtain⟨a,c,rfl,hcap,hh⟩:=h.get;have HH:=Hh hh;have HA:=Hh h.has;have HL:=Hh hl;have hl2:(rs.length:Int)≤9223372036854775807:=by unfold maxLen at hl;omega
 clear h hh hl;go_enter func10,ntmps10
 go_wp2_with fail
 go_loopw [3,4] (fun s i wr=>wr=w∧∃ (j:Nat) (z:Int),j≤rs.length∧i=.int .i64 j∧s=.int .i64 z∧Hid (rs.length≤60→z=(lW ((rs.map Prod.fst).take j):Nat))) (fun _ i _=>rs.length - (intOf i).toNat)
 case atStart=>exact⟨rfl,0,0,Nat.zero_le _,rfl,rfl,Hh (fun _=>rfl)⟩
 case round =>
  obtain⟨rfl,j,z,hj,rfl,rfl,HZ⟩:=hrel;by_cases hlt:j<rs.length
  · obtain⟨x,hx⟩:∃ x,rs[j]? = some x:=⟨_,List.getElem?_eq_getElem hlt⟩;obtain⟨g,o,rfl,hg,hcs⟩:=HH.out (by rintro rfl;exact absurd hlt (Nat.not_lt_zero _))
    obtain⟨k0,k1⟩:=hcs j x hx;obtain⟨ab,cb,hvb,hcb,_⟩:=HA.out x (List.mem_of_getElem? hx);have hst:lW ((rs.map Prod.fst).take (j+1))=lW ((rs.map Prod.fst).take j)+min x.1.2.length 5000:=by
     rw[List.take_add_one,List.getElem?_map,hx];simp[lW]
    have hfl:=Fb ((rs.map Prod.fst).take j);have hll:((rs.map Prod.fst).take j).length≤rs.length:=by rw[List.length_take,List.length_map];omega
    rw[hvb] at k1;have hnx:rs.length≤60→wrap64 (z+((min x.1.2.length 5000:Nat):Int))=(lW ((rs.map Prod.fst).take (j+1)):Nat):=fun h60=>by
     have h1:=HZ.out h60;rw[hst,h1,Int.natCast_add];have h2:((rs.map Prod.fst).take j).length*5000≤60*5000:=Nat.mul_le_mul_right _ (Nat.le_trans hll h60);exact IntWalk.wrap64_in _ om
    have HNX:=Hh hnx;obtain⟨⟨ad,bs⟩,vb⟩:=x;dsimp only at k0 k1 hcb HNX;have hi0:(0:Int)≤(j:Int):=om
    have hi1:(j:Int)<(rs.length:Int):=om
    clear hcs hx hst hfl hll hvb hnx;by_cases hm:bs.length≤5000
    · have hm1:(bs.length:Int)≤5000:=om
      have HM:=Hh (Nat.min_eq_left hm);clear hm;go_wp2_with fail
      go_roundw
      case rel=>exact⟨trivial,j+1,_,om,by go_num,rfl,Hh (fun h60=>by have h:=HNX.out h60;rw[HM.out] at h;first|exact h|(rw[show min (bs.length:Int) 5000=((min bs.length 5000:Nat):Int) by omega];exact HNX.out h60))⟩
      case measure=>simp[intOf];omega
    · have hm1:(5000:Int)<(bs.length:Int):=om
      have HM:=Hh (Nat.min_eq_right (Nat.le_of_not_le hm));clear hm;go_wp2_with fail
      go_roundw
      case rel=>exact⟨trivial,j+1,_,om,by go_num,rfl,Hh (fun h60=>by have h:=HNX.out h60;rw[HM.out] at h;first|exact h|(rw[show min (bs.length:Int) 5000=((min bs.length 5000:Nat):Int) by omega];exact HNX.out h60))⟩
      case measure=>simp[intOf];omega
  · obtain rfl:j=rs.length:=om
    have htk:(rs.map Prod.fst).take rs.length=rs.map Prod.fst:=List.take_of_length_le sm;rw[htk] at HZ;have hfe:tW (rs.map Prod.fst)=(decide (rs.length≤60) && decide (lW (rs.map Prod.fst)≤3000)):=by unfold tW;rw[List.length_map]
    have HFE:=Hh hfe;clear htk hfe;by_cases h1:rs.length≤60
    · have hz:=HZ.out h1;subst hz;generalize lW (rs.map Prod.fst)=F at *;by_cases h2:F≤3000
      all_goals
       have h1i:decide ((rs.length:Int)≤60)=decide (rs.length≤60):=by simp;omega
       have h2i:decide ((F:Int)≤3000)=decide (F≤3000):=by simp;omega
       have H12:=Hh (And.intro h1 h2);rw[decide_eq_true h1] at h1i;first|rw[decide_eq_true h2] at h2i|rw[decide_eq_false h2] at h2i
       clear h1 h2;go_wp2_with fail
       go_ret;have h1:=H12.out.1;have h2:=H12.out.2;exact⟨by rw[HFE.out];simp[h1,h2],rfl⟩
    · have h1i:decide ((rs.length:Int)≤60)=false:=by simp;omega
      have H1:=Hh h1;clear h1 HZ;go_wp2_with fail
      go_ret;have h1:=H1.out;exact⟨by rw[HFE.out];simp[h1],rfl⟩
end Go.Proofs.YtoigglljnklhlaaGreatDoor
