/- Joined. -/
import Derived.Test.YtoigglljnklhlaaGreatDoorD01
import Derived.Test.YtoigglljnklhlaaGreatDoorDX1
set_option maxHeartbeats 8000000
set_option maxRecDepth 100000
namespace Go.Proofs.YtoigglljnklhlaaGreatDoor
open Go.RowKit Go.Sort
open Go.Proofs.Tryz
def jL (d:Nat):UInt8:=if d<10 then UInt8.ofNat (48+d) else UInt8.ofNat (87+d)
def bL:Nat→Nat→List UInt8
 | 0,_=>[]
 | f+1,u=>if u<16 then [jL u] else bL f (u/16)++[jL (u%16)]
theorem tV (f u:Nat) (h:u<16):bL (f+1) u=[jL u]:=by simp[bL,h]
theorem zG (f u:Nat) (h:16≤u):bL (f+1) u=bL f (u/16)++[jL (u%16)]:=by
 simp[bL,show ¬ u<16 by omega]
def Tabs (w:World):Prop:=w.cell? ⟨0,15,none⟩=some (.int .u8 4)
theorem Tabs.lt {w:World} (h:Tabs w):0<w.heap.size:=block_lt_of_cell (a:=⟨0,15,none⟩) h
theorem Tabs.below {w w':World} (h:Tabs w) (hb:Below w.heap.size w w'):Tabs w':=(hb.cell (p:=⟨0,15,none⟩) h.lt).trans h
theorem Rd:IntKind.u64.wrap (bits BinOp.and IntKind.u64 16 (IntKind.u64.wrap (-16))*285870213051353865)/288230376151711744=15:=by decide +kernel
theorem Mo:bits BinOp.and IntKind.i64 16 15=0:=by decide +kernel
theorem Jj (u:Nat) (h:u<18446744073709551616):bits BinOp.and IntKind.u64 (u:Int) 15=((u%16:Nat):Int):=by
 have h1:=bits_and_u64_nat u 15 h om;rw[show (15:Nat)=2 ^ 4 - 1 from rfl,Nat.and_two_pow_sub_one_eq_mod] at h1
 exact h1
theorem zH:∀ d:Fin 16,(([48,49,50,51,52,53,54,55,56,57,97,98,99,100,101,102,103,104,105,106,107,108,109,110,111,112,113,114,115,116,117,118,119,120,121,122]:List UInt8))[d.val]? = some (jL d.val):=dc
theorem aBq (w:World) (hT:w.cell? ⟨0,15,none⟩=some (.int .u8 4)) :
 Calls prog 213 #[.int .u64 16] w fun e w'=>e=.returned (.int .i64 4)∧w'=w:=by
 have e2:=Rd;go_enter func213,ntmps213
 go_wp2
 go_ret;exact⟨rfl,rfl⟩
theorem aAx (w:World) :
 Calls prog 212 #[.int .i64 16] w fun e w'=>e=.returned (.bool true)∧w'=w:=by
 have e2:=Mo;go_enter func212,ntmps212
 go_wp2
 go_ret;exact⟨rfl,rfl⟩
theorem Wl:(Tryz.zeroCells274).size=65:=by kernel_rfl
theorem aAE (n:Nat) (w:World) (h1:10≤n) (h2:n≤65535) (hT0:Tabs w) :
 Calls prog 135 #[.int .i64 n,.int .i64 16] w fun e w'=>e=.returned (.string ⟨(bL 4 n).toArray⟩)∧Below w.heap.size w w':=by
 have hsz:=hT0.lt;have hT:w.cell? ⟨0,15,none⟩=some (.int .u8 4):=hT0;clear hT0;have h0:(0:Int)≤(n:Int):=om
 have h3:(n:Int)≤65535:=om
 have h4:¬ (n:Int)<0:=om
 have h5:decide ((n:Int)<0)=false:=by simp
 go_enter func135,ntmps135
 go_wp2_with (first|(go_at_call 173;go_in)|(go_at_call 212;refine (aAx _).mono ?_;rintro e w' ⟨rfl,rfl⟩)|(go_at_call 213;refine (aBq _ ?_).mono ?_;(simp[go_sem,hT,hsz]);rintro e w' ⟨rfl,rfl⟩))
 have hz:=Wl;generalize Tryz.zeroCells274=Z at hz ⊢;have Hz:=Hh hz;clear hz;go_loopw [1,13] (fun u i wr=>∃ (x k f:Nat) (C:Array Value) (l:List UInt8),u=.int .u64 x∧i=.int .i64 k∧wr=w.alloc (.cells C 274)∧C.size=65∧k=61+f∧f≤4∧1≤f∧x<16 ^ f∧l.length+f=4∧x≤65535 ∧
  bL 4 n=bL f x++l∧(∀ j (hj:j<l.length),C[k+j]? = some (.int .u8 (l[j].toNat:Int))))
  (fun u _ _=>(intOf u).toNat)
 case atStart=>exact⟨n,65,4,Z,[],rfl,rfl,rfl,Hz.out,rfl,om,om,om,rfl,h2,by simp,by simp⟩
 case round =>
  obtain⟨x,k,f,C,l,rfl,rfl,rfl,hCs,hk,hf,hf1,hx,hl,hx2,hd,hC⟩:=hrel;have Hd:=Hh hd;clear hd;have HC:=Hh hC;clear hC;have HCs:=Hh hCs;clear hCs;have hk1:62≤k:=om
  have hk2:k≤65:=om
  have Hk:=Hh hk;clear hk;have Hl:=Hh hl;clear hl;have Hx:=Hh hx;clear hx;obtain⟨v0,hv0⟩:∃ v,C[k - 1]? = some v:=⟨_,Array.getElem?_eq_getElem (by have:=HCs.out;omega)⟩;by_cases hge:16≤x
  · have hf2:2≤f:=by
     have:=Hx.out
     rcases Nat.lt_or_ge f 2 with h|h
     · obtain rfl:f=1:=om
       omega
     · exact h
    have hb:=Jj x om;obtain⟨y,hy⟩:∃ y,x%16=y:=⟨_,rfl⟩;have hy1:y<16:=om
    rw[hy] at hb;have Hy:=Hh hy;clear hy;go_wp2
    go_roundw
    case rel =>
     refine⟨x/16,k - 1,f - 1,_,jL y::l,by go_num,by go_num,rfl,by rw[Array.size_setIfInBounds];exact HCs.out,by have:=Hk.out;omega,om,by have:=Hl.out;have:=Hk.out;omega,?_,?_,om,?_,?_⟩
     · have:=Hx.out
       obtain⟨g,rfl⟩:∃ g,f=g+1:=⟨f - 1,om⟩
       rw[Nat.pow_succ] at this;show x/16<16 ^ g
       omega
     · have:=Hl.out
       simp;omega
     · obtain⟨g,rfl⟩:∃ g,f=g+1:=⟨f - 1,om⟩
       rw[Hd.out,zG g x hge,Hy.out];simp
     · intro j hj;have hcs:=HCs.out;rw[Array.getElem?_setIfInBounds];rcases j with _|j
       · rw[if_pos om,if_pos om];have h0:=zH ⟨y,hy1⟩;have h1:=List.getElem?_eq_some_iff.1 h0;obtain⟨_,h1⟩:=h1;show some (Value.int .u8 _)=some (Value.int .u8 _)
         rw[←h1];rfl
       · rw[if_neg om,show k - 1+(j+1)=k+j from by omega]
         exact HC.out j (by simpa using hj)
    case measure=>simp[intOf];omega
  · have hcs:=HCs.out;have hal:prog.arrayLen 274=65:=by kernel_rfl
    have hsl:∀ W,(Instr.sliceAt 274 (.pointer (some ⟨w.heap.size,0,none⟩)) (some (.int .i64 ((k:Int) - 1))) none none).run prog W=.ok (.slice (some ⟨w.heap.size,k - 1,none⟩) (66 - k) (66 - k)) W:=fun W=>by
     rw[run_sliceAt_array_l W 274 ⟨w.heap.size,0,none⟩ kr .i64 ((k:Int) - 1) om (by rw[hal];omega),hal];go_simp;omega
    have hcv:=run_convert_bytes_back (P:=prog) (w.alloc (.cells (C.setIfInBounds (k - 1) (.int .u8 ((jL x).toNat:Int))) 274)) 33 9 5 ⟨w.heap.size,k - 1,none⟩ (66 - k) (jL x::l) underlying33 underlying5 underlying9 (by
     intro j hj;rw[show Addr.add ⟨w.heap.size,k - 1,none⟩ j=⟨w.heap.size,k - 1+j,none⟩ from bD _ _ _,World.cell?_alloc_at _ _ _ _ rfl,Array.getElem?_setIfInBounds]
     rcases j with _|j
     · rw[if_pos om,if_pos om];rfl
     · rw[if_neg om,show k - 1+(j+1)=k+j from by omega]
       exact HC.out j (by simpa using hj))
    have hll:(jL x::l).length=66 - k:=by have:=Hl.out;have:=Hk.out;simp;omega
    rw[hll] at hcv;have hdg:(({ data:=#[48,49,50,51,52,53,54,55,56,57,97,98,99,100,101,102,103,104,105,106,107,108,109,110,111,112,113,114,115,116,117,118,119,120,121,122] }:ByteArray)[x]'(by show x<36;omega)).toNat=(jL x).toNat:=by
     obtain⟨_,h1⟩:=List.getElem?_eq_some_iff.1 (zH ⟨x,om⟩);rw[←h1];rfl
    have hx16:¬ (16:Int)≤(x:Int):=om
    clear hal hll hcs;go_wp2
    go_ret;exact⟨by rw[Hd.out];obtain⟨g,rfl⟩:∃ g,f=g+1:=⟨f - 1,om⟩;rw[tV g x om];rfl,br.alloc lr _⟩
theorem Ox (n:Nat) (w:World) (h1:10≤n) (h2:n≤65535) (hT:Tabs w) :
 Calls prog 96 #[.int .i64 n,.int .i64 16] w fun e w'=>e=.returned (.string ⟨(bL 4 n).toArray⟩)∧Below w.heap.size w w':=by
 go_enter func96,ntmps96
 go_wp2_with fail
 refine (aAE n _ h1 h2 hT).mono ?_;rintro e w1 ⟨rfl,hb⟩;go_wp2_with fail
 go_ret;exact⟨rfl,hb⟩
structure TabsA (w:World):Prop where
 t:Tabs w
 sp : Lib.TabIs prog w "strings.asciiSpace" .u8 Lib.asciiSpaceTab
 ml:∃ m,w.cell? ⟨2,0,none⟩=some (.int .i64 m)
theorem TabsA.below {w w':World} (h:TabsA w) (hb:Below w.heap.size w w'):TabsA w':=by
 refine ⟨h.t.below hb,?_,?_⟩
 · have h1:=h.sp;unfold Lib.TabIs World.var? at h1 ⊢;have hg : prog.globalNamed "strings.asciiSpace" = some 3 := by kernel_rfl
   rw [hg] at h1 ⊢;simp only [Option.bind_some] at h1 ⊢;have hlt:3<w.heap.size:=by
    rcases Nat.lt_or_ge 3 w.heap.size with h' | h'
    · exact h'
    · rw [Array.getElem?_eq_none h'] at h1; cases h1
   rw [hb.block _ hlt];exact h1
 · obtain ⟨m,hm⟩:=h.ml;exact ⟨m,(hb.cell (p:=⟨2,0,none⟩) (block_lt_of_cell (a:=⟨2,0,none⟩) hm)).trans hm⟩
theorem iP (l:List UInt8) (w:World) (hT:TabsA w) (hl:l.length≤1000000) (ha:l.all (fun b=>decide (b.toNat<128))=true) :
 Calls prog 245 #[.string ⟨l.toArray⟩] w fun e w'=>e=.returned (.slice (some ⟨w.heap.size,0,none⟩) (Lib.fields l).length (Lib.fields l).length)∧w'=w.alloc (.cells ((Lib.fields l).map fun x=>Value.string ⟨x.toArray⟩).toArray 9) :=
 Tryz.strings_Fields ⟨l.toArray⟩ w (by show l.toArray.size<_; rw [List.size_toArray]; omega) (fun j b hb=>by
  have:=List.all_eq_true.1 ha b (List.mem_of_getElem? hb)
  simpa using this) hT.sp
end Go.Proofs.YtoigglljnklhlaaGreatDoor
