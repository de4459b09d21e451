/- Joined. -/
import Derived.Test.YtoigglljnklhlaaGreatDoorD01
import Derived.Test.YtoigglljnklhlaaGreatDoorDX1
set_option maxHeartbeats 8000000
set_option maxRecDepth 100000
namespace Go.Proofs.YtoigglljnklhlaaGreatDoor
section
open Go.RowKit Go.Sort
open Go.Proofs.Tryz
def jL (d:Nat):UInt8:=if d<10 then UInt8.ofNat (48+d) else UInt8.ofNat (87+d)
def bL:Nat→Nat→List UInt8
 | 0,_=>[]
 | f+1,u=>if u<16 then [jL u] else bL f (u/16)++[jL (u%16)]
theorem tV (f u:Nat) (h:u<16):bL (f+1) u=[jL u]:=by simp[bL,h]
theorem zG (f u:Nat) (h:16≤u):bL (f+1) u=bL f (u/16)++[jL (u%16)]:=by
 simp[bL,show ¬ u<16 by omega]
def Tabs (w:World):Prop:=w.cell? ⟨0,15,none⟩=some (.int .u8 4)
theorem Tabs.lt {w:World} (h:Tabs w):0<w.heap.size:=block_lt_of_cell (a:=⟨0,15,none⟩) h
theorem Tabs.below {w w':World} (h:Tabs w) (hb:Below w w w'):Tabs w':=(hb.cell (p:=⟨0,15,none⟩) h.lt).trans h
theorem Rd:IntKind.u64.wrap (bits BinOp.and IntKind.u64 16 (IntKind.u64.wrap (-16))*285870213051353865)/288230376151711744=15:=by decide +kernel
theorem Mo:bits BinOp.and IntKind.i64 16 15=0:=by decide +kernel
theorem Jj (u:Nat) (h:u<18446744073709551616):bits BinOp.and IntKind.u64 (u:Int) 15=((u%16:Nat):Int):=by
 have h1:=bits_and_u64_nat u 15 h om;rw[show (15:Nat)=2 ^ 4 - 1 from rfl,Nat.and_two_pow_sub_one_eq_mod] at h1
 exact h1
theorem zH:∀ d:Fin 16,(([48,49,50,51,52,53,54,55,56,57,97,98,99,100,101,102,103,104,105,106,107,108,109,110,111,112,113,114,115,116,117,118,119,120,121,122]:List UInt8))[d.val]? = some (jL d.val):=dc
theorem aBq (w:World) (hT:w.cell? ⟨0,15,none⟩=some (.int .u8 4)) :
 Calls prog 213 #[.int .u64 16] w fun e w'=>e=.returned (4:Int)∧w'=w:=by
 have e2:=Rd;go_enter func213,ntmps213
 go_wp2
 go_ret;exact⟨rfl,rfl⟩
theorem aAx (w:World) :
 Calls prog 212 #[(16:Int)] w fun e w'=>e=.returned (.bool true)∧w'=w:=by
 have e2:=Mo;go_enter func212,ntmps212
 go_wp2
 go_ret;exact⟨rfl,rfl⟩
theorem Wl:(Tryz.zeroCells274).size=65:=by kernel_rfl
theorem aAE (n:Nat) (w:World) (h1:10≤n) (h2:n≤65535) (hT0:Tabs w) :
 Calls prog 135 #[n,(16:Int)] w fun e w'=>e=.returned (bL 4 n)∧Below w w w':=by
 have hsz:=hT0.lt;have hT:w.cell? ⟨0,15,none⟩=some (.int .u8 4):=hT0;clear hT0;have h0:(0:Int)≤(n:Int):=om
 have h3:(n:Int)≤65535:=om
 have h4:¬ (n:Int)<0:=om
 have h5:decide ((n:Int)<0)=false:=by simp
 go_enter func135,ntmps135
 go_wp2_with (first|(go_at_call 173;go_in)|(go_at_call 212;refine (aAx _).mono ?_;rintro e w' ⟨rfl,rfl⟩)|(go_at_call 213;refine (aBq _ ?_).mono ?_;(simp[go_sem,hT,hsz]);rintro e w' ⟨rfl,rfl⟩))
 have hz:=Wl;generalize Tryz.zeroCells274=Z at hz ⊢;have Hz:=Hh hz;clear hz;go_loopw [1,13] (fun u i wr=>∃ (x k f:Nat) (C:Array Value) (l:List UInt8),u=.int .u64 x∧i=.int .i64 k∧wr=w.alloc (.cells C 274)∧C.size=65∧k=61+f∧f≤4∧1≤f∧x<16 ^ f∧l.length+f=4∧x≤65535 ∧
  bL 4 n=bL f x++l∧(∀ j (hj:j<l.length),C[k+j]? = some (.int .u8 (l[j].toNat:Int))))
  (fun u _ _=>(intOf u).toNat)
 case atStart=>exact⟨n,65,4,Z,[],rfl,rfl,rfl,Hz.out,rfl,om,om,om,rfl,h2,by simp,by simp⟩
 case round =>
  obtain⟨x,k,f,C,l,rfl,rfl,rfl,hCs,hk,hf,hf1,hx,hl,hx2,hd,hC⟩:=hrel;have Hd:=Hh hd;clear hd;have HC:=Hh hC;clear hC;have HCs:=Hh hCs;clear hCs;have hk1:62≤k:=om
  have hk2:k≤65:=om
  have Hk:=Hh hk;clear hk;have Hl:=Hh hl;clear hl;have Hx:=Hh hx;clear hx;obtain⟨v0,hv0⟩:∃ v,C[k - 1]? = some v:=⟨_,Yk (by have:=HCs.out;omega)⟩;by_cases hge:16≤x
  · have hf2:2≤f:=by
     have:=Hx.out
     rcases Zb f 2 with h|h
     · obtain rfl:f=1:=om
       omega
     · exact h
    have hb:=Jj x om;obtain⟨y,hy⟩:∃ y,x%16=y:=⟨_,rfl⟩;have hy1:y<16:=om
    rw[hy] at hb;have Hy:=Hh hy;clear hy;go_wp2
    go_roundw
    case rel =>
     refine⟨x/16,k - 1,f - 1,_,jL y::l,by go_num,by go_num,rfl,by rw[Array.size_setIfInBounds];exact HCs.out,by have:=Hk.out;omega,om,by have:=Hl.out;have:=Hk.out;omega,?_,?_,om,?_,?_⟩
     · have:=Hx.out
       obtain⟨g,rfl⟩:∃ g,f=g+1:=⟨f - 1,om⟩
       rw[Nat.pow_succ] at this;show x/16<16 ^ g
       omega
     · have:=Hl.out
       simp;omega
     · obtain⟨g,rfl⟩:∃ g,f=g+1:=⟨f - 1,om⟩
       rw[Hd.out,zG g x hge,Hy.out];simp
     · intro j hj;have hcs:=HCs.out;rw[Array.getElem?_setIfInBounds];rcases j with _|j
       · rw[if_pos om,if_pos om];have h0:=zH ⟨y,hy1⟩;have h1:=Qd.1 h0;obtain⟨_,h1⟩:=h1;show some (Value.int .u8 _)=some (Value.int .u8 _)
         rw[←h1];rfl
       · rw[if_neg om,show k - 1+(j+1)=k+j from by omega]
         exact HC.out j (by simpa using hj)
    case measure=>simp[intOf];omega
  · have hcs:=HCs.out;have hal:prog.arrayLen 274=65:=by kernel_rfl
    have hsl:∀ W,(Instr.sliceAt 274 (.pointer w) (some (.int .i64 ((k:Int) - 1))) none none).run prog W=.ok (.slice (some ⟨w,k - 1,none⟩) (66 - k) (66 - k)) W:=fun W=>by
     rw[run_sliceAt_array_l W 274 ⟨w,0,none⟩ kr .i64 ((k:Int) - 1) om (by rw[hal];omega),hal];go_simp;omega
    have hcv:=run_convert_bytes_back (P:=prog) (w.alloc (.cells (C.setIfInBounds (k - 1) (.int .u8 ((jL x).toNat:Int))) 274)) 33 9 5 ⟨w,k - 1,none⟩ (66 - k) (jL x::l) underlying33 underlying5 underlying9 (by
     intro j hj;rw[show Addr.add ⟨w,k - 1,none⟩ j=⟨w,k - 1+j,none⟩ from bD _ _ _,World.cell?_alloc_at _ _ _ _ rfl,Array.getElem?_setIfInBounds]
     rcases j with _|j
     · rw[if_pos om,if_pos om];rfl
     · rw[if_neg om,show k - 1+(j+1)=k+j from by omega]
       exact HC.out j (by simpa using hj))
    have hll:(jL x::l).length=66 - k:=by have:=Hl.out;have:=Hk.out;simp;omega
    rw[hll] at hcv;have hdg:(({ data:=#[48,49,50,51,52,53,54,55,56,57,97,98,99,100,101,102,103,104,105,106,107,108,109,110,111,112,113,114,115,116,117,118,119,120,121,122] }:ByteArray)[x]'(by show x<36;omega)).toNat=(jL x).toNat:=by
     obtain⟨_,h1⟩:=Qd.1 (zH ⟨x,om⟩);rw[←h1];rfl
    have hx16:¬ (16:Int)≤(x:Int):=om
    clear hal hll hcs;go_wp2
    go_ret;exact⟨by rw[Hd.out];obtain⟨g,rfl⟩:∃ g,f=g+1:=⟨f - 1,om⟩;rw[tV g x om];rfl,br.alloc lr _⟩
theorem Ox (n:Nat) (w:World) (h1:10≤n) (h2:n≤65535) (hT:Tabs w) :
 Calls prog 96 #[n,(16:Int)] w fun e w'=>e=.returned (bL 4 n)∧Below w w w':=by
 go_enter func96,ntmps96
 go_wp2_with fail
 refine (aAE n _ h1 h2 hT).mono ?_;rintro e w1 ⟨rfl,hb⟩;go_wp2_with fail
 go_ret;exact⟨rfl,hb⟩
structure TabsA (w:World):Prop where
 t:Tabs w
 sp : Lib.TabIs prog w "strings.asciiSpace" .u8 Lib.asciiSpaceTab
 ml:∃ m,w.cell? ⟨2,0,none⟩=some (.int .i64 m)
theorem TabsA.below {w w':World} (h:TabsA w) (hb:Below w.heap.size w w'):TabsA w':=by
 refine ⟨h.t.below hb,?_,?_⟩
 · have h1:=h.sp;unfold Lib.TabIs World.var? at h1 ⊢;have hg : prog.globalNamed "strings.asciiSpace" = some 3 := by kernel_rfl
   rw [hg] at h1 ⊢;simp only [Option.bind_some] at h1 ⊢;have hlt:3<w.heap.size:=by
    rcases Zb 3 w.heap.size with h' | h'
    · exact h'
    · rw [Array.getElem?_eq_none h'] at h1; cases h1
   rw [hb.block _ hlt];exact h1
 · obtain ⟨m,hm⟩:=h.ml;exact ⟨m,(hb.cell (p:=⟨2,0,none⟩) (block_lt_of_cell (a:=⟨2,0,none⟩) hm)).trans hm⟩
theorem iP (l:List UInt8) (w:World) (hT:TabsA w) (hl:l.length≤1000000) (ha:l.all (fun b=>decide (b.toNat<128))=true) :
 Calls prog 245 #[l] w fun e w'=>e=.returned (.slice w (Lib.fields l).length (Lib.fields l).length)∧w'=w.alloc (.cells ((Lib.fields l).map fun x=>Value.string ⟨x.toArray⟩).toArray 9) :=
 Tryz.strings_Fields ⟨l.toArray⟩ w (by show l.toArray.size<_; rw [Qx]; omega) (fun j b hb=>by
  have:=Xk.1 ha b (Qu hb)
  simpa using this) hT.sp
end
section
open Go.RowKit
open Go.Proofs.Tryz
def nm:Nat→Nat→ByteArray
 | 1,0=>⟨#[66]⟩
 | 1,1=>⟨#[67]⟩
 | 1,2=>⟨#[68]⟩
 | 1,3=>⟨#[69]⟩
 | 1,4=>⟨#[72]⟩
 | 1,5=>⟨#[76]⟩
 | 1,6=>⟨#[]⟩
 | 1,7=>⟨#[65]⟩
 | 1,8=>⟨#[]⟩
 | 2,0=>⟨#[73,88,72]⟩
 | 2,1=>⟨#[73,88,76]⟩
 | 2,2=>⟨#[73,89,72]⟩
 | 2,3=>⟨#[73,89,76]⟩
 | 2,4=>⟨#[]⟩
 | 2,5=>⟨#[]⟩
 | 2,6=>⟨#[]⟩
 | 2,7=>⟨#[]⟩
 | 2,8=>⟨#[]⟩
 | 3,0=>⟨#[66,67]⟩
 | 3,1=>⟨#[68,69]⟩
 | 3,2=>⟨#[72,76]⟩
 | 3,3=>⟨#[83,80]⟩
 | 3,4=>⟨#[65,70]⟩
 | 3,5=>⟨#[73,88]⟩
 | 3,6=>⟨#[73,89]⟩
 | 3,7=>⟨#[65,70,39]⟩
 | 3,8=>⟨#[]⟩
 | 4,0=>⟨#[66,67]⟩
 | 4,1=>⟨#[68,69]⟩
 | 4,2=>⟨#[72,76]⟩
 | 4,3=>⟨#[83,80]⟩
 | 4,4=>⟨#[]⟩
 | 4,5=>⟨#[73,88]⟩
 | 4,6=>⟨#[73,89]⟩
 | 4,7=>⟨#[]⟩
 | 4,8=>⟨#[67]⟩
 | 5,0=>⟨#[]⟩
 | 5,1=>⟨#[]⟩
 | 5,2=>⟨#[]⟩
 | 5,3=>⟨#[]⟩
 | 5,4=>⟨#[]⟩
 | 5,5=>⟨#[73,88]⟩
 | 5,6=>⟨#[73,89]⟩
 | 5,7=>⟨#[]⟩
 | 5,8=>⟨#[]⟩
 | 6,0=>⟨#[42]⟩
 | 6,1=>⟨#[]⟩
 | 6,2=>⟨#[]⟩
 | 6,3=>⟨#[]⟩
 | 6,4=>⟨#[]⟩
 | 6,5=>⟨#[]⟩
 | 6,6=>⟨#[]⟩
 | 6,7=>⟨#[]⟩
 | 6,8=>⟨#[]⟩
 | 7,0=>⟨#[42]⟩
 | 7,1=>⟨#[]⟩
 | 7,2=>⟨#[]⟩
 | 7,3=>⟨#[]⟩
 | 7,4=>⟨#[]⟩
 | 7,5=>⟨#[]⟩
 | 7,6=>⟨#[]⟩
 | 7,7=>⟨#[]⟩
 | 7,8=>⟨#[]⟩
 | 8,0=>⟨#[78,90]⟩
 | 8,1=>⟨#[90]⟩
 | 8,2=>⟨#[78,67]⟩
 | 8,3=>⟨#[67]⟩
 | 8,4=>⟨#[80,79]⟩
 | 8,5=>⟨#[80,69]⟩
 | 8,6=>⟨#[80]⟩
 | 8,7=>⟨#[77]⟩
 | 8,8=>⟨#[]⟩
 | 9,0=>⟨#[73]⟩
 | 9,1=>⟨#[82]⟩
 | 9,2=>⟨#[]⟩
 | 9,3=>⟨#[]⟩
 | 9,4=>⟨#[]⟩
 | 9,5=>⟨#[]⟩
 | 9,6=>⟨#[]⟩
 | 9,7=>⟨#[]⟩
 | 9,8=>⟨#[]⟩
 | 10,0=>⟨#[42]⟩
 | 10,1=>⟨#[]⟩
 | 10,2=>⟨#[]⟩
 | 10,3=>⟨#[]⟩
 | 10,4=>⟨#[]⟩
 | 10,5=>⟨#[]⟩
 | 10,6=>⟨#[]⟩
 | 10,7=>⟨#[]⟩
 | 10,8=>⟨#[]⟩
 | _,_=>⟨#[]⟩
def klo:Nat→Int|5=>-128|6=>-32768|10=>-128|_=>0
def khi:Nat→Int|5=>127|6=>65535|7=>65535|10=>127|_=>0
def kf:Nat→Nat
 | 4=>268|5=>269|6=>271|7=>272|10=>273|_=>267
theorem aPY (w:World) :
 Calls prog 246 #[(1:Int)] w fun e w'=>e=.returned (.tuple #[.agg #[.string (nm 1 0),.string (nm 1 1),.string (nm 1 2),.string (nm 1 3),.string (nm 1 4),.string (nm 1 5),.string (nm 1 6),.string (nm 1 7),.string (nm 1 8),.int .i64 (klo 1),.int .i64 (khi 1),.func (.func (kf 1)) #[] #[]],.bool true])∧Below w w w':=by
 go_enter func246,ntmps246
 go_wp2
 refine bodyPost_ret (v:=.tuple #[.agg #[.string ⟨#[66]⟩,.string ⟨#[67]⟩,.string ⟨#[68]⟩,.string ⟨#[69]⟩,.string ⟨#[72]⟩,.string ⟨#[76]⟩,(),.string ⟨#[65]⟩,(),.int .i64 (0),.int .i64 (0),.func (.func 267) #[] #[]],.bool true]) (by simp[results,results246,go_sem]) rfl ⟨rfl,?_⟩;exact br.alloc lr _
theorem aPX (w:World) :
 Calls prog 246 #[(2:Int)] w fun e w'=>e=.returned (.tuple #[.agg #[.string (nm 2 0),.string (nm 2 1),.string (nm 2 2),.string (nm 2 3),.string (nm 2 4),.string (nm 2 5),.string (nm 2 6),.string (nm 2 7),.string (nm 2 8),.int .i64 (klo 2),.int .i64 (khi 2),.func (.func (kf 2)) #[] #[]],.bool true])∧Below w w w':=by
 go_enter func246,ntmps246
 go_wp2
 refine bodyPost_ret (v:=.tuple #[.agg #[.string ⟨#[73,88,72]⟩,.string ⟨#[73,88,76]⟩,.string ⟨#[73,89,72]⟩,.string ⟨#[73,89,76]⟩,(),(),(),(),(),.int .i64 (0),.int .i64 (0),.func (.func 267) #[] #[]],.bool true]) (by simp[results,results246,go_sem]) rfl ⟨rfl,?_⟩;exact br.alloc lr _
theorem aPW (w:World) :
 Calls prog 246 #[(3:Int)] w fun e w'=>e=.returned (.tuple #[.agg #[.string (nm 3 0),.string (nm 3 1),.string (nm 3 2),.string (nm 3 3),.string (nm 3 4),.string (nm 3 5),.string (nm 3 6),.string (nm 3 7),.string (nm 3 8),.int .i64 (klo 3),.int .i64 (khi 3),.func (.func (kf 3)) #[] #[]],.bool true])∧Below w w w':=by
 go_enter func246,ntmps246
 go_wp2
 refine bodyPost_ret (v:=.tuple #[.agg #[.string ⟨#[66,67]⟩,.string ⟨#[68,69]⟩,.string ⟨#[72,76]⟩,.string ⟨#[83,80]⟩,.string ⟨#[65,70]⟩,.string ⟨#[73,88]⟩,.string ⟨#[73,89]⟩,.string ⟨#[65,70,39]⟩,(),.int .i64 (0),.int .i64 (0),.func (.func 267) #[] #[]],.bool true]) (by simp[results,results246,go_sem]) rfl ⟨rfl,?_⟩;exact br.alloc lr _
theorem aPV (w:World) :
 Calls prog 246 #[(4:Int)] w fun e w'=>e=.returned (.tuple #[.agg #[.string (nm 4 0),.string (nm 4 1),.string (nm 4 2),.string (nm 4 3),.string (nm 4 4),.string (nm 4 5),.string (nm 4 6),.string (nm 4 7),.string (nm 4 8),.int .i64 (klo 4),.int .i64 (khi 4),.func (.func (kf 4)) #[] #[]],.bool true])∧Below w w w':=by
 go_enter func246,ntmps246
 go_wp2
 refine bodyPost_ret (v:=.tuple #[.agg #[.string ⟨#[66,67]⟩,.string ⟨#[68,69]⟩,.string ⟨#[72,76]⟩,.string ⟨#[83,80]⟩,(),.string ⟨#[73,88]⟩,.string ⟨#[73,89]⟩,(),.string ⟨#[67]⟩,.int .i64 (0),.int .i64 (0),.func (.func 268) #[] #[]],.bool true]) (by simp[results,results246,go_sem]) rfl ⟨rfl,?_⟩;exact br.alloc lr _
theorem aPU (w:World) :
 Calls prog 246 #[(5:Int)] w fun e w'=>e=.returned (.tuple #[.agg #[.string (nm 5 0),.string (nm 5 1),.string (nm 5 2),.string (nm 5 3),.string (nm 5 4),.string (nm 5 5),.string (nm 5 6),.string (nm 5 7),.string (nm 5 8),.int .i64 (klo 5),.int .i64 (khi 5),.func (.func (kf 5)) #[] #[]],.bool true])∧Below w w w':=by
 go_enter func246,ntmps246
 go_wp2
 refine bodyPost_ret (v:=.tuple #[.agg #[(),(),(),(),(),.string ⟨#[73,88]⟩,.string ⟨#[73,89]⟩,(),(),.int .i64 (-128),.int .i64 (127),.func (.func 269) #[] #[]],.bool true]) (by simp[results,results246,go_sem]) rfl ⟨rfl,?_⟩;exact br.alloc lr _
theorem aPT (w:World) :
 Calls prog 246 #[(6:Int)] w fun e w'=>e=.returned (.tuple #[.agg #[.string (nm 6 0),.string (nm 6 1),.string (nm 6 2),.string (nm 6 3),.string (nm 6 4),.string (nm 6 5),.string (nm 6 6),.string (nm 6 7),.string (nm 6 8),.int .i64 (klo 6),.int .i64 (khi 6),.func (.func (kf 6)) #[] #[]],.bool true])∧Below w w w':=by
 go_enter func246,ntmps246
 go_wp2
 refine bodyPost_ret (v:=.tuple #[.agg #[.string ⟨#[42]⟩,(),(),(),(),(),(),(),(),.int .i64 (-32768),.int .i64 (65535),.func (.func 271) #[] #[]],.bool true]) (by simp[results,results246,go_sem]) rfl ⟨rfl,?_⟩;exact br.alloc lr _
theorem aPS (w:World) :
 Calls prog 246 #[(7:Int)] w fun e w'=>e=.returned (.tuple #[.agg #[.string (nm 7 0),.string (nm 7 1),.string (nm 7 2),.string (nm 7 3),.string (nm 7 4),.string (nm 7 5),.string (nm 7 6),.string (nm 7 7),.string (nm 7 8),.int .i64 (klo 7),.int .i64 (khi 7),.func (.func (kf 7)) #[] #[]],.bool true])∧Below w w w':=by
 go_enter func246,ntmps246
 go_wp2
 refine bodyPost_ret (v:=.tuple #[.agg #[.string ⟨#[42]⟩,(),(),(),(),(),(),(),(),.int .i64 (0),.int .i64 (65535),.func (.func 272) #[] #[]],.bool true]) (by simp[results,results246,go_sem]) rfl ⟨rfl,?_⟩;exact br.alloc lr _
theorem aPR (w:World) :
 Calls prog 246 #[(8:Int)] w fun e w'=>e=.returned (.tuple #[.agg #[.string (nm 8 0),.string (nm 8 1),.string (nm 8 2),.string (nm 8 3),.string (nm 8 4),.string (nm 8 5),.string (nm 8 6),.string (nm 8 7),.string (nm 8 8),.int .i64 (klo 8),.int .i64 (khi 8),.func (.func (kf 8)) #[] #[]],.bool true])∧Below w w w':=by
 go_enter func246,ntmps246
 go_wp2
 refine bodyPost_ret (v:=.tuple #[.agg #[.string ⟨#[78,90]⟩,.string ⟨#[90]⟩,.string ⟨#[78,67]⟩,.string ⟨#[67]⟩,.string ⟨#[80,79]⟩,.string ⟨#[80,69]⟩,.string ⟨#[80]⟩,.string ⟨#[77]⟩,(),.int .i64 (0),.int .i64 (0),.func (.func 267) #[] #[]],.bool true]) (by simp[results,results246,go_sem]) rfl ⟨rfl,?_⟩;exact br.alloc lr _
theorem aPQ (w:World) :
 Calls prog 246 #[(9:Int)] w fun e w'=>e=.returned (.tuple #[.agg #[.string (nm 9 0),.string (nm 9 1),.string (nm 9 2),.string (nm 9 3),.string (nm 9 4),.string (nm 9 5),.string (nm 9 6),.string (nm 9 7),.string (nm 9 8),.int .i64 (klo 9),.int .i64 (khi 9),.func (.func (kf 9)) #[] #[]],.bool true])∧Below w w w':=by
 go_enter func246,ntmps246
 go_wp2
 refine bodyPost_ret (v:=.tuple #[.agg #[.string ⟨#[73]⟩,.string ⟨#[82]⟩,(),(),(),(),(),(),(),.int .i64 (0),.int .i64 (0),.func (.func 267) #[] #[]],.bool true]) (by simp[results,results246,go_sem]) rfl ⟨rfl,?_⟩;exact br.alloc lr _
theorem Tk (w:World) :
 Calls prog 246 #[(10:Int)] w fun e w'=>e=.returned (.tuple #[.agg #[.string (nm 10 0),.string (nm 10 1),.string (nm 10 2),.string (nm 10 3),.string (nm 10 4),.string (nm 10 5),.string (nm 10 6),.string (nm 10 7),.string (nm 10 8),.int .i64 (klo 10),.int .i64 (khi 10),.func (.func (kf 10)) #[] #[]],.bool true])∧Below w w w':=by
 go_enter func246,ntmps246
 go_wp2
 refine bodyPost_ret (v:=.tuple #[.agg #[.string ⟨#[42]⟩,(),(),(),(),(),(),(),(),.int .i64 (-128),.int .i64 (127),.func (.func 273) #[] #[]],.bool true]) (by simp[results,results246,go_sem]) rfl ⟨rfl,?_⟩;exact br.alloc lr _
theorem lT (k:Nat) (w:World) (h:1≤k) (h':k≤10) :
 Calls prog 246 #[k] w fun e w'=>e=.returned (.tuple #[.agg #[.string (nm k 0),.string (nm k 1),.string (nm k 2),.string (nm k 3),.string (nm k 4),.string (nm k 5),.string (nm k 6),.string (nm k 7),.string (nm k 8),.int .i64 (klo k),.int .i64 (khi k),.func (.func (kf k)) #[] #[]],.bool true])∧Below w w w':=by
 have hk:k=1∨k=2∨k=3∨k=4∨k=5∨k=6∨k=7∨k=8∨k=9∨k=10:=om
 rcases hk with rfl|rfl|rfl|rfl|rfl|rfl|rfl|rfl|rfl|rfl
 · exact aPY w
 · exact aPX w
 · exact aPW w
 · exact aPV w
 · exact aPU w
 · exact aPT w
 · exact aPS w
 · exact aPR w
 · exact aPQ w
 · exact Tk w
theorem Tj (k:Int) (w:World) (h:k<1∨10<k) :
 Calls prog 246 #[k] w fun e w'=>e=.returned (.tuple #[.agg #[(),(),(),(),(),(),(),(),(),(0:Int),(0:Int),.nilFunc],.bool false])∧Below w w w':=by
 have e1:(k == 1)=false:=by simp;omega
 have e2:(k == 2)=false:=by simp;omega
 have e3:(k == 3)=false:=by simp;omega
 have e4:(k == 4)=false:=by simp;omega
 have e5:(k == 5)=false:=by simp;omega
 have e6:(k == 6)=false:=by simp;omega
 have e7:(k == 7)=false:=by simp;omega
 have e8:(k == 8)=false:=by simp;omega
 have e9:(k == 9)=false:=by simp;omega
 have e10:(k == 10)=false:=by simp;omega
 clear h;go_enter func246,ntmps246
 go_wp2
 refine bodyPost_ret (v:=.tuple #[.agg #[(),(),(),(),(),(),(),(),(),(0:Int),(0:Int),.nilFunc],.bool false]) (by simp[results,results246,go_sem]) rfl ⟨rfl,?_⟩;exact br.alloc lr _
end
section
open Go.RowKit Go.Sort
open Go.Proofs.Tryz
def lN:Nat→Nat|0=>1|1=>2|2=>3|3=>8|_=>9
theorem Hf (i:Nat):1≤lN i∧lN i≤10:=by unfold lN;split<;>omega
def gG (l:List (Nat × Nat)):List Value:=l.flatMap fun x=>[.int .i64 x.1,.int .i64 x.2,.int .i64 0]
def wl (p:ByteArray→Bool) (k r:Nat):List (Nat × Nat):=((List.range r).filter fun j=>!(nm k j).toList.isEmpty && p (nm k j)).map fun j=>(k,j)
def kO (p:ByteArray→Bool) (i:Nat):List (Nat × Nat):=(List.range i).flatMap fun j=>wl p (lN j) 9
theorem sF (l m:List (Nat × Nat)):gG (l++m)=gG l++gG m:=by simp[gG]
theorem Wo (p:ByteArray→Bool) (k r:Nat) (h:(nm k r).toList.isEmpty=false) (hp:p (nm k r)=true):wl p k (r+1)=wl p k r++[(k,r)]:=by
 simp[wl,Yw,List.filter_append,h,hp]
theorem Eb (p:ByteArray→Bool) (k r:Nat) (h:(nm k r).toList.isEmpty=true∨p (nm k r)=false):wl p k (r+1)=wl p k r:=by
 rcases h with h|h<;>simp[wl,Yw,List.filter_append,h]
theorem rL (p:ByteArray→Bool) (i:Nat):kO p (i+1)=kO p i++wl p (lN i) 9:=by
 simp[kO,Yw]
theorem Jt (p:ByteArray→Bool) (k r:Nat):(wl p k r).length≤r:=by
 unfold wl;rw[Qs];exact Qn (List.length_filter_le _ _) sm
theorem uD (p:ByteArray→Bool):∀ i,(kO p i).length≤i*9
 | 0=>by simp[kO]
 | i+1=>by have:=uD p i;have:=Jt p (lN i) 9;rw[rL,Qc];omega
theorem cI {w w':World} {base:Nat} {e:TypeId} {size:Nat} {v:Value} {n:Nat} {xs:List Value} (h:w.ownsRow base e size v n xs) (hb:Below w w w'):w'.ownsRow base e size v n xs:=by
 obtain⟨h1,h2⟩:=h;refine⟨h1,?_⟩;rcases h2 with h2|⟨g,cap,cur,hv,hg,hh,r⟩
 · exact Or.inl h2
 · exact Or.inr ⟨g,cap,cur,hv,hg,by rw[hb.block g (lt_of_block hh)];exact hh,r⟩
theorem aPO (a0 a1 a2 a3 a4 a5 a6 a7 a8:ByteArray) (f:Nat→ByteArray) (h0:f 0=a0) (h1:f 1=a1) (h2:f 2=a2) (h3:f 3=a3) (h4:f 4=a4) (h5:f 5=a5) (h6:f 6=a6) (h7:f 7=a7) (h8:f 8=a8) (r:Nat) (hr:r<9) (w:World) :
 (Instr.index 266 (.agg #[.string a0,.string a1,.string a2,.string a3,.string a4,.string a5,.string a6,.string a7,.string a8]) (.int .i64 r)).run prog w=.ok (.string (f r)) w:=by
 subst h0 h1 h2 h3 h4 h5 h6 h7 h8;have hr':r=0∨r=1∨r=2∨r=3∨r=4∨r=5∨r=6∨r=7∨r=8:=om
 rcases hr' with rfl|rfl|rfl|rfl|rfl|rfl|rfl|rfl|rfl<;>(revert w;intro w;change _=_;kernel_rfl)
theorem aPP (i:Nat) (hi:i<5) (w:World) :
 (Instr.index 366 (.agg #[(1:Int),(2:Int),(3:Int),(8:Int),(9:Int)]) (.int .i64 i)).run prog w=.ok (.int .i64 (lN i)) w:=by
 have hr':i=0∨i=1∨i=2∨i=3∨i=4:=om
 rcases hr' with rfl|rfl|rfl|rfl|rfl<;>(revert w;intro w;change _=_;kernel_rfl)
theorem Tryz.infoOperand:(prog.info? 144).map (fun i=>(i.zero,i.size,i.bytes))=some (some (.agg #[(0:Int),(0:Int),(0:Int)]),3,24):=by kernel_rfl
theorem Fq (p:ByteArray→Bool) (g:Nat) (lb:Array Value) (w:World) (hent:∀ args w,(callFunc g args).run prog w=.ok (.enter g args) w)
 (hok:∀ s W,Below w w W→Calls prog g (#[.string s]++lb) W fun e w'=>e=.returned (.bool (p s))∧W=w') :
 Calls prog 305 #[.func (.func g) #[] lb] w fun e w'=>∃ v,e=.returned v∧w'.ownsRow w 144 3 v (kO p 5).length (gG (kO p 5))∧Below w w w':=by
 obtain⟨i0,hi,hz0,hz1,hz2⟩:=info_parts Tryz.infoOperand;have HOK:=Hh hok;clear hok;obtain⟨B,hB⟩:∃ B,w.heap.size=B:=⟨_,rfl⟩;rw[hB] at HOK ⊢;have HB:=Hh hB;clear hB;go_enter func305,ntmps305
 go_wp2_with fail
 go_loopw [3,11] (fun v i wr=>∃ j:Nat,j≤5∧i=.int .i64 j∧wr.ownsRow B 144 3 v (kO p j).length (gG (kO p j))∧Below B w wr) (fun _ i _=>5 - (intOf i).toNat)
 case atStart=>exact⟨0,Qi _,rfl,Xa _ _ _ _,Below.refl _ _⟩
 case round =>
  obtain⟨j,hj,rfl,hown,hbel⟩:=hrel;by_cases hlt:j<5
  · have hix:=aPP j hlt;obtain⟨k,hk⟩:∃ k,lN j=k:=⟨_,rfl⟩;have hkb:=Hf j;rw[hk] at hix hkb;obtain⟨hk1,hk2⟩:=hkb;have Hk:=Hh hk;clear hk;have HOWN:=Hh hown;clear hown;go_wp2_with fail
    refine (lT k _ hk1 hk2).mono ?_;rintro e w1 ⟨rfl,hb⟩;obtain⟨p1,rfl⟩:=aO hb;clear hb hix;go_wp2_with fail
    obtain⟨wo,rfl⟩:∃ wo:World,wo=wr:=⟨_,rfl⟩;have hsz:B≤wo:=by have:=hbel.size;have:=HB.out;omega
    have hbel1:Below B w ((gw wo p1).alloc (.cells #[.string (nm k 0),.string (nm k 1),.string (nm k 2),.string (nm k 3),.string (nm k 4),.string (nm k 5),.string (nm k 6),.string (nm k 7),.string (nm k 8),.int .i64 (klo k),.int .i64 (khi k),.func (.func (kf k)) #[] #[]] 268)):=(cD hbel hsz p1).alloc (by simp[go_sem];omega) _;have hown1:=(cI HOWN.out (cF wo p1)).alloc (.cells #[.string (nm k 0),.string (nm k 1),.string (nm k 2),.string (nm k 3),.string (nm k 4),.string (nm k 5),.string (nm k 6),.string (nm k 7),.string (nm k 8),.int .i64 (klo k),.int .i64 (khi k),.func (.func (kf k)) #[] #[]] 268);have HBEL1:=Hh hbel1;clear hbel1;have HOWN1:=Hh hown1;clear hown1;clear hbel;go_loopw [3,21] (fun v i wr=>∃ r:Nat,r≤9∧i=.int .i64 r∧wr.ownsRow B 144 3 v (kO p j++wl p k r).length (gG (kO p j++wl p k r))∧Below B w wr) (fun _ i _=>9 - (intOf i).toNat)
    case atStart=>exact⟨0,Qi _,rfl,by simpa[wl] using HOWN1.out,HBEL1.out⟩
    case round =>
     obtain⟨r,hr,rfl,hown,hbel⟩:=hrel;by_cases hrlt:r<9
     · have hix:=fun w=>aPO (nm k 0) (nm k 1) (nm k 2) (nm k 3) (nm k 4) (nm k 5) (nm k 6) (nm k 7) (nm k 8) (nm k) rfl rfl rfl rfl rfl rfl rfl rfl rfl r hrlt w;have HOWN2:=Hh hown;clear hown;by_cases hne:(nm k r).toList.isEmpty=true
       · go_wp2_with fail
         go_roundw
         case rel=>exact⟨r+1,om,by go_num,by rw[Eb p k r (.inl hne)];exact HOWN2.out,hbel⟩
         case measure=>simp[intOf];omega
       · have hne':(nm k r).toList.isEmpty=false:=by simpa using hne
         clear hne;have HBEL:=Hh hbel;clear hbel;go_wp2_with fail
         refine (HOK.out _ _ HBEL.out).mono ?_;rintro e w1 ⟨rfl,rfl⟩;rcases hp:p (nm k r) with _|_
         · go_wp2_with fail
           go_roundw
           case rel=>exact⟨r+1,om,by go_num,by rw[Eb p k r (.inr hp)];exact HOWN2.out,HBEL.out⟩
           case measure=>simp[intOf];omega
         · have hlen:=uD p j;have hlen2:=Jt p k r;have HP:=Hh hp;clear hp;go_wp2_with (at_builtin;refine wpList_append_own _ rfl _ _ 51 rfl B 144 i0 (.agg #[(0:Int),(0:Int),(0:Int)]) 3 24 underlying51 hi hz0 hz1 hz2 rfl dc _ _ _ rfl (HOWN2.out.alloc _) ⟨wr,0,none⟩ 1 1 [.int .i64 k,.int .i64 r,.int .i64 0] rfl rfl ?c1 ?c2 ?c3 ?c4 ?c5 ?_)
           case c1 =>
            intro q u hq;rw[bD];match q,hq with
            | 0,hq=>simp at hq;subst hq;simp[go_sem]
            | 1,hq=>simp at hq;subst hq;simp[go_sem]
            | 2,hq=>simp at hq;subst hq;simp[go_sem]
           case c2=>intro u hu;simp at hu;rcases hu with rfl|rfl|rfl<;>rfl
           case c3=>rw[Qc];unfold maxLen;omega
           case c4=>rw[Qc];omega
           case c5=>have:=HBEL.out.size;have:=HB.out;simp;omega
           intro v' w1 hown' hgrow _;have hb':Below B w w1:=(HBEL.out.alloc (by have:=HBEL.out.size;have:=HB.out;omega) _).grown hgrow (by have:=HBEL.out.size;have:=HB.out;simp;omega) (by
            intro q hq
            have:=HOWN2.out.2
            rcases this with⟨h,_⟩|⟨g,cap,cur,h,hg,_⟩
            · rw[h] at hq;cases hq
            · rw[h] at hq;cases hq;exact hg)
           have HOWN3:=Hh hown';clear hown';have HB':=Hh hb';clear hb' hgrow;go_wp2_with fail
           go_roundw
           case rel=>exact⟨r+1,om,by go_num,by rw[Wo p k r hne' HP.out,←Yc,sF,Qc,Qc];exact HOWN3.out,HB'.out⟩
           case measure=>simp[intOf];omega
     · obtain rfl:r=9:=om
       have HOWN2:=Hh hown;clear hown;go_wp2_with fail
       go_roundw
       case rel=>exact⟨j+1,om,by go_num,by rw[rL,Hk.out];exact HOWN2.out,hbel⟩
       case measure=>simp[intOf];omega
  · obtain rfl:j=5:=om
    have HOWN:=Hh hown;clear hown;go_wp2_with fail
    go_ret;exact⟨_,rfl,HOWN.out,hbel⟩
end
end Go.Proofs.YtoigglljnklhlaaGreatDoor
