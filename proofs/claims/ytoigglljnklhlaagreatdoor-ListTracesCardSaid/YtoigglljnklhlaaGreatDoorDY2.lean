/- Joined. -/
import Derived.Test.YtoigglljnklhlaaGreatDoorD25
import Derived.Test.YtoigglljnklhlaaGreatDoorD28
set_option maxHeartbeats 8000000
set_option maxRecDepth 100000
namespace Go.Proofs.YtoigglljnklhlaaGreatDoor
open Go.RowKit Go.Sort
open Go.Proofs.Tryz
def aEy:List Op3→List SV→Bool
 | [],[]=>true
 | a::q,.c (.int .i64 x)::.c (.int .i64 y)::.c (.int .i64 z)::l=>x == a.1 && y == a.2.1 && z == a.2.2 && aEy q l
 | _,_=>false
def aFf (args:List Op3):SV→Bool
 | .c (.slice none 0 0)=>args.isEmpty
 | .row T n _ l=>T == 144 && n == args.length && aEy args l
 | _=>false
def aCv (x:Option Ent × Nat):Option SV→Bool
 | some (.tup [.agg [.c (.int .i64 p),.c (.int .u8 o),.c (.string m),r,.c (.string q),.c (.bool al)],.c (.int .i64 k)]) =>
   let e:=x.1.getD ent0
   p == e.page && o == e.op && m.data.toList == e.mn && aFf e.args r && q.data.toList == e.extra && al == e.alias && k == x.2
 | _=>false
theorem aDE [Syms] {N:Nat→Prop} {bs:Bm} {w:World}:∀ {q:List Op3} {l:List SV} {vs:List Value},aEy q l=true→DenL N bs w l vs→vs=opc q
 | [],[],vs,_,hd=>hd
 | a::q,.c (.int .i64 x)::.c (.int .i64 y)::.c (.int .i64 z)::l,vs,h,hd=>by
   simp only [aEy,Qe,Yq] at h;obtain ⟨⟨⟨rfl,rfl⟩,rfl⟩,h⟩:=h;obtain ⟨_,_,rfl,_,⟨rfl,_⟩,_,_,rfl,_,⟨rfl,_⟩,_,_,rfl,_,⟨rfl,_⟩,hl⟩:=hd;rw [aDE h hl];rfl
theorem aEQ [Syms] {N:Nat→Prop} {bs:Bm} {w:World} {q:List Op3} {r:SV} {v:Value} (h:aFf q r=true) (hd:Den N bs w r v):Row w v q.length (opc q):=by
 unfold aFf at h;split at h
 · rw [List.isEmpty_iff] at h;subst h;obtain ⟨rfl,_⟩:=hd;exact Row.nil _
 · simp only [Qe,Yq] at h;obtain ⟨⟨_,rfl⟩,h⟩:=h;obtain ⟨g,o,cap,cur,vs,rfl,_,hh,⟨r,hr⟩,hl,_,hc⟩:=hd
   have:=aDE h hl
   subst this;refine ⟨_,cap,rfl,hc,fun _=>⟨g,o,rfl,(Ql.1 hh).1,fun j hj=>?_⟩⟩
   have:cur[o+j]? = (opc q)[j]? := by rw [←Xo,←Yh,←hr,Yi hj]
   simp [World.cell?,hh,this]
 · cases h
theorem aFg [Syms] {x:Option Ent × Nat} {s:Option SV} {N:Nat→Prop} {w w':World} {e:Ending} (h:aCv x s=true) (hd:∀ r,s=some r→∃ v,e=.returned v∧Den N (fun _=>none) w' r v∧Below w w w'):pY x w e w':=by
 unfold aCv at h;split at h
 · rename_i p o m r q al k;simp only [Qe,Yq] at h;obtain ⟨⟨⟨⟨⟨⟨rfl,rfl⟩,hm⟩,hr⟩,hq⟩,rfl⟩,rfl⟩:=h;obtain ⟨v,rfl,⟨us,rfl,_,_,rfl,⟨cs,rfl,_,_,rfl,_,⟨rfl,_⟩,_,_,rfl,_,⟨rfl,_⟩,_,_,rfl,_,⟨rfl,_⟩,vr,_,rfl,_,hd3,_,_,rfl,_,⟨rfl,_⟩,_,_,rfl,_,⟨rfl,_⟩,rfl⟩,_,_,rfl,⟨rfl,_⟩,rfl⟩,hb⟩:=hd _ rfl;have e1:m=⟨(x.1.getD ent0).mn.toArray⟩:=by rw [←hm]
   have e2:q=⟨(x.1.getD ent0).extra.toArray⟩:=by rw [←hq]
   subst e1 e2;exact ⟨vr,rfl,aEQ hr hd3,hb⟩
 · cases h
abbrev fs9:List Nat:=[53,84,85,87,121,125,124,86,128,122,126,123,127,130,129,169,168,131,88,89,50]
theorem aGq : (fs9.all fun f => match prog.funcs[f]? with | some fn => !(fn.name == "runtime.NumGoroutine") | none => true) = true := by decide +kernel
theorem aGH {page op:Nat} (h:aCv (atR page op) (aKB prog (fbL prog fs9) 10 8 53 [.c (.int .i64 page),.c (.int .u8 op)])=true) (w:World):Calls prog 53 #[page,.int .u8 op] w (pY (atR page op) w):=by
 let _:Syms:=⟨fun _=>undef⟩
 cases hs:aKB prog (fbL prog fs9) 10 8 53 [.c (.int .i64 page),.c (.int .u8 op)] with
 | none=>rw [hs] at h; cases h
 | some r =>
   rw [hs] at h;have hk:=((aDr (P:=prog) (by decide +kernel) (aGs aGq) 10 8).call 53 [.c (.int .i64 page),.c (.int .u8 op)] r hs).2 (fun _=>True) w [.int .i64 page,.int .u8 op] (fun _ _=>trivial) ⟨_,_,rfl,⟨rfl,rfl⟩,_,_,rfl,⟨rfl,rfl⟩,rfl⟩;refine hk.mono fun e w' hp=>aFg (N:=fun _=>True) h fun r' hr=>?_;cases hr
   exact hp
theorem aKA {page lo n:Nat} (h:((List.range n).all fun i=>aCv (atR page (lo+i)) (aKB prog (fbL prog fs9) 10 8 53 [.c (.int .i64 page),.c (.int .u8 (lo+i:Nat))]))=true) {op:Nat} (h1:lo≤op) (h2:op<lo+n) (w:World):Calls prog 53 #[page,.int .u8 op] w (pY (atR page op) w):=by
 rw [Xk] at h
 have:=h (op - lo) (by rw [Yn]; omega)
 rw [show lo+(op - lo)=op by omega] at this
 exact aGH this w
end Go.Proofs.YtoigglljnklhlaaGreatDoor
