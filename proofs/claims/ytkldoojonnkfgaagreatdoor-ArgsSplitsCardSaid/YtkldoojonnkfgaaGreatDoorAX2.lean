/- Joined texts: NumP, NumQ, Num16, Parse16. -/
import Derived.Test.YtkldoojonnkfgaaGreatDoorA01
import Derived.Deep.DeepCutAuto
namespace Go.Proofs.YtkldoojonnkfgaaGreatDoor
open Go.RowKit Go.Sort
def digU (c:UInt8):Nat:=if 48≤c.toNat∧c.toNat≤57 then c.toNat - 48 else if 65≤c.toNat∧c.toNat≤70 then c.toNat - 55 else 99
def valGo (b:Nat):Nat→List UInt8→Option Nat
 | n,[]=>some n
 | n,c::l=>if b≤digU c then none else if 65535<n * b+digU c then none else valGo b (n * b+digU c) l
def valU (b:Nat) (l:List UInt8):Option Nat:=if l=[] then none else valGo b 0 l
def satGo (b:Nat):Nat→List UInt8→Option Nat
 | n,[]=>some n
 | n,c::l=>if b≤digU c then none else satGo b (min (n * b+digU c) 1000000) l
theorem satGo_cons (b n:Nat) (c:UInt8) (l:List UInt8):satGo b n (c::l)=if b≤digU c then none else satGo b (min (n * b+digU c) 1000000) l:=rfl
theorem satGo_nil (b n:Nat):satGo b n []=some n:=rfl
theorem valGo_cons (b n:Nat) (c:UInt8) (l:List UInt8):valGo b n (c::l)=if b≤digU c then none else if 65535<n * b+digU c then none else valGo b (n * b+digU c) l:=rfl
theorem valGo_nil (b n:Nat):valGo b n []=some n:=rfl
theorem satGo_ge (b:Nat) (hb:1≤b):∀ (l:List UInt8) (n m:Nat),n≤1000000→satGo b n l=some m→n≤m
 | [],n,m,_,h=>by simp [satGo] at h; omega
 | c::l,n,m,hn,h=>by
   unfold satGo at h
   split at h
   · cases h
   · have:=satGo_ge b hb l _ m (by omega) h
     have h2:n * 1≤n * b:=Nat.mul_le_mul_left n hb
     omega
theorem sat_val (b:Nat) (hb:1≤b) (hb2:b≤16):∀ (l:List UInt8) (n:Nat),n≤65535→valGo b n l=(match satGo b n l with | some m=>if 65535<m then none else some m | none=>none)
 | [],n,h=>by simp [valGo,satGo]; omega
 | c::l,n,h=>by
   unfold valGo satGo
   by_cases hd:b≤digU c
   · rw [if_pos hd,if_pos hd]
   · rw [if_neg hd,if_neg hd]
     have h2:n * b≤65535 * 16:=Nat.mul_le_mul h hb2
     by_cases hn:65535<n * b+digU c
     · rw [if_pos hn]
       cases hs:satGo b (min (n * b+digU c) 1000000) l with
       | none=>rfl
       | some m =>
         have:=satGo_ge b hb l _ m (by omega) hs
         show none=if 65535<m then none else some m
         rw [if_pos (by omega)]
     · rw [if_neg hn,show min (n * b+digU c) 1000000=n * b+digU c by omega]
       exact sat_val b hb hb2 l _ (by omega)
theorem valGo_le (b:Nat):∀ (l:List UInt8) (n m:Nat),n≤65535→valGo b n l=some m→m≤65535
 | [],n,m,h,hv=>by simp [valGo] at hv; omega
 | c::l,n,m,h,hv=>by
   unfold valGo at hv
   split at hv
   · cases hv
   · split at hv
     · cases hv
     · exact valGo_le b l _ m (by omega) hv
theorem valGo_mem (b:Nat):∀ (l:List UInt8) (n m:Nat),valGo b n l=some m→∀ c∈l,digU c<b
 | [],n,m,_,c,hc=>by cases hc
 | a::l,n,m,h,c,hc=>by
   unfold valGo at h
   split at h
   · cases h
   · split at h
     · cases h
     · rcases List.mem_cons.1 hc with rfl | hc
       · omega
       · exact valGo_mem b l _ m h c hc
theorem valU_mem {b:Nat} {l:List UInt8} {m:Nat} (h:valU b l=some m):l≠[]∧∀ c∈l,digU c<b:=by
 unfold valU at h
 split at h
 · cases h
 · exact ⟨by assumption,valGo_mem b l 0 m h⟩
theorem valU_le {b:Nat} {l:List UInt8} {m:Nat} (h:valU b l=some m):m≤65535:=by
 unfold valU at h
 split at h
 · cases h
 · exact valGo_le b l 0 m (by omega) h
def numU (u:List UInt8):Option Nat :=
 (valU 10 u).or ((if [48,88].isPrefixOf u then valU 16 (u.drop 2) else none).or ((if [36].isPrefixOf u then valU 16 (u.drop 1) else none).or
  ((if u.getLast? = some 72∧(u.dropLast.headD 99).toNat≤57 then valU 16 u.dropLast else none).or ((if u.getLast? = some 66 then valU 2 u.dropLast else none).or (if [37].isPrefixOf u then valU 2 (u.drop 1) else none)))))
def numP (s:ByteArray):Option Nat:=numU (upper s).data.toList
theorem numU_le {u:List UInt8} {m:Nat} (h:numU u=some m):m≤65535:=by
 unfold numU at h
 simp only [Option.or_eq_some_iff] at h
 rcases h with h | ⟨_,h | ⟨_,h | ⟨_,h | ⟨_,h | ⟨_,h⟩⟩⟩⟩⟩
 all_goals
  first
   | exact valU_le h
   | (split at h
      · exact valU_le h
      · cases h)
theorem last1 (a:UInt8) (t:List UInt8) (c:UInt8) (hac:a≠c) (ha:16≤digU a) (h:(a::t).getLast? = some c) (hm:∀ x∈(a::t).dropLast,digU x<16):False:=by
 cases t with
 | nil=>simp at h; exact hac h
 | cons b t=>have:=hm a (by simp); omega
theorem last2 (t:List UInt8) (c:UInt8) (hac:(88:UInt8)≠c) (h:(48::88::t).getLast? = some c) (hm:∀ x∈(48::88::t:List UInt8).dropLast,digU x<16):False:=by
 cases t with
 | nil=>simp at h; exact hac h
 | cons b t=>have:=hm 88 (by simp); simp [digU] at this
theorem excl (u:List UInt8) :
 let a1:=valU 10 u
 let a2:=if [48,88].isPrefixOf u then valU 16 (u.drop 2) else none
 let a3:=if [36].isPrefixOf u then valU 16 (u.drop 1) else none
 let a4:=if u.getLast? = some 72∧(u.dropLast.headD 99).toNat≤57 then valU 16 u.dropLast else none
 let a5:=if u.getLast? = some 66 then valU 2 u.dropLast else none
 let a6:=if [37].isPrefixOf u then valU 2 (u.drop 1) else none
 (a1=none∨a2=none)∧(a1=none∨a3=none)∧(a1=none∨a4=none)∧(a1=none∨a5=none)∧(a1=none∨a6=none)∧(a2=none∨a3=none)∧(a2=none∨a4=none)∧(a2=none∨a5=none)∧(a2=none∨a6=none) ∧
 (a3=none∨a4=none)∧(a3=none∨a5=none)∧(a3=none∨a6=none)∧(a4=none∨a5=none)∧(a4=none∨a6=none)∧(a5=none∨a6=none):=by
 have e2:[48,88].isPrefixOf u=true→∃ t,u=48::88::t:=fun h=>by
  obtain ⟨t,ht⟩:=List.isPrefixOf_iff_prefix.1 h
  exact ⟨t,ht.symm⟩
 have e3:[36].isPrefixOf u=true→∃ t,u=36::t:=fun h=>by
  obtain ⟨t,ht⟩:=List.isPrefixOf_iff_prefix.1 h
  exact ⟨t,ht.symm⟩
 have e6:[37].isPrefixOf u=true→∃ t,u=37::t:=fun h=>by
  obtain ⟨t,ht⟩:=List.isPrefixOf_iff_prefix.1 h
  exact ⟨t,ht.symm⟩
 have p1:∀ m,valU 10 u=some m→∀ c∈u,digU c<10:=fun m h=>(valU_mem h).2
 have hl:∀ c,u.getLast? = some c→∃ t,u=t++[c]:=fun c h=>by
  obtain ⟨hne,hh⟩:=List.getLast?_eq_some_iff.1 h
  exact ⟨_,hh⟩
 simp only
 refine ⟨?_,?_,?_,?_,?_,?_,?_,?_,?_,?_,?_,?_,?_,?_,?_⟩
 all_goals
  rw [Classical.or_iff_not_imp_left]
  intro hn
  obtain ⟨m,hm⟩:=Option.ne_none_iff_exists'.1 hn
  refine Option.eq_none_iff_forall_ne_some.2 (fun m' hm'=>?_)
  repeat' split at hm
  all_goals try (cases hm; done)
  all_goals repeat' split at hm'
  all_goals try (cases hm'; done)
 · rename_i h; obtain ⟨t,rfl⟩:=e2 h; have:=p1 m hm 88 (by simp); simp [digU] at this
 · rename_i h; obtain ⟨t,rfl⟩:=e3 h; have:=p1 m hm 36 (by simp); simp [digU] at this
 · rename_i h; obtain ⟨t,rfl⟩:=hl _ h.1; have:=p1 m hm 72 (by simp); simp [digU] at this
 · rename_i h; obtain ⟨t,rfl⟩:=hl _ h; have:=p1 m hm 66 (by simp); simp [digU] at this
 · rename_i h; obtain ⟨t,rfl⟩:=e6 h; have:=p1 m hm 37 (by simp); simp [digU] at this
 · rename_i h h'; obtain ⟨t,rfl⟩:=e2 h; obtain ⟨t',h2⟩:=e3 h'; simp at h2
 · rename_i h h'; obtain ⟨t,rfl⟩:=e2 h; exact last2 t 72 (by decide) h'.1 ((valU_mem hm').2)
 · rename_i h h'; obtain ⟨t,rfl⟩:=e2 h; exact last2 t 66 (by decide) h' (fun c hc=>Nat.lt_trans ((valU_mem hm').2 c hc) (by decide))
 · rename_i h h'; obtain ⟨t,rfl⟩:=e2 h; obtain ⟨t',h2⟩:=e6 h'; simp at h2
 · rename_i h h'; obtain ⟨t,rfl⟩:=e3 h; exact last1 36 t 72 (by decide) (by decide) h'.1 ((valU_mem hm').2)
 · rename_i h h'; obtain ⟨t,rfl⟩:=e3 h; exact last1 36 t 66 (by decide) (by decide) h' (fun c hc=>Nat.lt_trans ((valU_mem hm').2 c hc) (by decide))
 · rename_i h h'; obtain ⟨t,rfl⟩:=e3 h; obtain ⟨t',h2⟩:=e6 h'; simp at h2
 · rename_i h h'; rw [h.1] at h'; simp at h'
 · rename_i h h'; obtain ⟨t,rfl⟩:=e6 h'; exact last1 37 t 72 (by decide) (by decide) h.1 ((valU_mem hm).2)
 · rename_i h h'; obtain ⟨t,rfl⟩:=e6 h'; exact last1 37 t 66 (by decide) (by decide) h (fun c hc=>Nat.lt_trans ((valU_mem hm).2 c hc) (by decide))
def oI (o:Option Nat):Int:=match o with | some n=>n | none=>-1
theorem oI_none:oI none=-1:=rfl
theorem oI_some (n:Nat):oI (some n)=n:=rfl
def numMax (u:List UInt8):Int :=
 max (max (max (max (max (oI (valU 10 u)) (oI (if [48,88].isPrefixOf u then valU 16 (u.drop 2) else none))) (oI (if [36].isPrefixOf u then valU 16 (u.drop 1) else none)))
  (oI (if [37].isPrefixOf u then valU 2 (u.drop 1) else none))) (oI (if u.getLast? = some 72∧(u.dropLast.headD 99).toNat≤57 then valU 16 u.dropLast else none))) (oI (if u.getLast? = some 66 then valU 2 u.dropLast else none))
theorem oI_ge (o:Option Nat):-1≤oI o:=by cases o<;>simp [oI]
                                         try omega
theorem numMax_eq (u:List UInt8):numMax u=oI (numU u):=by
 have he:=excl u
 unfold numMax numU
 simp only at he
 generalize valU 10 u=a1 at *
 generalize (if [48,88].isPrefixOf u then valU 16 (u.drop 2) else none)=a2 at *
 generalize (if [36].isPrefixOf u then valU 16 (u.drop 1) else none)=a3 at *
 generalize (if u.getLast? = some 72∧(u.dropLast.headD 99).toNat≤57 then valU 16 u.dropLast else none)=a4 at *
 generalize (if u.getLast? = some 66 then valU 2 u.dropLast else none)=a5 at *
 generalize (if [37].isPrefixOf u then valU 2 (u.drop 1) else none)=a6 at *
 have g1:=oI_ge a1
 have g2:=oI_ge a2
 have g3:=oI_ge a3
 have g4:=oI_ge a4
 have g5:=oI_ge a5
 have g6:=oI_ge a6
 obtain ⟨h12,h13,h14,h15,h16,h23,h24,h25,h26,h34,h35,h36,h45,h46,h56⟩:=he
 rcases a1 with _ | a1
 · rcases a2 with _ | a2
   · rcases a3 with _ | a3
     · rcases a4 with _ | a4
       · rcases a5 with _ | a5
         · simp only [Option.none_or,oI_none] at *; omega
         · obtain rfl:a6=none:=by simpa using h56
           simp only [Option.none_or,Option.some_or,oI_none,oI_some] at *; omega
       · obtain rfl:a6=none:=by simpa using h46
         obtain rfl:a5=none:=by simpa using h45
         simp only [Option.none_or,Option.some_or,oI_none,oI_some] at *; omega
     · obtain rfl:a6=none:=by simpa using h36
       obtain rfl:a5=none:=by simpa using h35
       obtain rfl:a4=none:=by simpa using h34
       simp only [Option.none_or,Option.some_or,oI_none,oI_some] at *; omega
   · obtain rfl:a6=none:=by simpa using h26
     obtain rfl:a5=none:=by simpa using h25
     obtain rfl:a4=none:=by simpa using h24
     obtain rfl:a3=none:=by simpa using h23
     simp only [Option.none_or,Option.some_or,oI_none,oI_some] at *; omega
 · obtain rfl:a6=none:=by simpa using h16
   obtain rfl:a5=none:=by simpa using h15
   obtain rfl:a4=none:=by simpa using h14
   obtain rfl:a3=none:=by simpa using h13
   obtain rfl:a2=none:=by simpa using h12
   simp only [Option.some_or,oI_none,oI_some] at *; omega
theorem digU_up_dec (c:UInt8) (h:digU c<10):digU (up c)=digU c:=by
 have hn:48≤c.toNat∧c.toNat≤57:=by unfold digU at h; split at h; assumption; split at h<;>omega
 unfold up; rw [if_neg (by omega)]
theorem digU_dec_up (c:UInt8) (h:digU (up c)<10):digU (up c)=digU c:=by
 by_cases hc:97≤c.toNat∧c.toNat≤122
 · exfalso
   have:=up_toNat c
   rw [if_pos (by omega)] at this
   unfold digU at h; split at h
   · omega
   · split at h<;>omega
 · unfold up; rw [if_neg hc]
theorem valGo_up:∀ (l:List UInt8) (n:Nat),valGo 10 n (l.map up)=valGo 10 n l
 | [],n=>rfl
 | c::l,n=>by
   rw [List.map_cons]
   unfold valGo
   by_cases h1:digU c<10
   · rw [digU_up_dec c h1]
     simp only [valGo_up l]
   · have h2:¬ digU (up c)<10:=fun h=>h1 (by rw [←digU_dec_up c h]; exact h)
     rw [if_pos (by omega),if_pos (by omega)]
theorem valU_up (l:List UInt8):valU 10 (l.map up)=valU 10 l:=by
 unfold valU
 rw [valGo_up]
 by_cases h:l=[]
 · subst h; rfl
 · rw [if_neg h,if_neg (by simpa using h)]
def bat (s:ByteArray) (i:Nat):UInt8:=s.data[i]?.getD 0
theorem bat_get (s:ByteArray) (i:Nat) (h:i<s.size):s[i]=bat s i:=by
 unfold bat; rw [Array.getElem?_eq_getElem (by exact h)]; rfl
def pc1 (s:ByteArray):Bool:=decide (2<s.size) && ((bat s 0).toNat == 48 && ((bat s 1).toNat == 120 || (bat s 1).toNat == 88))
def pc2 (s:ByteArray):Bool:=decide (1<s.size) && (bat s 0).toNat == 36
def pc3 (s:ByteArray):Bool:=decide (1<s.size) && (bat s 0).toNat == 37
def pc4 (s:ByteArray):Bool:=decide (1<s.size) && (((bat s (s.size - 1)).toNat == 104 || (bat s (s.size - 1)).toNat == 72) && decide (digU (up (bat s 0))<10))
def pc5 (s:ByteArray):Bool:=decide (1<s.size) && ((bat s (s.size - 1)).toNat == 98 || (bat s (s.size - 1)).toNat == 66)
def px1 (s:ByteArray):Int:=oI (valU 10 (upper s).data.toList)
def px2 (s:ByteArray):Int:=if pc1 s=true then max (px1 s) (oI (valU 16 (upper (s.extract 2 s.size)).data.toList)) else px1 s
def px3 (s:ByteArray):Int:=if pc2 s=true then max (px2 s) (oI (valU 16 (upper (s.extract 1 s.size)).data.toList)) else px2 s
def px4 (s:ByteArray):Int:=if pc3 s=true then max (px3 s) (oI (valU 2 (upper (s.extract 1 s.size)).data.toList)) else px3 s
def px5 (s:ByteArray):Int:=if pc4 s=true then max (px4 s) (oI (valU 16 (upper (s.extract 0 (s.size - 1))).data.toList)) else px4 s
def px6 (s:ByteArray):Int:=if pc5 s=true then max (px5 s) (oI (valU 2 (upper (s.extract 0 (s.size - 1))).data.toList)) else px5 s
theorem nil_or_snoc' {α:Type} (l:List α):l=[]∨∃ ys y,l=ys++[y]:=by
 rcases List.eq_nil_or_concat l with h | ⟨ys,y,h⟩
 · exact .inl h
 · exact .inr ⟨ys,y,by rw [h,List.concat_eq_append]⟩
theorem up_48 (c:UInt8):up c=48↔c=48:=by
 have h:=up_toNat c
 constructor
 · intro e; rw [e] at h
   apply UInt8.toNat_inj.1
   show c.toNat=48
   have:((48:UInt8).toNat:Int)=48:=rfl
   split at h<;>omega
 · rintro rfl; rfl
theorem up_36 (c:UInt8):up c=36↔c=36:=by
 have h:=up_toNat c
 constructor
 · intro e; rw [e] at h
   apply UInt8.toNat_inj.1
   show c.toNat=36
   have:((36:UInt8).toNat:Int)=36:=rfl
   split at h<;>omega
 · rintro rfl; rfl
theorem up_37 (c:UInt8):up c=37↔c=37:=by
 have h:=up_toNat c
 constructor
 · intro e; rw [e] at h
   apply UInt8.toNat_inj.1
   show c.toNat=37
   have:((37:UInt8).toNat:Int)=37:=rfl
   split at h<;>omega
 · rintro rfl; rfl
theorem up_let (c:UInt8) (k:Nat) (K:UInt8) (hK:K.toNat=k) (h1:65≤k) (h2:k≤90):up c=K↔(c.toNat=k+32∨c.toNat=k):=by
 have h:=up_toNat c
 constructor
 · intro e; rw [e] at h
   split at h<;>omega
 · intro hc
   apply UInt8.toNat_inj.1
   split at h<;>omega
theorem up_88 (c:UInt8):up c=88↔(c.toNat=120∨c.toNat=88):=up_let c 88 88 rfl (by omega) (by omega)
theorem up_72 (c:UInt8):up c=72↔(c.toNat=104∨c.toNat=72):=up_let c 72 72 rfl (by omega) (by omega)
theorem up_66 (c:UInt8):up c=66↔(c.toNat=98∨c.toNat=66):=up_let c 66 66 rfl (by omega) (by omega)
theorem u8_nat (c:UInt8) (k:Nat) (K:UInt8) (hK:K.toNat=k):c=K↔c.toNat=k:=by
 rw [←UInt8.toNat_inj,hK]
theorem upper_ext (s:ByteArray) (i j:Nat):(upper (s.extract i j)).data.toList=((s.data.toList.map up).take j).drop i:=by
 unfold upper
 simp [ByteArray.data_extract,List.map_drop,List.map_take,List.drop_take]
theorem bat_list (s:ByteArray) (i:Nat):bat s i=s.data.toList[i]?.getD 0:=by
 unfold bat; simp
theorem max_none (x:Int) (h:-1≤x):max x (oI none)=x:=by rw [oI_none]; omega
theorem or_max {c:Bool} {Q:Prop} [Decidable Q] {x:Int} {o o':Option Nat} (hx:-1≤x) (h:c=true→Q∧o=o') (h2:c=false→Q→o'=none) :
 (if c=true then max x (oI o) else x)=max x (oI (if Q then o' else none)):=by
 cases c with
 | true=>rw [if_pos rfl,if_pos (h rfl).1,(h rfl).2]
 | false =>
   rw [if_neg (by decide)]
   by_cases hq:Q
   · rw [if_pos hq,h2 rfl hq,max_none x hx]
   · rw [if_neg hq,max_none x hx]
theorem px_ge (s:ByteArray):-1≤px1 s∧-1≤px2 s∧-1≤px3 s∧-1≤px4 s∧-1≤px5 s:=by
 have h1:-1≤px1 s:=oI_ge _
 have h2:-1≤px2 s:=by unfold px2; split<;>omega
 have h3:-1≤px3 s:=by unfold px3; split<;>omega
 have h4:-1≤px4 s:=by unfold px4; split<;>omega
 have h5:-1≤px5 s:=by unfold px5; split<;>omega
 exact ⟨h1,h2,h3,h4,h5⟩
theorem upper_list (s:ByteArray):(upper s).data.toList=s.data.toList.map up:=by unfold upper; simp
theorem px2_eq (s:ByteArray):px2 s=max (px1 s) (oI (if [48,88].isPrefixOf (upper s).data.toList then valU 16 ((upper s).data.toList.drop 2) else none)):=by
 unfold px2
 refine or_max (px_ge s).1 ?_ ?_
 · intro h
   rw [upper_ext,List.take_of_length_le (by simp),upper_list]
   refine ⟨?_,rfl⟩
   unfold pc1 at h
   rw [bat_list,bat_list] at h
   generalize s.data.toList=l at h ⊢
   rcases l with _ | ⟨a,_ | ⟨b,t⟩⟩
   · simp at h
   · simp at h
   · simp only [List.getElem?_cons_zero,List.getElem?_cons_succ,Option.getD_some,Bool.and_eq_true,Bool.or_eq_true,beq_iff_eq] at h
     obtain ⟨_,h1,h2⟩:=h
     simp only [List.map_cons,List.isPrefixOf_cons_cons,List.isPrefixOf_nil_left,Bool.and_true,Bool.and_eq_true,beq_iff_eq]
     exact ⟨((up_48 a).2 ((u8_nat a 48 48 rfl).2 h1)).symm,((up_88 b).2 h2).symm⟩
 · intro h hq
   rw [upper_list] at hq ⊢
   unfold pc1 at h
   have hl:s.size=s.data.toList.length:=by simp
   rw [bat_list,bat_list,hl] at h
   generalize s.data.toList=l at h hq ⊢
   rcases l with _ | ⟨a,_ | ⟨b,_ | ⟨c,t⟩⟩⟩
   · rfl
   · rfl
   · rfl
   · exfalso
     simp only [List.map_cons,List.isPrefixOf_cons_cons,Bool.and_eq_true,beq_iff_eq] at hq
     have h1:=(up_48 a).1 hq.1.symm
     have h2:=(up_88 b).1 hq.2.1.symm
     subst h1
     simp at h
     omega
theorem pre1_eq (s:ByteArray) (K:UInt8) (k b:Nat) (hk:K.toNat=k) (hup:∀ c,up c=K↔c=K) (x:Int) (hx:-1≤x) :
 (if (decide (1<s.size) && (bat s 0).toNat == k)=true then max x (oI (valU b (upper (s.extract 1 s.size)).data.toList)) else x)=max x (oI (if [K].isPrefixOf (upper s).data.toList then valU b ((upper s).data.toList.drop 1) else none)):=by
 refine or_max hx ?_ ?_
 · intro h
   rw [upper_ext,List.take_of_length_le (by simp),upper_list]
   refine ⟨?_,rfl⟩
   have hl:s.size=s.data.toList.length:=by simp
   rw [bat_list,hl] at h
   generalize s.data.toList=l at h ⊢
   rcases l with _ | ⟨a,t⟩
   · simp at h
   · simp only [List.getElem?_cons_zero,Option.getD_some,Bool.and_eq_true,beq_iff_eq] at h
     simp only [List.map_cons,List.isPrefixOf_cons_cons,List.isPrefixOf_nil_left,Bool.and_true,beq_iff_eq]
     exact ((hup a).2 ((u8_nat a k K hk).2 h.2)).symm
 · intro h hq
   rw [upper_list] at hq ⊢
   have hl:s.size=s.data.toList.length:=by simp
   rw [bat_list,hl] at h
   generalize s.data.toList=l at h hq ⊢
   rcases l with _ | ⟨a,_ | ⟨b,t⟩⟩
   · rfl
   · rfl
   · exfalso
     simp only [List.map_cons,List.isPrefixOf_cons_cons,List.isPrefixOf_nil_left,Bool.and_true,beq_iff_eq] at hq
     have h1:=(hup a).1 hq.symm
     subst h1
     simp [hk] at h
theorem gl_up (a:UInt8) (m:List UInt8) (z:UInt8):(List.map up (a::(m++[z]))).getLast? = some (up z):=by
 rw [←List.cons_append,List.map_append,List.getLast?_append]; rfl
theorem last_bat (s:ByteArray) (h:1<s.size):∃ a m z,s.data.toList=a::(m++[z])∧bat s (s.size - 1)=z∧bat s 0=a:=by
 have hl:s.size=s.data.toList.length:=by simp
 rw [hl] at h
 rw [bat_list,bat_list,hl]
 generalize s.data.toList=l at h ⊢
 rcases l with _ | ⟨a,l⟩
 · simp at h
 · rcases nil_or_snoc' l with rfl | ⟨m,z,rfl⟩
   · simp at h
   · refine ⟨a,m,z,rfl,?_,rfl⟩
     simp
theorem t50_0 {p:Prop} (h:p:=by
 have hl:s.size=s.data.toList.length:=by simp
 rw [hl] at h1
 generalize s.data.toList=l at h1 ⊢
 rcases l with _ | ⟨a,_ | ⟨b,t⟩⟩
 · rfl
 · rfl
 · simp at h1):p:=h
theorem last_eq (s:ByteArray) (K:UInt8) (k b:Nat) (hup:∀ c,up c=K↔(c.toNat=k+32∨c.toNat=k)) (x:Int) (hx:-1≤x) :
 (if (decide (1<s.size) && ((bat s (s.size - 1)).toNat == k+32 || (bat s (s.size - 1)).toNat == k))=true then max x (oI (valU b (upper (s.extract 0 (s.size - 1))).data.toList)) else x)=max x (oI (if (upper s).data.toList.getLast? = some K then valU b ((upper s).data.toList.dropLast) else none)):=by
 have hd:(upper (s.extract 0 (s.size - 1))).data.toList=(upper s).data.toList.dropLast:=by
  rw [upper_ext,upper_list,List.drop_zero,List.dropLast_eq_take]; simp
 rw [hd,upper_list]
 refine or_max hx ?_ ?_
 · intro h
   refine ⟨?_,rfl⟩
   simp only [Bool.and_eq_true,Bool.or_eq_true,decide_eq_true_eq,beq_iff_eq] at h
   obtain ⟨a,m,z,e1,e2,e3⟩:=last_bat s h.1
   rw [e2] at h
   rw [e1,gl_up]
   exact congrArg some ((hup z).2 h.2)
 · intro h hq
   by_cases h1:1<s.size
   · exfalso
     obtain ⟨a,m,z,e1,e2,e3⟩:=last_bat s h1
     rw [e2] at h
     rw [e1,gl_up] at hq
     have hz:up z=K:=Option.some.inj hq
     have:=(hup z).1 hz
     simp [h1] at h
     omega
   · exact t50_0
theorem px5_eq (s:ByteArray):px5 s=max (px4 s) (oI (if (upper s).data.toList.getLast? = some 72∧((upper s).data.toList.dropLast.headD 99).toNat≤57 then valU 16 (upper s).data.toList.dropLast else none)):=by
 unfold px5
 have hd:(upper (s.extract 0 (s.size - 1))).data.toList=(upper s).data.toList.dropLast:=by
  rw [upper_ext,upper_list,List.drop_zero,List.dropLast_eq_take]; simp
 rw [hd,upper_list]
 refine or_max (px_ge s).2.2.2.1 ?_ ?_
 · intro h
   refine ⟨?_,rfl⟩
   unfold pc4 at h
   simp only [Bool.and_eq_true,Bool.or_eq_true,decide_eq_true_eq,beq_iff_eq] at h
   obtain ⟨a,m,z,e1,e2,e3⟩:=last_bat s h.1
   rw [e2,e3] at h
   rw [e1]
   refine ⟨by rw [gl_up]; exact congrArg some ((up_72 z).2 h.2.1),?_⟩
   have h2:=h.2.2
   have:(List.map up (a::(m++[z]))).dropLast.headD 99=up a:=by rw [←List.map_dropLast,←List.cons_append,List.dropLast_concat]; rfl
   rw [this]
   unfold digU at h2
   split at h2
   · omega
   · split at h2<;>omega
 · intro h hq
   by_cases h1:1<s.size
   · obtain ⟨a,m,z,e1,e2,e3⟩:=last_bat s h1
     unfold pc4 at h
     rw [e2,e3] at h
     rw [e1] at hq ⊢
     have hdd:(List.map up (a::(m++[z]))).dropLast=up a::m.map up:=by rw [←List.map_dropLast,←List.cons_append,List.dropLast_concat]; rfl
     have hz:up z=72:=Option.some.inj ((gl_up a m z).symm.trans hq.1)
     rw [hdd] at hq ⊢
     have hz2:=(up_72 z).1 hz
     have ha:(up a).toNat≤57:=hq.2
     have h3:¬ digU (up a)<10:=by
      intro h3
      simp [h1,h3] at h
      omega
     have h4:16≤digU (up a):=by
      unfold digU at h3 ⊢
      split
      · rename_i h5; rw [if_pos h5] at h3; omega
      · split
        · omega
        · omega
     unfold valU
     rw [if_neg (by simp),valGo_cons,if_pos h4]
   · exact t50_0
theorem px6_eq (s:ByteArray):px6 s=oI (numP s):=by
 have h3:px3 s=_:=pre1_eq s 36 36 16 rfl up_36 (px2 s) (px_ge s).2.1
 have h4:px4 s=_:=pre1_eq s 37 37 2 rfl up_37 (px3 s) (px_ge s).2.2.1
 have h6:px6 s=_:=last_eq s 66 66 2 (fun c=>up_66 c) (px5 s) (px_ge s).2.2.2.2
 unfold numP
 rw [←numMax_eq,h6,px5_eq,h4,h3,px2_eq]
 rfl
def numR (s:ByteArray):Int × Bool:=match numP s with | some n=>(n,true) | none=>(0,false)
theorem digU_up_val (c:UInt8):(digU (up c):Int)=if 48≤(c.toNat:Int)∧(c.toNat:Int)≤57 then (c.toNat:Int) - 48 else if 97≤(c.toNat:Int)∧(c.toNat:Int)≤102 then (c.toNat:Int) - 97+10 else if 65≤(c.toNat:Int)∧(c.toNat:Int)≤70 then (c.toNat:Int) - 65+10 else 99:=by
 have h:=up_toNat c
 unfold digU
 repeat' split at h
 all_goals (repeat' split)<;>omega
set_option maxHeartbeats 400000 in
theorem digit01_any (c:UInt8) (w:World) :
 Calls Tryz.prog 265 #[.int .u8 (c.toNat:Int)] w fun e w'=>e=.returned (.int .i64 (digU (up c)))∧w=w':=by
 rw [digU_up_val]
 have h1:(c.toNat:Int)≤255:=by have:=c.toNat_lt; omega
 have h0:0≤(c.toNat:Int):=by omega
 generalize (c.toNat:Int)=n at h0 h1
 go_enter Tryz.func265,Tryz.ntmps265
 go_wp2
 all_goals
  go_ret
  refine ⟨?_,rfl⟩
  congr 1
  repeat' split
  all_goals (simp only [Value.int.injEq,true_and]; omega)
theorem min_cast (n b d:Nat):(if (1000000:Int)<(n:Int) * (b:Int)+(d:Int) then (1000000:Int) else (n:Int) * b+d)=((min (n * b+d) 1000000:Nat):Int):=by
 have h:((n * b:Nat):Int)=(n:Int) * (b:Int):=by simp
 rw [←h]; split<;>omega
theorem digU_le (c:UInt8):digU c≤99:=by unfold digU; repeat' split
                                        all_goals omega
theorem upper_get (s:ByteArray) (k:Nat) (h:k<s.size):(s.data.toList.map up).drop k=up s[k]::(s.data.toList.map up).drop (k+1):=by
 rw [List.drop_eq_getElem_cons (by simpa using h)]
 simp; rfl
set_option maxHeartbeats 1000000 in
theorem value01_any (s:ByteArray) (b:Nat) (w:World) (hs:s.size≤1000000) (hb:1≤b) (hb2:b≤16) :
 Calls Tryz.prog 264 #[.string s,.int .i64 b] w fun e w'=>e=.returned (.int .i64 (oI (valU b (upper s).data.toList)))∧w=w':=by
 obtain ⟨R,hR⟩:∃ R,oI (valU b (upper s).data.toList)=R:=⟨_,rfl⟩
 rw [hR]
 have hu:(upper s).data.toList=s.data.toList.map up:=by unfold upper; simp
 rw [hu] at hR
 by_cases h0:s.size=0
 · have he:s.data.toList=[]:=List.eq_nil_of_length_eq_zero (by simpa using h0)
   have he2:s.toList=[]:=by rw [ByteArray.toList_eq]; exact he
   have he3:s.toList.isEmpty=true:=by rw [he2]; rfl
   obtain rfl:-1=R:=by rw [←hR,he]; rfl
   clear hR hu
   go_enter Tryz.func264,Tryz.ntmps264
   go_wp2_with fail
   go_ret
   exact ⟨rfl,rfl⟩
 · have hne:s.data.toList≠[]:=by intro h; apply h0; have:=congrArg List.length h; simpa using this
   have hne2:¬ s.toList=[]:=by rw [ByteArray.toList_eq]; exact hne
   have hne3:s.toList.isEmpty=false:=by simpa using hne2
   have hR2:(match satGo b 0 (s.data.toList.map up) with | some m=>if 65535<m then (-1:Int) else m | none=>-1)=R:=by
    rw [←hR]
    unfold valU
    rw [if_neg (by simpa using hne),sat_val b hb hb2 _ _ (by omega)]
    cases satGo b 0 (s.data.toList.map up) with
    | none=>rfl
    | some m=>simp only; split<;>rfl
   have HR:=Hh hR2; clear hR hu hR2 hne
   have hb0:(1:Int)≤(b:Int):=by omega
   have hb3:(b:Int)≤16:=by omega
   go_enter Tryz.func264,Tryz.ntmps264
   go_wp2_with fail
   go_loop [5,6] (fun x i=>∃ k n:Nat,k≤s.size∧n≤1000000∧i=.int .i64 k∧x=.int .i64 n∧Hid (satGo b 0 (s.data.toList.map up)=satGo b n ((s.data.toList.map up).drop k))) (fun _ i=>s.size - (intOf i).toNat)
   case atStart=>exact ⟨0,0,Nat.zero_le _,Nat.zero_le _,rfl,rfl,Hh rfl⟩
   case round =>
    obtain ⟨k,n,hk,hn,rfl,rfl,HK⟩:=hrel
    by_cases hlt:k<s.size
    · have hi0:(0:Int)≤(k:Int):=by omega
      have hi1:(k:Int)<(s.size:Int):=by omega
      obtain ⟨d,hd⟩:∃ d,digU (up s[k])=d:=⟨_,rfl⟩
      have hd9:=digU_le (up s[k])
      have hdig:=fun w=>digit01_any s[k] w
      rw [hd] at hd9
      simp only [hd] at hdig
      have hd1:(0:Int)≤(d:Int):=by omega
      have hd2:(d:Int)≤99:=by omega
      have hnb:n * b≤1000000 * 16:=Nat.mul_le_mul hn hb2
      have hnb0:(0:Int)≤(n:Int) * (b:Int):=by have:((n * b:Nat):Int)=(n:Int) * (b:Int):=by simp
                                              omega
      have hnb1:(n:Int) * (b:Int)≤16000000:=by have:((n * b:Nat):Int)=(n:Int) * (b:Int):=by simp
                                               omega
      have hkk:=HK.out
      rw [upper_get s k hlt,satGo_cons] at hkk
      rw [hd] at hkk
      have HD:=Hh hd; clear hd
      have HDIG:=Hh hdig; clear hdig
      by_cases hbd:b≤d
      · rw [if_pos hbd] at hkk
        have HKK:=Hh hkk; clear hkk
        have hbd':(b:Int)≤(d:Int):=by omega
        go_wp2_with fail
        refine (HDIG.out _).mono ?_
        rintro e w1 ⟨rfl,rfl⟩
        go_wp2_with fail
        go_ret
        exact ⟨by rw [←HR.out,HKK.out]; rfl,rfl⟩
      · rw [if_neg hbd] at hkk
        have HKK:=Hh hkk; clear hkk
        have hbd':(d:Int)<(b:Int):=by omega
        go_wp2_with fail
        refine (HDIG.out _).mono ?_
        rintro e w1 ⟨rfl,rfl⟩
        go_wp2_with fail
        go_round
        case rel=>exact ⟨k+1,min (n * b+d) 1000000,by omega,by omega,by go_num,by rw [min_cast],HKK⟩
        case measure=>simp [intOf]; omega
    · obtain rfl:k=s.size:=by omega
      have hkk:=HK.out
      rw [List.drop_of_length_le (by simp),satGo_nil] at hkk
      have HKK:=Hh hkk; clear hkk HK
      by_cases h6:65535<n
      · have h6':(65535:Int)<(n:Int):=by omega
        go_wp2_with fail
        go_ret
        exact ⟨by rw [←HR.out,HKK.out]; simp only; rw [if_pos h6]; rfl,rfl⟩
      · have h6':¬ (65535:Int)<(n:Int):=by omega
        go_wp2_with fail
        go_ret
        exact ⟨by rw [←HR.out,HKK.out]; simp only; rw [if_neg h6]; rfl,rfl⟩
theorem value01_2 (s:ByteArray) (w:World) (hs:s.size≤1000000) :
 Calls Tryz.prog 264 #[.string s,.int .i64 2] w fun e w'=>e=.returned (.int .i64 (oI (valU 2 (upper s).data.toList)))∧w=w':=value01_any s 2 w hs (by omega) (by omega)
theorem value01_10 (s:ByteArray) (w:World) (hs:s.size≤1000000) :
 Calls Tryz.prog 264 #[.string s,.int .i64 10] w fun e w'=>e=.returned (.int .i64 (oI (valU 10 (upper s).data.toList)))∧w=w':=value01_any s 10 w hs (by omega) (by omega)
theorem value01_16 (s:ByteArray) (w:World) (hs:s.size≤1000000) :
 Calls Tryz.prog 264 #[.string s,.int .i64 16] w fun e w'=>e=.returned (.int .i64 (oI (valU 16 (upper s).data.toList)))∧w=w':=value01_any s 16 w hs (by omega) (by omega)
set_option maxHeartbeats 4000000 in
set_option maxRecDepth 100000 in
theorem parse01_walk (s:ByteArray) (w:World) (hs:s.size≤1000000) :
 Calls Tryz.prog 201 #[.string s] w fun e w'=>e=.returned (.tuple #[.int .i64 (if px6 s<0 then 0 else px6 s),.bool (decide (0≤px6 s))])∧w=w':=by
 have HV:=Hh (fun w=>value01_10 s w hs)
 obtain ⟨x1,hx1⟩:∃ x,oI (valU 10 (upper s).data.toList)=x:=⟨_,rfl⟩
 rw [hx1] at HV
 have hb:∀ (i:Nat) (h:i<s.size),s[i]=bat s i:=bat_get s
 have HB:=Hh hb; clear hb
 have HX1:Hid (px1 s=x1):=Hh hx1
 clear hx1
 obtain ⟨b1,hb1⟩:∃ b,pc1 s=b:=⟨_,rfl⟩
 obtain ⟨x2,hx2⟩:∃ x,px2 s=x:=⟨_,rfl⟩
 obtain ⟨b2,hb2⟩:∃ b,pc2 s=b:=⟨_,rfl⟩
 obtain ⟨x3,hx3⟩:∃ x,px3 s=x:=⟨_,rfl⟩
 obtain ⟨b3,hb3⟩:∃ b,pc3 s=b:=⟨_,rfl⟩
 obtain ⟨x4,hx4⟩:∃ x,px4 s=x:=⟨_,rfl⟩
 obtain ⟨b4,hb4⟩:∃ b,pc4 s=b:=⟨_,rfl⟩
 obtain ⟨x5,hx5⟩:∃ x,px5 s=x:=⟨_,rfl⟩
 obtain ⟨b5,hb5⟩:∃ b,pc5 s=b:=⟨_,rfl⟩
 obtain ⟨x6,hx6⟩:∃ x,px6 s=x:=⟨_,rfl⟩
 rw [hx6]
 have HB1:=Hh hb1; clear hb1
 have HX2:=Hh hx2; clear hx2
 have HB2:=Hh hb2; clear hb2
 have HX3:=Hh hx3; clear hx3
 have HB3:=Hh hb3; clear hb3
 have HX4:=Hh hx4; clear hx4
 have HB4:=Hh hb4; clear hb4
 have HX5:=Hh hx5; clear hx5
 have HB5:=Hh hb5; clear hb5
 have HX6:=Hh hx6; clear hx6
 go_enter Tryz.func201,Tryz.ntmps201
 go_wp2_with fail
 refine (HV.out _).mono ?_
 rintro e w1 ⟨rfl,rfl⟩
 go_upto_region 3 with fail
 go_cut [26] (fun t wx=>t=.bool b1∧w=wx)
 case first =>
  go_wp2_with fail
  all_goals
   go_meet
   case rel =>
    refine ⟨?_,rfl⟩
    have g:=HB.out
    have e:=HB1.out
    unfold pc1 at e
    simp only [g] at *
    subst e
    congr 1
    first | (simp [*]; done) | (simp [*]; omega) | (rw [Bool.eq_iff_iff]; simp [*]; done) | (rw [Bool.eq_iff_iff]; simp [*]; omega)
 case rest =>
 obtain ⟨rfl,rfl⟩:=hcut
 go_upto_if 26 with fail
 go_cut [5] (fun t wx=>t=.int .i64 x2∧w=wx)
 case first =>
  rcases hbb:b1 with _ | _
  · go_wp2_with fail
    go_meet
    case rel=>exact ⟨by rw [←HX2.out]; unfold px2; rw [HB1.out,hbb,HX1.out]; rfl,rfl⟩
  · subst hbb
    have hlen:1<s.size:=by have h:=HB1.out; unfold pc1 at h; simp at h; omega
    have hlen':(1:Int)<(s.size:Int):=by omega
    have HVV:=Hh (fun w=>value01_16 (s.extract 2 s.size) w (by rw [ByteArray.size_extract]; omega))
    go_wp2_with fail
    refine (HVV.out _).mono ?_
    rintro e w1 ⟨rfl,rfl⟩
    go_wp2_with fail
    all_goals
     go_meet
     case rel =>
      refine ⟨?_,rfl⟩
      congr 1
      rw [←HX2.out]
      unfold px2
      rw [HB1.out,HX1.out,if_pos rfl]
      omega
 case rest =>
 obtain ⟨rfl,rfl⟩:=hcut
 go_upto_region 5 with fail
 go_cut [38] (fun t wx=>t=.bool b2∧w=wx)
 case first =>
  go_wp2_with fail
  all_goals
   go_meet
   case rel =>
    refine ⟨?_,rfl⟩
    have g:=HB.out
    have e:=HB2.out
    unfold pc2 at e
    simp only [g] at *
    subst e
    congr 1
    first | (simp [*]; done) | (simp [*]; omega) | (rw [Bool.eq_iff_iff]; simp [*]; done) | (rw [Bool.eq_iff_iff]; simp [*]; omega)
 case rest =>
 obtain ⟨rfl,rfl⟩:=hcut
 go_upto_if 38 with fail
 go_cut [5] (fun t wx=>t=.int .i64 x3∧w=wx)
 case first =>
  rcases hbb:b2 with _ | _
  · go_wp2_with fail
    go_meet
    case rel=>exact ⟨by rw [←HX3.out]; unfold px3; rw [HB2.out,hbb,HX2.out]; rfl,rfl⟩
  · subst hbb
    have hlen:1<s.size:=by have h:=HB2.out; unfold pc2 at h; simp at h; omega
    have hlen':(1:Int)<(s.size:Int):=by omega
    have HVV:=Hh (fun w=>value01_16 (s.extract 1 s.size) w (by rw [ByteArray.size_extract]; omega))
    go_wp2_with fail
    refine (HVV.out _).mono ?_
    rintro e w1 ⟨rfl,rfl⟩
    go_wp2_with fail
    all_goals
     go_meet
     case rel =>
      refine ⟨?_,rfl⟩
      congr 1
      rw [←HX3.out]
      unfold px3
      rw [HB2.out,HX2.out,if_pos rfl]
      omega
 case rest =>
 obtain ⟨rfl,rfl⟩:=hcut
 go_upto_region 7 with fail
 go_cut [50] (fun t wx=>t=.bool b3∧w=wx)
 case first =>
  go_wp2_with fail
  all_goals
   go_meet
   case rel =>
    refine ⟨?_,rfl⟩
    have g:=HB.out
    have e:=HB3.out
    unfold pc3 at e
    simp only [g] at *
    subst e
    congr 1
    first | (simp [*]; done) | (simp [*]; omega) | (rw [Bool.eq_iff_iff]; simp [*]; done) | (rw [Bool.eq_iff_iff]; simp [*]; omega)
 case rest =>
 obtain ⟨rfl,rfl⟩:=hcut
 go_upto_if 50 with fail
 go_cut [5] (fun t wx=>t=.int .i64 x4∧w=wx)
 case first =>
  rcases hbb:b3 with _ | _
  · go_wp2_with fail
    go_meet
    case rel=>exact ⟨by rw [←HX4.out]; unfold px4; rw [HB3.out,hbb,HX3.out]; rfl,rfl⟩
  · subst hbb
    have hlen:1<s.size:=by have h:=HB3.out; unfold pc3 at h; simp at h; omega
    have hlen':(1:Int)<(s.size:Int):=by omega
    have HVV:=Hh (fun w=>value01_2 (s.extract 1 s.size) w (by rw [ByteArray.size_extract]; omega))
    go_wp2_with fail
    refine (HVV.out _).mono ?_
    rintro e w1 ⟨rfl,rfl⟩
    go_wp2_with fail
    all_goals
     go_meet
     case rel =>
      refine ⟨?_,rfl⟩
      congr 1
      rw [←HX4.out]
      unfold px4
      rw [HB3.out,HX3.out,if_pos rfl]
      omega
 case rest =>
 obtain ⟨rfl,rfl⟩:=hcut
 go_upto_region 9 with fail
 go_cut [77] (fun t wx=>t=.bool b4∧w=wx)
 case first =>
  go_wp2_with (refine (digit01_any _ _).mono ?_; rintro e w1 ⟨rfl,rfl⟩)
  all_goals
   go_meet
   case rel =>
    refine ⟨?_,rfl⟩
    have g:=HB.out
    have e:=HB4.out
    unfold pc4 at e
    simp only [g] at *
    subst e
    congr 1
    first | (simp [*]; done) | (simp [*]; omega) | (rw [Bool.eq_iff_iff]; simp [*]; done) | (rw [Bool.eq_iff_iff]; simp [*]; omega)
 case rest =>
 obtain ⟨rfl,rfl⟩:=hcut
 go_upto_if 77 with fail
 go_cut [5] (fun t wx=>t=.int .i64 x5∧w=wx)
 case first =>
  rcases hbb:b4 with _ | _
  · go_wp2_with fail
    go_meet
    case rel=>exact ⟨by rw [←HX5.out]; unfold px5; rw [HB4.out,hbb,HX4.out]; rfl,rfl⟩
  · subst hbb
    have hlen:1<s.size:=by have h:=HB4.out; unfold pc4 at h; simp at h; omega
    have hlen':(1:Int)<(s.size:Int):=by omega
    have HVV:=Hh (fun w=>value01_16 (s.extract 0 (s.size - 1)) w (by rw [ByteArray.size_extract]; omega))
    go_wp2_with fail
    refine (HVV.out _).mono ?_
    rintro e w1 ⟨rfl,rfl⟩
    go_wp2_with fail
    all_goals
     go_meet
     case rel =>
      refine ⟨?_,rfl⟩
      congr 1
      rw [←HX5.out]
      unfold px5
      rw [HB4.out,HX4.out,if_pos rfl]
      omega
 case rest =>
 obtain ⟨rfl,rfl⟩:=hcut
 go_upto_region 11 with fail
 go_cut [100] (fun t wx=>t=.bool b5∧w=wx)
 case first =>
  go_wp2_with fail
  all_goals
   go_meet
   case rel =>
    refine ⟨?_,rfl⟩
    have g:=HB.out
    have e:=HB5.out
    unfold pc5 at e
    simp only [g] at *
    subst e
    congr 1
    first | (simp [*]; done) | (simp [*]; omega) | (rw [Bool.eq_iff_iff]; simp [*]; done) | (rw [Bool.eq_iff_iff]; simp [*]; omega)
 case rest =>
 obtain ⟨rfl,rfl⟩:=hcut
 go_upto_if 100 with fail
 go_cut [5] (fun t wx=>t=.int .i64 x6∧w=wx)
 case first =>
  rcases hbb:b5 with _ | _
  · go_wp2_with fail
    go_meet
    case rel=>exact ⟨by rw [←HX6.out]; unfold px6; rw [HB5.out,hbb,HX5.out]; rfl,rfl⟩
  · subst hbb
    have hlen:1<s.size:=by have h:=HB5.out; unfold pc5 at h; simp at h; omega
    have hlen':(1:Int)<(s.size:Int):=by omega
    have HVV:=Hh (fun w=>value01_2 (s.extract 0 (s.size - 1)) w (by rw [ByteArray.size_extract]; omega))
    go_wp2_with fail
    refine (HVV.out _).mono ?_
    rintro e w1 ⟨rfl,rfl⟩
    go_wp2_with fail
    all_goals
     go_meet
     case rel =>
      refine ⟨?_,rfl⟩
      congr 1
      rw [←HX6.out]
      unfold px6
      rw [HB5.out,HX5.out,if_pos rfl]
      omega
 case rest =>
 obtain ⟨rfl,rfl⟩:=hcut
 go_wp2_with fail
 all_goals
  go_ret2
  exact ⟨rfl,rfl⟩
theorem parse01_any (s:ByteArray) (w:World) (hs:s.size≤1000000) :
 Calls Tryz.prog 201 #[.string s] w fun e w'=>e=.returned (.tuple #[.int .i64 (numR s).1,.bool (numR s).2])∧w=w':=by
 have h:=parse01_walk s w hs
 rw [px6_eq] at h
 unfold numR
 cases hn:numP s with
 | none=>rw [hn] at h; exact h
 | some n =>
   rw [hn,oI_some,if_neg (by omega),decide_eq_true (by omega)] at h
   exact h
end Go.Proofs.YtkldoojonnkfgaaGreatDoor
