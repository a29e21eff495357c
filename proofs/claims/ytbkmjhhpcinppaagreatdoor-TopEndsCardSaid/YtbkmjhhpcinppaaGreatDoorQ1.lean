import Derived.Test.YtbkmjhhpcinppaaGreatDoorQ0
import Derived.Test.YtbkmjhhpcinppaaGreatDoorRows
namespace Go.Proofs.YtbkmjhhpcinppaaGreatDoor
set_option linter.unusedVariables false
set_option linter.defProp false
set_option linter.unusedSimpArgs false
set_option maxRecDepth 100000
set_option maxHeartbeats 40000000
open Ending renaming returned→ap
open Go renaming Addr→ai,Calls→ao,Value→ak,World→ad
open Go.Proofs.Tryz renaming prog→aj
open IntKind renaming i64→U
open Obj renaming cells→X
open Option renaming none→V,some→Z
open Value renaming agg→aw,bool→ah,int→O,nilIface→aB,pointer→au,slice→ac,string→af,tuple→a0
open World renaming alloc→H,setCells→ba
variable {R C : ad → Prop} {S Q : Act → ad → Prop} {u : Array Bool} {P : Program} {G : Exit → Act → ad → Prop} {z : TypeId} {args : Array ak} {b base cap i j k n o F y : Nat} {c w d : ad} {f : FuncId} {key : ByteArray} {L : Region.Mode} {h : Option ai} {B : Array Oper} {p : Prop} {r : Option Nat} {us vs : List ak} {v : ak} {E : List (List ak)} {D : Type}
section
namespace a3
abbrev eM:=List UInt8
def before:eM→eM→Bool
 |_,[]=>false
 |[],_::_=>true
 |x::a,y::b=>if x=y then before a b else decide (x < y)
def cmp (a b:eM):Int:=if before a b then -1 else if before b a then 1 else 0
def ct:eM→eM→Nat
 |x::a,y::b=>if x=y then ct a b+1 else 0
 |_,_=>0
theorem before_irrefl(a:eM):before a a=false:=by
 induction a with
 |nil=>rfl
 |cons x b ih=>simp[before,ih]
theorem sK{a b:eM}(c:before a b=true):before b a=false:=by
 induction a generalizing b with
 |nil=>cases b <;> simp_all[before]
 |cons x d ih=>
  cases b with
  |nil=>simp[before]at c
  |cons y f=>
   simp only[before]at c ⊢;by_cases e:x=y
   ·subst e;simp only[kb]at c ⊢;exact ih c
   ·rw[aS e]at c;rw[aS (fun k=>e k.symm)];simp only[ke,hH]at c ⊢;exact fun k=>absurd (UInt8.lt_trans c k) (UInt8.lt_irrefl _)
theorem before_total(a b:eM):before a b=true∨a=b∨before b a=true:=by
 induction a generalizing b with
 |nil=>cases b <;> simp[before]
 |cons x f ih=>
  cases b with
  |nil=>simp[before]
  |cons y d=>
   simp only[before];by_cases e:x=y
   ·subst e;simp only[kb];rcases ih d with c|c|c
    ·exact .inl c
    ·exact .inr (.inl (by rw[c]))
    ·exact .inr (.inr c)
   ·rw[aS e,aS (fun k=>e k.symm)];simp only[ke];rcases UInt8.lt_or_lt_of_ne e with c|c
    ·exact .inl c
    ·exact .inr (.inr c)
theorem before_trans{a b c:eM}(d:before a b=true)(k:before b c=true):before a c=true:=by
 induction a generalizing b c with
 |nil=>
  cases c with
  |nil=>cases b <;> simp[before]at k
  |cons g j=>rfl
 |cons x l ih=>
  cases b with
  |nil=>simp[before]at d
  |cons y m=>
   cases c with
   |nil=>simp[before]at k
   |cons g j=>
    simp only[before]at d k ⊢;by_cases e:x=y
    ·subst e;simp only[kb]at d;by_cases f:x=g
     ·subst f;simp only[kb]at k ⊢;exact ih d k
     ·rw[aS f]at k ⊢;exact k
    ·rw[aS e]at d;by_cases f:y=g
     ·subst f;rw[aS e];exact d
     ·rw[aS f]at k;simp only[ke]at d k;have h:=UInt8.lt_trans d k;rw[aS (fun i=>by subst i;exact absurd h (UInt8.lt_irrefl _))];simpa using h
theorem hy{a b:eM}:cmp a b < 0↔before a b=true:=by
 unfold cmp;split
 ·simp[*]
 ·split <;> simp[*]
theorem Co{a b:eM}:0 < cmp a b↔before b a=true:=by
 unfold cmp;split
 ·rename_i c;simp[sK c]
 ·split <;> simp[*]
theorem sR{a b:eM}:cmp a b=0↔a=b:=by
 unfold cmp;constructor
 ·intro c;rcases before_total a b with k|k|k
  ·rw[a9 k]at c;omega
  ·exact k
  ·rw[aS (by simp[sK k]),a9 k]at c;omega
 ·rintro rfl;simp[before_irrefl]
theorem oM(a b:eM):cmp a b=
  if ct a b=a.length∧ct a b=b.length then 0 else if ct a b=a.length then -1 else if ct a b=b.length then 1
   else if(a.getD (ct a b) 0) < (b.getD (ct a b) 0)then -1 else 1:=by
 induction a generalizing b with
 |nil=>cases b <;> simp[cmp,before,ct]
 |cons x f ih=>
  cases b with
  |nil=>simp[cmp,before,ct]
  |cons y d=>
   by_cases e:x=y
   ·subst e;have c:cmp (x::f) (x::d)=cmp f d:=by simp[cmp,before]
    rw[c,ih d];simp[ct]
   ·have c: ¬y=x:=fun k=>e k.symm;simp only[ct,aS e,cmp,before,aS c];rcases UInt8.lt_or_lt_of_ne e with k|k
    ·simp[k]
    ·have g: ¬x < y:=fun q=>absurd (UInt8.lt_trans k q) (UInt8.lt_irrefl _);simp[k,g]
theorem qu(a b:eM):ct a b≤a.length:=by
 induction a generalizing b with
 |nil=>simp[ct]
 |cons x c ih=>
  cases b with
  |nil=>simp[ct]
  |cons y d=>simp only[ct];split <;> simp[ih]
theorem Cs(a b:eM):ct a b=ct b a:=by
 induction a generalizing b with
 |nil=>cases b <;> simp[ct]
 |cons x c ih=>
  cases b with
  |nil=>simp[ct]
  |cons y d=>
   simp only[ct];by_cases e:x=y
   ·subst e;simp[ih]
   ·rw[aS e,aS (fun k=>e k.symm)]
theorem qv(a b:eM):ct a b≤b.length:=Cs a b ▸ qu b a
theorem Cv(a b:eM):a.take (ct a b)=b.take (ct a b):=by
 induction a generalizing b with
 |nil=>simp[ct]
 |cons x c ih=>
  cases b with
  |nil=>simp[ct]
  |cons y d=>
   simp only[ct];by_cases e:x=y
   ·subst e;simp[ih]
   ·simp[e]
theorem Cu{a b:eM}(c:ct a b < a.length)(d:ct a b < b.length):a.getD (ct a b) 0≠b.getD (ct a b) 0:=by
 induction a generalizing b with
 |nil=>simp at c
 |cons x f ih=>
  cases b with
  |nil=>simp at d
  |cons y g=>
   by_cases e:x=y
   ·subst e;simp only[ct,kb,fY]at c d ⊢;exact ih K K
   ·simp only[ct,aS e];exact e
theorem Ct{a b:eM}(f:n≤ct a b)(c:n < a.length)(d:n < b.length)(e:a.getD n 0=b.getD n 0):n+1≤ct a b:=by
 rcases dC n (ct a b)with k|k
 ·exact k
 ·have:n=ct a b:=by omega
  subst this;exact absurd e (Cu c d)
theorem v5{a b:eM}(g:n≤ct a b)(e:n=a.length∨n=b.length∨a.getD n 0≠b.getD n 0):ct a b=n:=by
 have h:=qu a b;have i:=qv a b;rcases e with e|e|e
 ·omega
 ·omega
 ·rcases dC n (ct a b)with k|k
  ·have f:=Cv a b;have c: (a.take (ct a b)).getD n 0=a.getD n 0:=by simp[List.getD,k]
   have d: (b.take (ct a b)).getD n 0=b.getD n 0:=by simp[List.getD,k]
   exact absurd (by rw[←c,f,d]) e
  ·omega
theorem BB(a b:eM)(n:Nat)(c:n≤b.length):before a (b.take n)=(before a b && decide (ct a b < n)):=by
 induction b generalizing a n with
 |nil=>cases a <;> simp [before]
 |cons y f ih=>
  cases n with
  |zero=>cases a <;> simp [before]
  |succ n=>
   cases a with
   |nil=>simp [before,ct]
   |cons x d=>
    simp only [rZ,before,ct];by_cases e:x=y
    ·subst e;simp only [kb];rw [ih d n (by simpa using c)];simp
    ·simp [aS e]
def bump:eM→Option eM
 |[]=>V
 |x::a=>match bump a with
  |some b=>Z (x::b)
  |none=>if x=255 then V else Z [x+1]
end a3
end
section
open Go.RowKit
theorem bu: (∀ (a:Act) (t:Tmp) (v:ak),a.put (Z t) v={a with tmps:=a.tmps.setIfInBounds t v})∧(∀ (a:Act) (v:ak),a.put V v=a)∧(∀ (l:List ak) (i:Nat) (a:ak),l.toArray.setIfInBounds i a=(l.set i a).toArray)∧(∀ (a b:ak) (l:List ak),(b::l).set 0 a=a::l)∧(∀ (a b:ak) (l:List ak) (n:Nat),(b::l).set (n+1) a=b::l.set n a)∧(∀ (l:List ak),l.toArray.toList=l):=
 ⟨fun _ _ _=>rfl,fun _ _=>rfl,fun _ _ _=>uQ ..,fun _ _ _=>rfl,fun _ _ _ _=>rfl,fun _=>rfl⟩
theorem bm{b:Bool}(e:b=false)(a:b=true:=by kernel_rfl):p:=by rw[e]at a;cases a
theorem b9(a:p:=by (go_split_ands;(repeat' apply And.intro) <;> first|with_reducible assumption|(with_reducible refine Y.I kG ?_;with_reducible assumption)|((repeat (first|with_reducible refine oN ?_|with_reducible refine na ?_|with_reducible refine s0 ?_ (by omega)));first|with_reducible assumption|(with_reducible refine Y.I kG ?_;(repeat (first|with_reducible refine oN ?_|with_reducible refine na ?_));with_reducible assumption)))):p:=a
theorem qT(a:p:=by (go_split_ands;(repeat' apply And.intro) <;> first|with_reducible assumption|(with_reducible refine oN ?_;with_reducible assumption)|(with_reducible refine Y.I kG ?_;with_reducible assumption)|((repeat (with_reducible refine s0 ?_ (by omega)));with_reducible assumption))):p:=a
theorem ky(a:p:=by (go_split_ands;(repeat' apply And.intro) <;> first|with_reducible assumption|(with_reducible refine Mod.cell kG (by assumption) ?_;with_reducible assumption)|((repeat (first|with_reducible refine oN ?_|with_reducible refine na ?_|with_reducible refine s0 ?_ (by omega)));first|with_reducible assumption|(with_reducible refine Mod.cell kG (by assumption) ?_;(repeat (first|with_reducible refine oN ?_|with_reducible refine na ?_));with_reducible assumption)))):p:=a
theorem bM(e:Shut (∀ a w,R w→S a w→Q a w)){a b:Act}{w:ad}(d:R w)(c:S b w)(f:a=b:=by(try simp only[bu]);exact rfl):Q a w:=by subst f;exact e a w d c
theorem a5(f:Shut (∀ a w,R w→C w→S a w→Q a w)){a b:Act}{w:ad}(d:R w)(e:C w)(c:S b w)(g:a=b:=by(try simp only[bu]);exact rfl):Q a w:=by subst g;exact f a w d e c
theorem fT(e:Shut (∀ a w,R w→(R w→S a w)→Q a w)){a b:Act}{w:ad}(d:R w)(c:R w→S b w)(f:a=b:=by(try simp only[bu]);exact rfl):Q a w:=by subst f;exact e a w d c
def cR (w d:ad):Prop:=∃ n,d=w.drewN n
theorem cR.refl(w:ad):cR w w:=⟨0,rfl⟩
theorem cR.step(a:cR w d)(n:Nat):cR w (d.drewN n):=by
 obtain⟨m,rfl⟩:=a;exact⟨m+n,uU _ _ _⟩
theorem cR.drew(a:cR w d):cR w d.drew:=a.step 1
theorem cR.trans{a b:ad}(d:cR a b)(k:cR b c):cR a c:=by
 obtain⟨m,rfl⟩:=k;exact d.step m
theorem cR.below(a:cR w d)(R:Nat):Below R w d:=by
 obtain⟨m,rfl⟩:=a;exact⟨rfl,rfl,rfl,aG _,fun _ _=>rfl⟩
def Y (w d:ad):Prop:=Below w.heap.size w d
theorem Y.refl(w:ad):Y w w:=Below.refl _ _
theorem Y.trans{a b:ad}(d:Y a b)(k:Y b c):Y a c:=Below.trans d (Below.mono k d.size)
theorem Y.drewN(a:Y w d)(n:Nat):Y w (d.drewN n):=⟨a.os,a.tape,a.output,a.size,a.block⟩
theorem Y.drew(a:Y w d):Y w d.drew:=a.drewN 1
theorem Y.alloc(a:Y w d)(o:Obj):Y w (H d o):=Below.alloc a a.size o
theorem Y.setCell(b:Y w d){p:ai}(c:w.heap.size≤p.block)(a:ak):Y w (d.setCell p a):=Below.setCell b c a
theorem cR.aC(a:cR w d):Y w d:=a.below _
theorem bz{a b:ad}(c:Y a b:=by repeat (first|with_reducible exact Y.refl _|with_reducible refine Y.drewN ?_ _|with_reducible refine Y.drew ?_|with_reducible refine Y.alloc ?_ _|with_reducible refine Y.setCell ?_ ?_ _|(with_reducible refine Y.trans ?_ (by assumption))|omega|(dsimp only;omega))):Y a b:=c
theorem Y.le(a:Y w d):w.heap.size≤d.heap.size:=a.size
theorem Y.cell(a:Y w d){b o:Nat}(c:b < w.heap.size):d.cell? ⟨b,o,V⟩=w.cell? ⟨b,o,V⟩:=Below.cell a (p:=⟨b,o,V⟩) c
theorem Y.frozen(a:Y w d){b o:Nat}(c:b < w.heap.size):d.frozen? ⟨b,o,V⟩=w.frozen? ⟨b,o,V⟩:=Below.frozen a (p:=⟨b,o,V⟩) c
theorem pd
  (a:ao P f args (w.drewN n) fun e d=>e=ap v∧cR (w.drewN n) d):ao P f args (w.drewN n) fun e g=>e=ap v∧∃ m,g=w.drewN m:=
 a.mono fun _ _⟨b,m,c⟩=>⟨b,n+m,by rw[c,uU]⟩
theorem pe{a:Nat}
  (b:ao P f args (w.drewN (a+n)) fun e d=>e=ap v∧cR (w.drewN (a+n)) d):ao P f args (w.drewN (a+n)) fun e h=>e=ap v∧∃ m,h=w.drewN (a+m):=
 b.mono fun _ _⟨c,m,g⟩=>⟨c,n+m,by rw[g,uU,rA]⟩
structure e1 (w:ad)where
 W:ad
 aC:Y w W
instance (w:ad):Inhabited (e1 w):=⟨⟨w,Y.refl w⟩⟩
theorem nZ{id:Nat}{a:Act}{l:List Oper}(f:P.follows .mixedOrders=true)(e:Region.lexB .any l.toArray=true)
  (c:wpQuiet P l.toArray (fun d=> ∃ p:e1 w,d=p.W) (fun b=> ∀ d,(∃ p:e1 w,d=p.W)→G .normal b d) l a): (Code.region id l.toArray true).wp P G a w:=
 wp_region_quiet (C:=fun d=> ∃ p:e1 w,d=p.W) f e ⟨⟨w.drew,(Y.refl w).drew⟩,rfl⟩ (by simpa using c)
theorem m9{p:e1 w}
  (b:ao P f args p.W fun e d=>e=ap v∧Y p.W d):ao P f args p.W fun e a=>e=ap v∧∃ q:e1 w,a=q.W:=
 b.mono fun _ a ⟨c,g⟩=>⟨c,⟨a,p.aC.trans g⟩,rfl⟩
theorem vw{p:e1 w}
  (b:ao P f args p.W fun e d=>e=ap v∧cR p.W d):ao P f args p.W fun e a=>e=ap v∧∃ q:e1 w,a=q.W:=
 b.mono fun _ a ⟨c,g⟩=>⟨c,⟨a,p.aC.trans g.aC⟩,rfl⟩
theorem e1.cell(a:w.cell? ⟨b,o,V⟩=Z v): ∀ p:e1 w,p.W.cell? ⟨b,o,V⟩=Z v:=fun p=>by
 have c:b < w.heap.size:=by
  rcases dC b w with k|k
  ·exact k
  ·unfold World.cell? at a;rw[show w.heap[b]?=V from hj k]at a;simp at a
 rw[p.aC.cell c,a]
theorem Y.I(c:Y w d){b o:Nat}{v:ak}(a:w.cell? ⟨b,o,V⟩=Z v):d.cell? ⟨b,o,V⟩=Z v:=e1.cell a ⟨d,c⟩
abbrev aF (a:ByteArray):a3.eM:=a.data.toList
theorem fV(a:ByteArray): (aF a).length=a.size:=by rw[aF,uA];rfl
theorem l0(a:ByteArray)(k:Nat)(b:k < a.size): (aF a).getD k 0=a[k]:=by
 have c:k < a.data.toList.length:=by rw[uA];exact b
 rw[aF,h2,cP c];rfl
theorem zA(a:ByteArray)(n:Nat):aF (a.extract 0 n)=(aF a).take n:=by
 rw[aF,aF,ByteArray.data_extract];simp
theorem pu(a:ByteArray):a.toList=aF a:=ByteArray.toList_eq a
theorem v7{a b:ByteArray}(g:k≤a3.ct (aF a) (aF b))(d:k < a.size)(f:k < b.size)(c: ((a[k].toNat:Int) !=(b[k].toNat:Int))=true):
  a3.ct (aF a) (aF b)=k:=by
 refine a3.v5 g (.inr (.inr ?_));rw[l0 a k d,l0 b k f];intro e;rw[e]at c;simp at c
theorem v8{a b:ByteArray}(f:k≤a3.ct (aF a) (aF b))(c:k < a.size)(d:k < b.size)(e: ((a[k].toNat:Int) !=(b[k].toNat:Int))=false):
  k+1≤a3.ct (aF a) (aF b):=by
 refine a3.Ct f (by rw[fV];exact c) (by rw[fV];exact d) ?_;rw[l0 a k c,l0 b k d];have g: (a[k].toNat:Int)=(b[k].toNat:Int):=by simpa using e
 exact UInt8.toNat_inj.1 (by omega)
theorem sS(a b:ByteArray)(w:ad)(m:a.size≤maxLen)(o:b.size≤maxLen):
  ao aj 112 #[af a,b] w fun e d=>e=ap (O U (a3.ct (aF a) (aF b)))∧cR w d:=by
 unfold maxLen at m o;go_enter Tryz.func112,Tryz.ntmps112;go_wp2;all_goals
  go_loopw [5,11] (fun n i wr=> ∃ k:Nat,k≤a.size∧k≤b.size∧i=O U k∧n=O U k∧k≤a3.ct (aF a) (aF b)∧∃ c,wr=w.drewN c) (fun _ i _=>a.size - (intOf i).toNat)
  case atStart=>exact ⟨0,aJ _,aJ _,rfl,rfl,aJ _,0,rfl⟩
  case round=>
   obtain ⟨k,q,r,rfl,rfl,h,c,rfl⟩:=hrel;by_cases p:k < a.size∧k < b.size
   ·obtain ⟨f,g⟩:=p;go_wp2;go_quiet (fail);go_wp2
    ·go_ret;exact ⟨by rw [v7 h f g (by assumption)];rfl,(cR.step ⟨c,rfl⟩ _)⟩
    ·go_roundw
     case rel=>exact ⟨k+1,f,g,by go_num,by go_num,v8 h f g (by assumption),c+nq,rfl⟩
     case measure=>simp [intOf];omega
   ·have j:a3.ct (aF a) (aF b)=k:=a3.v5 h (by rw [fV,fV];omega);have l:=N j;clear j;go_wp2;go_ret;exact ⟨by rw [l.out];rfl,⟨c,rfl⟩⟩
end
section
open Go.Maps
def k9:ak→Option (DataW ak×List MemPlace):=fun v=>Z (.held v,[])
abbrev ik (k:Int):Lit:= .int .i64 k
theorem qS{a b:Int}(c:a≠b):ik a≠ik b:=fun e=>c (by simpa[ik]using e)
theorem tw(a:Int):WideAt.IsKeyLit (ik a):=by unfold ik WideAt.IsKeyLit;trivial
end
section
open Go.RowKit
def j3 (a:ByteArray):Bool:=decide (1≤a.size∧a.size≤16)
theorem lW{a b:Bool}(c:a=b):Ending.returned (ah a)=ap (ah b):=by rw[c]
theorem yL{k:IntKind}{a b:Int}(c:a=b):Ending.returned (O k a)=ap (O k b):=by rw[c]
theorem tR(a:ByteArray)(w:ad)(b:a.size≤maxLen):
  ao aj 52 #[af a] w fun e d=>e=ap (ah (j3 a))∧cR w d:=by
 unfold maxLen at b;go_enter Tryz.func52,Tryz.ntmps52;go_wp2;all_goals
  go_ret;refine⟨lW ?_,cR.refl _⟩;rw[iY];simp[j3];omega
theorem HJ{x y:UInt8}: ((x.toNat:Int) < (y.toNat:Int))↔x < y:=by rw[rN];omega
theorem gO(a b:ByteArray)(w:ad)(j:a.size≤maxLen)(l:b.size≤maxLen):
  ao aj 93 #[af a,b] w fun e d=>e=ap (O U (a3.cmp (aF a) (aF b)))∧cR w d:=by
 have f:=a3.oM (aF a) (aF b);have r:=a3.qu (aF a) (aF b);have s:=a3.qv (aF a) (aF b);rw [fV] at r s;rw [fV,fV] at f;have m:=fun w=>sS a b w j l;unfold maxLen at j l;generalize a3.ct (aF a) (aF b)=n at *;generalize t:a3.cmp (aF a) (aF b)=x at *;clear t;have g:=N f;have h:=N m;clear f m;by_cases q:n < a.size∧n < b.size
 ·obtain ⟨o,p⟩:=q;go_enter Tryz.func93,Tryz.ntmps93;go_wp2_with (go_at_call 112;refine (h.out _).mono ?_;rintro e d ⟨rfl,c,rfl⟩);go_quiet (fail);go_wp2;all_goals
   go_ret;refine ⟨yL ?_,cR.step ⟨c,rfl⟩ _⟩;have i:=g.out;rw [l0 a n o,l0 b n p,aS K,aS K,aS K] at i;rw [i];first
    |rw [a9 (rN.2 K)]
    |rw [aS (fun k=>by have:=rN.1 k;omega)]
 ·go_enter Tryz.func93,Tryz.ntmps93;go_wp2_with (go_at_call 112;refine (h.out _).mono ?_;rintro e d ⟨rfl,c,rfl⟩);all_goals
   go_ret;refine ⟨yL ?_,c,rfl⟩;simp only [ma,ey,ne_eq] at *;rw [g.out];first
    |rw [a9 K]
    |rw [aS K,a9 K]
    |rw [aS K,aS K,a9 K]
theorem Bz{a b:ByteArray}(h:k≤a3.ct (aF a) (aF b))(d:k < a.size)(e:k < b.size)(f: ((a[k].toNat:Int) !=(b[k].toNat:Int))=true):
  a3.before (aF a) (aF b)=decide ((a[k].toNat:Int) < (b[k].toNat:Int)):=by
 have g:=v7 h d e f;have c:=a3.oM (aF a) (aF b);rw [g,fV,fV,aS K,aS K,aS K,l0 a k d,l0 b k e] at c;rw [iY,←a3.hy,c,dp,HJ];split <;> simp [*]
theorem By{a b:ByteArray}(g:b.size≤a3.ct (aF a) (aF b)):a3.before (aF a) (aF b)=false:=by
 have f:=a3.qv (aF a) (aF b);have c:=a3.oM (aF a) (aF b);rw[fV]at f;have d:a3.ct (aF a) (aF b)=b.size:=K;rw[d,fV,fV]at c;rw[Bool.eq_false_iff,ne_eq,←a3.hy,c];by_cases e:b.size=a.size <;> simp[e]
theorem BA{a b:ByteArray}(h:k≤a3.ct (aF a) (aF b))(f:k=a.size)(g:k < b.size):a3.before (aF a) (aF b)=true:=by
 have e:=a3.qu (aF a) (aF b);have c:=a3.oM (aF a) (aF b);rw[fV]at e;have d:a3.ct (aF a) (aF b)=a.size:=K;rw[d,fV,fV,aS K,a9 rfl]at c;rw[←a3.hy,c];omega
theorem sJ(a b:ByteArray)(w:ad)(l:a.size≤maxLen)(m:b.size≤maxLen):
  ao aj 48 #[af a,b] w fun e d=>e=ap (ah (a3.before (aF a) (aF b)))∧cR w d:=by
 unfold maxLen at l m;go_enter Tryz.func48,Tryz.ntmps48;go_wp2;go_loopw [5] (fun i wr=> ∃ k:Nat,k≤a.size∧k≤b.size∧i=O U k∧k≤a3.ct (aF a) (aF b)∧∃ c,wr=w.drewN c) (fun i _=>b.size - (intOf i).toNat)
 case atStart=>exact ⟨0,aJ _,aJ _,rfl,aJ _,0,rfl⟩
 case round=>
  obtain ⟨k,o,p,rfl,h,c,rfl⟩:=hrel;by_cases f:k < b.size
  ·by_cases g:k < a.size
   ·have n: ((k:Int)==(a.size:Int))=false:=by simp;omega
    go_wp2;go_quiet (fail);go_wp2
    ·go_quiet (fail);go_wp2;go_ret;exact ⟨lW ((Bz h g f ch).trans J).symm,cR.step (cR.step ⟨c,rfl⟩ _) _⟩
    ·go_roundw
     case rel=>exact ⟨k+1,g,f,e9,v8 h g f ch,c+nq,rfl⟩
     case measure=>simp [intOf];omega
   ·have n: ((k:Int)==(a.size:Int))=true:=by simp;omega
    have j:=N (BA h K f);go_wp2;go_ret;exact ⟨lW j.out.symm,c,rfl⟩
  ·have j:=N (By (a:=a) (b:=b) K);go_wp2;go_ret;exact ⟨lW j.out.symm,c,rfl⟩
def iL (low high:ByteArray) (a:Bool) (key:ByteArray):Bool:=decide (a3.cmp (aF low) (aF key)≤0) && (a||decide (a3.cmp (aF key) (aF high) < 0))
theorem ny(low high:ByteArray)(a:Bool)(key:ByteArray)(w:ad)(c:low.size≤maxLen)(f:high.size≤maxLen)(g:key.size≤maxLen):
  ao aj 110 #[af low,high,a,key] w fun e d=>e=ap (ah (iL low high a key))∧cR w d:=by
 cases a;all_goals
  go_enter Tryz.func110,Tryz.ntmps110;go_wp2_with(go_at_call 93;refine(gO _ _ _ ch ch).mono ?_;rintro e d ⟨rfl,b,rfl⟩);all_goals
   go_ret;refine⟨lW ?_,by first|exact⟨_,rfl⟩⟩;first|(simp[iL, *];done)|(simp[iL];omega)
def hv (a b:ByteArray):ByteArray:=b.extract 0 (a3.ct (aF a) (aF b)+1)
theorem v3{a b:ByteArray}(g:a3.cmp (aF a) (aF b) < 0):a3.ct (aF a) (aF b) < b.size:=by
 have c:=a3.oM (aF a) (aF b);have f:=a3.qv (aF a) (aF b);rw[fV,fV]at c;rw[fV]at f;rcases dC (a3.ct (aF a) (aF b)) b.size with k|k
 ·exact k
 ·have e:a3.ct (aF a) (aF b)=b.size:=by omega
  rw[e]at c;by_cases d:b.size=a.size
  ·rw[a9 ⟨d,rfl⟩]at c;omega
  ·rw[aS K,aS K,a9 rfl]at c;omega
abbrev fR (n:Int):ak:= .iface 48 (O U n)
theorem BI(a b:ByteArray)(w:ad)(i:a.size≤maxLen)(g:b.size≤maxLen)(f:a3.cmp (aF a) (aF b) < 0):
  ao aj 209 #[af a,b] w fun e d=>e=ap (a0 #[af (hv a b),aB])∧cR w d:=by
 have j:=v3 f;have h:=g;unfold maxLen at h;go_enter Tryz.func209,Tryz.ntmps209;go_wp2_with(first|(go_at_call 93;refine(gO _ _ _ ch ch).mono ?_;rintro e d ⟨rfl,c,rfl⟩)|(go_at_call 112;refine(sS _ _ _ ch ch).mono ?_;rintro e d ⟨rfl,c,rfl⟩));go_ret2;exact⟨rfl,_,rfl⟩
theorem BH(a b:ByteArray)(w:ad)(g:a.size≤maxLen)(h:b.size≤maxLen)(f: ¬a3.cmp (aF a) (aF b) < 0):
  ao aj 209 #[af a,b] w fun e d=>e=ap (a0 #[af ByteArray.empty,fR 1])∧cR w d:=by
 go_enter Tryz.func209,Tryz.ntmps209;go_wp2_with(first|(go_at_call 93;refine(gO _ _ _ ch ch).mono ?_;rintro e d ⟨rfl,c,rfl⟩)|(go_at_call 112;refine(sS _ _ _ ch ch).mono ?_;rintro e d ⟨rfl,c,rfl⟩));go_ret2;exact⟨rfl,_,rfl⟩
end
section
open Go.ChangeShapes Go.WideShapes Go.ChangeAt Go.RowKit
theorem zx{e:Type}{g:TypeId×ak→e}{P:Program}{f:ad}{base:Nat}{l:Nat→Bool}{held:Bool}:
  ∀ (d:List TypeId) (vs:List ak) (c:List (DataW e)) (p:List MemPlace),DataW.TrodAll g P f base l held d vs c p→∀ x∈p,x.block < f.heap.size
 |[],[],[],p,a,x,b=>by
  have h:p=[]:=a;subst h;cases b
 |t::d,v::vs,m::c,p,a,x,b=>by
  obtain⟨n,k,⟨ca,i⟩,j,rfl⟩:=a;rcases cu.1 b with b|b
  ·exact DataW.trod_lt ca _ _ _ i x b
  ·exact zx d vs c k j x b
 |[],_::_,_,_,a,_,_=>a.elim
 |[],[],_::_,_,a,_,_=>a.elim
 |_::_,[],_,_,a,_,_=>a.elim
 |_::_,_::_,[],_,a,_,_=>a.elim
theorem zw{h:Type}{j:TypeId×ak→h}{P:Program}{c i:ad}(l:laidOutB P=true)(k:Below c c i):
  ∀ (d:List TypeId) (vs:List ak) (e:List (DataW h)) (p:List MemPlace),(d.all fun t=>P.readableRec t && decide (t < P.types.size))=true→
   DataW.TrodAll j P c 0 (fun _=>true) true d vs e p→(∀ x∈p,x.block < c.heap.size)→
   DataW.TrodAll j P i 0 (fun b=>decide (b < c.heap.size)) true d vs e p
 |[],[],[],p,_,a,_=>a
 |t::d,v::vs,s::e,p,f,a,m=>by
  obtain ⟨r,n,o,q,rfl⟩:=a;simp only [List.all_cons,fZ,ke] at f;exact ⟨r,n,Below.trod l f.1.1 f.1.2 o k (fun x g=>m x (cu.2 (.inl g))),
   zw l k d vs e n f.2 q (fun x g=>m x (cu.2 (.inr g))),rfl⟩
 |[],_::_,_,_,_,a,_=>a.elim
 |[],[],_::_,_,_,a,_=>a.elim
 |_::_,[],_,_,_,a,_=>a.elim
 |_::_,_::_,[],_,_,a,_=>a.elim
theorem own:ownKnob aj.godebug=none:=by kernel_rfl
theorem laidOut:laidOutB aj=true:=by kernel_rfl
theorem ET{g:Type}{l:TypeId×ak→g}{d:Func}{f:ChangeSpec}{a:ad}{c h:List (DataW g)}{before:List MemPlace}{j:FuncId}
  (z:d.resultTypes= #[4])(A: (d.params.toList.all fun t=>aj.readableRec t && decide (t < aj.types.size))=true)(o:f.vars=[])
  (n:DataW.Whole l aj d.params.toList f.vars false a args.toList c h before)
  (i:f.fn g (c++h)={results:=[.lit (.bool true)],args:=c})
  (w:ao aj j args a fun e b=>e=ap (ah true)∧Below a a b):
  ao aj j args a fun e b=> ∃ v,e=ap v∧f.post l aj d false true false false a args v b:=by
 refine w.mono fun e b ⟨x,k⟩=>?_;subst x;have u:=n;obtain ⟨p,q,m,s,rfl,B,C⟩:=n;have y:=zx _ _ _ _ m;rw [o] at s;refine ⟨_,rfl,c,h,_,[],p,[],u,?_,?_,?_,k.frame _,fun r=>by cases r⟩
 ·rw [i,z];exact trodAll_mk1 (shut_bool Tryz.underlying4 true)
 ·rw [i];exact zw laidOut k _ _ _ _ A m y
 ·rw [i,o];rfl
end
section
open Go.RowKit
structure dD (w d:ad):Prop where
 cell: ∀ b o v,w.cell? ⟨b,o,V⟩=Z v→d.cell? ⟨b,o,V⟩=Z v
 size:w.heap.size≤d.heap.size
theorem dD.trans{a b:ad}(d:dD a b)(k:dD b c):dD a c:=⟨fun x o v q=>k.cell x o v (d.cell x o v q),bZ d.size k.size⟩
theorem Y.ex(a:Y w d):dD w d:=⟨fun _ _ _ q=>a.I q,a.le⟩
theorem gN(a:w.cell? ⟨b,o,V⟩=Z v):b < w.heap.size:=by
 rcases dC b w with k|k
 ·exact k
 ·unfold World.cell? at a;rw[show w.heap[b]?=V from hj k]at a;simp at a
theorem cell_of_block(a:d.heap[b]?=w.heap[b]?)(o:Nat):d.cell? ⟨b,o,V⟩=w.cell? ⟨b,o,V⟩:=by
 unfold World.cell?;rw[a]
theorem AM(b F k:Nat): (⟨b,F,V⟩:ai).add k=⟨b,F+k,V⟩:=by unfold Addr.add;split <;> simp_all
def eb (w:ad):Option Nat→ad
 |none=>w
 |some g=>{w with heap:=w.heap.setIfInBounds g (X #[] 0 (0,0))}
theorem lP(w:ad)(r:Option Nat): (eb w r).heap.size=w.heap.size:=by
 cases r with
 |none=>rfl
 |some g=>simp[eb]
theorem hT: (eb w r).cell? ⟨b,o,V⟩=Z v↔r≠Z b∧w.cell? ⟨b,o,V⟩=Z v:=by
 cases r with
 |none=>simp[eb]
 |some g=>
  by_cases e:g=b
  ·subst e;simp only[ne_eq,not_true_eq_false,false_and,iff_false];intro a;have c:=gN a;rw[lP]at c;unfold World.cell? eb at a;simp only[z2]at a;rw[a9 trivial,a9 c]at a;simp at a
  ·have: (eb w (Z g)).heap[b]?=w.heap[b]?:=by
    simp only[eb,z2];rw[aS e]
   rw[cell_of_block this o];simp[e]
theorem xj(w:ad)(r:Option Nat):dD (eb w r) w:=⟨fun _ _ _ a=>(hT.1 a).2,by rw[lP];exact aG _⟩
theorem El(a:Y w d)(r:Option Nat):dD (eb w r) (eb d r):=
 ⟨fun b o v q=>hT.2 ⟨(hT.1 q).1,a.I (hT.1 q).2⟩,by rw[lP,lP];exact a.le⟩
theorem xk{a:Option Nat}(c:w.grownBy d r)(i:a=r∨a=Z w.heap.size):dD (eb w r) (eb d a):=by
 refine⟨fun b o v q=>?_,by rw[lP,lP];exact c.size⟩;obtain⟨f,g⟩:=hT.1 q;have h:=gN g;refine hT.2 ⟨?_,?_⟩
 ·rcases i with rfl|rfl
  ·exact f
  ·intro e;simp only[eS]at e;omega
 ·rw[cell_of_block (c.block b h (fun e=>f e.symm)) o];exact g
theorem lJ(a:dD w d){r:Option Nat}(c: ∀ g,r=Z g→w.heap.size≤g):dD w (eb d r):=
 ⟨fun b o v q=>hT.2 ⟨fun e=>by have:=c b e;have:=gN q;omega,a.cell b o v q⟩,by rw[lP];exact a.size⟩
abbrev dK (D:Type):=ad→D→List ak→Prop
def fQ {D:Type} (s:dK D):Prop:=∀ w d x vs,dD w d→s w x vs→s d x vs
structure bo {D:Type} (s:dK D) (k:Nat) (w:ad) (h:Option ai) (n cap:Nat) (l:List D):Prop where
 len:l.length=n
 dj:n≤cap
 dr:cap≤maxLen
 none:h=V→cap=0
 cells: ∃ b F,(0 < n→h=Z ⟨b,F,Option.none⟩∧b < w.heap.size)∧∀ (i:Nat) (x:D),l[i]?=Z x→∃ vs:List ak,vs.length=k∧(∀ a∈vs,a.oneCell'=true)∧s w x vs∧∀ j a,vs[j]?=Z a→w.cell? ⟨b,F+i * k+j,Option.none⟩=Z a
theorem bo.ex{s:dK D}(y:fQ s){k:Nat}{w d:ad}{h:Option ai}{n cap:Nat}{l:List D}(o:bo s k w h n cap l)(a:dD w d):bo s k d h n cap l:=by
 obtain ⟨p,r,t,u,b,F,c,v⟩:=o;refine ⟨p,r,t,u,b,F,fun q=>⟨(c q).1,dR (c q).2 a.size⟩,fun i x z=>?_⟩;obtain ⟨vs,e,f,g,m⟩:=v i x z;exact ⟨vs,e,f,y _ _ _ _ a g,fun j B A=>a.cell _ _ _ (m j B A)⟩
theorem bo.I{s:dK D}(b:fQ s){k:Nat}{w d:ad}{h:Option ai}{n cap:Nat}{l:List D}(a:bo s k w h n cap l)(c:Y w d):bo s k d h n cap l:=a.ex b c.ex
theorem bo.nil(s:dK D)(k:Nat)(w:ad):bo s k w Option.none 0 0 []:=
 ⟨rfl,aG _,aJ _,fun _=>rfl,0,0,fun q=>absurd q K,fun i x a=>by simp at a⟩
theorem bo.one{s:dK D}{x:D}(n:0 < k)(g:1≤cap)(l:cap≤maxLen)(h:vs.length=k)(e: ∀ a∈vs,a.oneCell'=true)(m:s w x vs)
  (d: ∀ j a,vs[j]?=Z a→w.cell? ⟨b,F+j,Option.none⟩=Z a):bo s k w (Z ⟨b,F,Option.none⟩) 1 cap [x]:=by
 have f:b < w.heap.size:=gN (d 0 (vs[0]'K) (cP _));refine⟨rfl,g,l,fun q=>(by cases q),b,F,fun _=>⟨rfl,f⟩,fun i y c=>?_⟩;obtain rfl:i=0:=by
  have:=(c3.1 c).1;simp at this;exact this
 obtain rfl:x=y:=by simpa using c
 exact⟨vs,h,e,m,by simpa using d⟩
structure bi {D:Type} (s:dK D) (k:Nat) (z:TypeId) (w:ad) (base:Nat) (h:Option ai) (n cap:Nat) (l:List D):Prop where
 len:l.length=n
 row: ∃ E:List (List ak),E.length=n∧(∀ vs∈E,vs.length=k∧∀ a∈vs,a.oneCell'=true)∧w.ownsRow base z k (ac h n cap) n E.flatten∧
  ∀ (i:Nat) (x:D) (vs:List ak),l[i]?=Z x→E[i]?=Z vs→s (eb w (Value.ownBlock (ac h n cap))) x vs
theorem s8(c: ∀ vs∈E,vs.length=k){i j:Nat}{vs:List ak}(b:E[i]?=Z vs)(f:j < k):E.flatten[i * k+j]?=vs[j]?:=by
 induction E generalizing i with
 |nil=>simp at b
 |cons a r ih=>
  have e:a.length=k:=c a J;cases i with
  |zero=>
   simp only[mV,eS]at b;subst b;rw[jG,cv,uV,kN K]
  |succ i=>
   rw[uV,jE (by rw[jI];omega),e,show(i+1) * k+j - k=i * k+j by rw[jI];omega];exact ih (fun vs d=>c vs (by simp[d])) (by simpa using b)
theorem qB(b: ∀ vs∈E,vs.length=k):E.flatten.length=E.length * k:=by
 induction E with
 |nil=>simp
 |cons a r ih=>rw[uV,dG,b a J,ih (fun vs c=>b vs (by simp[c])),fY,jI];omega
theorem bi.fv{s:dK D}(u:fQ s){k:Nat}{z:TypeId}{w:ad}{base:Nat}{h:Option ai}{n cap:Nat}{l:List D}(a:bi s k z w base h n cap l):bo s k w h n cap l:=by
 obtain ⟨o,E,N,d,⟨P,r⟩,t⟩:=a;rcases r with ⟨e,rfl⟩|⟨g,L,M,e,Q,c,F,C,R,G⟩
 ·simp only [iA] at e;obtain ⟨rfl, -,rfl⟩:=e;obtain rfl:l=[]:=gH.1 o;exact bo.nil s k w
 ·simp only [iA,true_and] at e;obtain ⟨rfl,rfl⟩:=e;have y:g < w.heap.size:=by
   rcases dC g w with q|q
   ·exact q
   ·rw [hj q] at c;cases c
  refine ⟨o,F,C,fun q=>(by cases q),g,0,fun _=>⟨rfl,y⟩,fun i x f=>?_⟩;have A:i < n:=by have:=(c3.1 f).1;omega
  have p:E[i]?=Z (E[i]'K):=cP _;obtain ⟨I,J⟩:=d (E[i]'K) (hI _);refine ⟨E[i]'K,I,J,u _ _ _ _ (xj _ _) (t i x _ f p),fun j S m=>?_⟩;have B:j < k:=by have:=(c3.1 m).1;omega
  have b:=s8 (fun vs a=>(d vs a).1) p B;rw [m,←G] at b;have v:i * k+j < n * k:=by
   have: (i+1) * k≤n * k:=kS k A;rw [jI] at this;omega
  rw [rU v] at b;unfold World.cell?;rw [c];simpa using b
theorem bi.nil(s:dK D)(k:Nat)(z:TypeId)(w:ad)(base:Nat):bi s k z w base V 0 0 []:=
 ⟨rfl,[],rfl,fun _ a=>(by cases a),⟨J,.inl ⟨rfl,rfl⟩⟩,fun i x vs a=>by simp at a⟩
theorem bi.fresh(s:dK D)(k:Nat)(z:TypeId){w:ad}{b base:Nat}(c:b=w.heap.size)(a:base≤b):bi s k z (H w (X #[] z)) base (Z ⟨b,0,V⟩) 0 0 []:=by
 subst c;exact⟨rfl,[],rfl,fun _ a=>(by cases a),⟨J,.inr ⟨w.heap.size,0,#[],rfl,a,(by show(w.heap.push (X #[] z))[w.heap.size]?=_;simp),aG _,aJ _,J,J⟩⟩,fun i x vs a=>by simp at a⟩
theorem bi.lower{s:dK D}{base2:Nat}{l:List D}(c:bi s k z w base h n cap l)(o:base2≤base):bi s k z w base2 h n cap l:=by
 obtain⟨q,E,d,f,⟨i,j⟩,m⟩:=c;refine⟨q,E,d,f,⟨i,?_⟩,m⟩;rcases j with e|⟨g,a,b,e,p,rest⟩
 ·exact .inl e
 ·exact .inr ⟨g,a,b,e,bZ o p,rest⟩
theorem bi.I{s:dK D}(u:fQ s){k:Nat}{z:TypeId}{w d:ad}{base:Nat}{h:Option ai}{n cap:Nat}{l:List D}(j:bi s k z w base h n cap l)(b:Y w d):bi s k z d base h n cap l:=by
 obtain ⟨A,E,m,o,⟨p,r⟩,t⟩:=j;refine ⟨A,E,m,o,⟨p,?_⟩,fun i x vs y C=>u _ _ _ _ (El b _) (t i x vs y C)⟩;rcases r with e|⟨g,c,f,e,v,a,rest⟩
 ·exact .inl e
 ·refine .inr ⟨g,c,f,e,v,?_,rest⟩;have B:g < w.heap.size:=by
   rcases dC g w with q|q
   ·exact q
   ·rw [hj q] at a;cases a
  rw [b.block g B];exact a
theorem bi.lt{s:dK D}{l:List D}(d:bi s k z w base h n cap l): ∀ g,Value.ownBlock (ac h n cap)=Z g→base≤g∧g < w.heap.size:=by
 obtain⟨u,E,o,p,⟨r,f⟩,t⟩:=d;intro g a;rcases f with⟨e, -⟩|⟨c,j,m,e,i,b,rest⟩
 ·rw[e]at a;simp[Value.ownBlock]at a
 ·rw[e]at a;simp only[Value.ownBlock,eS]at a;subst a;refine⟨i,?_⟩;rcases dC c w with q|q
  ·exact q
  ·rw[hj q]at b;cases b
theorem bi.aC{s:dK D}{a:ad}{l:List D}(f:bi s k z w base h n cap l)(e:w.grownBy d (Value.ownBlock (ac h n cap)))(b:Y a w)(c:a.heap.size≤base):Y a d:=
 kP b e b.le (fun q g=>bZ c (f.lt q g).1)
section
variable {s : dK D} {A : TypeId}
structure jc (P:Program) (A z:TypeId) (k bytes:Nat):Prop where
 under:P.underlying A=some (.slice z)
 IU: ∃ i a,P.info? z=some i∧i.zero=some a∧i.size=k∧i.bytes=bytes∧a.cells.size=k
 pos:0 < k
theorem yS(an:fQ s){bytes:Nat}(aW:jc P A z k bytes){w:ad}(M:TypeId){base:Nat}(aI:base≤w.heap.size){h:Option ai}{n cap:Nat}{l:List D}(ay:bi s k z w base h n cap l)
  {ae:Option ai}{m Q:Nat}{r:List D}(t:bo s k (eb w (Value.ownBlock (ac h n cap))) ae m Q r)(aH:n+m≤maxLen)(aK: (n+m) * bytes≤140737488355328):
  ∃ p o d,(Builtin.append_ #[A,A] M #[ac h n cap,ac ae m Q]).run P w= .ok (ac p (n+m) o) d∧bi s k z d base p (n+m) o (l++r)∧w.grownBy d (Value.ownBlock (ac h n cap))∧(Value.ownBlock (ac p (n+m) o)=Value.ownBlock (ac h n cap)∨Value.ownBlock (ac p (n+m) o)=Z w.heap.size):=by
 obtain ⟨v,⟨i,aS,aq,aQ,aP,aJ,aR⟩,av⟩:=aW;have bf:=t.ex an (xj _ _);have a7: ∀ a,ae=Z a→a.spot=V→(∃ b F,a=⟨b,F,V⟩∧∀ j x,r[j]?=Z x→∃ vs:List ak,vs.length=k∧(∀ c∈vs,c.oneCell'=true)∧s (eb w (Value.ownBlock (ac h n cap))) x vs∧∀ q c,vs[q]?=Z c→w.cell? ⟨b,F+j * k+q,Option.none⟩=Z c)→
   ∃ p o d,(Builtin.append_ #[A,A] M #[ac h n cap,ac ae m Q]).run P w= .ok (ac p (n+m) o) d∧bi s k z d base p (n+m) o (l++r)∧w.grownBy d (Value.ownBlock (ac h n cap))∧(Value.ownBlock (ac p (n+m) o)=Value.ownBlock (ac h n cap)∨Value.ownBlock (ac p (n+m) o)=Z w.heap.size):=by
  rintro a rfl be ⟨b,F,rfl,aM⟩;obtain ⟨L,E,C,I,N,S⟩:=ay;have a2: ∃ B:List (List ak),B.length=m∧∀ j x us,r[j]?=Z x→B[j]?=Z us→us.length=k∧(∀ c∈us,c.oneCell'=true)∧s (eb w (Value.ownBlock (ac h n cap))) x us∧∀ q c,us[q]?=Z c→w.cell? ⟨b,F+j * k+q,Option.none⟩=Z c:=by
   refine ⟨(List.range m).map fun j=>if f:j < r.length then Classical.choose (aM j r[j] (cP f)) else [],J,fun j x us f v=>?_⟩;obtain ⟨G,a6⟩:=c3.1 f;rw [mW,uW (by rw [←t.len];exact G)] at v;simp only [iz,eS,dif_pos G] at v;subst v;have:=Classical.choose_spec (aM j r[j] (cP G));rw [←a6];exact this
  obtain ⟨B,am,aC⟩:=a2;have ab: ∀ us∈B,us.length=k∧∀ c∈us,c.oneCell'=true:=fun us u=>by
   obtain ⟨j,G,rfl⟩:=pA.1 u;have ar:j < r.length:=by rw [t.len];omega
   have:=aC j r[j] B[j] (cP ar) (cP G);exact ⟨this.1,this.2.1⟩
  obtain ⟨aE,d,az,aa,T,a4,W⟩:=run_append_own_at (P:=P) w base A M z i aS k bytes v aq aQ aP aJ aR av (ac h n cap) n E.flatten N ⟨b,F,V⟩ m Q B.flatten (by rw [qB (fun us R=>(ab us R).1),am])
   (by
    intro j c f;have G:=(c3.1 f).1;rw [qB (fun us R=>(ab us R).1),am] at G;have al:j / k < m:=Nat.div_lt_of_lt_mul (by rw [pB];exact G);have ar:j / k < r.length:=by rw [t.len];exact al
    have aO:j / k < B.length:=by rw [am];exact al
    have e:j=j / k * k+j % k:=by rw [pB];exact (Nat.div_add_mod j k).symm
    have a3:=Nat.mod_lt j av;have aN:=s8 (fun us R=>(ab us R).1) (cP aO) a3;rw [←e,f] at aN;have aL:=(aC (j / k) r[j / k] B[j / k] (cP ar) (cP aO)).2.2.2 (j % k) c aN.symm;have aX:=AM b F j;rw [aX];have aV:F+j / k * k+j % k=F+j:=K;rw [aV] at aL;exact aL)
   (by
    intro c u;obtain ⟨us,C,I⟩:=List.mem_flatten.1 u;exact (ab us C).2 c I) aH aK aI
  have aD: ∃ p o,aE=ac p (n+m) o:=by
   rcases aa.2 with ⟨e,ax⟩|⟨g,aT,aU,e,rest⟩
   ·exact ⟨V,0,by rw [e,ax]⟩
   ·exact ⟨_,_,e⟩
  obtain ⟨p,o,rfl⟩:=aD;refine ⟨p,o,d,az,⟨by rw [dG,L,t.len],E++B,by simp [C,am],fun vs y=>?_,by rw [oo];exact aa,fun j x vs f y=>?_⟩,T,W⟩
  ·rcases cu.1 y with q|q
   ·exact I vs q
   ·exact ab vs q
  ·refine an _ _ _ _ (xk T W) ?_;rcases dC j n with q|q
   ·rw [kN K] at f y;exact S j x vs f y
   ·rw [jE K] at f y;rw [L] at f;rw [C] at y;exact (aC _ x vs f y).2.2.1
 obtain ⟨b,F,aY,aZ⟩:=t.cells;cases ag:ae with
 |none=>
  have a1:=t.none ag;have u:m=0:=by have:=t.dj;omega
  subst u a1;have aA:r=[]:=gH.1 t.len;subst aA;obtain ⟨L,E,C,I,N,S⟩:=ay;have a5:=uO (P:=P) (w:=w) base A M z i k v aq _ n E.flatten N;exact ⟨h,cap,w,by simpa using a5,by simpa using ⟨L,E,C,I,N,S⟩,⟨rfl,rfl,rfl,aG _,fun _ _ _=>rfl⟩,.inl rfl⟩
 |some aF=>
  rcases gm m with u|u
  ·subst u;have aA:r=[]:=gH.1 t.len;subst aA;obtain ⟨L,E,C,I,N,S⟩:=ay;obtain ⟨aE,d,az,aa,T,a4,W⟩:=run_append_own_at (P:=P) w base A M z i aS k bytes v aq aQ aP aJ aR av (ac h n cap) n E.flatten N aF 0 Q [] J (by intro j c f;simp at f) (by intro c v;cases v) aH aK aI;have aD: ∃ p o,aE=ac p (n+0) o:=by
    rcases aa.2 with ⟨e,ax⟩|⟨g,aT,aU,e,rest⟩
    ·exact ⟨V,0,by rw [e,ax]⟩
    ·exact ⟨_,_,e⟩
   obtain ⟨p,o,rfl⟩:=aD;refine ⟨p,o,d,az,⟨by simpa using L,E,C,I,by simpa using aa,fun j x vs f y=>an _ _ _ _ (xk T W) (S j x vs (by simpa using f) y)⟩,T,W⟩
  ·obtain ⟨e,bd⟩:=aY u;rw [ag] at e;simp only [eS] at e;rw [←ag];refine a7 aF ag (by rw [e]) ⟨b,F,e,fun j x f=>?_⟩;obtain ⟨vs,a8,a9,bb,bc⟩:=aZ j x f;exact ⟨vs,a8,a9,bb,fun q c al=>(hT.1 (bc q c al)).2⟩
theorem mH(t:fQ s){bytes:Nat}(u:jc P A z k bytes){w:ad}{o:Oper}{a:Act}{Q:Act→ad→Prop}{G:Exit→Act→ad→Prop}(g x:Operand)
  (B:o.op= .call {callee:= .builtin .append,args:= #[g,x],argTypes:= #[A,A]})
  {base:Nat}(v:base≤w.heap.size){h:Option ai}{n cap:Nat}{l:List D}(F:a.eval g=ac h n cap)(C:bi s k z w base h n cap l)
  {f:Option ai}{m e:Nat}{i:List D}(J:a.eval x=ac f m e)(I:bo s k (eb w (Value.ownBlock (ac h n cap))) f m e i)(r:n+m≤maxLen)(y: (n+m) * bytes≤140737488355328)
  (j: ∀ c b d,bi s k z d base c (n+m) b (l++i)→w.grownBy d (Value.ownBlock (ac h n cap))→Q (a.put o.dst (ac c (n+m) b)) d):Oper.wp P o a w Q G:=by
 obtain⟨c,b,d,E,p,q, -⟩:=yS t u (w:=w) o.type v C I r y;have:=j c b d p q;unfold Oper.wp execOp;simp only[B,resolve,invoke,builtin,n4,Sem.run_pure,uy,uz,kc,rz,F,J,E];exact this
theorem gF(u:fQ s){bytes:Nat}(v:jc P A z k bytes){w:ad}{o:Oper}{a:Act}{Q:Act→ad→Prop}{G:Exit→Act→ad→Prop}(g x:Operand)
  (C:o.op= .call {callee:= .builtin .append,args:= #[g,x],argTypes:= #[A,A]})
  {base:Nat}(y:base≤w.heap.size){h:Option ai}{n cap:Nat}{l:List D}(I:a.eval g=ac h n cap)(E:bi s k z w base h n cap l)
  {f:Option ai}{m e:Nat}{i:List D}(K:a.eval x=ac f m e)(J:bo s k (eb w (Value.ownBlock (ac h n cap))) f m e i)(t:n+m≤maxLen)(B: (n+m) * bytes≤140737488355328)
  (j: ∀ c b d,bi s k z d base c (n+m) b (l++i)→w.grownBy d (Value.ownBlock (ac h n cap))→(Value.ownBlock (ac c (n+m) b)=Value.ownBlock (ac h n cap)∨Value.ownBlock (ac c (n+m) b)=Z w.heap.size)→Q (a.put o.dst (ac c (n+m) b)) d):Oper.wp P o a w Q G:=by
 obtain⟨c,b,d,F,p,q,r⟩:=yS u v (w:=w) o.type y E J t B;have:=j c b d p q r;unfold Oper.wp execOp;simp only[C,resolve,invoke,builtin,n4,Sem.run_pure,uy,uz,kc,rz,I,K,F];exact this
theorem uw(t:fQ s){bytes:Nat}(v:jc P A z k bytes){w:ad}{B:Array Oper}{rest:List Oper}{o:Oper}{a:Act}{G:Exit→Act→ad→Prop}(E:o.guard=V)(e x:Operand)
  (F:o.op= .call {callee:= .builtin .append,args:= #[e,x],argTypes:= #[A,A]})
  {base:Nat}(y:base≤w.heap.size){h:Option ai}{n cap:Nat}{l:List D}(J:a.eval e=ac h n cap)(I:bi s k z w base h n cap l)
  {g:Option ai}{m f:Nat}{i:List D}(L:a.eval x=ac g m f)(K:bo s k (eb w (Value.ownBlock (ac h n cap))) g m f i)(r:n+m≤maxLen)(C: (n+m) * bytes≤140737488355328)
  (j: ∀ c b d,bi s k z d base c (n+m) b (l++i)→w.grownBy d (Value.ownBlock (ac h n cap))→wpList P B G rest (a.put o.dst (ac c (n+m) b)) d):wpList P B G (o::rest) a w:=
 rW E fun _ u=>mH t v e x F y J I L K r C fun c b d p q=>u _ _ (j c b d p q)
end
end
section
section
variable {A : Array Bool → ad → Prop} {z : ad → Prop} {m l : Nat}
def dy (P:Program) (L:Region.Mode) (B:Array Oper) (G:Exit→Act→ad→Prop) (A:Array Bool→ad→Prop):Nat→Array Bool→Act→ad→Prop
 |0,u,a,w=>Region.ready L B u=[]∧G .normal a w
 |ca+1,u,a,w=>(Region.ready L B u=[]→G .normal a w)∧∀ j∈Region.ready L B u,wpOp P B G j (fun b d=>A (u.setIfInBounds j true) d∧dy P L B G A ca (u.setIfInBounds j true) b d) a w
theorem uv: ∀ (ca:Nat) (u:Array Bool) (a:Act) (w:ad),dy P L B G A ca u a w→wpAny P L B G ca u a w
 |0,_,_,_,b=>b
 |ca+1,_,_,_,b=>⟨b.1,fun j f=>wpOp_mono (fun c d e=>uv ca _ c d e.2) (b.2 j f)⟩
theorem IH{ok:Oper}(y:B[k]?=Z ok)(N: ∀ (j:Nat) (o:Oper) n b,B[j]?=Z o→o.op≠ .select n b)
  (T: ∀ c a w,G (.panic c) (a.put ok.dst v) w→G (.panic c) a w)(M: ∀ u w,A u w→A (u.setIfInBounds k true) w)
  (ab: ∀ (u:Array Bool) (j:Nat) (av w:ad),A u av→k∈Region.ready L B u→j∈Region.ready L B u→j≠k→A ((u.setIfInBounds j true).setIfInBounds k true) w→A (u.setIfInBounds j true) w)
  (F: ∀ u w,A u w→k∈Region.ready L B u→z w):
  ∀ (ca:Nat) (u:Array Bool) (a:Act) (w:ad),
   (∀ j i,B[j]?=Z i→j≠k→u.getD j true=false→(∀ e∈i.after,Region.binds L e=true→e.on≠k)→ok.apart B i=true)→
   k∈Region.ready L B u→YieldsIf P B z ok v a→A u w→
   dy P L B G A ca (u.setIfInBounds k true) (a.put ok.dst v) w→dy P L B G A (ca+1) u a w:=by
 intro ca;induction ca with
 |zero=>
  intro u a w _ f s l m;refine ⟨fun t=>(by rw [t] at f;cases f),fun j q=>?_⟩;by_cases g:j=k
  ·subst g;exact s.wpOp y (F u w l f) ⟨M u w l,m⟩
  ·have:=n9 q g;rw [m.1] at this;cases this
 |succ ca ih=>
  intro u a w I f s l m;refine ⟨fun t=>(by rw [t] at f;cases f),fun j q=>?_⟩;by_cases g:j=k
  ·subst g;exact s.wpOp y (F u w l f) ⟨M u w l,m⟩
  ·have h:=m.2 j (n9 q g);obtain ⟨K,i,C,W⟩:=mO.1 q;have an: ∀ e∈i.after,Region.binds L e=true→e.on≠k:=fun e ae aa ag=>by
    have h:=W e ae aa;have D:=(mO.1 f).1;rw [ag] at h;rcases dC k u.size with x|x
    ·simp [x] at D h;rw [D] at h;cases h
    ·simp [hj x] at h
   have S:=wpOp_putIf C (I j i C g K an) (fun n b=>N k ok n b y) (fun n b=>N j i n b C) T s h;have al: ∀ p op,B[p]?=Z op→p≠k→(u.setIfInBounds j true).getD p true=false→(∀ e∈op.after,Region.binds L e=true→e.on≠k)→ok.apart B op=true:=fun p op aq ar Q am=>by
    refine I p op aq ar ?_ am;by_cases J:j=p
    ·subst J;exact K
    ·rw [jC true J] at Q;exact Q
   refine wpOp_mono (fun R d r=>?_) S;rw [Array.setIfInBounds_comm _ _ (Ne.symm g)] at r;have E:=ab u j w d l f q g r.2.1;exact ⟨E,ih (u.setIfInBounds j true) R d al (n9 f (Ne.symm g)) r.1 E r.2.2⟩
theorem td(a: (u.setIfInBounds j true).getD k true=false):u.getD k true=false∧k≠j:=by
 by_cases e:j=k
 ·subst e;rcases dC j u.size with q|q
  ·simp[q]at a
  ·simp[q,hj]at a
 ·rw[jC true e]at a;exact⟨a,Ne.symm e⟩
def lN (L:Region.Mode) (B:Array Oper) (x y:Nat):Bool:=((B[x]?).map fun o=>o.after.any fun e=>Region.binds L e && e.on==y).getD false
theorem w9{x:Nat}(a:lN L B x y=true)(g:x∈Region.ready L B u):u.getD y false=true:=by
 obtain⟨-,o,f,b⟩:=mO.1 g;unfold lN at a;rw[f]at a;simp only[iz,kF]at a;rw[rO]at a;simp only[fZ,ma]at a;obtain⟨e,d,c,rfl⟩:=a;exact b e d c
theorem E8(a:u.getD y false=true):u.getD y true≠false:=by
 rcases dC y u.size with q|q
 ·simp[q]at a ⊢;exact a
 ·simp[hj q]at a
end
end
section
open Go.BigFrame Go.RowKit
structure aN where
 key:ByteArray
 val:ByteArray
 deriving Inhabited,DecidableEq
def cN (l:List aN) (i:Nat):aN:=l.getD i ⟨ByteArray.empty,ByteArray.empty⟩
def bJ (l:List aN) (i:Nat):ByteArray:=(cN l i).key
def dx (l:List aN) (i:Nat):ByteArray:=(cN l i).val
theorem fL{l:List aN}(a:i < l.length):cN l i=l[i]:=by
 unfold cN;rw[h2,cP a];rfl
structure bk (w:ad) (h:Option ai) (n cap:Nat) (l:List aN):Prop where
 len:l.length=n
 dj:n≤cap
 dr:cap≤maxLen
 none:h=V→cap=0
 cells: ∃ b F,(0 < n→h=Z ⟨b,F,Option.none⟩∧b < w.heap.size)∧∀ i,i < n→w.cell? ⟨b,F+i * 2,Option.none⟩=Z (af (bJ l i))∧w.cell? ⟨b,F+i * 2+1,Option.none⟩=Z (af (dx l i))
 eD: ∀ i,i < n→(bJ l i).size≤maxLen∧(dx l i).size≤maxLen
theorem iR(cap:Nat)(a:0 < n→h=Z ⟨b,F,V⟩){k:Nat}(c:k < n)(w:ad):
  (Instr.indexAt 37 (ac h n cap) (O U (k:Int))).run aj w= .ok (au (Z ⟨b,F+k * 2,V⟩)) w:=by
 rw[a K];go_simp
theorem nP(cap:Nat)(c:0 < n→h=Z ⟨b,F,V⟩){k:Int}(a:0≤k)(d:k < n)(w:ad):
  (Instr.indexAt 37 (ac h n cap) (O U k)).run aj w= .ok (au (Z ⟨b,F+k.toNat * 2,V⟩)) w:=by
 obtain⟨m,rfl⟩:=fP a;exact iR cap c K w
def place (key:ByteArray):List aN→Nat
 |[]=>0
 |r::l=>if a3.cmp (aF r.key) (aF key) < 0 then place key l+1 else 0
theorem lf(key:ByteArray)(l:List aN):place key l≤l.length:=by
 induction l with
 |nil=>exact aG _
 |cons r l ih=>simp only[place];split <;> simp <;> omega
theorem yt{l:List aN}(c:k < l.length)(a:k≤place key l)(b:a3.cmp (aF (bJ l k)) (aF key) < 0):k+1≤place key l:=by
 induction l generalizing k with
 |nil=>simp at c
 |cons r l ih=>
  cases k with
  |zero=>simp only[place];rw[a9 (by exact b)];omega
  |succ k=>
   simp only[place]at a ⊢;split
   ·rename_i q;rw[a9 q]at a;have:=ih (k:=k) (by simpa using c) K (by exact b);omega
   ·rename_i q;rw[aS q]at a;omega
theorem yu{l:List aN}(c:k < l.length)(a:k≤place key l)(b: ¬a3.cmp (aF (bJ l k)) (aF key) < 0):place key l=k:=by
 induction l generalizing k with
 |nil=>simp at c
 |cons r l ih=>
  cases k with
  |zero=>simp only[place];rw[aS (by exact b)]
  |succ k=>
   simp only[place]at a ⊢;split
   ·rename_i q;rw[a9 q]at a;rw[ih (k:=k) (by simpa using c) K (by exact b)]
   ·rename_i q;rw[aS q]at a;omega
theorem yq(h:Option ai)(n cap:Nat)(l:List aN)(key:ByteArray)(w:ad)(a:bk w h n cap l)(t:key.size≤maxLen):
  ao aj 113 #[ac h n cap,key] w fun e d=>e=ap (O U (place key l))∧cR w d:=by
 obtain⟨b,F,j,g⟩:=a.cells;have o:=N g;have r:=N (fun q=>(j q).1);have c:=N a;have z:=a.dj;have u:=a.dr;have v:=lf key l;rw[a.len]at v;unfold maxLen at u;clear g j a;go_enter Tryz.func113,Tryz.ntmps113;go_wp2;go_loopw[5] (fun i wr=> ∃ k:Nat,k≤n∧i=O U k∧k≤place key l∧cR w wr) (fun i _=>n - (intOf i).toNat)
 case atStart=>exact⟨0,aJ _,rfl,aJ _,cR.refl _⟩
 case round=>
  obtain⟨k,t,rfl,m,s,rfl⟩:=hrel;by_cases f:k < n
  ·have y:=(o.out k f).1;have A:=(c.out.eD k f).1;have x:=iR cap r.out f;go_wp2_with(go_at_call 93;(with_reducible refine(gO _ _ _ ch ch).mono ?_);rintro e d ⟨rfl,s,rfl⟩)
   ·go_roundw
    case rel=>exact⟨k+1,K,e9,yt (by have:=c.out.len;omega) m ch,_,rfl⟩
    case measure=>simp[intOf];omega
   ·have e:=yu (key:=key) (l:=l) (by have:=c.out.len;omega) m K;go_ret;exact⟨by rw[e];rfl,_,rfl⟩
  ·obtain rfl:k=n:=by omega
   have e:place key l=k:=K;have p:=N e;clear e;go_wp2;go_ret;exact⟨by rw[p.out];rfl,_,rfl⟩
end
section
open Go.RowKit
structure ae (w:ad) (b:Nat) (vs:List ak):Prop where
 aM:w.rangeAt b 0 vs
 may:w.there b 0 vs.length
theorem ae.cell(c:ae w b vs)(j:Nat){a:ak}(d:vs[j]?=Z a):w.cell? ⟨b,j,V⟩=Z a:=by
 have:=c.aM j a d;rwa[cv]at this
theorem ae.free(a:ae w b vs)(j:Nat)(c:j < vs.length):w.frozen? ⟨b,j,V⟩=false:=by
 have:=(a.may j c).2;rwa[cv]at this
theorem Y.range(e:Y w d){b o:Nat}{a:List ak}(c:w.rangeAt b o a):d.rangeAt b o a:=fun j v f=>e.I (c j v f)
theorem Y.ta(e:Y w d){b o:Nat}{v:ak}(c:w.cell? ⟨b,o,V⟩=Z v)(a:w.frozen? ⟨b,o,V⟩=false):d.frozen? ⟨b,o,V⟩=false:=by
 rw[e.frozen (gN c)];exact a
theorem s0{a:Nat}{e:ak}(d:w.cell? ⟨b,o,V⟩=Z v)(c:b≠a): (w.setCell ⟨a,j,V⟩ e).cell? ⟨b,o,V⟩=Z v:=by
 rw [ot _ _ _ _ (fun q=>by have:=bB Addr.block q;first|exact c this|exact c this.symm)];exact d
theorem na{ob:Obj}(a:w.cell? ⟨b,o,V⟩=Z v): (H w ob).cell? ⟨b,o,V⟩=Z v:=((Y.refl w).alloc ob).I a
theorem oN(a:w.cell? ⟨b,o,V⟩=Z v):w.drew.cell? ⟨b,o,V⟩=Z v:=a
theorem ae.lt(a:ae w b vs)(c:0 < vs.length):b < w.heap.size:=by
 have d:vs[0]?=Z vs[0]:=cP c;exact gN (a.cell 0 d)
theorem ae.I(a:ae w b vs)(c:Y w d):ae d b vs:=
 ⟨fun j v k=>c.I (a.aM j v k),fun j g=>by
  have h:=a.lt K;obtain⟨e,f⟩:=a.may j g;obtain⟨l,i⟩:=pC.1 e;exact⟨by rw[c.I i];rfl,by rw[c.frozen h];exact f⟩⟩
theorem ae.new(w:ad)(vs:Array ak)(z:TypeId){b:Nat}(c:b=w.heap.size):ae (H w (X vs z)) b vs.toList:=by
 subst c;have a: ∀ j,(H w (X vs z)).cell? ⟨w.heap.size,j,V⟩=vs[j]?:=jD w vs z;refine⟨fun j v e=>by rw[cv,a];simpa using e,fun j d=>⟨?_,?_⟩⟩
 ·rw[cv,a,zU (by simpa using d)];rfl
 ·unfold World.frozen?;rw[show(H w (X vs z)).heap[w.heap.size]?=Z (X vs z (0,0))by show(w.heap.push (X vs z))[w.heap.size]?=_;simp];simp
theorem ae.of(a:ae w b vs)(e:vs=us):ae w b us:=e ▸ a
theorem ae.other(c:ae w b vs){b' j:Nat}(a:b'≠b)(h:ak):ae (w.setCell ⟨b',j,V⟩ h) b vs:=
 ⟨fun i v g=>by rw [ot _ _ _ _ (fun q=>by have:=bB Addr.block q;first|exact a this|exact a this.symm)];exact c.aM i v g,fun i f=>by
  obtain ⟨d,e⟩:=c.may i f;exact ⟨by rw [ot _ _ _ _ (fun q=>by have:=bB Addr.block q;first|exact a this|exact a this.symm)];exact d,(World.frozen?_setCell _ _ _ _).trans e⟩⟩
theorem ae.set(c:ae w b vs)(j:Nat)(h:ak):ae (w.setCell ⟨b,j,V⟩ h) b (vs.set j h):=by
 refine ⟨fun i v a=>?_,fun i d=>?_⟩
 ·rw [cv];by_cases e:i=j
  ·subst e;have g:i < vs.length:=by have:=(c3.1 a).1;simpa using this
   rw [l5 g] at a;cases a;exact World.cell?_setCell_same _ _ _ (c.cell i (cP g))
  ·rw [ll (fun q=>e q.symm)] at a;rw [ot _ _ _ _ (fun q=>by have:=bB Addr.off q;first|exact e this|exact e this.symm)];exact c.cell i a
 ·rw [jz] at d;obtain ⟨f,k⟩:=c.may i d;refine ⟨?_,(World.frozen?_setCell _ _ _ _).trans k⟩;rw [cv] at f ⊢;by_cases e:i=j
  ·subst e;rw [World.cell?_setCell_same _ _ _ (c.cell i (cP d))];rfl
  ·rw [ot _ _ _ _ (fun q=>by have:=bB Addr.off q;first|exact e this|exact e this.symm)];exact f
theorem ae.aR(a:ae w b vs)(c:us.length=vs.length):ae (ba w b 0 us) b us:=
 ⟨rB _ _ _ _ (by rw [c];exact a.may),by rw [c];exact rC a.may _ _ _⟩
theorem ae.others(a:ae w b vs){b':Nat}(c:b≠b')(us:List ak):ae (ba w b' 0 us) b vs:=
 ⟨eg a.aM _ _ _ (.inl c),rC a.may _ _ _⟩
theorem Y.setCells(a:Y w d){b:Nat}(c:w.heap.size≤b)(us:List ak): ∀ (o:Nat),Y w (ba d b o us):=by
 induction us generalizing d with
 |nil=>intro o;exact a
 |cons e us ih=>intro o;exact ih (a.setCell (p:=⟨b,o,V⟩) c e) (o+1)
theorem ae.e7(d:ae w b vs){c:Func}{p:Tmp}{M:TypeId}(i:c.results= #[.cell p M])(tmps:Array ak)(g:tmps.getD p undef=au (Z b))
  {a:TypeDesc}(j:P.underlying M=Z a)(e:a.isRow=true)(f: (P.info? M).map (·.size)=Z vs.length): (results c tmps).run P w= .ok (aw vs) w:=by
 have h:tmps[p]?.getD undef=au (Z b):=by simpa using g
 simp[results,i,h,asAddr,kD w b 0 M vs a d.aM j e f]
theorem ae.cK(e:ae w b vs){d:Func}{p c:Tmp}{M:TypeId}(j:d.results= #[.cell p M,.tmp c])(tmps:Array ak)(h:tmps.getD p undef=au (Z b)){v:ak}(l:tmps.getD c undef=v)
  {a:TypeDesc}(k:P.underlying M=Z a)(f:a.isRow=true)(g: (P.info? M).map (·.size)=Z vs.length): (results d tmps).run P w= .ok (a0 #[aw vs,v]) w:=by
 have i:tmps[p]?.getD undef=au (Z b):=by simpa using h
 have m:tmps[c]?.getD undef=v:=by simpa using l
 simp[results,j,i,m,asAddr,kD w b 0 M vs a e.aM k f g]
section
variable {A : ad → Prop} {ca : Nat} {a : Act} {op : Op} {M : TypeId} {pos : String} {eU : Array _} {T : Option (Nat × Bool)}
theorem dA(k:Nat)(b:Tmp)(j:B[k]?=Z ⟨Z b,op,M,pos,eU,T⟩)(n:YieldsIf P B A ⟨Z b,op,M,pos,eU,T⟩ v a)(g:A w){e:Act}(d:wpAnyH P L B G A ca (u.setIfInBounds k true) e w)
  (m:Region.noSelect B=true:=by kernel_rfl)(i:Region.free L B u k=true:=by kernel_rfl)(l: (Region.ready L B u).contains k=true:=by kernel_rfl)(f: ∀ c a w,G (.panic c) (a.put (Z b) v) w→G (.panic c) a w:=by exact fun _ _ _ d=>d)(h:a.put (Z b) v=e:=by(try simp only[bu]);exact rfl):wpAnyH P L B G A (ca+1) u a w:=fX j m i l f n g (h ▸ d)
theorem bV(k:Nat)(b:Tmp)(v:ak)(j:B[k]?=Z ⟨Z b,op,M,pos,eU,T⟩)(g:A w){e:Act}(d:wpAnyH P L B G A ca (u.setIfInBounds k true) e w)
  (m:Region.noSelect B=true:=by kernel_rfl)(i:Region.free L B u k=true:=by kernel_rfl)(l: (Region.ready L B u).contains k=true:=by kernel_rfl)(f: ∀ c a w,G (.panic c) (a.put (Z b) v) w→G (.panic c) a w:=by exact fun _ _ _ d=>d)
  (n:YieldsIf P B A ⟨Z b,op,M,pos,eU,T⟩ v a:=by exact .inl ⟨by rfl,by intro w o;go_simp⟩)(h:a.put (Z b) v=e:=by(try simp only[bu]);exact rfl):wpAnyH P L B G A (ca+1) u a w:=fX j m i l f n g (h ▸ d)
end
end
end Go.Proofs.YtbkmjhhpcinppaaGreatDoor
