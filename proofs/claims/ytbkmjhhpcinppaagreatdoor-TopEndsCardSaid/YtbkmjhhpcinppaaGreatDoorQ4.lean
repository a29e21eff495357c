import Derived.Test.YtbkmjhhpcinppaaGreatDoorQ3
namespace Go.Proofs.YtbkmjhhpcinppaaGreatDoor
set_option linter.unusedVariables false
set_option linter.defProp false
set_option linter.unusedSimpArgs false
set_option maxRecDepth 100000
set_option maxHeartbeats 40000000
open Ending renaming returned→ap
open Go renaming Addr→ai,Calls→ao,Value→ak,World→ad
open Go.Proofs.Tryz renaming prog→aj
open IntKind renaming i64→U
open Obj renaming cells→X
open Option renaming none→V,some→Z
open Value renaming agg→aw,bool→ah,int→O,pointer→au,slice→ac,string→af,tuple→a0
open World renaming alloc→H,setCells→ba
variable {A s y m l rows : List aN} {B h b base c d n : Nat} {high key low : ByteArray} {lim : Int} {o f : Option ai} {r x : aN} {u : Bool} {C D : List ak} {w j : ad}
section
open Go.BigFrame Go.RowKit Go.WideShapes
def gU (a b:aN):Prop:=a3.before (aF a.key) (aF b.key)=true
theorem rm{a b:ByteArray}(c:aF a=aF b):a=b:=bytes_inj c
theorem js(l:List aN):dO l=true↔(∀ r∈l,gf r=true)∧l.Pairwise gU:=by
 unfold dO;rw [dp];constructor
 ·intro d;refine ⟨fun r j=>?_,?_⟩
  ·obtain ⟨i,a,rfl⟩:=oq j;have:=(d i a).1;rwa [fL a] at this
  ·rw [lp];have key: ∀ b i,i+b+1 < l.length→gU (cN l i) (cN l (i+b+1)):=by
    intro b;induction b with
    |zero=>
     intro i a;have:=(d (i+1) a).2 K;rw [rY] at this;exact a3.hy.1 this
    |succ b ih=>
     intro i a;have e:=ih i K;have c:=(d (i+(b+1)+1) a).2 K;have g:=a3.hy.1 c;exact a3.before_trans e g
   intro i f a h m;have:=key (f - i - 1) i K;rw [show i+(f - i - 1)+1=f by omega,fL a,fL h] at this;exact this
 ·rintro ⟨e,c⟩ i a;refine ⟨?_,fun k=>?_⟩
  ·rw [fL a];exact e _ (hI a)
  ·rw [lp] at c;have:=c (i - 1) i K a K;unfold bJ;rw [fL a,fL K];exact a3.hy.2 this
theorem yv(key:ByteArray)(l:List aN): ∀ r∈l.take (place key l),a3.before (aF r.key) (aF key)=true:=by
 induction l with
 |nil=>simp
 |cons r l ih=>
  simp only[place];split
  ·rename_i q;intro x a;rw[rZ,bd]at a;rcases a with rfl|a
   ·exact a3.hy.1 q
   ·exact ih x a
  ·simp
theorem Ga(b:l.Pairwise gU): ∀ r∈l.drop (place key l),a3.before (aF r.key) (aF key)=false:=by
 induction l with
 |nil=>simp
 |cons r l ih=>
  rw[hJ]at b;simp only[place];split
  ·rw[uP];exact ih b.2
  ·rename_i q;have c:a3.before (aF r.key) (aF key)=false:=by
    have:=mt a3.hy.2 q;simpa using this
   intro x a;rw[List.drop_zero,bd]at a;rcases a with rfl|a
   ·exact c
   ·have d:=b.1 x a;cases e:a3.before (aF x.key) (aF key)
    ·rfl
    ·rw[a3.before_trans d e]at c;cases c
theorem yr{B:List aN}(c: ∀ r∈A,a3.before (aF r.key) (aF key)=true)(d: ∀ r∈B,a3.before (aF r.key) (aF key)=false):place key (A++B)=A.length:=by
 induction A with
 |nil=>
  cases B with
  |nil=>rfl
  |cons b B=>
   have:=d b J;simp only[gJ,place];rw[aS (fun q=>by rw[a3.hy.1 q]at this;cases this)];rfl
 |cons a A ih=>
  simp only[pQ,place];rw[a9 (a3.hy.2 (c a J)),ih (fun r e=>c r (by simp[e]))];rfl
structure gp (key:ByteArray) (l A y s:List aN):Prop where
 eq:l=A++y++s
 low: ∀ r∈A,a3.before (aF r.key) (aF key)=true
 fi: ∀ r∈y,r.key=key
 one:y.length≤1
 high: ∀ r∈s,a3.before (aF key) (aF r.key)=true
theorem vA(g:l.Pairwise gU)(b:hasB key l=true):gp key l (l.take (place key l)) [cN l (place key l)] (l.drop (place key l+1)):=by
 unfold hasB at b;rw[dp]at b;obtain⟨c,d⟩:=b;have e:l.drop (place key l)=cN l (place key l)::l.drop (place key l+1):=by rw[kQ c,fL c]
 refine⟨?_,yv key l,?_,J,?_⟩
 ·rw[lq,List.singleton_append,←e,jF]
 ·intro r a;rw[aO]at a;rw[a];exact d
 ·intro r a;have f: (l.drop (place key l)).Pairwise gU:=List.Pairwise.sublist (pR _ _) g;rw[e,hJ]at f;have:=f.1 r a;unfold gU at this;rw[show(cN l (place key l)).key=key from d]at this;exact this
theorem vB(g:l.Pairwise gU)(b:hasB key l=false):gp key l (l.take (place key l)) [] (l.drop (place key l)):=by
 unfold hasB at b;rw [hH] at b;refine ⟨by rw [me,jF],yv key l,J,J,?_⟩;have c: (l.drop (place key l)).Pairwise gU:=List.Pairwise.sublist (pR _ _) g;have h:=Ga (key:=key) g;rcases dC (place key l) l.length with a|a
 ·have e:l.drop (place key l)=cN l (place key l)::l.drop (place key l+1):=by rw [kQ a,fL a]
  have i: (cN l (place key l)).key≠key:=fun q=>b ⟨a,q⟩;have f:a3.before (aF key) (aF (cN l (place key l)).key)=true:=by
   rcases a3.before_total (aF key) (aF (cN l (place key l)).key) with q|q|q
   ·exact q
   ·exact absurd (rm q).symm i
   ·rw [h _ (by rw [e];simp)] at q;cases q
  rw [e] at c ⊢;rw [hJ] at c;intro r d;rcases bd.1 d with rfl|d
  ·exact f
  ·exact a3.before_trans f (c.1 r d)
 ·rw [List.drop_of_length_le a];simp
theorem gp.place(a:gp key l A y s):place key l=A.length:=by
 rw[a.eq,lq];refine yr a.low fun r b=>?_;rcases cu.1 b with q|q
 ·rw[a.fi r q];exact a3.before_irrefl _
 ·exact a3.sK (a.high r q)
theorem gp.has(a:gp key l A [x] s):hasB key l=true∧cN l (Go.Proofs.YtbkmjhhpcinppaaGreatDoor.place key l)=x:=by
 have e:cN l A.length=x:=by
  rw[a.eq,fL J];simp
 unfold hasB bJ;rw[a.place,dp,e];exact⟨⟨by rw[a.eq];simp,a.fi x J⟩,rfl⟩
theorem gp.xa(a:gp key l A [] s):hasB key l=false:=by
 unfold hasB;rw[a.place,hH];rintro⟨c,b⟩;have e:cN l A.length∈s:=by
  rw[fL c];have d:0 < s.length:=by have:=bB List.length a.eq;simp at this;omega
  have:l[A.length]=s[0]:=by
   have:=a.eq;subst this;rw[List.getElem_append_right J];simp
  rw[this];exact hI _
 have:=a.high _ e;unfold bJ at b;rw[b,a3.before_irrefl]at this;cases this
def look (key:ByteArray) (l:List aN):Option aN:=l.find? (fun r=>decide (r.key=key))
theorem gp.look(a:gp key l A y s):look key l=y.head?:=by
 have d:A.find? (fun r=>decide (r.key=key))=none:=by
  rw [r0];intro r b q;have:=a.low r b;rw [dp] at q;rw [q,a3.before_irrefl] at this;cases this
 have e:s.find? (fun r=>decide (r.key=key))=none:=by
  rw [r0];intro r b q;have:=a.high r b;rw [dp] at q;rw [q,a3.before_irrefl] at this;cases this
 unfold Go.Proofs.YtbkmjhhpcinppaaGreatDoor.look;rw [a.eq,lr,lr,d,e];cases y with
 |nil=>rfl
 |cons c y=>simp [a.fi c J]
theorem xT(b:l.Pairwise gU):look key l=if hasB key l=true then Z (cN l (place key l))else none:=by
 cases a:hasB key l
 ·rw[(vB b a).look];rfl
 ·rw[(vA b a).look];rfl
theorem yy(b:l.Pairwise gU): ∃ A y s,gp r.key l A y s∧ec l r=A++[r]++s∧et l r.key=A++s∧(hasB r.key l=true↔y≠[]):=by
 cases a:hasB r.key l
 ·refine⟨_,_,_,vB b a,?_,?_,J⟩
  ·unfold ec;rw[a,aS bP]
  ·unfold et;rw[a];simp
 ·refine⟨_,_,_,vA b a,?_,?_,J⟩
  ·unfold ec;rw[a,a9 rfl]
  ·unfold et;rw[a];simp
theorem F4(g:gp key l A y s)(n:l.Pairwise gU)(r:aN)(m:r.key=key): (A++[r]++s).Pairwise gU∧(A++s).Pairwise gU:=by
 have e:=g.eq;subst e;rw[h6,h6]at n;obtain⟨⟨h, -, -⟩,i,o⟩:=n;have j: ∀ a∈A,∀ c∈s,gU a c:=fun a d c f=>o a (by simp[d]) c f;refine⟨?_,h6.2 ⟨h,i,j⟩⟩;rw[h6,h6];refine⟨⟨h,pS _ _,fun a d b k=>?_⟩,i,fun a d c f=>?_⟩
 ·rw[aO]at k;subst k;unfold gU;rw[m];exact g.low a d
 ·rcases cu.1 d with q|q
  ·exact j a q c f
  ·rw[aO]at q;subst q;unfold gU;rw[m];exact g.high c f
theorem keeps(g:dO l=true)(o:gf r=true):
  dO (ec l r)=true∧dO (et l r.key)=true∧hasB r.key (ec l r)=true∧cN (ec l r) (place r.key (ec l r))=r∧hasB r.key (et l r.key)=false
   ∧(ec l r).length=(et l r.key).length+1
   ∧∀ b,b≠r.key→look b (ec l r)=look b l∧look b (et l r.key)=look b l:=by
 rw [js] at g;obtain ⟨e,i⟩:=g;obtain ⟨A,y,s,c,m,n, -⟩:=yy (r:=r) i;obtain ⟨t,u⟩:=F4 c i r rfl;have d:=c.eq;have f:gp r.key (A++[r]++s) A [r] s:=⟨rfl,c.low,J,J,c.high⟩;have k:gp r.key (A++s) A [] s:=⟨J,c.low,J,J,c.high⟩;rw [m,n];refine ⟨?_,?_,f.has.1,f.has.2,k.xa,cJ,fun b h=>?_⟩
 ·rw [js];refine ⟨fun x a=>?_,t⟩;simp only [cu,aO] at a;rcases a with (a|a)|a
  ·exact e x (by rw [d];simp [a])
  ·rw [a];exact o
  ·exact e x (by rw [d];simp [a])
 ·rw [js];refine ⟨fun x a=>?_,u⟩;simp only [cu] at a;rcases a with a|a
  ·exact e x (by rw [d];simp [a])
  ·exact e x (by rw [d];simp [a])
 ·have p: ([r]:List aN).find? (fun x=>decide (x.key=b))=none:=by
   rw [r0];intro x a q;rw [aO] at a;subst a;rw [dp] at q;exact h q.symm
  have j:y.find? (fun x=>decide (x.key=b))=none:=by
   rw [r0];intro x a q;rw [dp] at q;exact h (by rw [←q,c.fi x a])
  unfold look;constructor
  ·rw [d,lr,lr,lr,lr,p,j]
  ·rw [d,lr,lr,lr,j];simp
theorem others{a:ByteArray}{b:List aN}(e:dO l=true)(d:dO b=true)(c:look a b=look a l):
  hasB a b=hasB a l∧(hasB a l=true→cN b (place a b)=cN l (place a l)):=by
 rw[js]at e d;rw[xT e.2,xT d.2]at c;cases f:hasB a b <;> cases g:hasB a l <;> rw[f,g]at c <;> simp at c ⊢;exact c
structure hN (w:ad) (B:Nat) (low high:ByteArray) (u:Bool) (lim:Int) (f:Option ai) (n d:Nat) (m:List aN):Prop where
 qp:w.cell? ⟨B,0,V⟩=Z (af low)
 c1:w.cell? ⟨B,1,V⟩=Z (af high)
 c2:w.cell? ⟨B,2,V⟩=Z (ah u)
 qt:w.cell? ⟨B+1,0,V⟩=Z (O U lim)
 co:w.heap[B+2]?=Z (X #[ac f n d] 37 (0,0))
 size:B+3≤w.heap.size
 own:br w (B+3) f n d m
theorem vJ{o:Nat}(a:Below B w j)(c:b < B):j.cell? ⟨b,o,V⟩=w.cell? ⟨b,o,V⟩:=Below.cell a (p:=⟨b,o,V⟩) c
theorem hN.I(a:hN w B low high u lim f n d m)(b:Y w j):hN j B low high u lim f n d m:=
 ⟨b.I a.qp,b.I a.c1,b.I a.c2,b.I a.qt,by rw [b.block _ (by have:=a.size;omega)];exact a.co,bZ a.size b.le,a.own.I b⟩
theorem hN.next{k:Option ai}{c g:Nat}{x:List aN}(h:hN w B low high u lim f n d m)
  (t:Below (B+3) w j)(r:br j (B+3) k c g x):hN (j.setCell ⟨B+2,0,V⟩ (ac k c g)) B low high u lim k c g x:=by
 have L:=h.size;have I:j.heap[B+2]?=Z (X #[ac f n d] 37 (0,0)):=by rw [t.block _ K];exact h.co
 have v:Below (B+2) j (j.setCell ⟨B+2,0,V⟩ (ac k c g)):=(Below.refl _ _).setCell (p:=⟨B+2,0,V⟩) (aG _) _;have l: ∀ b o,b < B+2→(j.setCell ⟨B+2,0,V⟩ (ac k c g)).cell? ⟨b,o,V⟩=w.cell? ⟨b,o,V⟩:=fun b o q=>by
  rw [vJ v q,vJ t K]
 refine ⟨by rw [l _ _ K];exact h.qp,by rw [l _ _ K];exact h.c1,by rw [l _ _ K];exact h.c2,by rw [l _ _ K];exact h.qt,one_setCell I,?_,?_,?_⟩
 ·exact bZ (bZ L t.size) v.size
 ·refine ownsRow_setCell_other r.own (a:=⟨B+2,0,V⟩) (fun q=>?_) _;have:=(r.own.lt _ q).1;dsimp only at this;omega
 ·obtain ⟨z,A,C,D,⟨b,M,s,E⟩,F⟩:=r.rows;have G:0 < c→B+3≤b:=fun q=>by
   have e:=(s q).1;have:=(r.own.lt b (by rw [e];rfl)).1;omega
  refine ⟨z,A,C,D,⟨b,M,fun q=>⟨(s q).1,?_⟩,fun i J=>?_⟩,F⟩
  ·exact dR (s q).2 v.size
  ·have y: ∀ o,(j.setCell ⟨B+2,0,V⟩ (ac k c g)).cell? ⟨b,o,V⟩=j.cell? ⟨b,o,V⟩:=fun o=>ot _ _ _ _ (by
    have:=G K;intro e;simp at e;try omega)
   rw [y,y];exact E i J
def qg (w:ad) (B:Nat) (low high:ByteArray) (u:Bool) (lim:Int) (n:Nat) (m:List aN):Prop:=∃ f d,hN w B low high u lim f n d m
theorem wU(a v low high:ByteArray)(u:Bool)(lim:Int)(B:Nat)(f:Option ai)(n d:Nat)(m:List aN)(w:ad)(h:hN w B low high u lim f n d m)
  (A:a.size≤maxLen)(Q:v.size≤maxLen)(M:low.size≤maxLen)(L:high.size≤maxLen)(S:n≤1000000)(z:iL low high u a=true):
  ao aj 109 #[aw #[a,v],au (Z B),au (Z ⟨B+2,0,V⟩),au (Z ⟨B+1,0,V⟩)] w fun e j=>
   e=ap (ah (decide (lim < 1)||decide ((n:Int)+1 < lim)))∧qg j B low high u lim (n+1) (m++[⟨a,v⟩])∧Below (B+2) w j:=by
 have x:=N (fun w=>ny low high u a w M L A);rw [z] at x;have o:=N h;have r:=oK w a v;have s:=qn w a v;have k:=(Y.refl w).alloc (X #[af a,v] 108);have F:=k.I h.qp;have G:=k.I h.c1;have I:=k.I h.c2;clear h z;go_enter Tryz.func109,Tryz.ntmps109;go_wp2_with fail;refine (x.out _).mono ?_;rintro e c ⟨rfl,i,rfl⟩;have y:Y w ((k6 w a v).drewN i):=bz;have g:=o.out.I y;have r: ((k6 w a v).drewN i).cell? w=Z (af a):=r;have s: ((k6 w a v).drewN i).cell? ⟨w,1,V⟩=Z (af v):=s;clear F G I;generalize (k6 w a v).drewN i=c at *;have W:=jH g.co;have D:=g.size;have bh:=N g;have q:=N (g.own.I ((Y.refl c).alloc (X #[af a,v] 108)));have C:B+3≤(H c (X #[af a,v] 108)).heap.size:=bZ D ((Y.refl c).alloc _).le;clear g;go_wp2_with (at_builtin;refine IL rfl _ _ rfl (B+3) C rfl q.out rfl (row_one (b:=c.heap.size) (aG _) c4 (jD c _ _ 0) (jD c _ _ 1) A Q) K ?_;intro T R E P J;have l:Below (B+3) c E:=(((Y.refl c).alloc _).mono D).trans (DX J q.out C);have cx:=bh.out.next l P;have t:E.heap[B+2]?=Z (X #[ac f n d] 37 (0,0)):=(by rw [l.block _ K];exact bh.out.co);have aa:=jH t;have ab:=free_of_one t;have ae:=jH cx.co;have ag:=cx.qt);all_goals
  go_ret;refine ⟨lW ?_,⟨_,_,cx⟩,Below.setCell (B:=B+2) ((y.mono (show B+2≤w.heap.size by have:=o.out.size;omega)).trans (l.mono (show B+2≤B+3 by omega))) (p:=⟨B+2,0,V⟩) (aG _) _⟩;first|rfl|(simp [*];done)
theorem wW(a v low high:ByteArray)(u:Bool)(lim:Int)(B:Nat)(f:Option ai)(n d:Nat)(m:List aN)(w:ad)(b:hN w B low high u lim f n d m)
  (x:a.size≤maxLen)(C:v.size≤maxLen)(y:low.size≤maxLen)(t:high.size≤maxLen)(A:n≤1000000)(o:iL low high u a=false):
  ao aj 109 #[aw #[a,v],au (Z B),au (Z ⟨B+2,0,V⟩),au (Z ⟨B+1,0,V⟩)] w fun e j=>
   e=ap (ah (decide (lim < 1)||decide ((n:Int) < lim)))∧qg j B low high u lim n m∧Below (B+2) w j:=by
 have k:=N (fun w=>ny low high u a w y t x);rw [o] at k;have h:=N b;have p:=oK w a v;have g:=(Y.refl w).alloc (X #[af a,v] 108);have q:=g.I b.qp;have r:=g.I b.c1;have s:=g.I b.c2;clear b o;go_enter Tryz.func109,Tryz.ntmps109;go_wp2_with fail;refine (k.out _).mono ?_;rintro e z ⟨rfl,i,rfl⟩;have l:Y w ((k6 w a v).drewN i):=bz;have c:=h.out.I l;clear q r s p;generalize (k6 w a v).drewN i=z at *;have D:=jH c.co;have E:=c.qt;have bh:=N c;clear c;go_wp2_with fail;all_goals
  go_ret;refine ⟨lW ?_,⟨_,_,bh.out⟩,l.mono (show B+2≤w.heap.size by have:=h.out.size;omega)⟩;first|rfl|(simp [*];done)
theorem Hs(f:Option ai)(n d:Nat)(l:List aN)(low high:ByteArray)(u:Bool)(lim:Int)(w:ad)(S:bk w f n d l)(aK:n≤1000000)(ab:low.size≤maxLen)(W:high.size≤maxLen):
  ao aj 89 #[ac f n d,aw #[low,high,u],lim,false] w (ly w (ix low high u lim false l)):=by
 have R:hN (((H w (X #[af low,high,u] 181)).alloc (X #[O U lim] 3)).alloc (X #[ac V 0 0] 37)) w.heap.size low high u lim V 0 0 (found low high u (visit l false) 0):=by
  refine ⟨ho,ho,ho,ho,?_,ho,q8 _ _⟩;have e:=heap_alloc_new (((H w (X #[af low,high,u] 181)).alloc (X #[O U lim] 3))) (X #[ac V 0 0] 37);simpa using e
 have aq:=N R;clear R;have c:=N S;clear S;generalize am:visit l false=xs at *;have ed:=N am;clear am;have al:xs.length=n:=by rw [←ed.out,ur,c.out.len]
 have G:=N al;clear al;obtain ⟨aH,aL,ag,T⟩:=c.out.cells;have ar:=N (fun q=>(ag q).1);have Q:=N T;clear ag T;have av:=N (fun (k:Nat) (x:k < n) (f:Option ai) (a d:Nat) (m:List aN) (wr:ad) (aD:a≤n) (h:hN wr w low high u lim f a d m) (J:cU low high u (cN l k)=true)=>
  (show ao aj 109 #[aw #[(bJ l k),(dx l k)],au (Z w),au (Z ⟨w.heap.size+1+1,0,V⟩),au (Z ⟨w.heap.size+1,0,V⟩)] wr _ from
   wU (bJ l k) (dx l k) low high u lim w f a d m wr h (c.out.eD k x).1 (c.out.eD k x).2 ab W K J))
 have ax:=N (fun (k:Nat) (x:k < n) (f:Option ai) (a d:Nat) (m:List aN) (wr:ad) (aD:a≤n) (h:hN wr w low high u lim f a d m) (J:cU low high u (cN l k)=false)=>
  (show ao aj 109 #[aw #[(bJ l k),(dx l k)],au (Z w),au (Z ⟨w.heap.size+1+1,0,V⟩),au (Z ⟨w.heap.size+1,0,V⟩)] wr _ from
   wW (bJ l k) (dx l k) low high u lim w f a d m wr h (c.out.eD k x).1 (c.out.eD k x).2 ab W K J))
 have aA:=c.out.dr;unfold maxLen at aA;have az:Y w (((H w (X #[af low,high,u] 181)).alloc (X #[O U lim] 3)).alloc (X #[ac V 0 0] 37)):=bz;go_enter Tryz.func89,Tryz.ntmps89;go_wp2_with fail;generalize (((H w (X #[af low,high,u] 181)).alloc (X #[O U lim] 3)).alloc (X #[ac V 0 0] 37))=aE at *;go_loopw [16] (fun i wr=> ∃ k a:Nat,k≤n∧i=O U k∧qg wr w low high u lim a (found low high u xs k)∧(1≤lim→(a:Int) < lim)∧Y w wr) (fun i _=>n - (intOf i).toNat)
 case atStart=>exact ⟨0,0,aJ _,rfl,⟨_,_,aq.out⟩,fun q=>K,az⟩
 case round=>
  obtain ⟨k,a,x,rfl,⟨M,I,h⟩,L,t⟩:=hrel;have ae:a≤n:=by
   have:=h.own.rows.len;have:=wN low high u xs k;have:=G.out;omega
  have aM:wr.cell? ⟨w.heap.size+1+1,0,V⟩=Z (ac M a I):=jH h.co;have bh:=N h;clear h;by_cases F:k < n
  ·obtain ⟨g,C,D,aa⟩: ∃ g:Nat,g < n∧cN xs k=cN l g∧(g:Int)=(k:Int):=by
    have e:=zI (l:=l) (rev:=false) (k:=k) (by rw [c.out.len];exact F);rw [ed.out,c.out.len] at e;exact ⟨k,F,e,rfl⟩
   have aF:=t.I (Q.out g C).1;have aG:=t.I (Q.out g C).2;have ay:=iR d ar.out C;rw [aa] at ay;have y:=N D;clear D aa;have D:=y.out;cases v:cU low high u (cN l g)
   ·have b:=ax.out g C M a I _ wr ae bh.out v;have hF:=N (wO (low:=low) (high:=high) (u:=u) (xs:=xs) (k:=k) (by rw [G.out];exact F) (by rw [y.out];exact v));clear D v;by_cases r:lim < 1∨(a:Int) < lim
    ·skip;have j: (decide (lim < 1)||decide ((a:Int) < lim))=true:=cJ;rw [j] at b;have b:=N b;clear j;have s:=N r;clear r;go_wp2_with fail;refine b.out.mono ?_;rintro e o ⟨rfl,⟨E,z,cl⟩,A⟩;have B:Y w o:=Below.trans t (A.mono (kR _ 2));rw [←hF.out] at cl;have an:o.cell? ⟨w.heap.size+1+1,0,V⟩=Z (ac E a z):=jH cl.co;have p:=N cl;clear cl;go_wp2_with fail;go_roundw
     case rel=>exact ⟨k+1,a,K,e9,⟨_,_,p.out⟩,fun q=>by have:=s.out;omega,B⟩
     case measure=>simp [intOf];omega
    ·skip;exfalso;by_cases aI:lim < 1
     ·omega
     ·have:=L K;omega
   ·have b:=av.out g C M a I _ wr ae bh.out v;have hF:=N (wM (low:=low) (high:=high) (u:=u) (xs:=xs) (k:=k) (by rw [G.out];exact F) (by rw [y.out];exact v));clear D v;by_cases r:lim < 1∨(a:Int)+1 < lim
    ·skip;have j: (decide (lim < 1)||decide (((a:Int)+1) < lim))=true:=cJ;rw [j] at b;have b:=N b;clear j;have s:=N r;clear r;go_wp2_with fail;refine b.out.mono ?_;rintro e o ⟨rfl,⟨E,z,cl⟩,A⟩;have B:Y w o:=Below.trans t (A.mono (kR _ 2));rw [pk,←y.out,←hF.out] at cl;have an:o.cell? ⟨w.heap.size+1+1,0,V⟩=Z (ac E (a+1) z):=jH cl.co;have p:=N cl;clear cl;go_wp2_with fail;go_roundw
     case rel=>exact ⟨k+1,(a+1),K,e9,⟨_,_,p.out⟩,fun q=>by have:=s.out;omega,B⟩
     case measure=>simp [intOf];omega
    ·skip;have j: (decide (lim < 1)||decide (((a:Int)+1) < lim))=false:=cJ;rw [j] at b;have b:=N b;clear j;have s:=N r;clear r;go_wp2_with fail;refine b.out.mono ?_;rintro e o ⟨rfl,⟨E,z,cl⟩,A⟩;have B:Y w o:=Below.trans t (A.mono (kR _ 2));rw [pk,←y.out,←hF.out] at cl;have an:o.cell? ⟨w.heap.size+1+1,0,V⟩=Z (ac E (a+1) z):=jH cl.co;have p:=N cl;clear cl;go_wp2_with fail;have e:=zj (low:=low) (high:=high) (u:=u) (lim:=lim) (rev:=false) (l:=l) (k:=k+1) (by have:=s.out;omega) (by rw [ed.out,p.out.own.rows.len];have:=s.out;have:=L K;omega);rw [ed.out] at e;go_ret;refine ⟨_,_,_,rfl,?_,B,w.heap.size+3,?_,?_⟩
     ·rw [e];exact p.out.own.rows
     ·exact kR _ 3
     ·rw [e];exact p.out.own
  ·have aC:k=n:=by omega
   clear aC;have e:=zi (low:=low) (high:=high) (u:=u) (lim:=lim) (rev:=false) (l:=l) (k:=k) (by rw [c.out.len];omega) (by
    intro q;have:=L q;rw [ed.out,bh.out.own.rows.len];exact this)
   rw [ed.out] at e;have P:=N e;clear e;go_wp2_with fail;go_ret;refine ⟨_,_,_,rfl,?_,t,w.heap.size+3,?_,?_⟩
   ·rw [P.out];exact bh.out.own.rows
   ·exact kR _ 3
   ·rw [P.out];exact bh.out.own
theorem Hp(f:Option ai)(n d:Nat)(l:List aN)(low high:ByteArray)(u:Bool)(lim:Int)(w:ad)(S:bk w f n d l)(aK:n≤1000000)(ab:low.size≤maxLen)(W:high.size≤maxLen):
  ao aj 89 #[ac f n d,aw #[low,high,u],lim,true] w (ly w (ix low high u lim true l)):=by
 have R:hN (((H w (X #[af low,high,u] 181)).alloc (X #[O U lim] 3)).alloc (X #[ac V 0 0] 37)) w.heap.size low high u lim V 0 0 (found low high u (visit l true) 0):=by
  refine ⟨ho,ho,ho,ho,?_,ho,q8 _ _⟩;have e:=heap_alloc_new (((H w (X #[af low,high,u] 181)).alloc (X #[O U lim] 3))) (X #[ac V 0 0] 37);simpa using e
 have aq:=N R;clear R;have c:=N S;clear S;generalize am:visit l true=xs at *;have ed:=N am;clear am;have al:xs.length=n:=by rw [←ed.out,ur,c.out.len]
 have F:=N al;clear al;obtain ⟨aH,aL,ag,T⟩:=c.out.cells;have ar:=N (fun q=>(ag q).1);have Q:=N T;clear ag T;have av:=N (fun (k:Nat) (x:k < n) (f:Option ai) (a d:Nat) (m:List aN) (wr:ad) (aD:a≤n) (h:hN wr w low high u lim f a d m) (I:cU low high u (cN l k)=true)=>
  (show ao aj 109 #[aw #[(bJ l k),(dx l k)],au (Z w),au (Z ⟨w.heap.size+1+1,0,V⟩),au (Z ⟨w.heap.size+1,0,V⟩)] wr _ from
   wU (bJ l k) (dx l k) low high u lim w f a d m wr h (c.out.eD k x).1 (c.out.eD k x).2 ab W K I))
 have ax:=N (fun (k:Nat) (x:k < n) (f:Option ai) (a d:Nat) (m:List aN) (wr:ad) (aD:a≤n) (h:hN wr w low high u lim f a d m) (I:cU low high u (cN l k)=false)=>
  (show ao aj 109 #[aw #[(bJ l k),(dx l k)],au (Z w),au (Z ⟨w.heap.size+1+1,0,V⟩),au (Z ⟨w.heap.size+1,0,V⟩)] wr _ from
   wW (bJ l k) (dx l k) low high u lim w f a d m wr h (c.out.eD k x).1 (c.out.eD k x).2 ab W K I))
 have aA:=c.out.dr;unfold maxLen at aA;have az:Y w (((H w (X #[af low,high,u] 181)).alloc (X #[O U lim] 3)).alloc (X #[ac V 0 0] 37)):=bz;go_enter Tryz.func89,Tryz.ntmps89;go_wp2_with fail;generalize (((H w (X #[af low,high,u] 181)).alloc (X #[O U lim] 3)).alloc (X #[ac V 0 0] 37))=aE at *;go_loopw [16] (fun i wr=> ∃ k a:Nat,k≤n∧i=O U k∧qg wr w low high u lim a (found low high u xs k)∧(1≤lim→(a:Int) < lim)∧Y w wr) (fun i _=>n - (intOf i).toNat)
 case atStart=>exact ⟨0,0,aJ _,rfl,⟨_,_,aq.out⟩,fun q=>K,az⟩
 case round=>
  obtain ⟨k,a,x,rfl,⟨M,G,h⟩,J,t⟩:=hrel;have ae:a≤n:=by
   have:=h.own.rows.len;have:=wN low high u xs k;have:=F.out;omega
  have aM:wr.cell? ⟨w.heap.size+1+1,0,V⟩=Z (ac M a G):=jH h.co;have bh:=N h;clear h;by_cases L:k < n
  ·obtain ⟨g,C,D,aa⟩: ∃ g:Nat,g < n∧cN xs k=cN l g∧(g:Int)=((n:Int) - 1 - k):=by
    have e:=zI (l:=l) (rev:=true) (k:=k) (by rw [c.out.len];exact L);rw [ed.out,c.out.len] at e;exact ⟨n - 1 - k,K,e,K⟩
   have aF:=t.I (Q.out g C).1;have aG:=t.I (Q.out g C).2;have ay:=iR d ar.out C;rw [aa] at ay;have y:=N D;clear D aa;have D:=y.out;cases v:cU low high u (cN l g)
   ·have b:=ax.out g C M a G _ wr ae bh.out v;have hF:=N (wO (low:=low) (high:=high) (u:=u) (xs:=xs) (k:=k) (by rw [F.out];exact L) (by rw [y.out];exact v));clear D v;by_cases r:lim < 1∨(a:Int) < lim
    ·skip;have j: (decide (lim < 1)||decide ((a:Int) < lim))=true:=cJ;rw [j] at b;have b:=N b;clear j;have s:=N r;clear r;go_wp2_with fail;refine b.out.mono ?_;rintro e o ⟨rfl,⟨E,z,cl⟩,A⟩;have B:Y w o:=Below.trans t (A.mono (kR _ 2));rw [←hF.out] at cl;have an:o.cell? ⟨w.heap.size+1+1,0,V⟩=Z (ac E a z):=jH cl.co;have p:=N cl;clear cl;go_wp2_with fail;go_roundw
     case rel=>exact ⟨k+1,a,K,e9,⟨_,_,p.out⟩,fun q=>by have:=s.out;omega,B⟩
     case measure=>simp [intOf];omega
    ·skip;exfalso;by_cases aI:lim < 1
     ·omega
     ·have:=J K;omega
   ·have b:=av.out g C M a G _ wr ae bh.out v;have hF:=N (wM (low:=low) (high:=high) (u:=u) (xs:=xs) (k:=k) (by rw [F.out];exact L) (by rw [y.out];exact v));clear D v;by_cases r:lim < 1∨(a:Int)+1 < lim
    ·skip;have j: (decide (lim < 1)||decide (((a:Int)+1) < lim))=true:=cJ;rw [j] at b;have b:=N b;clear j;have s:=N r;clear r;go_wp2_with fail;refine b.out.mono ?_;rintro e o ⟨rfl,⟨E,z,cl⟩,A⟩;have B:Y w o:=Below.trans t (A.mono (kR _ 2));rw [pk,←y.out,←hF.out] at cl;have an:o.cell? ⟨w.heap.size+1+1,0,V⟩=Z (ac E (a+1) z):=jH cl.co;have p:=N cl;clear cl;go_wp2_with fail;go_roundw
     case rel=>exact ⟨k+1,(a+1),K,e9,⟨_,_,p.out⟩,fun q=>by have:=s.out;omega,B⟩
     case measure=>simp [intOf];omega
    ·skip;have j: (decide (lim < 1)||decide (((a:Int)+1) < lim))=false:=cJ;rw [j] at b;have b:=N b;clear j;have s:=N r;clear r;go_wp2_with fail;refine b.out.mono ?_;rintro e o ⟨rfl,⟨E,z,cl⟩,A⟩;have B:Y w o:=Below.trans t (A.mono (kR _ 2));rw [pk,←y.out,←hF.out] at cl;have an:o.cell? ⟨w.heap.size+1+1,0,V⟩=Z (ac E (a+1) z):=jH cl.co;have p:=N cl;clear cl;go_wp2_with fail;have e:=zj (low:=low) (high:=high) (u:=u) (lim:=lim) (rev:=true) (l:=l) (k:=k+1) (by have:=s.out;omega) (by rw [ed.out,p.out.own.rows.len];have:=s.out;have:=J K;omega);rw [ed.out] at e;go_ret;refine ⟨_,_,_,rfl,?_,B,w.heap.size+3,?_,?_⟩
     ·rw [e];exact p.out.own.rows
     ·exact kR _ 3
     ·rw [e];exact p.out.own
  ·have aC:k=n:=by omega
   clear aC;have e:=zi (low:=low) (high:=high) (u:=u) (lim:=lim) (rev:=true) (l:=l) (k:=k) (by rw [c.out.len];omega) (by
    intro q;have:=J q;rw [ed.out,bh.out.own.rows.len];exact this)
   rw [ed.out] at e;have P:=N e;clear e;go_wp2_with fail;go_ret;refine ⟨_,_,_,rfl,?_,t,w.heap.size+3,?_,?_⟩
   ·rw [P.out];exact bh.out.own.rows
   ·exact kR _ 3
   ·rw [P.out];exact bh.out.own
theorem Hn(f:Option ai)(n d:Nat)(l:List aN)(low high:ByteArray)(u:Bool)(lim:Int)(a:Bool)(w:ad)(b:bk w f n d l)(g:n≤1000000)(e:low.size≤maxLen)(c:high.size≤maxLen):
  ao aj 89 #[ac f n d,aw #[low,high,u],lim,a] w (ly w (ix low high u lim a l)):=by
 cases a
 ·exact Hs f n d l low high u lim w b g e c
 ·exact Hp f n d l low high u lim w b g e c
theorem sU(w:ad)(a:Nat): (w.drewN a).heap=w.heap:=rfl
theorem lT(d:b=w.heap.size)(c:base≤b):br (H w (X #[] 108)) base (Z ⟨b,0,V⟩) 0 0 []:=by
 subst d;exact⟨⟨rfl,.inr ⟨w.heap.size,0,#[],rfl,c,(by show(w.heap.push (X #[] 108))[w.heap.size]?=_;simp),aG _,aJ _,rfl,rfl⟩⟩,
  ⟨rfl,aG _,aJ _,fun q=>(by cases q),⟨0,0,fun q=>absurd q K,fun i a=>absurd a K⟩,fun i a=>absurd a K⟩⟩
end
section
structure bl where
 low:ByteArray
 high:ByteArray
 unb:Bool
 right:Int
 rows:List aN
 gone:Bool
structure g2 where
 kind:Int
 low:ByteArray
 high:ByteArray
 unb:Bool
 right:Int
 rows:List aN
 key:ByteArray
 val:ByteArray
 page:Int
def gg (v:bl) (key:ByteArray):Bool:=iL v.low v.high v.unb key
def hf (l:List aN) (low high:ByteArray) (unb:Bool):Bool:=
 if (unb=true∧high≠ByteArray.empty)∨dO l=false then false else decide ((ix low high unb 0 false l).length=l.length)
def rh (l:List aN) (low high:ByteArray) (unb:Bool):Bool:=
 dO l && !(unb && decide (high≠ByteArray.empty)) && l.all (cU low high unb)
theorem y8(l:List aN)(low high:ByteArray)(unb:Bool):hf l low high unb=rh l low high unb:=by
 unfold hf rh;have c:ix low high unb 0 false l=l.filter (cU low high unb):=by unfold ix visit;rw [aS bP,aS bP]
 rw [c];have b:decide ((l.filter (cU low high unb)).length=l.length)=l.all (cU low high unb):=by
  rw [iY,dp,mT];exact List.length_filter_eq_length_iff
 rw [b];cases d:dO l
 ·rw [a9 (.inr rfl)];rfl
 ·by_cases a:unb=true∧high≠ByteArray.empty
  ·rw [a9 (.inl a),a.1,eo a.2];rfl
  ·rw [aS (fun q=>q.elim a (fun r=>by cases r))];have: (unb && decide (high≠ByteArray.empty))=false:=by
    rw [Bool.and_eq_false_iff];cases unb
    ·exact .inl rfl
    ·exact .inr (dz (fun q=>a ⟨rfl,q⟩))
   rw [this];rfl
def lR (a b:List aN):Bool:=decide (a=[]∨b=[]∨a3.cmp (aF (bJ a (a.length - 1))) (aF (bJ b 0)) < 0)
def dg (v:bl) (r:g2):Option bl:=
 if r.kind=2 then(if gf ⟨r.key,r.val⟩=true∧v.gone=false∧gg v r.key=true then Z {v with rows:=ec v.rows ⟨r.key,r.val⟩}else V)
 else if r.kind=3 then(if v.gone=false∧gg v r.key=true then Z {v with rows:=et v.rows r.key}else V)
 else if r.kind=4 then(if v.gone=false∧gg v r.key=true∧a3.cmp (aF v.low) (aF r.key) < 0 then Z {v with rows:=v.rows.take (place r.key v.rows),high:=r.key,unb:=false,right:=r.page}else V)
 else if r.kind=6 then(if v.gone=false∧v.unb=false∧v.high=r.key∧hf r.rows r.key r.high r.unb=true∧(r.unb=true∨a3.cmp (aF r.key) (aF r.high) < 0)∧lR v.rows r.rows=true then Z {v with rows:=v.rows++r.rows,high:=r.high,unb:=r.unb,right:=r.right}else V)
 else if r.kind=5 then(if v.gone=false then Z {v with gone:=true}else V)
 else V
theorem q5{a b:List aN}(c:dO b=true)(d:a.Sublist b):dO a=true:=by
 rw[js]at c ⊢;exact⟨fun r e=>c.1 r (d.subset e),c.2.sublist d⟩
theorem Fl(a:x∈ec l r):x=r∨x∈l:=by
 unfold ec at a;simp only[cu,aO]at a;rcases a with(a|a)|a
 ·exact .inr (mU a)
 ·exact .inl a
 ·exact .inr (pT a)
theorem sV(l:List aN)(key:ByteArray): (et l key).Sublist l:=by
 unfold et;split
 ·have e:l.take (place key l)++l.drop (place key l)=l:=jF _ _;have: (l.take (place key l)++l.drop (place key l+1)).Sublist (l.take (place key l)++l.drop (place key l)):=
   List.Sublist.append (uR _) (by rw[←uS];exact pR _ _)
  rwa[e]at this
 ·exact uR _
theorem y6{unb:Bool}:rh l low high unb=true↔dO l=true∧(unb=true→high=ByteArray.empty)∧∀ x∈l,cU low high unb x=true:=by
 unfold rh;rw[fZ,fZ,mT,Bool.not_eq_true',Bool.and_eq_false_iff,hH,and_assoc];refine and_congr_right fun _=>and_congr_left fun _=>?_;cases unb <;> simp
def oI (b:g2):bl:=⟨b.low,b.high,b.unb,b.right,b.rows,false⟩
def oR (c:bl→g2→Option bl) (b:List g2) (cf:bl):Option bl:=b.foldr (fun r a=>a.bind fun v=>c v r) (Z cf)
theorem wJ(a:bl→g2→Option bl)(r:g2)(b:List g2)(cf:bl):oR a (r::b) cf=(oR a b cf).bind fun v=>a v r:=rfl
def lb (c:List g2):Prop:=∀ r∈c,1≤r.kind∧r.kind≤6
instance (c:List g2):Decidable (lb c):=by unfold lb;infer_instance
def yw (a:List g2) (b:g2):Prop:=b.kind=1∧(∀ r∈a,r.kind≠1)∧∀ r∈a.tail,r.kind≠5
instance (a:List g2) (b:g2):Decidable (yw a b):=by unfold yw;infer_instance
def g8 (c:List g2):Option bl×Int:=
 if lb c then
  (match c.getLast? with
  |none=>(V,10)
  |some b=>if b.kind=1∧hf b.rows b.low b.high b.unb=true then(match oR dg c.dropLast (oI b)with|some v=>(Z v,0)|none=>(V,10))else(V,10))
 else(V,9)
end
section
open Go.BigFrame Go.RowKit Go.WideShapes
abbrev eE (v:bl) (f:Option ai) (n d:Nat):ak:=aw #[af v.low,af v.high,ah v.unb,O U v.right,ac f n d,ah v.gone]
structure eB (v:bl):Prop where
 low:v.low.size≤maxLen
 high:v.high.size≤maxLen
structure fc where
 r:g2
 aH:Int
 bb:Int
 aD:ByteArray
 slot:Int
 gen:Int
abbrev aW (x:fc) (f:Option ai) (n d:Nat) (c:Option ai) (b a:Nat):ak:=
 aw #[O U x.r.kind,af x.r.low,af x.r.high,ah x.r.unb,O U x.r.right,ac f n d,ac c b a,af x.r.key,af x.r.val,O U x.r.page,O U x.aH,O U x.bb,af x.aD,O U x.slot,O U x.gen]
structure ht (x:fc):Prop where
 low:x.r.low.size≤maxLen
 high:x.r.high.size≤maxLen
 key:x.r.key.size≤maxLen
 val:x.r.val.size≤maxLen
 aD:x.aD.size≤maxLen
theorem FI{b:ByteArray}(c:b≠ByteArray.empty):b.toList.isEmpty=false:=by
 cases d:b.toList with
 |nil=>exact absurd (rm (show aF b=aF ByteArray.empty by rw[←pu,d];rfl)) c
 |cons a l=>rfl
theorem tl(v:bl)(f:Option ai)(n d:Nat)(key:ByteArray)(w:ad)(k:eB v)(i:key.size≤maxLen):
  ao aj 91 #[eE v f n d,key] w fun e j=>e=ap (ah (gg v key))∧Y w j:=by
 obtain⟨b,c⟩:=k;have g:=N (fun a=>ny v.low v.high v.unb key a b c i);unfold gg;go_enter Tryz.func91,Tryz.ntmps91;go_wp2_with fail;refine(g.out _).mono ?_;rintro e a ⟨rfl,h⟩;go_wp2_with fail;go_ret;exact⟨rfl,Y.trans (bz) h.aC⟩
theorem y7(l:List aN)(f:Option ai)(n d:Nat)(low high:ByteArray)(unb:Bool)(w:ad)(m:bk w f n d l)(I:n≤1000000)(A:low.size≤maxLen)(C:high.size≤maxLen):
  ao aj 70 #[ac f n d,aw #[low,high,unb]] w fun e j=>e=ap (ah (hf l low high unb))∧Y w j:=by
 have F:=m.len;have G:=m.dr;unfold maxLen at G;have b:=fun g (o:Y w g)=>GF f n d l g (m.I o);have D:=N (fun g (o:Y w g)=>Hn f n d l low high unb 0 false g (m.I o) I A C);have c:hf l low high unb=if (unb=true∧high≠ByteArray.empty)∨dO l=false then false else decide ((ix low high unb 0 false l).length=l.length):=rfl
 generalize hf l low high unb=B at *;generalize ix low high unb 0 false l=p at *;have s:=(show (H w (X #[af low,high,unb] 181)).cell? w=Z (af low) from jD w _ _ 0);have t:=(show (H w (X #[af low,high,unb] 181)).cell? ⟨w,1,V⟩=Z (af high) from jD w _ _ 1);have u:=(show (H w (X #[af low,high,unb] 181)).cell? ⟨w,2,V⟩=Z (ah unb) from jD w _ _ 2);have k:=(Y.refl w).alloc (X #[af low,high,unb] 181);by_cases i:unb=true∧high≠ByteArray.empty
 ·obtain ⟨rfl,x⟩:=i;rw [a9 (.inl ⟨rfl,x⟩)] at c;subst c;have M:=FI x;go_enter Tryz.func70,Tryz.ntmps70;go_wp2_with fail;go_ret;exact ⟨rfl,k⟩
 ·have v:unb=false∨(unb=true∧high=⟨#[]⟩):=by
   cases unb
   ·exact .inl rfl
   ·right;refine ⟨rfl,?_⟩;apply Classical.byContradiction;intro q;exact i ⟨rfl,q⟩
  cases h:dO l
  ·rw [a9 (.inr h)] at c;subst c;rw [h] at b;have b:=N b;clear h i;rcases v with rfl|⟨rfl,rfl⟩
   all_goals
    go_enter Tryz.func70,Tryz.ntmps70;go_wp2_with fail;refine (b.out _ k).mono ?_;rintro e g ⟨rfl,a⟩;go_wp2_with fail;go_ret;exact ⟨rfl,k.trans a⟩
  ·rw [aS (fun q=>q.elim i (fun r=>by rw [h] at r;cases r))] at c;rw [h] at b;have b:=N b;have z:=N c;clear h i c;rcases v with rfl|⟨rfl,rfl⟩
   all_goals
    go_enter Tryz.func70,Tryz.ntmps70;go_wp2_with fail;refine (b.out _ k).mono ?_;rintro e g ⟨rfl,a⟩;have s:=a.I s;have t:=a.I t;have u:=a.I u;have a:=k.trans a;go_wp2_with fail;refine (D.out _ a).mono ?_;rintro e Q ⟨P,K,L,rfl,y,E, -⟩;obtain rfl:p.length=K:=y.len;have J: ((p.length:Int)==(n:Int))=B:=by
     rw [z.out,F,iY];simp;omega
    clear y;go_wp2_with fail;go_ret;exact ⟨by rw [←J];rfl,a.trans E⟩
theorem GV(v:bl)(f:Option ai)(n d:Nat)(w:ad):
  ao aj 71 #[eE v f n d] w fun e j=>e=ap (aw #[af v.low,v.high,v.unb])∧Y w j:=by
 go_enter Tryz.func71,Tryz.ntmps71;go_wp2_with fail;refine bH (v:=aw #[af v.low,af v.high,ah v.unb]) (by simp[results];go_simp) rfl ?_;exact⟨rfl,bz⟩
abbrev ci (v:bl) (f:Option ai) (n d:Nat):List ak:=[af v.low,af v.high,ah v.unb,O U v.right,ac f n d,ah v.gone]
abbrev an (x:fc) (f:Option ai) (n d:Nat) (c:Option ai) (b a:Nat):List ak:=
 [O U x.r.kind,af x.r.low,af x.r.high,ah x.r.unb,O U x.r.right,ac f n d,ac c b a,af x.r.key,af x.r.val,O U x.r.page,O U x.aH,O U x.bb,af x.aD,O U x.slot,O U x.gen]
abbrev bS:List ak:=[af ⟨#[]⟩,af ⟨#[]⟩,ah false,O U 0,ac V 0 0,ah false]
abbrev l2 (w:ad) (v:bl) (x:fc) (f:Option ai) (n d:Nat) (g:Option ai) (e a:Nat) (h:Option ai) (c b:Nat):ad:=
 ((H w (X #[af v.low,af v.high,ah v.unb,O U v.right,ac f n d,ah v.gone] 119)).alloc (X #[O U x.r.kind,af x.r.low,af x.r.high,ah x.r.unb,O U x.r.right,ac g e a,ac h c b,af x.r.key,af x.r.val,O U x.r.page,O U x.aH,O U x.bb,af x.aD,O U x.slot,O U x.gen] 85)).alloc (X #[af ⟨#[]⟩,af ⟨#[]⟩,ah false,O U 0,ac V 0 0,ah false] 119)
theorem dL(w:ad)(o:Obj): (H w o).heap.size=w.heap.size+1:=by show(w.heap.push o).size=_;rw[Array.size_push]
structure jd (t:ad) (h:Nat) (C xs D:List ak):Prop where
 v:ae t h C
 x:ae t (h+1) xs
 z:ae t (h+1+1) D
 lt:h+3≤t.heap.size
theorem nW(w:ad)(v:bl)(x:fc)(f:Option ai)(n d:Nat)(g:Option ai)(e a:Nat)(h:Option ai)(c b:Nat):
  jd (l2 w v x f n d g e a h c b) w.heap.size (ci v f n d) (an x g e a h c b) bS∧Y w (l2 w v x f n d g e a h c b):=by
 have i:=Y.refl w;refine ⟨⟨?_,?_,?_,?_⟩,((i.alloc _).alloc _).alloc _⟩
 ·exact (ae.new w _ _ rfl).I (((Y.refl _).alloc _).alloc _)
 ·exact (ae.new (H w _) _ _ dW).I ((Y.refl _).alloc _)
 ·exact ae.new ((H w _).alloc _) _ _ kT
 ·rw [dL,dL,dL];omega
section
variable {t : ad} {xs : List ak}
theorem jd.I{c:ad}(a:jd t h C xs D)(b:Y t c):jd c h C xs D:=⟨a.v.I b,a.x.I b,a.z.I b,bZ a.lt b.le⟩
theorem jd.jt(a:jd t h C xs D)(b:Nat)(u:ak):jd (t.setCell ⟨h,b,V⟩ u) h (C.set b u) xs D:=
 ⟨a.v.set b u,a.x.other K u,a.z.other K u,by unfold World.setCell;simpa using a.lt⟩
end
def gb (base:Nat) (w:ad) (d:Option bl) (e:Ending) (j:ad):Prop:=
 match d with
 |some v2=> ∃ o n c,e=ap (a0 #[eE v2 o n c,ah true])∧br j base o n c v2.rows∧Y w j
 |none=> ∃ (a b:ByteArray) (u g:Bool) (r:Int) (o:Option ai) (n c:Nat),e=ap (a0 #[aw #[af a,af b,ah u,O U r,ac o n c,ah g],ah false])∧Y w j
theorem gb.mk{f:Option bl}{v2:bl}{b:Bool}(e:f=if b=true then Z v2 else V){o:Option ai}{n c:Nat}(h:b=true→br j base o n c v2.rows)(d:Y w j){a:Array ak}(g:a=(ci v2 o n c).toArray):
  gb base w f (ap (a0 #[aw a,b])) j:=by
 subst g;cases b
 ·rw[e];exact⟨_,_,_,_,_,_,_,_,rfl,d⟩
 ·rw[e];exact⟨o,n,c,rfl,h rfl,d⟩
theorem gb.no{e:Option bl}(h:e=V)(f:Y w j){d:Array ak}{a b:ByteArray}{u g:Bool}{r:Int}{o:Option ai}{n c:Nat}(i:d= #[af a,b,u,r,ac o n c,g]):gb base w e (ap (a0 #[aw d,false])) j:=by
 subst i;rw[h];exact⟨_,_,_,_,_,_,_,_,rfl,f⟩
structure k2 (base h:Nat) (w a:ad) (C:List ak) (o:Option ai) (n c:Nat) (rows:List aN):Prop where
 z:ae a (h+1+1) C
 aC:Y w a
 own:br a base o n c rows
theorem br.m8(x:br w base f n d l)(A: ∀ b,base≤b→j.heap[b]?=w.heap[b]?)(D:w.heap.size≤j.heap.size):br j base f n d l:=by
 obtain⟨⟨s,C⟩,c⟩:=x;rcases C with⟨e,B⟩|⟨g,E,u,e,o,z,rest⟩
 ·refine⟨⟨s,.inl ⟨e,B⟩⟩,c.len,c.dj,c.dr,c.none,⟨0,0,fun q=>absurd q K,fun i m=>absurd m K⟩,c.eD⟩
 ·have r:=A g o;simp only[iA]at e;obtain⟨rfl, -,rfl⟩:=e;obtain⟨b,t,k,y⟩:=c.cells;refine⟨⟨s,.inr ⟨g,d,u,rfl,o,r.trans z,rest⟩⟩,c.len,c.dj,c.dr,c.none,⟨b,t,fun q=>?_,fun i m=>?_⟩,c.eD⟩
  ·exact⟨(k q).1,dR (k q).2 D⟩
  ·have v:=(k K).1;obtain⟨rfl,rfl⟩:g=b∧0=t:=by simpa using v
   have p: ∀ h,j.cell? ⟨g,h,V⟩=w.cell? ⟨g,h,V⟩:=fun h=>uT (w:=w) (a:=⟨g,h,V⟩) r;rw[p,p];exact y i m
theorem br.gi{i:Nat}{u:ak}(a:br w base f n d l)(e:b < base):br (w.setCell ⟨b,i,V⟩ u) base f n d l:=
 a.m8 (fun c g=>by simp only[World.setCell,rD];rw[aS K]) uZ
theorem br.nR(e:b < base)(c:List ak): ∀ {w:ad} (i:Nat),br w base f n d l→br (ba w b i c) base f n d l:=by
 induction c with
 |nil=>intro w i a;exact a
 |cons u c ih=>intro w i a;exact ih (i+1) (a.gi e)
theorem k2.drew{b:ad}(a:k2 base h w b C o n c rows):k2 base h w b.drew C o n c rows:=
 ⟨a.z.I (Y.refl _).drew,a.aC.drew,a.own.I (Y.refl _).drew⟩
theorem zB{base2:Nat}{a:ad}(r:ae a (h+1+1) D)(m:D.length=6)(l:Y w a)(q:w.heap.size≤h+1+1)(j:br a base2 o n c rows)(p:h+1+1 < base2)(k:base≤base2)(b d e f g i:ak):
  k2 base h w ((((((a.setCell ⟨h+1+1,0,V⟩ b).setCell ⟨h+1+1,1,V⟩ d).setCell ⟨h+1+1,2,V⟩ e).setCell ⟨h+1+1,3,V⟩ f).setCell ⟨h+1+1,4,V⟩ g).setCell ⟨h+1+1,5,V⟩ i) [b,d,e,f,g,i] o n c rows:=
 show k2 base h w (ba a (h+1+1) 0 [b,d,e,f,g,i]) [b,d,e,f,g,i] o n c rows from
  ⟨r.aR (by rw[m];rfl),l.setCells q _ _,(j.nR p _ 0).e6 k⟩
theorem bk.ex(h:bk w f n d l)(a:dD w j):bk j f n d l:=by
 obtain ⟨k,m,o,p,⟨b,s,c,e⟩,r⟩:=h;exact ⟨k,m,o,p,⟨b,s,fun q=>⟨(c q).1,dR (c q).2 a.size⟩,fun i g=>⟨a.cell _ _ _ (e i g).1,a.cell _ _ _ (e i g).2⟩⟩,r⟩
theorem Iq(v:bl)(x:fc)(f:Option ai)(n d:Nat)(aa:Option ai)(W L:Nat)(ab:Option ai)(T M:Nat)(w:ad)(aG:bk w f n d v.rows)(a2:n≤1000000)(a5:base≤w.heap.size)(aK:eB v)(B:ht x)(S:x.r.kind=2):
  ao aj 72 #[eE v f n d,aW x aa W L ab T M] w (gb base w (dg v x.r)):=by
 have aH:dg v x.r=if gf ⟨x.r.key,x.r.val⟩=true∧v.gone=false∧gg v x.r.key=true then Z {v with rows:=ec v.rows ⟨x.r.key,x.r.val⟩} else none:=by
  unfold dg;rw [a9 S]
 have ar:=N aH;generalize dg v x.r=ag at *;obtain ⟨m,P⟩:=nW w v x f n d aa W L ab T M;have aX:=N S;unfold l2 at *;clear S aH;obtain ⟨low,high,unb,right,rows,gone⟩:=v;dsimp only at *;generalize aD:w.heap.size=h at *;go_enter n5,n6;go_upto_region 1 with fail
 generalize ((H w (X #[af low,high,unb,right,ac f n d,gone] 119)).alloc (X #[O U x.r.kind,x.r.low,x.r.high,x.r.unb,x.r.right,ac aa W L,ac ab T M,x.r.key,x.r.val,x.r.page,x.aH,x.bb,x.aD,x.slot,x.gen] 85)).alloc (X #[af ⟨#[]⟩,af ⟨#[]⟩,false,O U 0,ac V 0 0,false] 119)=t at *;have C:=m.v.cell 4 rfl;have D:=m.v.cell 5 rfl;have an:=m.x.cell 0 rfl;have aq:=m.x.cell 7 rfl;have aO:=m.x.cell 8 rfl;rw [aX.out] at an;have a6:=m.lt;cases r:gf ⟨x.r.key,x.r.val⟩
 ·have z:ag=none:=by rw [ar.out,r];simp
  have I:=N z;have F:=N (fun l=>Ge f n d x.r.key x.r.val l B.key B.val r);clear z r;go_wp2_with fail;refine (F.out _).mono ?_;rintro e l ⟨rfl,y⟩;have o:=m.I y;have a4:=o.v.cell 4 rfl;have E:=o.v.free 4 J;clear C D an aq aO;go_upto_region 10 with fail
  have R:Y w (l.setCell ⟨h,4,V⟩ (ac V 0 0)):=(P.trans y).setCell (hG aD) _;have a:=o.jt 4 (ac V 0 0);generalize l.setCell ⟨h,4,V⟩ (ac V 0 0)=s at *;go_wp2_with (first|(refine e8 rfl 119 _ rfl _ 0 rfl _ _ (a.v).aM dn rfl G ?_)|(refine dY rfl 119 _ _ rfl _ 0 _ rfl rfl (a.z).may G G ?_));refine bH ((a.z.aR (us:=[af low,high,unb,right,ac V 0 0,gone]) rfl).cK rfl _ rfl rfl dn rfl G) rfl ?_;exact gb.no I.out (R.setCells K _ _) rfl
 ·have F:=N (fun l (A:Y t l)=>Gg f n d rows x.r.key x.r.val l (aG.I (P.trans A)) a2 B.key B.val r);have aI:ag=if gone=false∧gg ⟨low,high,unb,right,rows,gone⟩ x.r.key=true then Z ⟨low,high,unb,right,ec rows ⟨x.r.key,x.r.val⟩,gone⟩ else none:=by rw [ar.out,r];simp
  have av:=N aI;clear aI r;go_wp2_with fail;refine (F.out _ (Y.refl _)).mono ?_;rintro e l ⟨k,j,g,rfl,aE,y⟩;have o:=m.I y;have a4:=o.v.cell 4 rfl;have E:=o.v.free 4 J;clear C D an aq aO;go_upto_region 10 with fail
  have R:Y w (l.setCell ⟨h,4,V⟩ (ac k j g)):=(P.trans y).setCell (hG aD) _;have a:=o.jt 4 (ac k j g);have aF:=aE.gi (b:=h) (i:=4) (u:=ac k j g) K;have aV:=N aF;clear aE aF;generalize l.setCell ⟨h,4,V⟩ (ac k j g)=s at *;have a3:w.heap.size≤h+1+1:=K;have a1:h+1+1 < t.heap.size:=K;have aJ:=N fun (aY:ad) (A:Y s aY) (b:Bool)=>zB (base:=base) (base2:=t.heap.size) (a.z.I A) rfl (R.trans A) a3 (aV.out.I A) a1 K (af low) (af high) (ah unb) (O U right) (ac k j g) (ah b);clear aG F;go_upto_region 12 with fail
  cases gone;all_goals simp only [rE,pD]
  ·have aZ:=N fun aN=>tl ⟨low,high,unb,right,rows,false⟩ k j g x.r.key aN ⟨aK.low,aK.high⟩ B.key;have cf:=(a).v.cell 0 rfl;have aL:=(a).v.cell 1 rfl;have v2:=(a).v.cell 2 rfl;have aM:=(a).v.cell 3 rfl;have C:=(a).v.cell 4 rfl;have D:=(a).v.cell 5 rfl;have aP:=(a).z.cell 0 rfl;have aQ:=(a).z.cell 1 rfl;have aR:=(a).z.cell 2 rfl;have aS:=(a).z.cell 3 rfl;have aT:=(a).z.cell 4 rfl;have aU:=(a).z.cell 5 rfl;have ax:=(a).z.free 0 J;have ay:=(a).z.free 1 J;have az:=(a).z.free 2 J;have aA:=(a).z.free 3 J;have E:=(a).z.free 4 J;have aC:=(a).z.free 5 J;have aq:=a.x.cell 7 rfl;go_cut [5] (fun al am=>al=ah (gg ⟨low,high,unb,right,rows,false⟩ x.r.key)∧k2 base h w am [af low,high,unb,right,ac k j g,false] k j g (ec rows ⟨x.r.key,x.r.val⟩))
   case first=>
    go_region_held3 (fun p=>p.cell? h=Z (af low)∧p.cell? ⟨h,1,V⟩=Z (af high)∧p.cell? ⟨h,2,V⟩=Z (ah unb)∧p.cell? ⟨h,3,V⟩=Z (O U right)∧p.cell? ⟨h,4,V⟩=Z (ac k j g)∧p.cell? ⟨h,5,V⟩=Z (ah false)∧p.cell? ⟨h+1,7,V⟩=Z (af x.r.key))
     ((first|(have kG:=Q;exact qT)|exact qT)) (first|(go_at_call 91;refine (aZ.out _).mono ?_;rintro e aN ⟨rfl,Q⟩;have c:=a.I (((Y.refl s).drew).trans Q);have cf:=(c).v.cell 0 rfl;have aL:=(c).v.cell 1 rfl;have v2:=(c).v.cell 2 rfl;have aM:=(c).v.cell 3 rfl;have C:=(c).v.cell 4 rfl;have D:=(c).v.cell 5 rfl;have aP:=(c).z.cell 0 rfl;have aQ:=(c).z.cell 1 rfl;have aR:=(c).z.cell 2 rfl;have aS:=(c).z.cell 3 rfl;have aT:=(c).z.cell 4 rfl;have aU:=(c).z.cell 5 rfl;have ax:=(c).z.free 0 J;have ay:=(c).z.free 1 J;have az:=(c).z.free 2 J;have aA:=(c).z.free 3 J;have E:=(c).z.free 4 J;have aC:=(c).z.free 5 J))
    all_goals (go_wp2_with fail;go_meet;with_reducible exact ⟨rfl,aJ.out _ (((Y.refl s).drew).trans Q) false⟩)
   case rest=>
    obtain ⟨rfl,q⟩:=hcut;go_wp2_with fail;refine bH (ae.cK q.z rfl _ rfl rfl dn rfl G) rfl ?_;exact gb.mk (v2:=⟨low,high,unb,right,ec rows ⟨x.r.key,x.r.val⟩,false⟩) (by rw [av.out];simp) (fun _=>q.own) q.aC rfl
  ·have z:ag=none:=by rw [av.out];simp
   have I:=N z;clear z;have cf:=(a).v.cell 0 rfl;have aL:=(a).v.cell 1 rfl;have v2:=(a).v.cell 2 rfl;have aM:=(a).v.cell 3 rfl;have C:=(a).v.cell 4 rfl;have D:=(a).v.cell 5 rfl;have aP:=(a).z.cell 0 rfl;have aQ:=(a).z.cell 1 rfl;have aR:=(a).z.cell 2 rfl;have aS:=(a).z.cell 3 rfl;have aT:=(a).z.cell 4 rfl;have aU:=(a).z.cell 5 rfl;have ax:=(a).z.free 0 J;have ay:=(a).z.free 1 J;have az:=(a).z.free 2 J;have aA:=(a).z.free 3 J;have E:=(a).z.free 4 J;have aC:=(a).z.free 5 J;go_cut [5] (fun al am=>al=ah false∧k2 base h w am [af low,high,unb,right,ac k j g,true] k j g (ec rows ⟨x.r.key,x.r.val⟩))
   case first=>
    go_region;all_goals (go_wp2_with fail;go_meet;with_reducible exact ⟨rfl,(aJ.out _ (Y.refl s) true).drew⟩)
   case rest=>
    obtain ⟨rfl,q⟩:=hcut;go_wp2_with fail;refine bH (ae.cK q.z rfl _ rfl rfl dn rfl G) rfl ?_;exact gb.no I.out q.aC rfl
theorem Ij(v:bl)(x:fc)(f:Option ai)(n d:Nat)(L:Option ai)(I A:Nat)(M:Option ai)(F B:Nat)(w:ad)(an:bk w f n d v.rows)(aY:n≤1000000)(a2:base≤w.heap.size)(az:eB v)(aA:ht x)(E:x.r.kind=3):
  ao aj 72 #[eE v f n d,aW x L I A M F B] w (gb base w (dg v x.r)):=by
 have aq:dg v x.r=if v.gone=false∧gg v x.r.key=true then Z {v with rows:=et v.rows x.r.key} else none:=by
  unfold dg;rw [aS K,a9 E]
 have aO:=N aq;generalize dg v x.r=a1 at *;obtain ⟨m,av⟩:=nW w v x f n d L I A M F B;have aP:=N E;unfold l2 at *;clear E aq;obtain ⟨low,high,unb,right,rows,gone⟩:=v;dsimp only at *;generalize aT:w.heap.size=h at *;go_enter n5,n6;go_upto_region 1 with fail
 generalize ((H w (X #[af low,high,unb,right,ac f n d,gone] 119)).alloc (X #[O U x.r.kind,x.r.low,x.r.high,x.r.unb,x.r.right,ac L I A,ac M F B,x.r.key,x.r.val,x.r.page,x.aH,x.bb,x.aD,x.slot,x.gen] 85)).alloc (X #[af ⟨#[]⟩,af ⟨#[]⟩,false,O U 0,ac V 0 0,false] 119)=t at *;have y:=m.v.cell 5 rfl;have aF:=m.x.cell 0 rfl;have s:=m.v.cell 4 rfl;have aG:=m.x.cell 7 rfl;rw [aP.out] at aF;have a3:=m.lt;have am:=N (fun q (p:Y t q)=>C3 f n d rows x.r.key q (an.I (av.trans p)) aY aA.key);have R:=aO;go_wp2_with fail;refine (am.out _ (Y.refl _)).mono ?_;rintro e q ⟨k,j,g,rfl,ag,ax⟩;have z:=m.I ax;have a4:=z.v.cell 4 rfl;have C:=z.v.free 4 J;clear s y aF aG;go_upto_region 14 with fail
 have aV:Y w (q.setCell ⟨h,4,V⟩ (ac k j g)):=(av.trans ax).setCell (hG aT) _;have a:=z.jt 4 (ac k j g);have al:=ag.gi (b:=h) (i:=4) (u:=ac k j g) K;have aN:=N al;clear ag al;generalize q.setCell ⟨h,4,V⟩ (ac k j g)=r at *;have aZ:w.heap.size≤h+1+1:=K;have aX:h+1+1 < t.heap.size:=K;have ar:=N fun (aR:ad) (p:Y r aR) (b:Bool)=>zB (base:=base) (base2:=t.heap.size) (a.z.I p) rfl (aV.trans p) aZ (aN.out.I p) aX K (af low) (af high) (ah unb) (O U right) (ac k j g) (ah b);clear an am;cases gone;all_goals simp only [rE,pD]
 ·have aU:=N fun aE=>tl ⟨low,high,unb,right,rows,false⟩ k j g x.r.key aE ⟨az.low,az.high⟩ aA.key;have cf:=(a).v.cell 0 rfl;have aC:=(a).v.cell 1 rfl;have v2:=(a).v.cell 2 rfl;have aD:=(a).v.cell 3 rfl;have s:=(a).v.cell 4 rfl;have y:=(a).v.cell 5 rfl;have aH:=(a).z.cell 0 rfl;have aI:=(a).z.cell 1 rfl;have aJ:=(a).z.cell 2 rfl;have aK:=(a).z.cell 3 rfl;have aL:=(a).z.cell 4 rfl;have aM:=(a).z.cell 5 rfl;have S:=(a).z.free 0 J;have T:=(a).z.free 1 J;have W:=(a).z.free 2 J;have aa:=(a).z.free 3 J;have C:=(a).z.free 4 J;have ab:=(a).z.free 5 J;have aG:=a.x.cell 7 rfl;go_cut [5] (fun P Q=>P=ah (gg ⟨low,high,unb,right,rows,false⟩ x.r.key)∧k2 base h w Q [af low,high,unb,right,ac k j g,false] k j g (et rows x.r.key))
  case first=>
   go_region_held3 (fun l=>l.cell? h=Z (af low)∧l.cell? ⟨h,1,V⟩=Z (af high)∧l.cell? ⟨h,2,V⟩=Z (ah unb)∧l.cell? ⟨h,3,V⟩=Z (O U right)∧l.cell? ⟨h,4,V⟩=Z (ac k j g)∧l.cell? ⟨h,5,V⟩=Z (ah false)∧l.cell? ⟨h+1,7,V⟩=Z (af x.r.key))
    ((first|(have kG:=D;exact qT)|exact qT)) (first|(go_at_call 91;refine (aU.out _).mono ?_;rintro e aE ⟨rfl,D⟩;have c:=a.I (((Y.refl r).drew).trans D);have cf:=(c).v.cell 0 rfl;have aC:=(c).v.cell 1 rfl;have v2:=(c).v.cell 2 rfl;have aD:=(c).v.cell 3 rfl;have s:=(c).v.cell 4 rfl;have y:=(c).v.cell 5 rfl;have aH:=(c).z.cell 0 rfl;have aI:=(c).z.cell 1 rfl;have aJ:=(c).z.cell 2 rfl;have aK:=(c).z.cell 3 rfl;have aL:=(c).z.cell 4 rfl;have aM:=(c).z.cell 5 rfl;have S:=(c).z.free 0 J;have T:=(c).z.free 1 J;have W:=(c).z.free 2 J;have aa:=(c).z.free 3 J;have C:=(c).z.free 4 J;have ab:=(c).z.free 5 J))
   all_goals (go_wp2_with fail;go_meet;with_reducible exact ⟨rfl,ar.out _ (((Y.refl r).drew).trans D) false⟩)
  case rest=>
   obtain ⟨rfl,o⟩:=hcut;go_wp2_with fail;refine bH (ae.cK o.z rfl _ rfl rfl dn rfl G) rfl ?_;exact gb.mk (v2:=⟨low,high,unb,right,et rows x.r.key,false⟩) (by rw [R.out];simp) (fun _=>o.own) o.aC rfl
 ·have ay:a1=none:=by rw [R.out];simp
  have aQ:=N ay;clear ay;have cf:=(a).v.cell 0 rfl;have aC:=(a).v.cell 1 rfl;have v2:=(a).v.cell 2 rfl;have aD:=(a).v.cell 3 rfl;have s:=(a).v.cell 4 rfl;have y:=(a).v.cell 5 rfl;have aH:=(a).z.cell 0 rfl;have aI:=(a).z.cell 1 rfl;have aJ:=(a).z.cell 2 rfl;have aK:=(a).z.cell 3 rfl;have aL:=(a).z.cell 4 rfl;have aM:=(a).z.cell 5 rfl;have S:=(a).z.free 0 J;have T:=(a).z.free 1 J;have W:=(a).z.free 2 J;have aa:=(a).z.free 3 J;have C:=(a).z.free 4 J;have ab:=(a).z.free 5 J;go_cut [5] (fun P Q=>P=ah false∧k2 base h w Q [af low,high,unb,right,ac k j g,true] k j g (et rows x.r.key))
  case first=>
   go_region;all_goals (go_wp2_with fail;go_meet;with_reducible exact ⟨rfl,(ar.out _ (Y.refl r) true).drew⟩)
  case rest=>
   obtain ⟨rfl,o⟩:=hcut;go_wp2_with fail;refine bH (ae.cK o.z rfl _ rfl rfl dn rfl G) rfl ?_;exact gb.no aQ.out o.aC rfl
end
end Go.Proofs.YtbkmjhhpcinppaaGreatDoor
