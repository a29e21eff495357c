import Derived.Test.YtbkmjhhpcinppaaGreatDoorQ9
namespace Go.Proofs.YtbkmjhhpcinppaaGreatDoor
set_option linter.unusedVariables false
set_option linter.defProp false
set_option linter.unusedSimpArgs false
set_option maxRecDepth 100000
set_option maxHeartbeats 40000000
open Option renaming none→V,some→Z
variable {B : List bK} {h : Int → List aA} {s : List ByteArray} {o : LT} {M : az} {u : Int → List ar} {j : ee} {d : List aN} {lim : aK}
theorem BC(b:a3.eM)(a:Nat):a3.before b (b.take a)=false:=by
 induction b generalizing a with
 |nil=>simp[a3.before]
 |cons x c ih=>
  cases a with
  |zero=>simp[a3.before]
  |succ a=>simp only[rZ,a3.before,kb];exact ih a
theorem BS{a b:ByteArray}(c:a3.cmp (aF a) (aF b) < 0):a3.cmp (aF a) (aF (hv a b)) < 0∧a3.cmp (aF (hv a b)) (aF b)≤0∧(hv a b).size≤b.size:=by
 have e:=v3 c;have d:=a3.hy.1 c;refine ⟨?_,?_,by unfold hv;rw [ByteArray.size_extract];omega⟩
 ·rw [a3.hy];unfold hv;rw [zA,a3.BB _ _ _ (by rw [fV];omega),d];simp
 ·have: ¬0 < a3.cmp (aF (hv a b)) (aF b):=by
   rw [a3.Co];unfold hv;rw [zA,BC];simp
  omega
theorem DY(y:dO d=true)(E:2≤d.length): ∃ key,jX d=(Z key,0)∧key.size≤16∧(∀ x∈d.take (d.length / 2),aE x.key < aE key)∧(∀ x∈d.drop (d.length / 2),aE key≤aE x.key)∧place key d=d.length / 2:=by
 have a:=(js d).1 y;have c:d.length / 2 - 1 < d.length:=K;have e:d.length / 2 < d.length:=K;have z:gU d[d.length / 2 - 1] d[d.length / 2]:=lp.1 a.2 _ _ c e K;have p:a3.cmp (aF (bJ d (d.length / 2 - 1))) (aF (bJ d (d.length / 2))) < 0:=by
  unfold bJ;rw [fL c,fL e];exact a3.hy.2 z
 obtain ⟨j,k,v⟩:=BS p;have t:=jU (a.1 _ (hI c));have u:=jU (a.1 _ (hI e));have l:bJ d (d.length / 2 - 1)=d[d.length / 2 - 1].key:=by unfold bJ;rw [fL c]
 have m:bJ d (d.length / 2)=d[d.length / 2].key:=by unfold bJ;rw [fL e]
 rw [l,m] at j k v;have f: (hv d[d.length / 2 - 1].key d[d.length / 2].key).size≤16:=K;have C:=(gC t f).1 j;have D:=(yN f u).1 k;have n: ∀ x∈d.take (d.length / 2),aE x.key < aE (hv d[d.length / 2 - 1].key d[d.length / 2].key):=fun x h=>by
  obtain ⟨i,g,rfl⟩:=oq h;rw [fm] at g;rw [uF];rcases dC i (d.length / 2 - 1) with q|q
  ·have:=lp.1 a.2 i _ K c q;have:=(lX (jU (a.1 _ (hI K))) t).1 this;omega
  ·have:i=d.length / 2 - 1:=by omega
   subst this;exact C
 have o: ∀ x∈d.drop (d.length / 2),aE (hv d[d.length / 2 - 1].key d[d.length / 2].key)≤aE x.key:=fun x h=>by
  obtain ⟨i,g,rfl⟩:=oq h;rw [hl] at g;rw [List.getElem_drop];rcases gm i with q|q
  ·subst q;simpa using D
  ·have:=lp.1 a.2 (d.length / 2) (d.length / 2+i) e K K;have:=(lX u (jU (a.1 _ (hI K)))).1 this;omega
 refine ⟨_,?_,f,n,o,?_⟩
 ·unfold jX;rw [aS K,a9 p,l,m]
 ·have s:=yr (key:=hv d[d.length / 2 - 1].key d[d.length / 2].key) (A:=d.take (d.length / 2)) (B:=d.drop (d.length / 2)) (fun r b=>(lX (jU (a.1 r (mU b))) f).2 (n r b)) (fun r b=>by
   have F:=o r b;cases w:a3.before (aF r.key) (aF (hv d[d.length / 2 - 1].key d[d.length / 2].key)) with
   |false=>rfl
   |true=>
    have:=(lX (jU (a.1 r (pT b))) f).1 w;omega)
  rw [jF,fm] at s;rw [s];omega
theorem GW(q:dO d=true){low high b:ByteArray}{unb:Bool}(h:low.size≤16)(i:high.size≤16)(j:b.size≤16)(r:aE low≤aE b)(s:aE b≤df high unb){rows e B:List aN}(m:rows=d.filter (cU low high unb))(p:rows=e++B)(k: ∀ x∈e,aE x.key < aE b)(l: ∀ x∈B,aE b≤aE x.key):
  e=d.filter (cU low b false)∧B=d.filter (cU b high unb):=by
 have c: ∀ x∈d,x.key.size≤16:=fun x a=>jU (((js d).1 q).1 x a);have aD:df b false=aE b:=rfl;have n:d.filter (cU low b false)=rows.filter (fun x=>decide (aE x.key < aE b)):=by
  rw [m,List.filter_filter];refine mL fun x a=>?_;have f:cU low b false x=true↔_:=iM h j (c x a);have g:cU low high unb x=true↔_:=iM h i (c x a);rw [iY,f,fZ,g,dp];omega
 have o:d.filter (cU b high unb)=rows.filter (fun x=>decide (aE b≤aE x.key)):=by
  rw [m,List.filter_filter];refine mL fun x a=>?_;have f:cU b high unb x=true↔_:=iM j i (c x a);have g:cU low high unb x=true↔_:=iM h i (c x a);rw [iY,f,fZ,g,dp];omega
 rw [n,o,p,gn,gn];rw [rL.2 (fun x a=>eo (k x a)),pE.2 (fun x a=>by rw [dp];have:=l x a;omega),me];rw [pE.2 (fun x a=>by rw [dp];have:=k x a;omega),rL.2 (fun x a=>eo (l x a)),gJ];exact ⟨rfl,rfl⟩
section
theorem ck.sY(c:ck lim s M B j o h u d){p:Int}{a:Nat}{v:aY}(n:j p=Z (a,.aU v)):v.ag.length≤lim.ax:=by
 have w:=c.bj.ag _ _ _ n;have t: ∀ e∈v.ag,h e.page≠[]:=fun e k=>by
  rcases c.bj.down _ _ _ n e k with ⟨b,y, -,q, -⟩|⟨-, -, -,g,q, -⟩
  ·exact (c.eZ _ _ _ q).1
  ·exact (c.im _ _ q).1
 have A: ∀ e∈v.ag,∀ f∈v.ag,e.page=f.page→e=f:=fun e k f l r=>by
  rcases c.bj.down _ _ _ n e k with ⟨b,y, -,q, -⟩|⟨-,D, -,g,q, -⟩
  ·exact (c.bj.wz n n k l q r.symm).2.2
  ·rcases c.bj.down _ _ _ n f l with ⟨b,y, -,x, -⟩|⟨-,E, -,F,x, -⟩
   ·have:=(c.bj.lim _ _ q).1;rw [r,x] at this;cases this
   ·exact w.ok.one k l (by rw [D,E])
 have C: (v.ag.map fun e=>e.page.toNat).Nodup:=by
  rw [h4,l6];refine w.ok.ord.imp_of_mem fun {e f} k l J r=>?_;have G:=(c.mem.cc _ (t e k)).1;have I:=(c.mem.cc _ (t f l)).1;have:=A e k f l K;subst this;omega
 have:=mA (m:=List.range lim.ax) C fun i z=>by
  obtain ⟨e,k,rfl⟩:=kE.1 z;have:=(c.mem.cc _ (t e k)).2;rw [lm,←c.fB];exact (c3.1 this).1
 rwa [fM,mM] at this
theorem ck.nL(b:ck lim s M B j o h u d){p:Int}{a:Nat}{v:bl}(c:j p=Z (a,.leaf v)):v.rows.length≤s.length:=by
 rw[b.bj.rows _ _ _ c];exact bZ (kg _ _) (xN b.bj.ok b.jr)
theorem ck.nh(c:ck lim s M B j o h u d)(f:s.length≤100)(g:lim.ax≤1000){p:Int}{a:Nat}{b:aT}(e:j p=Z (a,b)):bT (fH b):=by
 cases b with
 |leaf v=>exact⟨bZ (c.nL e) f,gX⟩
 |aU v=>exact⟨gY,bZ (c.sY e) g⟩
theorem xJ(b:ck lim s M B j o h u d){p:Int}{a:Nat}{v:bl}(c:j p=Z (a,.leaf v)):dO v.rows=true∧(v.unb=true→v.high=b8)∧∀ x∈v.rows,cU v.low v.high v.unb x=true:=by
 have e:=b.bj.rows _ _ _ c;refine⟨by rw[e];exact q5 b.bj.ok (uG),(b.bj.b6 _ _ _ c).unb,fun x f=>?_⟩;rw[e]at f;exact(gW.1 f).2
theorem HE(g:ck lim s M B j o h u d)(E:s.length≤100)(F:lim.ax≤1000){c:cV}{wr:Bool}{z:Nat}{i:cn}{ab:Option bQ}(m:gd lim c.key M wr j o h u 0 V z i ab .tidy)(am:z≤lim.ax+b7 M):kn lim s c M B wr d:=by
 obtain⟨rfl,J⟩:=m.spec;obtain⟨a,D⟩:=m.ng g;have aa:=m.page g;have k:=D.cc;cases w:c8 lim.count M i.n (fH i.nd)with
 |no e=>exact⟨z+1,M,B,true,Z ⟨b8,e⟩,d,.uo m.walk (g.nh E F D.cc) w,K,Inv.mk g,rfl,rfl,.inl ⟨iO w,rfl⟩⟩
 |ok r al=>
  obtain⟨n,I,rfl⟩:=xy w;obtain⟨an,aq,ar,av,ae,ag,ax,ay⟩:=g.mem.alloc I;have S: ∃ C G,bT (fH i.nd)∧((fH i.nd).x.slot,(fH i.nd).x.gen)=((0:Int),(0:Int))∧dw [fH i.nd]=Z G∧cD C o d∧(∀ q b A,C q=Z (b,A)→(q=i.n∧A=G)∨(q≠i.n∧∃ L,j q=Z (L,A))):=by
   cases x:i.nd with
   |leaf v=>
    rw[x]at k;have t:v.gone=false:=by have:=J.gone;rw[x]at this;exact this
    obtain⟨N,P,Q⟩:=xJ g k;refine⟨j,_,⟨?_,gX⟩,rfl,o9 N P Q,g.bj,fun q b A l=>?_⟩
    ·show v.rows.length≤100;exact bZ (g.nL k) E
    ·by_cases e:q=i.n
     ·left;subst e;rw[k]at l;refine⟨rfl,?_⟩;rw[← (cs l).2];cases v;cases t;rfl
     ·exact .inr ⟨e,b,l⟩
   |aU v=>
    rw[x]at k;have t:v.held=false:=by have:=J.held rfl;rw[x]at this;exact this
    have p:=g.bj.ag _ _ _ k;have l:=g.bj.b6 _ _ _ k;have W:=o8 (y:=bA v) (.inl rfl) p l.low l.high l.unb;refine⟨_,_,⟨gY,?_⟩,rfl,W,g.bj.ua (v':={v with held:=false,aH:=0,bb:=0,aD:=b8}) k rfl rfl rfl rfl t ⟨p.ok,p.first,p.high⟩ (fun f R=> .inl (g.bj.below k R (.inl t))) (fun q=>by have q:false=true:=q;cases q),pw⟩;show v.ag.length≤1000;exact bZ (g.sY k) F
  obtain⟨C,G,u1,u2,u3,u4,u5⟩:=S;have T:=g.Bx aa.1 u1 u2 u3 I u4 u5 (g.bj.nA k) (b1 n i.n (Z r)).now;refine⟨z+3,b1 n i.n (Z r),B++[⟨(b1 n i.n (Z r)).now,i.refs, -1⟩],true,V,d,.tidy m.walk (g.nh E F D.cc) w,K,?_,ae,ag,rfl,.inl ⟨rfl,by show b7 M < b7 n;omega⟩⟩;rw[m.refs];exact Inv.mk T
end
section
structure vi (lim:aK) (s:List ByteArray) (j:ee) (o:LT) (l:List aN) (a:Nat) (x:aT) (d:ByteArray) (e:ar) (c:Int→aT) (b:aT):Prop where
 b6:d.size≤16
 s1:x.lo < aE d
 s2:aE d < x.hi
 a1: ∀ p,(c p).low=x.low∧(c p).high=d∧(c p).unb=false∧(c p).right=p
 ie:b.low=d∧b.high=x.high∧b.unb=x.unb∧b.right=x.right
 l: ∀ p y,y=c p∨y=b→∀ v,y= .leaf v→a=0∧v.gone=false∧v.rows=l.filter (cU v.low v.high v.unb)
 i: ∀ p y,y=c p∨y=b→∀ v,y= .aU v→0 < a∧v.held=false∧h8 v∧h7 j o a v
 q2: ∀ v,x= .aU v→v.held=false
 base:dw [e]=Z b∧bT e∧(e.x.slot,e.x.gen)=((0:Int),(0:Int))
theorem w7(e:ck lim s M B j o h u d)(ab:s.length≤100){p:Int}{a:Nat}{v:bl}(i:j p=Z (a,.leaf v))(n:v.gone=false)(I:2≤v.rows.length):
  ∃ b,(e5 v).1=Z b∧vi lim s j o d a (.leaf v) b ⟨bY (c6 v b),[]⟩ (fun p=> .leaf (eN v b p)) (.leaf (c6 v b))∧
   (∀ p,dw [⟨bY (eN v b p),[]⟩]=Z (.leaf (eN v b p))∧bT ⟨bY (eN v b p),[]⟩)∧(∀ p,fD (.leaf v) ⟨hZ b p,[]⟩=Z (.leaf (eN v b p))∧bT ⟨hZ b p,[]⟩):=by
 obtain ⟨l,aa,G⟩:=xJ e i;obtain ⟨b,P,m,D,E,Q⟩:=DY l I;have c:=e.bj.b6 _ _ _ i;have J:=e.bj.rows _ _ _ i;have z:=e.bj.leaf _ _ _ i;have ae:=e.nL i;have A: ∀ x∈v.rows,aE v.low≤aE x.key∧aE x.key < df v.high v.unb:=fun x g=>
  (iM c.low c.high (jU (((js _).1 l).1 x g))).1 (G x g)
 have N:v.rows.length / 2 - 1 < v.rows.length:=K;have C:v.rows.length / 2 < v.rows.length:=K;have R:v.rows[v.rows.length / 2 - 1]∈v.rows.take (v.rows.length / 2):=by
  have:=hI (show v.rows.length / 2 - 1 < (v.rows.take (v.rows.length / 2)).length by rw [fm];omega);rw [uF] at this;exact this
 have S:v.rows[v.rows.length / 2]∈v.rows.drop (v.rows.length / 2):=by
  rw [kQ C];exact rH
 have ag:=D _ R;have al:=E _ S;have am:=A _ (hI N);have an:=A _ (hI C);obtain ⟨t,w⟩:=GW e.bj.ok c.low c.high m (by show aE v.low≤aE b;omega) (by show aE b≤df v.high v.unb;omega) (rows:=v.rows) J (jF (v.rows.length / 2) v.rows).symm D E;have L: (e5 v).1=Z b:=by unfold e5;rw [n,aS bP,P]
 have T:dO (v.rows.take (v.rows.length / 2))=true:=q5 l (List.take_sublist _ _);have W:dO (v.rows.drop (v.rows.length / 2))=true:=q5 l (pR _ _);refine ⟨b,L,⟨m,by show aE v.low < aE b;omega,by show aE b < df v.high v.unb;omega,fun p=>⟨rfl,rfl,rfl,rfl⟩,⟨rfl,rfl,rfl,rfl⟩,fun p y r F f=>?_,fun p y r F f=>?_,fun F f=>(by cases f),⟨?_,⟨?_,gX⟩,rfl⟩⟩,fun p=>⟨?_,⟨?_,gX⟩⟩,fun p=>⟨?_,⟨gY,gX⟩⟩⟩
 ·rcases r with rfl|rfl
  ·cases f;exact ⟨z,rfl,t⟩
  ·cases f;exact ⟨z,rfl,w⟩
 ·rcases r with rfl|rfl <;> cases f
 ·refine o9 (v:=c6 v b) W c.unb fun x g=>?_;have k:x∈v.rows.drop (v.rows.length / 2):=g;rw [w] at k;exact (gW.1 k).2
 ·show (v.rows.drop (v.rows.length / 2)).length≤100;rw [hl];omega
 ·refine o9 (v:=eN v b p) T (fun q=>by cases q) fun x g=>?_;have k:x∈v.rows.take (v.rows.length / 2):=g;rw [t] at k;exact (gW.1 k).2
 ·show (v.rows.take (v.rows.length / 2)).length≤100;rw [fm];omega
 ·have:=H6 (p:=p) n ((iM c.low c.high m).2 ⟨by show aE v.low≤aE b;omega,by show aE b < df v.high v.unb;omega⟩) ((gC c.low m).2 (by show aE v.low < aE b;omega));rw [this,Q];cases v;cases n;rfl
theorem w6(m:ck lim s M B j o h u d)(az:lim.ax≤1000){p:Int}{a:Nat}{v:aY}(n:j p=Z (a,.aU v))(w:v.held=false)(ay:2≤v.ag.length)(aq am:Int)(al:ByteArray):
  vi lim s j o d a (.aU v) (bw v.ag (v.ag.length / 2)).key (bA (bN v)) (fun p=> .aU {cI v p with held:=false,aH:=aq,bb:=am,aD:=al}) (.aU {bN v with held:=false,aH:=0,bb:=0,aD:=b8})∧
   (∀ p,dw [bA (cI v p)]=Z (.aU {cI v p with held:=false,aH:=0,bb:=0,aD:=b8})∧bT (bA (cI v p)))∧(∀ p,fD (.aU v) (jn (bw v.ag (v.ag.length / 2)).key p)=Z (.aU {cI v p with held:=false,aH:=v.aH,bb:=v.bb,aD:=v.aD})∧bT (jn (bw v.ag (v.ag.length / 2)).key p)):=by
 have c:=m.bj.ag _ _ _ n;have G:=m.bj.b6 _ _ _ n;have aA:=m.sY n;have R:=m.bj.aU _ _ _ n;have l:v.ag.length / 2 < v.ag.length:=K;have ar:0 < v.ag.length:=K;have J:v.ag[v.ag.length / 2]∈v.ag:=hI l;have g:bw v.ag (v.ag.length / 2)=v.ag[v.ag.length / 2]:=jg l;rw [g];obtain ⟨I,ab,L,N⟩:=c.first;have aa:v.ag[0]=I:=by simp [L]
 have t:=c.ok.b6 _ J;have av:aE v.low < aE v.ag[v.ag.length / 2].key:=by
  have:=lp.1 c.ok.ord 0 (v.ag.length / 2) ar l K;rw [aa,N] at this;exact this
 have ax:=c.high _ J;have S: ∀ e∈v.ag.take (v.ag.length / 2),aE e.key < aE v.ag[v.ag.length / 2].key:=fun e b=>by
  obtain ⟨i,ag,rfl⟩:=oq b;rw [fm] at ag;rw [uF];exact lp.1 c.ok.ord i _ K l K
 have P: ∀ (p C z:Int) (x:ByteArray),h8 {cI v p with held:=false,aH:=C,bb:=z,aD:=x}:=fun p C z x=>by
  refine ⟨⟨fun e b=>c.ok.b6 e (mU b),c.ok.ord.sublist (List.take_sublist _ _)⟩,?_,fun e b=>?_⟩
  ·refine ⟨I,ab.take (v.ag.length / 2 - 1),?_,N⟩;show v.ag.take (v.ag.length / 2)=_;obtain ⟨T,an⟩: ∃ T,v.ag.length / 2=T+1:=⟨v.ag.length / 2 - 1,K⟩;rw [an,L,rZ];rfl
  ·show aE e.key < df (bw v.ag (v.ag.length / 2)).key false;rw [g];exact S e b
 have Q: ∀ (C z:Int) (x:ByteArray),h8 {bN v with held:=false,aH:=C,bb:=z,aD:=x}:=fun C z x=>by
  refine ⟨⟨fun e b=>c.ok.b6 e (pT b),c.ok.ord.sublist (pR _ _)⟩,?_,fun e b=>c.high e (pT b)⟩;refine ⟨v.ag[v.ag.length / 2],v.ag.drop (v.ag.length / 2+1),kQ l,?_⟩;show _=(bw v.ag (v.ag.length / 2)).key;rw [g]
 have E:bG v.ag[v.ag.length / 2].key v.ag=v.ag.length / 2:=by
  have:=tL (key:=v.ag[v.ag.length / 2].key) (A:=v.ag.take (v.ag.length / 2)) (B:=v.ag.drop (v.ag.length / 2)) (fun e b=>(gC (c.ok.b6 e (mU b)) t).2 (S e b)) (fun e b=>by
   rw [kQ l] at b;have:e=v.ag[v.ag.length / 2]:=(fo b).symm;subst this;intro q;have:=(gC t t).1 q;omega)
  rw [jF,fm] at this;rw [this];omega
 have ae:cY v.ag[v.ag.length / 2].key v.ag=true:=by
  unfold cY;rw [E,g];exact eo ⟨l,rfl⟩
 refine ⟨⟨t,av,ax,fun p=>⟨rfl,by show (bw v.ag (v.ag.length / 2)).key=_;rw [g],rfl,rfl⟩,⟨by show (bw v.ag (v.ag.length / 2)).key=_;rw [g],rfl,rfl,rfl⟩,fun p y F W r=>?_,fun p y F W r=>?_,fun W r=>?_,⟨?_,⟨gY,?_⟩,rfl⟩⟩,fun p=>⟨?_,⟨gY,?_⟩⟩,fun p=>⟨?_,⟨gY,gX⟩⟩⟩
 ·rcases F with rfl|rfl <;> cases r
 ·rcases F with rfl|rfl
  ·cases r;exact ⟨R,rfl,P _ _ _ _,fun f D=> .inl (m.bj.below n (mU D) (.inl w))⟩
  ·cases r;exact ⟨R,rfl,Q _ _ _,fun f D=> .inl (m.bj.below n (pT D) (.inl w))⟩
 ·cases r;exact w
 ·have k:=Q 0 0 b8;refine o8 (y:=bA (bN v)) (v:=bN v) (.inl rfl) ⟨k.ok,k.first,k.high⟩ ?_ G.high G.unb;show (bw v.ag (v.ag.length / 2)).key.size≤16;rw [g];exact t
 ·show (v.ag.drop (v.ag.length / 2)).length≤1000;rw [hl];omega
 ·have k:=P p 0 0 b8;refine o8 (y:=bA (cI v p)) (v:=cI v p) (.inl rfl) ⟨k.ok,k.first,k.high⟩ G.low ?_ (fun q=>by cases q);show (bw v.ag (v.ag.length / 2)).key.size≤16;rw [g];exact t
 ·show (v.ag.take (v.ag.length / 2)).length≤1000;rw [fm];omega
 ·rw [H0 w ae (by rw [E];omega),E];unfold cI;rw [g];cases v;cases w;rfl
end
section
theorem cX.tm(c:cX M h u B){p:Int}(d:0≤p)(j:h p=[])(g: ∀ b∈B,b.page≠p)(r:Option aA):cX (b1 M p r) h u B:=
 c.of (fun q a=>by
  rcases a with a|⟨b,i,rfl,f⟩
  ·exact lO M (c.cc q a).1 d (fun e=>by rw[e]at a;exact a j) r
  ·exact lO M f d (g b i) r) fun r y k _=>k
theorem kv(M:az)(p:Int): (eC M p).ax.length=M.ax.length:=jz ..
theorem oS(M:az)(r:aA): (e3 M r).aQ.length=M.aQ.length:=jz ..
structure Same (lim:aK) (s:List ByteArray) (M a:az) (B:List bK) (j:ee) (o:LT) (h:Int→List aA) (u:Int→List ar) (d:List aN) (e:Int):Prop where
 inv:ck lim s a B j o h u d
 code:e=3∨e=5
 now:a.now=M.now
 ins:a.ins=M.ins
theorem ck.pn(g:ck lim s M B j o h u d){n:Int}{t:Int→ar×ar}{x:az}{e:Int}(a:jl lim.count M n t= .no x e):Same lim s M x B j o h u d e:=by
 unfold jl at a;cases m:eR M with
 |none=>
  rw[m]at a;simp only[hs.no.injEq]at a;obtain⟨rfl,rfl⟩:=a;exact⟨g,.inl rfl,rfl,rfl⟩
 |some q=>
  obtain⟨p,i⟩:=q;rw[m]at a;dsimp only at a;obtain⟨z,v,w,aa,A,C,D,Q,ab⟩:=g.mem.take m;have l: (0:Int)≤p:=K;have y:i.ax.length=M.ax.length:=by rw[Q];exact hA _ _ _
  cases c:b2 lim.count i (t p).1 with
  |no N=>
   rw[c]at a;simp only[hs.no.injEq]at a;obtain⟨rfl,rfl⟩:=a;refine⟨g.lS (z.ku l v w) ?_ ?_,mn c,C,D⟩
   ·show i.aQ.length=_;rw[A]
   ·rw[kv,y]
  |ok f b=>
   rw[c]at a;dsimp only at a;obtain⟨E,F,G,I,J,L,S,T⟩:=z.alloc c;have P:=E.tm l v w (Z f);cases k:b2 lim.count (b1 b p (Z f)) (t p).2 with
   |ok W R=>rw[k]at a;cases a
   |no N=>
    rw[k]at a;simp only[hs.no.injEq]at a;obtain⟨rfl,rfl⟩:=a;refine⟨g.lS ((P.free (r:=f) F G).ku l v w) ?_ ?_,mn k,?_,?_⟩
    ·show(e3 _ f).aQ.length=_;rw[oS];show b.aQ.length=_;rw[jP c,A]
    ·rw[kv];show(b1 b p (Z f)).ax.length=_;rw[hA,I,y]
    ·show b.now=_;rw[J,C]
    ·show b.ins=_;rw[L,D]
structure sm (lim:aK) (s:List ByteArray) (M a:az) (B:List bK) (d:List aN):Prop where
 inv:Inv lim s a B d
 used:b7 M < b7 a
 now:a.now=M.now
 ins:a.ins=M.ins
theorem ck.GY(k:ck lim s M B j o h u d){n:Int}{a:Nat}{x aa:aT}{W:Int→aT}(P:j n=Z (a,x)){w:aA}(aM: (h n).head?=Z w){i:Int→ar×ar}{E:az}(c:jl lim.count M n (fun p=>((i p).1,nx (i p).2 w))= .ok E)
  (aL: ∀ p,dw [(i p).1]=Z aa∧bT (i p).1∧((i p).1.x.slot,(i p).1.x.gen)=((0:Int),(0:Int)))(aS: ∀ p,fD x (i p).2=Z (W p)∧bT (i p).2)
  (aR: ∀ p,j p=V→o p=V→cD (bL (bL j n (Z (a,W p))) p (Z (a,aa))) o d):sm lim s M E B d:=by
 have z:=k.eZ _ _ _ P;unfold jl at c;cases C:eR M with
 |none=>rw[C]at c;cases c
 |some q=>
  obtain⟨p,A⟩:=q;rw[C]at c;dsimp only at c;obtain⟨aU,D,aV,aW,T,aX,aY,aZ,a4⟩:=k.mem.take C;have aQ: (0:Int)≤p:=K;have aN:A.ax.length=M.ax.length:=by rw[aZ];exact hA _ _ _
  have aK:j p=none:=by
   cases f:j (p:Int)with
   |none=>rfl
   |some l=>exact absurd D (k.eZ p l.1 l.2 (by rw[f])).1
  have N:o p=none:=by
   cases f:o (p:Int)with
   |none=>rfl
   |some l=>exact absurd D (k.im p l f).1
  have y:n≠p:=by rintro e;rw[e]at z;exact z.1 D
  cases t:b2 lim.count A (i p).1 with
  |no aI=>rw[t]at c;cases c
  |ok S m=>
   rw[t]at c;dsimp only at c;obtain⟨ab,ae,ag,F,al,am,an,a1⟩:=aU.alloc t;obtain⟨aq,av,ax⟩:=aL p;obtain⟨u1,u2⟩:=aS p;have aO:=ab.link aQ (by rw[kd,F];exact aW) aV av ae ag ax;cases v:b2 lim.count (b1 m p (Z S)) (nx (i p).2 w)with
   |no aI=>rw[v]at c;cases c
   |ok a3 r=>
    rw[v]at c;simp only[hs.ok.injEq]at c;subst c;obtain⟨ay,aC,aD,aE,aF,aG,aH,a2⟩:=aO.alloc v;have L:dM h p [S] n=h n:=cz y;have aJ:dM u p [(i p).1] n=u n:=cz y;have aP:=ay.push (p:=n) (by rw[L];exact z.1) (xZ u2 (Z w)) aC aD (by rw[L,aM];exact x0 _ _);refine⟨⟨_,o,_,_,⟨aR p aK N,aP,fun q b l f=>?_,fun q g f=>?_,?_,?_,k.jr⟩⟩,?_,?_,?_⟩
    ·rcases dJ f with⟨rfl,e⟩|⟨G,f⟩
     ·obtain⟨-,rfl⟩:=cs e;rw[cz (fun e=>y e.symm),cz (fun e=>y e.symm),ew,ew];exact⟨J,aq⟩
     ·rcases dJ f with⟨rfl,e⟩|⟨I,f⟩
      ·obtain⟨-,rfl⟩:=cs e;rw[ew,ew,aJ];exact⟨J,by rw[tD z.2];exact u1⟩
      ·rw[cz I,cz I,cz G,cz G];exact k.eZ q b l f
    ·have Q:q≠n:=by
      rintro rfl;have:=(k.bj.lim _ _ f).1;rw[P]at this;cases this
     have R:q≠p:=by rintro rfl;rw[N]at f;cases f
     rw[cz Q,cz Q,cz R,cz R];exact k.im q g f
    ·show r.aQ.length=_;rw[jP v];show m.aQ.length=_;rw[jP t,T];exact k.ls
    ·rw[hA,aE,hA,F,aN];exact k.fB
    ·show b7 M < b7 r;rw[aH];show b7 M < b7 m+1;rw[an];have:b7 A=b7 M:=by unfold b7;rw[T]
     omega
    ·show r.now=_;rw[aF];show m.now=_;rw[al,aX]
    ·show r.ins=_;rw[aG];show m.ins=_;rw[am,aY]
theorem G5(f:ck lim s M B j o h u d)(D:s.length≤100)(E:lim.ax≤1000)(ay:2≤lim.rows){c:cV}(ag:ga c){wr:Bool}{z:Nat}{k:cn}{ab:Option bQ}(m:gd lim c.key M wr j o h u 0 V z k ab .split)(az:z≤lim.ax+b7 M):kn lim s c M B wr d:=by
 obtain⟨rfl,Q,y,R⟩:=m.spec;obtain⟨a,n⟩:=m.ng f;have am:=m.page f;have l:=n.cc;have S:=n.tC f.bj ag.b6;obtain⟨L,N⟩:=oV am.1;have P:k.refs.head?=Z L:=by rw[m.refs];exact N
 have al: ∃ (g:Int→ar×ar) (I:Int→aT) (J:aT),(∀ p,lZ k.nd p=Z (g p))∧(∀ p,dw [(g p).1]=Z J∧bT (g p).1∧((g p).1.x.slot,(g p).1.x.gen)=((0:Int),(0:Int)))∧(∀ p,fD k.nd (g p).2=Z (I p)∧bT (g p).2)∧
   (∀ p,j p=V→o p=V→cD (bL (bL j k.n (Z (a,I p))) p (Z (a,J))) o d):=by
  cases w:k.nd with
  |leaf v=>
   rw[w]at l y;have q:v.gone=false:=by have:=Q.gone;rw[w]at this;exact this
   have an:lim.rows < v.rows.length:=y;obtain⟨W,aa,b,ae,C⟩:=w7 f D l q K;refine⟨fun p=>(⟨bY (c6 v W),[]⟩,⟨hZ W p,[]⟩),_,_,fun p=>?_,fun p=>b.base,C,fun p G F=>?_⟩
   ·show(match(e5 v).1 with|some aA=>_|none=>V)=_;rw[aa]
   ·have i:=b.a1 p;exact f.bj.split l R G F b.b6 b.s1 b.s2 i.1 i.2.1 i.2.2.1 i.2.2.2 b.ie.1 b.ie.2.1 b.ie.2.2.1 b.ie.2.2.2 S (b.l p) (b.i p) b.q2
  |aU v=>
   rw[w]at l y;have q:v.held=false:=by have:=Q.held rfl;rw[w]at this;exact this
   have an:lim.rows < v.ag.length:=y;obtain⟨b,ae,C⟩:=w6 f E l q K v.aH v.bb v.aD;refine⟨fun p=>(bA (bN v),jn (bw v.ag (v.ag.length / 2)).key p),_,_,fun p=>?_,fun p=>b.base,C,fun p G F=>?_⟩
   ·show(if v.held=false∧v.ag.length / 2≠0 then _ else V)=_;rw[a9 ⟨q,K⟩]
   ·have i:=b.a1 p;exact f.bj.split l R G F b.b6 b.s1 b.s2 i.1 i.2.1 i.2.2.1 i.2.2.2 b.ie.1 b.ie.2.1 b.ie.2.2.1 b.ie.2.2.2 S (b.l p) (b.i p) b.q2
 obtain⟨g,I,J,T,aq,av,ax⟩:=al;cases r:jl lim.count M k.n (fun p=>((g p).1,nx (g p).2 L))with
 |ok A=>
  have t:=f.GY l N r aq av ax;exact⟨z+5,A,B,true,V,d,.split m.walk (f.nh D E n.cc) P T r,K,t.inv,t.now,t.ins,rfl,.inl ⟨rfl,t.used⟩⟩
 |no A e=>
  have x:=f.pn r;exact⟨z+6,A,B,true,Z ⟨b8,e⟩,d,.pn m.walk (f.nh D E n.cc) P T r,K,Inv.mk x.inv,x.now,x.ins,.inl ⟨x.code,rfl⟩⟩
end
section
theorem qV{r a:aA}{c y:ar}(g:Live M r y)(b:Live M a c)(f:a≠r):Live (e3 M r) a c:=by
 have d:r.i≠a.i:=fun e=>f (g.one b e).symm;show(M.aQ.set r.i _)[a.i]?=_;rw[ll d];exact b
theorem ck.oU(g:ck lim s M B j o h u d){n:Int}{v:Int→Int→ar×ar×ar}{R:az}{e:Int}(a:jk lim.count M n v= .no R e):Same lim s M R B j o h u d e:=by
 unfold jk at a;cases J:eR M with
 |none=>
  rw[J]at a;simp only[hs.no.injEq]at a;obtain⟨rfl,rfl⟩:=a;exact⟨g,.inl rfl,rfl,rfl⟩
 |some q=>
  obtain⟨p,F⟩:=q;rw[J]at a;dsimp only at a;obtain⟨av,w,x,aR,C,D,E,aJ,aS⟩:=g.mem.take J;have t: (0:Int)≤p:=K;have am:F.ax.length=M.ax.length:=by rw[aJ];exact hA _ _ _
  cases L:eR F with
  |none=>
   rw[L]at a;simp only[hs.no.injEq]at a;obtain⟨rfl,rfl⟩:=a;exact⟨g.lS (av.ku t w x) (by show F.aQ.length=_;rw[C]) (by rw[kv,am]),.inl rfl,D,E⟩
  |some aH=>
   obtain⟨q,k⟩:=aH;rw[L]at a;dsimp only at a;obtain⟨aq,z,A,aP,N,P,Q,aI,aQ⟩:=av.take L;have y: (0:Int)≤q:=K;have I:k.ax.length=M.ax.length:=by rw[aI,hA,am]
   cases i:b2 lim.count k (v p q).1 with
   |no al=>
    rw[i]at a;simp only[hs.no.injEq]at a;obtain⟨rfl,rfl⟩:=a;exact⟨g.lS ((aq.ku y z A).ku t w x) (by show k.aQ.length=_;rw[N,C]) (by rw[kv,kv,I]),mn i,by show k.now=_;rw[P,D],by show k.ins=_;rw[Q,E]⟩
   |ok b l=>
    rw[i]at a;dsimp only at a;obtain⟨S,T,W,aa,ab,ae,aL,aM⟩:=aq.alloc i;cases m:b2 lim.count l (v p q).2.1 with
    |no al=>
     rw[m]at a;simp only[hs.no.injEq]at a;obtain⟨rfl,rfl⟩:=a;refine⟨g.lS (((S.free (r:=b) T W).ku y z A).ku t w x) ?_ ?_,mn m,?_,?_⟩
     ·show(e3 l b).aQ.length=_;rw[oS,jP i,N,C]
     ·rw[kv,kv];show l.ax.length=_;rw[aa,I]
     ·show l.now=_;rw[ab,P,D]
     ·show l.ins=_;rw[ae,Q,E]
    |ok c f=>
     rw[m]at a;dsimp only at a;obtain⟨ax,ag,ay,aA,aC,aD,aN,aE⟩:=S.alloc m;have aF:=(ax.tm t w x (Z b)).tm y z A (Z c);have an:=aE b _ T;cases G:b2 lim.count (b1 (b1 f p (Z b)) q (Z c)) (v p q).2.2 with
     |ok aO aK=>rw[G]at a;cases a
     |no al=>
      rw[G]at a;simp only[hs.no.injEq]at a;obtain⟨rfl,rfl⟩:=a;have aG:Live (e3 (b1 (b1 f p (Z b)) q (Z c)) c) b (v p q).1:=qV (M:=b1 (b1 f p (Z b)) q (Z c)) ag an.2 an.1;refine⟨g.lS ((((aF.free (r:=c) ag ay).free (r:=b) aG W).ku y z A).ku t w x) ?_ ?_,mn G,?_,?_⟩
      ·show(e3 (e3 _ c) b).aQ.length=_;rw[oS,oS];show f.aQ.length=_;rw[jP m,jP i,N,C]
      ·rw[kv,kv];show(b1 (b1 f p (Z b)) q (Z c)).ax.length=_;rw[hA,hA,aA,aa,I]
      ·show f.now=_;rw[aC,ab,P,D]
      ·show f.ins=_;rw[aD,ae,Q,E]
theorem ck.DP(k:ck lim s M B j o h u d){n:Int}{a:Nat}{x aS:aT}{aR:Int→aT}{aQ:Int→Int→aT}{aV:Nat}(aA:j n=Z (a,x)){i:Int→Int→ar×ar×ar}{am:az}(c:jk lim.count M n i= .ok am)
  (bj: ∀ p q,dw [(i p q).1]=Z (aR q)∧bT (i p q).1∧((i p q).1.x.slot,(i p q).1.x.gen)=((0:Int),(0:Int)))
  (bk: ∀ p q,dw [(i p q).2.1]=Z aS∧bT (i p q).2.1∧((i p q).2.1.x.slot,(i p q).2.1.x.gen)=((0:Int),(0:Int)))
  (bl: ∀ p q,j p=V→j q=V→p≠q→o p=V→o q=V→dw [(i p q).2.2]=Z (aQ p q)∧bT (i p q).2.2∧((i p q).2.2.x.slot,(i p q).2.2.x.gen)=((0:Int),(0:Int)))
  (bq: ∀ p q,j p=V→j q=V→p≠q→o p=V→o q=V→cD (bL (bL (bL j n (Z (aV,aQ p q))) p (Z (a,aR q))) q (Z (a,aS))) o d)(aM:Nat):sm lim s M am (B++[⟨aM,h n, -1⟩]) d:=by
 have al:=k.eZ _ _ _ aA;unfold jk at c;cases ag:eR M with
 |none=>rw[ag]at c;cases c
 |some q=>
  obtain⟨p,I⟩:=q;rw[ag]at c;dsimp only at c;obtain⟨bA,bB,bC,aN,aP,bD,bE,bF,bS⟩:=k.mem.take ag;have W: (0:Int)≤p:=K;have bn:I.ax.length=M.ax.length:=by rw[bF];exact hA _ _ _
  have aC: ∀ p:Int,h p=[]→j p=V∧o p=V∧n≠p:=fun p T=>by
   refine⟨?_,?_,fun e=>?_⟩
   ·cases aa:j (p:Int)with
    |none=>rfl
    |some m=>exact absurd T (k.eZ p m.1 m.2 (by rw[aa])).1
   ·cases aa:o (p:Int)with
    |none=>rfl
    |some m=>exact absurd T (k.im p m aa).1
   ·rw[e]at al;exact al.1 T
  cases ae:eR I with
  |none=>rw[ae]at c;cases c
  |some E=>
   obtain⟨q,t⟩:=E;rw[ae]at c;dsimp only at c;obtain⟨br,bs,bt,bv,aJ,bw,bx,aK,aL⟩:=bA.take ae;have ab: (0:Int)≤q:=K;have bo:t.ax.length=M.ax.length:=by rw[aK,hA,bn]
   have C: (p:Int)≠q:=fun e=>by
    have:p=q:=K;subst this;rw[aN]at aL;cases aL
   obtain⟨aD,P,R⟩:=aC p bB;obtain⟨aE,Q,S⟩:=aC q bs;have bp:t.ax[p]?=Z (Z V):=by
    rw[aK];have:=lO I (p:=(q:Int)) (q:=(p:Int)) W ab C V;rw[kd]at this;rw[this];exact aN
   cases y:b2 lim.count t (i p q).1 with
   |no aq=>rw[y]at c;cases c
   |ok F aU=>
    rw[y]at c;dsimp only at c;obtain⟨a3,a4,a5,N,a6,a7,a8,bP⟩:=br.alloc y;cases z:b2 lim.count aU (i p q).2.1 with
    |no aq=>rw[z]at c;cases c
    |ok G l=>
     rw[z]at c;dsimp only at c;obtain⟨aW,aX,an,L,aY,aZ,a1,a2⟩:=a3.alloc z;have aG:=a2 F _ a4;obtain⟨x1,bG,bH⟩:=bj p q;obtain⟨bI,bJ,bK⟩:=bk p q;obtain⟨bM,bN,bO⟩:=bl p q aD aE C P Q;have bh:=aW.link W (by rw[kd,L,N];exact bp) bC bG aG.2 a5 bH;have bm:lv (dM h p [F]) B G:=⟨fun r f=>by
      rcases j7 f with⟨-,D⟩|⟨-,D⟩
      ·rw[aO]at D;exact aG.1 D.symm
      ·exact an.c r D,an.b⟩
     have bi:=bh.link (p:=(q:Int)) ab (old:=Z V) (by
      rw[lO l ab W (fun e=>C e.symm),kd,L,N];exact bv) bt bJ (r:=G) aX bm bK
     cases A:b2 lim.count (b1 (b1 l p (Z F)) q (Z G)) (i p q).2.2 with
     |no aq=>rw[A]at c;cases c
     |ok bR v=>
      rw[A]at c;simp only[hs.ok.injEq]at c;subst c;obtain⟨a9,bb,bc,bd,be,bf,bg,bQ⟩:=bi.alloc A;have ay:dM (dM h p [F]) q [G] n=h n:=by rw[cz S,cz R]
      have aF:=a9.zt (p:=n) (by rw[ay];exact al.1) bN bb bc bO aM;rw[ay]at aF;refine⟨⟨_,o,_,_,⟨bq p q aD aE C P Q,aF,fun r b m f=>?_,fun r g f=>?_,?_,?_,k.jr⟩⟩,?_,?_,?_⟩
      ·rcases dJ f with⟨rfl,e⟩|⟨w,f⟩
       ·obtain⟨-,rfl⟩:=cs e;rw[cz (fun e=>S e.symm),cz (fun e=>S e.symm),ew,ew];exact⟨J,bI⟩
       ·rcases dJ f with⟨rfl,e⟩|⟨av,f⟩
        ·obtain⟨-,rfl⟩:=cs e;rw[cz (fun e=>R e.symm),cz (fun e=>R e.symm),cz w,cz w,ew,ew];exact⟨J,x1⟩
        ·rcases dJ f with⟨rfl,e⟩|⟨ax,f⟩
         ·obtain⟨-,rfl⟩:=cs e;rw[ew,ew];exact⟨J,bM⟩
         ·rw[cz ax,cz ax,cz w,cz w,cz av,cz av];exact k.eZ r b m f
      ·have aH:r≠n:=by
        rintro rfl;have:=(k.bj.lim _ _ f).1;rw[aA]at this;cases this
       have E:r≠p:=by rintro rfl;rw[P]at f;cases f
       have aI:r≠q:=by rintro rfl;rw[Q]at f;cases f
       rw[cz aH,cz aH,cz aI,cz aI,cz E,cz E];exact k.im r g f
      ·show v.aQ.length=_;rw[jP A];show l.aQ.length=_;rw[jP z,jP y,aJ,aP];exact k.ls
      ·rw[hA,bd,hA,hA,L,N,bo];exact k.fB
      ·show b7 M < b7 v;rw[bg];show b7 M < b7 l+1;rw[a1,a8];have:b7 t=b7 M:=by unfold b7;rw[aJ,aP]
       omega
      ·show v.now=_;rw[be];show l.now=_;rw[aY,a6,bw,bD]
      ·show v.ins=_;rw[bf];show l.ins=_;rw[aZ,a7,bx,bE]
theorem DV(l:ck lim s M B j o h u d)(aa:s.length≤100)(ae:lim.ax≤1000)(aP:2≤lim.rows){c:cV}(aQ:ga c){wr:Bool}{S:Nat}{k:cn}{ab:Option bQ}(G:gd lim c.key M wr j o h u 0 V S k ab .grow)(aR:S≤lim.ax+b7 M):kn lim s c M B wr d:=by
 obtain⟨rfl,av,R,ax⟩:=G.spec;obtain⟨a,W⟩:=G.ng l;have m:=W.cc;have w:=l.bj.b6 _ _ _ m;have aD: ∃ (i:Int→Int→ar×ar×ar) (an:Int→aT) (aq:aT) (am:Int→Int→aT),(∀ p q,lM k.nd p q=Z (i p q))∧
   (∀ p q,dw [(i p q).1]=Z (an q)∧bT (i p q).1∧((i p q).1.x.slot,(i p q).1.x.gen)=((0:Int),(0:Int)))∧
   (∀ p q,dw [(i p q).2.1]=Z aq∧bT (i p q).2.1∧((i p q).2.1.x.slot,(i p q).2.1.x.gen)=((0:Int),(0:Int)))∧
   (∀ p q,j p=V→j q=V→p≠q→o p=V→o q=V→dw [(i p q).2.2]=Z (am p q)∧bT (i p q).2.2∧((i p q).2.2.x.slot,(i p q).2.2.x.gen)=((0:Int),(0:Int)))∧
   (∀ p q,j p=V→j q=V→p≠q→o p=V→o q=V→cD (bL (bL (bL j k.n (Z (a+1,am p q))) p (Z (a,an q))) q (Z (a,aq))) o d):=by
  have I: ∀ (p q:Int) (g:ByteArray) (v:aY),g.size≤16→k.nd.lo < aE g→aE g < k.nd.hi→v.low=k.nd.low→v.high=k.nd.high→v.unb=k.nd.unb→v.ag=[⟨v.low,p⟩,⟨g,q⟩]→h8 v:=fun p q g v aG ay aH al aI aJ T=>by
   refine⟨⟨fun f n=>?_,?_⟩,⟨_,_,T,rfl⟩,fun f n=>?_⟩
   ·rw[T]at n;simp only[bd,c0,db]at n;rcases n with rfl|rfl
    ·show v.low.size≤16;rw[al];exact w.low
    ·exact aG
   ·rw[T,hJ];refine⟨fun f n=>?_,pS _ _⟩;rw[aO]at n;subst n;show aE v.low < aE g;rw[al];exact ay
   ·rw[aI,aJ];have x:aE g < df k.nd.high k.nd.unb:=aH;have z:aE k.nd.low < aE g:=ay;rw[T]at n;simp only[bd,c0,db]at n;rcases n with rfl|rfl
    ·show aE v.low < _;rw[al];omega
    ·exact x
  cases P:k.nd with
  |leaf v=>
   rw[P]at m R I w;have J:v.gone=false:=by have:=av.gone;rw[P]at this;exact this
   have aF:lim.rows < v.rows.length:=R;obtain⟨g,aA,b,C,aC⟩:=w7 l aa m J K;refine⟨fun p q=>(⟨bY (eN v g q),[]⟩,⟨bY (c6 v g),[]⟩,⟨eW v,[⟨v.low,p⟩,⟨g,q⟩]⟩),_,_,fun p q=> .aU ⟨v.low,v.high,v.unb,v.right,[⟨v.low,p⟩,⟨g,q⟩],false,0,0,b8⟩,fun p q=>?_,fun p q=>⟨(C q).1,(C q).2,rfl⟩,fun p q=>b.base,fun p q D z x E F=>⟨?_,⟨gY,by show 2≤1000;omega⟩,rfl⟩,fun p q D z x E F=>?_⟩
   ·show(match(e5 v).1 with|some aS=>_|none=>V)=_;rw[aA]
   ·exact o8 (y:=⟨eW v,[⟨v.low,p⟩,⟨g,q⟩]⟩) (v:=⟨v.low,v.high,v.unb,v.right,[⟨v.low,p⟩,⟨g,q⟩],false,0,0,b8⟩) (.inr ⟨rfl,rfl⟩) (I p q g _ b.b6 b.s1 b.s2 rfl rfl rfl rfl) w.low w.high w.unb
   ·have r:=b.a1 q;rw[ax]at m ⊢;exact l.bj.grow (t:=⟨v.low,v.high,v.unb,v.right,[⟨v.low,p⟩,⟨g,q⟩],false,0,0,b8⟩) m D z x E F b.b6 b.s1 b.s2 r.1 r.2.1 r.2.2.1 r.2.2.2 b.ie.1 b.ie.2.1 b.ie.2.2.1 rfl rfl rfl rfl rfl (b.l q) (b.i q) b.q2
  |aU v=>
   rw[P]at m R I w;have J:v.held=false:=by have:=av.held rfl;rw[P]at this;exact this
   have aF:lim.rows < v.ag.length:=R;obtain⟨b,C,aC⟩:=w6 l ae m J K 0 0 b8;refine⟨fun p q=>(bA (cI v q),bA (bN v),bA {v with ag:=[⟨v.low,p⟩,⟨(bw v.ag (v.ag.length / 2)).key,q⟩]}),_,_,fun p q=> .aU ⟨v.low,v.high,v.unb,v.right,[⟨v.low,p⟩,⟨(bw v.ag (v.ag.length / 2)).key,q⟩],false,0,0,b8⟩,fun p q=>?_,fun p q=>⟨(C q).1,(C q).2,rfl⟩,fun p q=>b.base,fun p q D z x E F=>⟨?_,⟨gY,by show 2≤1000;omega⟩,rfl⟩,fun p q D z x E F=>?_⟩
   ·show(if v.held=false∧v.ag.length / 2≠0 then _ else V)=_;rw[a9 ⟨J,K⟩]
   ·exact o8 (y:=bA {v with ag:=[⟨v.low,p⟩,⟨(bw v.ag (v.ag.length / 2)).key,q⟩]}) (v:={v with ag:=[⟨v.low,p⟩,⟨(bw v.ag (v.ag.length / 2)).key,q⟩]}) (.inl rfl) (I p q _ _ b.b6 b.s1 b.s2 rfl rfl rfl rfl) w.low w.high w.unb
   ·have r:=b.a1 q;rw[ax]at m ⊢;exact l.bj.grow (t:=⟨v.low,v.high,v.unb,v.right,[⟨v.low,p⟩,⟨(bw v.ag (v.ag.length / 2)).key,q⟩],false,0,0,b8⟩) m D z x E F b.b6 b.s1 b.s2 r.1 r.2.1 r.2.2.1 r.2.2.2 b.ie.1 b.ie.2.1 b.ie.2.2.1 rfl rfl rfl rfl rfl (b.l q) (b.i q) b.q2
 obtain⟨i,an,aq,am,az,aK,aL,aM,aN⟩:=aD;cases L:jk lim.count M k.n i with
 |ok A=>
  have N:=l.DP m L aK aL aM aN A.now;refine⟨S+9,A,B++[⟨A.now,k.refs, -1⟩],true,V,d,.grow G.walk (l.nh aa ae W.cc) az L,K,?_,N.now,N.ins,rfl,.inl ⟨rfl,N.used⟩⟩;rw[G.refs];exact N.inv
 |no A e=>
  have Q:=l.oU L;exact⟨S+11,A,B,true,Z ⟨b8,e⟩,d,.oU G.walk (l.nh aa ae W.cc) az L,K,Inv.mk Q.inv,Q.now,Q.ins,.inl ⟨Q.code,rfl⟩⟩
end
section
theorem cD.E1(b:cD j o d){h:Int}{v:aY}(g:j h=Z (1,.aU v))(r:v.held=true){c:Int}{a:bl}(n:j c=Z (0,.leaf a))(l:aE v.low≤aE a.low)(m:aE a.low < aE v.aD):a.gone=false:=by
 cases p:a.gone with
 |false=>rfl
 |true=>
  obtain⟨q,x,e,i,s,f⟩:=b.gone c 0 a n p;obtain⟨-,u1,u2,u3, -⟩:=b.holds e i;obtain⟨-,t,u,w, -⟩:=b.holds g r;rw[f]at u2 u3;obtain⟨-,rfl⟩:=b.qN g e (k:=aE a.low) l K K u3;rw[f]at m;omega
theorem xL(e:ck lim s M B j o h u d){av:Int}{v:aY}(F:j av=Z (1,.aU v))(G:v.held=true): ∀ (N:Nat) (c:Int) (b:bl),aE v.aD - aE b.low≤N→j c=Z (0,.leaf b)→aE v.low≤aE b.low→aE b.low < aE v.aD→
  ∃ (S:Nat) (m:cn) (a:bl) (t:Bool) (C:List Int),jM lim M v c S m a t∧m.refs=h m.n∧j m.n=Z (0,.leaf a)∧a.gone=false∧S=(C.map fun p=>1+(h p).length).sum∧C.Nodup∧(∀ p∈C,∃ y,j p=Z (0,y)∧y.lo < aE v.aD∧aE b.low≤y.lo)∧
   (∀ g,j v.aH=Z (0,.leaf g)→t=true)∧(j v.aH=V→t=false)∧(t=true→a.unb=false∧a.high=v.aD∧a.right=v.aH):=by
 have I:=(e.bj.holds F G).2.1;intro N;induction N with
 |zero=>intro c b aC f ab D;omega
 |succ N ih=>
  intro c b aC f ab D;have l:=e.bj.E1 F G f ab D;have E:=e.page f;have L:=e.bj.b6 _ _ _ f;have aI:=hX v.aD;have R: ∀ p∈[c],∃ y,j p=Z (0,y)∧y.lo < aE v.aD∧aE b.low≤y.lo:=fun p r=>by
   rw [aO] at r;subst r;exact ⟨_,f,D,aG _⟩
  cases n: (aT.leaf b).has v.aD with
  |true=>
   have ae:=(nu L I).1 n;refine ⟨_,⟨c,h c,u c,.leaf b⟩,b,false,[c],.has E rfl l (.inl n),rfl,f,l,J,J,R,fun g Q=>?_,fun _=>rfl,fun q=>by cases q⟩;exfalso;rcases e.bj.aH F G with ⟨w,i,aV,T⟩|⟨w,i, -⟩
   ·have aH:=e.bj.span _ _ _ i;have aa: (aT.leaf w).lo=aE v.aD:=T;obtain ⟨-,ax⟩:=e.bj.same f i (aE v.aD) ae.1 ae.2 K K;rw [←ax] at aa;have: (aT.leaf b).lo=aE b.low:=rfl;omega
   ·have:=(e.bj.lim _ _ i).1;rw [Q] at this;cases this
  |false=>
   have a1: ¬ ((aT.leaf b).lo≤aE v.aD∧aE v.aD < (aT.leaf b).hi):=fun q=>by
    have:=(nu L I).2 q;rw [n] at this;cases this
   have aW: (aT.leaf b).lo=aE b.low:=rfl;have az: (aT.leaf b).hi≤aE v.aD:=K;have A:b.unb=false:=tp.1 (show df b.high b.unb < eL from jB az aI);have aA: (aT.leaf b).hi=aE b.high:=by show df b.high b.unb=_;unfold df;rw [A];rfl
   obtain ⟨aq,k,ar⟩:=e.bj.right _ _ _ f K;have a2:=e.bj.span _ _ _ f;have a4:=e.bj.span _ _ _ k;by_cases x:b.high=v.aD
   ·have a5:aq.lo=aE v.aD:=by rw [ar,aA,x]
    by_cases z:b.right=v.aH
    ·refine ⟨_,⟨c,h c,u c,.leaf b⟩,b,true,[c],.pr E rfl l ⟨n,A,x,z⟩,rfl,f,l,J,J,R,fun _ _=>rfl,fun q=>?_,fun _=>⟨A,x,z⟩⟩;rw [show (aT.leaf b).right=b.right from rfl,z,q] at k;cases k
    ·refine ⟨_,⟨c,h c,u c,.leaf b⟩,b,false,[c],.has E rfl l (.inr ⟨n,A,x,z⟩),rfl,f,l,J,J,R,fun g Q=>?_,fun _=>rfl,fun q=>by cases q⟩;exfalso;rcases e.bj.aH F G with ⟨w,i,aV,T⟩|⟨w,i, -⟩
     ·have aH:=e.bj.span _ _ _ i;have aa: (aT.leaf w).lo=aE v.aD:=T;exact z (e.bj.hg _ _ _ _ _ (aE v.aD) k i K K K K)
     ·have:=(e.bj.lim _ _ i).1;rw [Q] at this;cases this
   ·have aZ:aE b.high≠aE v.aD:=fun q=>x (pi L.high I q);have ay:a3.cmp (aF b.high) (aF v.aD) < 0:=(gC L.high I).2 (by show aE b.high < aE v.aD;omega);cases ag:aq with
    |aU a6=>
     rw [ag] at k;have:=e.bj.aU _ _ _ k;omega
    |leaf W=>
     rw [ag] at k ar;have aX: (aT.leaf W).lo=aE W.low:=rfl;obtain ⟨S,m,a,t,C,aJ,aL,aM,aN,aP,aQ,al,aR,aS,aK⟩:=ih b.right W K k K K;refine ⟨_,m,a,t,c::C,.next E rfl l ⟨n,A,ay⟩ aJ,aL,aM,aN,by rw [kc,l8,aP],fN.2 ⟨fun aD=>?_,aQ⟩,fun p r=>?_,aR,aS,aK⟩
     ·obtain ⟨y,P,am,an⟩:=al c aD;rw [f] at P;rw [← (cs P).2] at an;omega
     ·rcases bd.1 r with rfl|r
      ·exact ⟨_,f,D,aG _⟩
      ·obtain ⟨y,P,am,an⟩:=al p r;exact ⟨y,P,am,K⟩
theorem wi(a:ck lim s M B j o h u d){m:Int}{v:aY}(n:j m=Z (1,.aU v))(G:v.held=true){g:bl}(F:o v.aH=Z g){R:aA}(ag: (h m).head?=Z R){r:aA}{L:az}(al:c8 lim.count M m (nx gS R)= .ok r L)(ab:Nat):sm lim s M L (B++[⟨ab,h v.aH,v.aH⟩]) d:=by
 have aa:=a.eZ _ _ _ n;have w:=a.bj.ag _ _ _ n;have I:=(a.bj.lim _ _ F).1;have Q:m≠v.aH:=fun e=>by rw[←e,n]at I;cases I
 obtain⟨-,⟨A,x,y,c,l,N,ax,ay⟩, -⟩:=a.bj.held _ _ _ n G;have K:=w.ok.ord;rw[l,h6]at K;have ar:y∈v.ag:=by rw[l];simp
 have an:x∈v.ag:=by rw[l];simp
 have z:=w.ok.b6 y ar;have aq:aE x.key < aE y.key:=(hJ.1 K.2.1).1 y J;have am:bG v.aD v.ag=A.length+1:=by
  rw[←N,l,show A++x::y::c=(A++[x])++y::c by simp];have:=tL (key:=y.key) (A:=A++[x]) (B:=y::c) (fun f E=>?_) (fun f E=>?_)
  ·rw[this];simp
  ·rcases cu.1 E with q|q
   ·exact(gC (w.ok.b6 f (by rw[l];simp[q])) z).2 (K.2.2 f q y J)
   ·rw[aO]at q;subst q;exact(gC (w.ok.b6 _ an) z).2 aq
  ·have:f=y:=(fo E).symm;subst this;intro q;have:=(gC z z).1 q;omega
 have W:=HY G;have ae:v.ag.take (A.length+1)++v.ag.drop (A.length+1+1)=A++x::c:=by
  rw[l,show A++x::y::c=(A++[x])++y::c by simp];rw[rX J];rw[show A.length+1+1=((A++[x])++[y]).length by simp,show(A++[x])++y::c=((A++[x])++[y])++c by simp,List.drop_left];simp
 rw[am,ae]at W;have T:=a.bj.drop n G F l N;have i:=a.pc aa.1 aa.2 ag (y:=gS) ⟨gY,gX⟩ W al T a.jr pw (fun q D k=>by
  rcases dJ k with⟨-,C⟩|⟨-,C⟩
  ·cases C
  ·exact a.bj.nA n q D C)
 have P:dM h m (r::h m) v.aH=h v.aH:=cz (fun e=>Q e.symm);have S:=i.inv.mem.FZ (p:=v.aH) (by rw[P];exact(a.im _ _ F).1) ab;rw[P]at S;refine⟨⟨_,_,_,_,⟨T,S,fun q b av k=>?_,fun q D k=>?_,i.inv.ls,i.inv.fB,a.jr⟩⟩,by rw[i.used];omega,i.now,i.ins⟩
 ·have t:q≠v.aH:=by
   rintro rfl;rcases dJ k with⟨e, -⟩|⟨-,e⟩
   ·exact Q e.symm
   ·rw[I]at e;cases e
  rw[cz t,cz t];exact i.inv.eZ q b av k
 ·have t:q≠v.aH:=by
   rintro rfl;rw[iy]at k;cases k
  rw[cz t,cz t];exact i.inv.im q D k
theorem Gq(a:ck lim s M B j o h u d){n:Int}{v:aY}(k:j n=Z (1,.aU v))(x:v.held=true){g:bl}(c:j v.aH=Z (0,.leaf g))(J:g.gone=false){w:aA}(K: (h v.aH).head?=Z w){r:aA}{z:az}(L:c8 lim.count M v.aH (nx kB w)= .ok r z):
  st lim s M z B (bL j v.aH (Z (0,.leaf {g with gone:=true}))) o h u v.aH r (nx kB w) d:=by
 have C:=a.eZ _ _ _ c;have R:=a.bj.b6 _ _ _ c;have I:n≠v.aH:=fun e=>by rw[←e,k]at c;cases(cs c).2
 obtain⟨-,P, -⟩:=a.bj.holds k x;rcases a.bj.aH k x with⟨D,m,T,W⟩|⟨D,m, -⟩
 ·rw[c]at m;have A:=(cs m).2;simp only[aT.leaf.injEq]at A;subst A;have aD:v.aD=g.low:=pi P R.low W.symm;refine a.pc C.1 C.2 K (y:=kB) ⟨gY,gX⟩ (H5 J) L (a.bj.set (x':= .leaf {g with gone:=true}) c rfl rfl rfl rfl (fun _ _=>rfl) (fun _ e=>by cases e) a.bj.ok (fun q b i l=>?_) (fun i e=>by cases e) (fun q b i al l ae ag=>⟨_,rfl,T⟩) (fun q b i l Q=>?_)) a.jr pw (a.bj.nA c)
  ·rcases dJ l with⟨e,p⟩|⟨S,e⟩
   ·have f:=(cs p).2;simp only[aT.leaf.injEq]at f;subst f;have N:=a.bj.rows _ _ _ c;exact N
   ·exact a.bj.rows q b i e
  ·rcases dJ l with⟨e,p⟩|⟨S,e⟩
   ·have f:=(cs p).2;simp only[aT.leaf.injEq]at f;subst f;exact⟨n,v,by rw[fk I];exact k,x,e.symm,aD⟩
   ·obtain⟨aa,ab,t,E,F,G⟩:=a.bj.gone q b i e Q;refine⟨aa,ab,?_,E,F,G⟩;rw[fk]
    ·exact t
    ·rintro rfl;rw[c]at t;cases(cs t).2
 ·have:=(a.bj.lim _ _ m).1;rw[c]at this;cases this
theorem Fo(c:ck lim s M B j o h u d){G:Int}{v:aY}(ab:j G=Z (1,.aU v))(ae:v.held=true){g:bl}(k:j v.aH=Z (0,.leaf g))(w:g.gone=true)(x:g.rows=[])(C:g.low=v.aD){i:Int}{f:bl}(m:j i=Z (0,.leaf f))(n:f.gone=false)(P:f.unb=false∧f.high=v.aD∧f.right=v.aH)
  {t:aA}(L: (h i).head?=Z t){r:aA}{A:az}(N:c8 lim.count M i (nx (hb g) t)= .ok r A):
  st lim s M A B (bL (bL j i (Z (0,.leaf ⟨f.low,g.high,g.unb,g.right,f.rows++g.rows,false⟩))) v.aH V) (bL o v.aH (Z g)) h u i r (nx (hb g) t) d:=by
 have D:=c.eZ _ _ _ m;have z:=c.bj.b6 _ _ _ k;have Q:=c.bj.span _ _ _ k;obtain⟨E,F,aa⟩:=P;have K:i≠v.aH:=by
  rintro e;rw[←e,m]at k;have l:=(cs k).2;simp only[aT.leaf.injEq]at l;rw[l]at n;rw[n]at w;cases w
 have R:=c.bj.merge m k E (by rw[F,C]) aa n w x;refine c.pc D.1 D.2 L (y:=hb g) ⟨by show g.rows.length≤100;rw[x];show 0≤100;omega,gX⟩ (H2 n E (by rw[F,C]) x z.unb ?_) N R c.jr (fun q b ag a=>?_) (fun q J a=>?_)
 ·cases S:g.unb with
  |true=>exact .inl rfl
  |false=>
   right;refine(gC z.low z.high).2 ?_;have:aE g.low < df g.high g.unb:=Q;rw[S]at this;exact this
 ·rcases dJ a with⟨-,e⟩|⟨I,a⟩
  ·cases e
  ·rcases dJ a with⟨e,p⟩|⟨l,a⟩
   ·exact .inl ⟨e,(cs p).2.symm⟩
   ·exact .inr ⟨l,b,a⟩
 ·rcases dJ a with⟨e,p⟩|⟨I,a⟩
  ·cases p;exact⟨fun q=>K (by rw[←q,e]),.inr ⟨0,by rw[e];exact k⟩⟩
  ·obtain⟨T,W⟩:=c.bj.nA m q J a;exact⟨T,W⟩
end
section
def sj (lim:aK) (s:List ByteArray) (M:az) (B:List bK) (f:Int) (g:aA) (v:aY) (d:List aN):Prop:=
 ∃ b a c,iF lim M f g v b a c∧b≤lim.ax+b7 M+6∧a.now=M.now∧a.ins=M.ins∧
  match c with
  | .done h=>(∀ i,Inv lim s a (B++[⟨i,h,v.aH⟩]) d)∧b7 M < b7 a
  | .no e=>(e=3∨e=5)∧Inv lim s a B d
theorem xM(c:ck lim s M B j o h u d){i:Int}{v:aY}(f:j i=Z (1,.aU v))(k:v.held=true): ∃ a,j v.bb=Z (0,.leaf a)∧aE v.low≤aE a.low∧aE a.low < aE v.aD:=by
 obtain⟨-, -, -, -,x,y,x1,t,w,z,l,m⟩:=c.bj.holds f k;obtain⟨b,n,A,g,p⟩:=c.bj.below f x1 (.inr fun e=>by rw[e]at m;omega);obtain rfl:b=0:=K;rw[l]at g;have q:=(c.bj.ag _ _ _ f).lo x1;cases n with
 |aU r=>have:=c.bj.aU _ _ _ g;omega
 |leaf a=>
  have e:aE a.low=aE x.key:=p;exact⟨a,g,K,K⟩
theorem ck.xc(c:ck lim s M B j o h u d){b:Int}{a:Nat}{x:aT}(f:j b=Z (a,x)){e:aA}(g: (h b).head?=Z e):M.ax[b.toNat]?=Z (Z (Z e)):=by
 have:=(c.mem.cc b (c.eZ _ _ _ f).1).2;rw[g]at this;exact this
theorem Ef(b:ck lim s M B j o h u d){f:Int}{v:aY}(i:j f=Z (1,.aU v))(q:v.held=true){g:bl}(c:o v.aH=Z g){n:aA}(z: (h f).head?=Z n):sj lim s M B f n v d:=by
 have A:=(b.bj.lim _ _ c).1
 obtain⟨S,F,G,I⟩:=xM b i q
 obtain⟨R,P,a,al,vs,C,aa,ab,ae,L,N,D,ag,Q,W⟩:=xL b i q _ _ S (aG _) F G I
 obtain rfl:=Q A
 have x:ki lim M v (1+(h v.aH).length) M (h v.aH) g:= .dU (P:=⟨v.aH,h v.aH,u v.aH,.leaf g⟩) (b.yk c) rfl rfl (b.bj.lim _ _ c).2.1
 have T:1+(h v.aH).length+R≤lim.ax+b7 M:=by
  have:=b.cost (vs:=v.aH::vs) (fN.2 ⟨(fun J=>by
   obtain⟨y,m, -⟩:=D _ J
   rw[A]at m
   cases m),N⟩) (fun p t=>by
   rcases bd.1 t with rfl|t
   ·exact(b.im _ _ c).1
   ·obtain⟨y,m, -⟩:=D _ t
    exact(b.eZ _ _ _ m).1)
  rw[kc,l8,←L]at this
  exact this
 cases k:c8 lim.count M f (nx gS n)with
 |no e=>exact⟨_,M,.no e,.tk x C k,K,rfl,rfl,iO k,Inv.mk b⟩
 |ok r E=>
  have l:=fun w=>wi b i q c z k w
  exact⟨_,E,.done (h v.aH),.has x C (b.xc i z) k,K,(l 0).now,(l 0).ins,fun w=>(l w).inv,(l 0).used⟩
theorem xh{l:az}(i:ck lim s M B j o h u d){f:Int}{v:aY}(k:j f=Z (1,.aU v))(x:v.held=true){g:bl}(m:j v.aH=Z (0,.leaf g))(aa:g.gone=true)(ae:g.rows=[])(ab:g.low=v.aD){C:aA}(al: (h f).head?=Z C)
  {k1:Nat}(E:ki lim l v k1 M (h v.aH) g)(aN:k1+b7 M≤(h v.aH).length+3+b7 l)(aO:b7 l≤b7 M)(t:M.now=l.now)(G:M.ins=l.ins):sj lim s l B f C v d:=by
 obtain⟨aL,ar,av,ax⟩:=xM i k x
 obtain⟨aK,c,a,aQ,vs,I,aF,w,L,aH,aI,am,aJ,aP,J⟩:=xL i k x _ _ aL (aG _) ar av ax
 obtain rfl:=aJ g m
 have J:=J rfl
 have D:bT (hb g):=⟨by show g.rows.length≤100;rw[ae];show 0≤100;omega,gX⟩
 have aM:1+(h v.aH).length+aK≤lim.ax+b7 M:=by
  have:=i.cost (vs:=v.aH::vs) (fN.2 ⟨(fun t=>by
   obtain⟨y,A,an, -⟩:=am _ t
   rw[m]at A
   rw[← (cs A).2]at an
   have:aE g.low < aE v.aD:=an
   rw[ab]at this
   omega),aI⟩) (fun p b=>by
   rcases bd.1 b with rfl|b
   ·exact(i.eZ _ _ _ m).1
   ·obtain⟨y,A, -⟩:=am _ b
    exact(i.eZ _ _ _ A).1)
  rw[kc,l8,←aH]at this
  exact this
 obtain⟨R,ag⟩:=oV (i.eZ _ _ _ w).1
 have F:c.refs.head?=Z R:=by rw[aF];exact ag
 cases n:c8 lim.count M c.n (nx (hb g) R)with
 |no e=>exact⟨_,M,.no e,.uk E I D F n,K,t,G,iO n,Inv.mk i⟩
 |ok r P=>
  have b:=Fo i k x m aa ae ab w L J ag n
  have W:f≠c.n:=fun e=>by rw[e,w]at k;cases(cs k).2
  have aD:f≠v.aH:=fun e=>by rw[e,m]at k;cases(cs k).2
  have ay:c.n≠v.aH:=fun e=>by
   rw[e,m]at w
   have Q:=(cs w).2
   simp only[aT.leaf.injEq]at Q
   rw[←Q,aa]at L;cases L
  have T:bL (bL j c.n (Z (0,.leaf ⟨a.low,g.high,g.unb,g.right,a.rows++g.rows,false⟩))) v.aH V f=Z (1,.aU v):=by rw[fk aD,fk W];exact k
  have S:dM h c.n (r::h c.n) f=h f:=cz W
  have aC:dM h c.n (r::h c.n) v.aH=h v.aH:=cz (fun e=>ay e.symm)
  cases z:c8 lim.count P f (nx gS C)with
  |no e=>exact⟨_,P,.no e,.uj E I D F n z,K,by rw[b.now,t],by rw[b.ins,G],iO z,Inv.mk b.inv⟩
  |ok aR aq=>
   have q:=fun N=>wi b.inv T x (iy _ _ _) (by rw[S];exact al) z N
   rw[aC]at q
   refine⟨_,aq,.done (h v.aH),.pr E I D F n (b.inv.xc T (by rw[S];exact al)) z,K,by rw[(q 0).now,b.now,t],by rw[(q 0).ins,b.ins,G],fun N=>(q N).inv,?_⟩
   have:=(q 0).used
   rw[b.used]at this
   omega
theorem Ec(a:ck lim s M B j o h u d){f:Int}{v:aY}(b:j f=Z (1,.aU v))(i:v.held=true){x:aA}(n: (h f).head?=Z x):sj lim s M B f x v d:=by
 obtain ⟨-,C, -⟩:=a.bj.holds b i;rcases a.bj.aH b i with ⟨g,k1,q,E⟩|⟨g,k1,q⟩
 ·have D:=a.bj.b6 _ _ _ k1;have aD:g.low=v.aD:=pi D.low C E;cases k:g.gone with
  |true=>
   refine xh a b i k1 k q aD n (.dU (P:=⟨v.aH,h v.aH,u v.aH,.leaf g⟩) (a.page k1) rfl rfl k) ?_ (aG _) rfl rfl;show 1+(h v.aH).length+b7 M≤_;omega
  |false=>
   have y:=a.eZ _ _ _ k1;obtain ⟨z,m⟩:=oV y.1;cases l:c8 lim.count M v.aH (nx kB z) with
   |no e=>
    have G:1+(h v.aH).length≤lim.ax+b7 M:=by
     have:=a.cost (vs:=[v.aH]) J (fun p c=>by rw [aO] at c;subst c;exact y.1);simpa using this
    exact ⟨_,M,.no e,.tg (P:=⟨v.aH,h v.aH,u v.aH,.leaf g⟩) (a.page k1) rfl rfl k m l,(by show 1+(h v.aH).length+1≤_;omega),rfl,rfl,iO l,Inv.mk a⟩
   |ok r F=>
    have c:=Gq a b i k1 k m l;have w:f≠v.aH:=fun e=>by rw [e,k1] at b;cases (cs b).2
    have A:dM h v.aH (r::h v.aH) f=h f:=cz w;have t:dM h v.aH (r::h v.aH) v.aH=r::h v.aH:=ew _ _ _;refine xh c.inv (by rw [fk w];exact b) i (iy _ _ _) rfl q aD (by rw [A];exact n) (k1:=1+(h v.aH).length+2) ?_ ?_ (by rw [c.used];omega) c.now c.ins
    ·rw [t];exact .put (P:=⟨v.aH,h v.aH,u v.aH,.leaf g⟩) (a.page k1) rfl rfl k m l
    ·rw [t,c.used,fY];omega
 ·exact Ef a b i k1 n
theorem Eh(f:ck lim s M B j o h u d){c:cV}{wr:Bool}{l:Nat}{n:cn}{ab:Option bQ}(b:gd lim c.key M wr j o h u 0 V l n ab .gQ)(F:l≤lim.ax+b7 M):kn lim s c M B wr d:=by
 obtain⟨rfl,g⟩:=b.spec;obtain⟨a,A⟩:=b.ng f;have D:=b.page f;have p:=A.cc;obtain⟨C,q⟩:=oV D.1;have r:n.refs.head?=Z C:=by rw[b.refs];exact q
 cases i:n.nd with
 |leaf v=>rw[i]at g;cases g
 |aU v=>
  rw[i]at p g;have t:v.held=true:=g;obtain⟨rfl, -⟩:=f.bj.holds p t;obtain⟨z,m,E,w,G,x,y,k⟩:=Ec f p t q;cases E with
  |no e=>exact⟨l+z,m,B,true,Z ⟨b8,e⟩,d,.tn b.walk i r w,K,k.2,x,y,.inl ⟨k.1,rfl⟩⟩
  |done I=>exact⟨l+z+1,m,_,true,V,d,.gQ b.walk i r w,K,k.1 m.now,x,y,rfl,.inl ⟨rfl,k.2⟩⟩
theorem AP(k:ck lim s M B j o h u d){c:cV}(m:ga c){wr:Bool}{w:Nat}{f:cn}{ab:Option bQ}(r:gd lim c.key M wr j o h u 0 V w f ab .again)(E:w≤lim.ax+b7 M):kn lim s c M B wr d:=by
 have A:wr=false∧∃ v,f.nd= .leaf v:=by
  rcases r.pl with⟨a,l⟩|q
  ·have t:=k.bj.b6 _ _ _ l.cc;rcases r.spec with b|⟨b,n⟩|⟨b,v,n,D⟩
   ·cases p:f.nd with
    |aU v=>rw[p]at b;cases b
    |leaf v=>
     rw[p]at b;have i:=l;rw[p]at i;exact⟨i.DN k.bj m.b6 b,v,rfl⟩
   ·have G:aE c.key < aE f.nd.low:=(gC m.b6 t.low).1 n;have F:aE f.nd.low≤aE c.key:=l.le;omega
   ·exfalso;have y:=b.has;have i:=l;rw[n]at y i t;obtain⟨e,x, -⟩:=i.down k.bj m.b6 ((nu t m.b6).1 y).2 (fun q=>by have:=b.held q;rw[n]at this;exact this);rw[D]at x;cases x
  ·obtain⟨g, -,z, -⟩:=q.cc;exact⟨q.wr,g,z⟩
 obtain⟨rfl,v,C⟩:=A;exact⟨w,M,B,_,V,d,.again r.walk,K,Inv.mk k,rfl,rfl,rfl,.inr ⟨rfl,by rw[C];rfl,aG _⟩⟩
theorem yd(a:Inv lim s M B d)(g:s.length≤100)(i:lim.ax≤1000)(k:2≤lim.rows){c:cV}(f:ga c)(r:c.key∈s)(wr:Bool)(t:wr=false→c.kind=1):kn lim s c M B wr d:=by
 obtain⟨j,o,h,u,a⟩:=a;obtain⟨m,w,ab,v,b,e⟩:=IB a f.b6 wr;have l:=b.fin;cases v with
 |down n=>cases l
 |gM n=>cases l
 |again=>exact AP a f b e
 |post m p=>exact Gd a f b e
 |hold p q m=>exact Et a f b e
 |gQ=>exact Eh a b e
 |tidy=>exact HE a g i b e
 |split=>exact G5 a g i k f b e
 |grow=>exact DV a g i k f b e
 |act=>exact AJ a f r b e t
end
end Go.Proofs.YtbkmjhhpcinppaaGreatDoor
