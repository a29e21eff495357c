import Derived.Test.YtbkmjhhpcinppaaGreatDoorQ7
namespace Go.Proofs.YtbkmjhhpcinppaaGreatDoor
set_option linter.unusedVariables false
set_option linter.defProp false
set_option linter.unusedSimpArgs false
set_option maxRecDepth 100000
set_option maxHeartbeats 40000000
open Option renaming none→V,some→Z
variable {s : LT} {j : ee} {w : Nat} {u : List aN} {p q : Int} {y : ar} {z : Type}
section
theorem cD.grow(o:cD j s u){p h:Int}{a:Nat}{x w z:aT}{t:aY}{R:ByteArray}(F:j 0=Z (a,x))(aq:j p=V)(ar:j h=V)(a3:p≠h)(aS:s p=V)(aU:s h=V)(az:R.size≤16)(bn:x.lo < aE R)(bF:aE R < x.hi)
  (aM:w.low=x.low)(aN:w.high=R)(aP:w.unb=false)(a1:w.right=h)(aQ:z.low=R)(al:z.high=x.high)(aR:z.unb=x.unb)
  (aH:t.low=x.low)(ae:t.high=x.high)(aI:t.unb=x.unb)(ag:t.ag=[⟨x.low,p⟩,⟨R,h⟩])(bo:t.held=false)
  (T: ∀ y,y=w∨y=z→∀ v,y= .leaf v→a=0∧v.gone=false∧v.rows=u.filter (cU v.low v.high v.unb))
  (N: ∀ y,y=w∨y=z→∀ v,y= .aU v→0 < a∧v.held=false∧h8 v∧h7 j s a v)
  (bb: ∀ v,x= .aU v→v.held=false):
  cD (bL (bL (bL j 0 (Z (a+1,.aU t))) p (Z (a,w))) h (Z (a,z))) s u:=by
 have aX:p≠0:=by rintro rfl;rw [aq] at F;cases F
 have aZ:h≠0:=by rintro rfl;rw [ar] at F;cases F
 have a8:x.lo=0∧x.hi=eL∧∀ q b y,j q=Z (b,y)→b≤a:=by
  obtain ⟨bs,bE,ab,aF,bl,bm⟩:=o.root;rw [F] at ab;obtain ⟨rfl,rfl⟩:=cs ab;exact ⟨aF,bl,bm⟩
 obtain ⟨aK,aL,ay⟩:=a8;have P: ∀ q b y,q≠0→j q=Z (b,y)→b < a:=fun q b y an l=>by
  have m:=ay q b y l;rcases dC b a with aa|aa
  ·exact aa
  ·obtain rfl:b=a:=by omega
   have n:=o.span q b y l;have A:=Ek y.high y.unb;have:y.hi≤eL:=A;exact absurd (o.hg 0 q b x y y.lo F l K K (aG _) n).symm an
 have bf:w.lo=0:=by unfold aT.lo;rw [aM];exact aK
 have bg:z.lo=aE R:=by unfold aT.lo;rw [aQ]
 have bw:w.hi=aE R:=by unfold aT.hi df;rw [aN,aP];rfl
 have a4:z.hi=eL:=by unfold aT.hi;rw [al,aR];exact aL
 have bh: (aT.aU t).lo=0:=by unfold aT.lo;show aE t.low=0;rw [aH];exact aK
 have a9: (aT.aU t).hi=eL:=by unfold aT.hi;show df t.high t.unb=eL;rw [ae,aI];exact aL
 have aV:bL (bL (bL j 0 (Z (a+1,.aU t))) p (Z (a,w))) h (Z (a,z)) h=Z (a,z):=iy _ _ _;have bp:bL (bL (bL j 0 (Z (a+1,.aU t))) p (Z (a,w))) h (Z (a,z)) p=Z (a,w):=by rw [fk a3,iy]
 have cf:bL (bL (bL j 0 (Z (a+1,.aU t))) p (Z (a,w))) h (Z (a,z)) 0=Z (a+1,.aU t):=by rw [fk (fun e=>aZ e.symm),fk (fun e=>aX e.symm),iy]
 have aJ: ∀ q,q≠0→q≠p→q≠h→bL (bL (bL j 0 (Z (a+1,.aU t))) p (Z (a,w))) h (Z (a,z)) q=j q:=fun q an m n=>by rw [fk n,fk m,fk an]
 have C: ∀ {q:Int} {E:Nat×aT},bL (bL (bL j 0 (Z (a+1,.aU t))) p (Z (a,w))) h (Z (a,z)) q=Z E→(q=h∧E=(a,z))∨(q=p∧E=(a,w))∨(q=0∧E=(a+1,.aU t))∨(q≠0∧q≠p∧q≠h∧j q=Z E):=by
  intro q E S;rcases dJ S with ⟨e,d⟩|⟨m,S⟩
  ·exact .inl ⟨e,(fo d).symm⟩
  ·rcases dJ S with ⟨e,d⟩|⟨n,S⟩
   ·exact .inr (.inl ⟨e,(fo d).symm⟩)
   ·rcases dJ S with ⟨e,d⟩|⟨A,S⟩
    ·exact .inr (.inr (.inl ⟨e,(fo d).symm⟩))
    ·exact .inr (.inr (.inr ⟨A,n,m,S⟩))
 have ax: ∀ q b y,j q=Z (b,y)→b < a→bL (bL (bL j 0 (Z (a+1,.aU t))) p (Z (a,w))) h (Z (a,z)) q=Z (b,y):=fun q b y l bx=>by
  rw [aJ q ?_ ?_ ?_]
  ·exact l
  ·rintro rfl;rw [F] at l;have:=(cs l).1;omega
  ·rintro rfl;rw [aq] at l;cases l
  ·rintro rfl;rw [ar] at l;cases l
 have av: ∀ c v,c≤a→h7 j s c v→h7 (bL (bL (bL j 0 (Z (a+1,.aU t))) p (Z (a,w))) h (Z (a,z))) s c v:=fun c v bA a5 f D=>by
  rcases a5 f D with ⟨b,y,m,n,A⟩|q
  ·exact .inl ⟨b,y,m,ax _ _ _ n K,A⟩
  ·exact .inr q
 constructor
 ·exact o.ok
 ·refine ⟨a+1,.aU t,cf,bh,a9,fun q b y l=>?_⟩;rcases C l with ⟨e,d⟩|⟨e,d⟩|⟨e,d⟩|⟨m,n,A,e⟩
  ·cases d;omega
  ·cases d;omega
  ·have:=bB Prod.fst d;simp only at this;omega
  ·have:=ay q b y e;omega
 ·intro q b y l;have Q:=o.b6 0 a x F;rcases C l with ⟨e,d⟩|⟨e,d⟩|⟨e,d⟩|⟨m,n,A,e⟩
  ·cases d;exact ⟨by rw [aQ];exact az,by rw [al];exact Q.high,by rw [al,aR];exact Q.unb⟩
  ·cases d;exact ⟨by rw [aM];exact Q.low,by rw [aN];exact az,by rw [aP];intro q;cases q⟩
  ·obtain ⟨-,rfl⟩:b=a+1∧y= .aU t:=⟨bB Prod.fst d,bB Prod.snd d⟩;exact ⟨by show t.low.size≤16;rw [aH];exact Q.low,by show t.high.size≤16;rw [ae];exact Q.high,by show t.unb=true→t.high=_;rw [ae,aI];exact Q.unb⟩
  ·exact o.b6 q b y e
 ·intro q b y l;rcases C l with ⟨e,d⟩|⟨e,d⟩|⟨e,d⟩|⟨m,n,A,e⟩
  ·cases d;omega
  ·cases d;omega
  ·obtain ⟨-,rfl⟩:b=a+1∧y= .aU t:=⟨bB Prod.fst d,bB Prod.snd d⟩;omega
  ·exact o.span q b y e
 ·intro q b y l a6;rcases C l with ⟨e,d⟩|⟨e,d⟩|⟨e,d⟩|⟨m,n,A,e⟩
  ·cases d;omega
  ·cases d;exact ⟨z,by rw [a1];exact aV,K⟩
  ·obtain ⟨-,rfl⟩:b=a+1∧y= .aU t:=⟨bB Prod.fst d,bB Prod.snd d⟩;omega
  ·obtain ⟨E,bq,br⟩:=o.right q b y e a6;exact ⟨E,ax _ _ _ bq (P q b y m e),br⟩
 ·intro q r b y E aa l a7 I aD bc be;rcases C l with ⟨e,d⟩|⟨e,d⟩|⟨e,d⟩|⟨m,n,A,e⟩ <;> rcases C a7 with ⟨f,B⟩|⟨f,B⟩|⟨f,B⟩|⟨aC,bC,bD,f⟩
  ·rw [e,f]
  ·cases d;cases B;omega
  ·have i:=bB Prod.fst d;have L:=bB Prod.fst B;simp only at i L;omega
  ·have i:=bB Prod.fst d;simp only at i;have:=P r b E aC f;omega
  ·cases d;cases B;omega
  ·rw [e,f]
  ·have i:=bB Prod.fst d;have L:=bB Prod.fst B;simp only at i L;omega
  ·have i:=bB Prod.fst d;simp only at i;have:=P r b E aC f;omega
  ·have i:=bB Prod.fst d;have L:=bB Prod.fst B;simp only at i L;omega
  ·have i:=bB Prod.fst d;have L:=bB Prod.fst B;simp only at i L;omega
  ·rw [e,f]
  ·have i:=bB Prod.fst d;simp only at i;have:=P r b E aC f;omega
  ·have i:=bB Prod.fst B;simp only at i;have:=P q b y m e;omega
  ·have i:=bB Prod.fst B;simp only at i;have:=P q b y m e;omega
  ·have i:=bB Prod.fst B;simp only at i;have:=P q b y m e;omega
  ·exact o.hg q r b y E aa e f I aD bc be
 ·intro q b v l;rcases C l with ⟨e,d⟩|⟨e,d⟩|⟨e,d⟩|⟨m,n,A,e⟩
  ·have i:=bB Prod.fst d;have k:=bB Prod.snd d;simp only at i k;subst i;exact (T _ (.inr rfl) v k.symm).1
  ·have i:=bB Prod.fst d;have k:=bB Prod.snd d;simp only at i k;subst i;exact (T _ (.inl rfl) v k.symm).1
  ·have k:=bB Prod.snd d;simp only at k;cases k
  ·exact o.leaf q b v e
 ·intro q b v l;rcases C l with ⟨e,d⟩|⟨e,d⟩|⟨e,d⟩|⟨m,n,A,e⟩
  ·have i:=bB Prod.fst d;have k:=bB Prod.snd d;simp only at i k;subst i;exact (N _ (.inr rfl) v k.symm).1
  ·have i:=bB Prod.fst d;have k:=bB Prod.snd d;simp only at i k;subst i;exact (N _ (.inl rfl) v k.symm).1
  ·have i:=bB Prod.fst d;simp only at i;omega
  ·exact o.aU q b v e
 ·intro q b v l;rcases C l with ⟨e,d⟩|⟨e,d⟩|⟨e,d⟩|⟨m,n,A,e⟩
  ·exact (T _ (.inr rfl) v (bB Prod.snd d).symm).2.2
  ·exact (T _ (.inl rfl) v (bB Prod.snd d).symm).2.2
  ·have k:=bB Prod.snd d;simp only at k;cases k
  ·exact o.rows q b v e
 ·intro q b v l;rcases C l with ⟨e,d⟩|⟨e,d⟩|⟨e,d⟩|⟨m,n,A,e⟩
  ·exact (N _ (.inr rfl) v (bB Prod.snd d).symm).2.2.1
  ·exact (N _ (.inl rfl) v (bB Prod.snd d).symm).2.2.1
  ·have k:=bB Prod.snd d;simp only [aT.aU.injEq] at k;subst k;have Q:=o.b6 0 a x F;refine ⟨⟨fun f D=>?_,?_⟩,⟨_,_,ag,by rw [aH]⟩,fun f D=>?_⟩
   ·rw [ag] at D;simp only [bd,c0,db] at D;rcases D with rfl|rfl
    ·exact Q.low
    ·exact az
   ·rw [ag,hJ];refine ⟨fun f D=>?_,pS _ _⟩;rw [aO] at D;subst D;exact bn
   ·rw [ae,aI];have:df x.high x.unb=eL:=aL;rw [this];exact hX _
  ·exact o.ag q b v e
 ·intro q b v l;rcases C l with ⟨e,d⟩|⟨e,d⟩|⟨e,d⟩|⟨m,n,A,e⟩
  ·have i:=bB Prod.fst d;have k:=bB Prod.snd d;simp only at i k;subst i;exact av _ _ (aG _) (N _ (.inr rfl) v k.symm).2.2.2
  ·have i:=bB Prod.fst d;have k:=bB Prod.snd d;simp only at i k;subst i;exact av _ _ (aG _) (N _ (.inl rfl) v k.symm).2.2.2
  ·have i:=bB Prod.fst d;have k:=bB Prod.snd d;simp only [aT.aU.injEq] at i k;subst i;subst k;intro f D;rw [ag] at D;simp only [bd,c0,db] at D;rcases D with rfl|rfl
   ·exact .inl ⟨a,w,rfl,bp,by rw [bf];exact aK.symm⟩
   ·exact .inl ⟨a,z,rfl,aV,bg⟩
  ·exact av _ _ (ay q b _ e) (o.down q b v e)
 ·intro q b v l M;rcases C l with ⟨e,d⟩|⟨e,d⟩|⟨e,d⟩|⟨m,n,A,e⟩
  ·have:=(N _ (.inr rfl) v (bB Prod.snd d).symm).2.1;rw [this] at M;cases M
  ·have:=(N _ (.inl rfl) v (bB Prod.snd d).symm).2.1;rw [this] at M;cases M
  ·have k:=bB Prod.snd d;simp only [aT.aU.injEq] at k;subst k;rw [bo] at M;cases M
  ·obtain ⟨J,W,am⟩:=o.held q b v e M;refine ⟨J,W,fun c y aA=>?_⟩;have a4:=P q b _ m e;rcases o.aH e M with ⟨g,I,aD, -⟩|⟨g,I, -⟩
   ·rw [ax _ _ _ I K] at aA;obtain ⟨-,rfl⟩:=cs aA;exact ⟨g,rfl,aD⟩
   ·rcases C aA with ⟨f,B⟩|⟨f,B⟩|⟨f,B⟩|⟨L,bt,bv,f⟩
    ·rw [f,aU] at I;cases I
    ·rw [f,aS] at I;cases I
    ·rw [f] at I;have:=(o.lim _ _ I).1;rw [F] at this;cases this
    ·exact am c y f
 ·intro q b g l G;rcases C l with ⟨e,d⟩|⟨e,d⟩|⟨e,d⟩|⟨m,n,A,e⟩
  ·have:=(T _ (.inr rfl) g (bB Prod.snd d).symm).2.1;rw [this] at G;cases G
  ·have:=(T _ (.inl rfl) g (bB Prod.snd d).symm).2.1;rw [this] at G;cases G
  ·have k:=bB Prod.snd d;simp only at k;cases k
  ·obtain ⟨r,aW,J,W,am,a2⟩:=o.gone q b g e G;have fC:r≠0:=by
    rintro rfl;rw [F] at J;have:=bb aW (cs J).2;rw [this] at W;cases W
   have ab:r≠p:=by rintro rfl;rw [aq] at J;cases J
   have aF:r≠h:=by rintro rfl;rw [ar] at J;cases J
   exact ⟨r,aW,by rw [aJ r fC ab aF];exact J,W,am,a2⟩
 ·intro q g G;obtain ⟨m,n⟩:=o.lim q g G;refine ⟨?_,n⟩;have bi:q≠0:=by rintro rfl;rw [F] at m;cases m
  have bj:q≠p:=by rintro rfl;rw [aS] at G;cases G
  have bk:q≠h:=by rintro rfl;rw [aU] at G;cases G
  rw [aJ q bi bj bk];exact m
theorem cD.merge(d:cD j s u){l p:Int}{a g:bl}(w:j l=Z (0,.leaf a))(n:j p=Z (0,.leaf g))(aO:a.unb=false)(aP:a.high=g.low)(bk:a.right=p)(bj:a.gone=false)(aD:g.gone=true)(ae:g.rows=[]):
  cD (bL (bL j l (Z (0,.leaf ⟨a.low,g.high,g.unb,g.right,a.rows++g.rows,false⟩))) p V) (bL s p (Z g)) u:=by
 obtain ⟨bh,br,x1,aI,aJ,aK⟩:=d.gone p 0 g n aD;have a2:=d.holds x1 aI;have aZ:=d.span l 0 _ w;have a1:=d.span p 0 _ n;have aG: (aT.leaf a).hi=(aT.leaf g).lo:=by show df a.high a.unb=aE g.low;unfold df;rw [aO,aP];rfl
 have bi:0 < (aT.leaf g).lo:=by show 0 < aE g.low;rw [←aK];omega
 have bm: (aT.leaf g).lo < eL:=hX _;have aQ:l≠p:=by rintro rfl;rw [w] at n;have:=(cs n).2;rw [this] at aG;omega
 have a8: (aT.leaf ⟨a.low,g.high,g.unb,g.right,a.rows++g.rows,false⟩).lo=(aT.leaf a).lo:=rfl;have bo: (aT.leaf ⟨a.low,g.high,g.unb,g.right,a.rows++g.rows,false⟩).hi=(aT.leaf g).hi:=rfl;have a9:p≠0:=by
  obtain ⟨W,an,z,A, -⟩:=d.root;rintro rfl;rw [n] at z;rw [← (cs z).2] at A;omega
 have aM:l≠0:=by
  obtain ⟨W,an,z,A,ar, -⟩:=d.root;rintro rfl;rw [w] at z;rw [← (cs z).2] at ar;omega
 have a7:s p=none:=by
  cases aV:s p with
  |none=>rfl
  |some C=>have:=(d.lim p C aV).1;rw [n] at this;cases this
 have be:bL (bL j l (Z (0,.leaf ⟨a.low,g.high,g.unb,g.right,a.rows++g.rows,false⟩))) p V p=none:=iy _ _ _;have bd:bL (bL j l (Z (0,.leaf ⟨a.low,g.high,g.unb,g.right,a.rows++g.rows,false⟩))) p V l=Z (0,.leaf ⟨a.low,g.high,g.unb,g.right,a.rows++g.rows,false⟩):=by rw [fk aQ,iy]
 have T: ∀ q,q≠l→q≠p→bL (bL j l (Z (0,.leaf ⟨a.low,g.high,g.unb,g.right,a.rows++g.rows,false⟩))) p V q=j q:=fun q k m=>by rw [fk m,fk k]
 have t: ∀ {q:Int} {o:Nat×aT},bL (bL j l (Z (0,.leaf ⟨a.low,g.high,g.unb,g.right,a.rows++g.rows,false⟩))) p V q=Z o→(q=l∧o=(0,.leaf ⟨a.low,g.high,g.unb,g.right,a.rows++g.rows,false⟩))∨(q≠l∧q≠p∧j q=Z o):=by
  intro q o L;rcases dJ L with ⟨e,h⟩|⟨k,L⟩
  ·cases h
  ·rcases dJ L with ⟨e,h⟩|⟨m,L⟩
   ·exact .inl ⟨e,(fo h).symm⟩
   ·exact .inr ⟨m,k,L⟩
 have ag: ∀ q b y,q≠p→j q=Z (b,y)→∃ o,bL (bL j l (Z (0,.leaf ⟨a.low,g.high,g.unb,g.right,a.rows++g.rows,false⟩))) p V q=Z (b,o)∧o.lo=y.lo:=fun q b y k i=>by
  by_cases e:q=l
  ·subst e;rw [w] at i;obtain ⟨rfl,rfl⟩:=cs i;exact ⟨_,bd,a8⟩
  ·exact ⟨y,by rw [T q e k];exact i,rfl⟩
 have aR: ∀ c q v,j q=Z (c,.aU v)→h7 j s c v→h7 (bL (bL j l (Z (0,.leaf ⟨a.low,g.high,g.unb,g.right,a.rows++g.rows,false⟩))) p V) (bL s p (Z g)) c v:=fun c q v i aS f aF=>by
  rcases aS f aF with ⟨b,y,k,m,aH⟩|⟨k,m,aH,C,am,a4⟩
  ·by_cases e:f.page=p
   ·obtain ⟨-, -, -, -, -,bs,bt,bg,aL,ax, -⟩:=a2;obtain ⟨rfl,rfl,rfl⟩:=d.wz x1 i bg aF (by rw [ax,aJ];exact n) (by rw [e,ax,aJ]);exact .inr ⟨aI,aL,ax,g,by rw [e,iy],by rw [aL,aK]⟩
   ·obtain ⟨o,B,ay⟩:=ag _ _ _ e m;exact .inl ⟨b,o,k,B,K⟩
  ·refine .inr ⟨k,m,aH,C,?_,a4⟩;rw [fk (by rintro e;rw [e,a7] at am;cases am)];exact am
 have aY:a.rows++g.rows=u.filter (cU a.low g.high g.unb):=by
  have z:=d.rows l 0 a w;have A:=d.rows p 0 g n;have az:=d.b6 l 0 _ w;have aA:=d.b6 p 0 _ n;rw [ae,me,z];rw [ae] at A;have bb:=pE.1 A.symm;refine mL fun x S=>?_;have I:=qz (unb:=a.unb) d.ok az.low az.high x S;have J:=qz (unb:=g.unb) d.ok aA.low aA.high x S;have N:=qz (unb:=g.unb) d.ok az.low aA.high x S;have P: ¬ (aE (aT.leaf g).low≤aE x.key∧aE x.key < df (aT.leaf g).high g.unb):=fun q=>bb x S (J.2 q);have F:df a.high a.unb=aE g.low:=aG;have M:aE a.low < df a.high a.unb:=aZ;have bp:aE g.low < df g.high g.unb:=a1;rw [iY];show cU a.low a.high a.unb x=true↔cU a.low g.high g.unb x=true;have a5:cU a.low a.high a.unb x=true↔aE a.low≤aE x.key∧aE x.key < df a.high a.unb:=I;have a6:cU a.low g.high g.unb x=true↔aE a.low≤aE x.key∧aE x.key < df g.high g.unb:=N;have bq: ¬ (aE g.low≤aE x.key∧aE x.key < df g.high g.unb):=P;rw [a5,a6];omega
 constructor
 ·exact d.ok
 ·obtain ⟨W,an,z,A,ar,bc⟩:=d.root;refine ⟨W,an,by rw [T 0 (fun e=>aM e.symm) (fun e=>a9 e.symm)];exact z,A,ar,fun q b y i=>?_⟩;rcases t i with ⟨e,h⟩|⟨k,m,e⟩
  ·have:=bB Prod.fst h;simp only at this;omega
  ·exact bc _ _ _ e
 ·intro q b y i;rcases t i with ⟨e,h⟩|⟨k,m,e⟩
  ·cases h;exact ⟨(d.b6 l 0 _ w).low,(d.b6 p 0 _ n).high,(d.b6 p 0 _ n).unb⟩
  ·exact d.b6 q b y e
 ·intro q b y i;rcases t i with ⟨e,h⟩|⟨k,m,e⟩
  ·cases h;omega
  ·exact d.span q b y e
 ·intro q b y i aW;rcases t i with ⟨e,h⟩|⟨k,m,e⟩
  ·cases h;obtain ⟨o,B,ay⟩:=d.right p 0 _ n K;have al: (aT.leaf g).right≠p:=by
    intro e;rw [e,n] at B;rw [← (cs B).2] at ay;omega
   obtain ⟨av,u1,u2⟩:=ag _ _ _ al B;exact ⟨av,u1,K⟩
  ·obtain ⟨o,B,ay⟩:=d.right q b y e aW;have al:y.right≠p:=by
    intro D;rw [D,n] at B;obtain ⟨rfl,rfl⟩:=cs B;have bn:=d.span q 0 y e;exact k (d.hg q l 0 y _ (y.hi - 1) e w K K K K)
   obtain ⟨av,u1,u2⟩:=ag _ _ _ al B;exact ⟨av,u1,K⟩
 ·intro q r b y o G i aX I J N P;rcases t i with ⟨e,h⟩|⟨k,m,e⟩ <;> rcases t aX with ⟨f,aa⟩|⟨F,M,f⟩
  ·rw [e,f]
  ·cases h;rcases dC G (aT.leaf g).lo with aq|aq
   ·exact absurd (d.hg l r 0 _ o G w f K K N P).symm F
   ·exact absurd (d.hg p r 0 _ o G n f K K N P).symm M
  ·cases aa;rcases dC G (aT.leaf g).lo with aq|aq
   ·exact absurd (d.hg l q 0 _ y G w e K K I J).symm k
   ·exact absurd (d.hg p q 0 _ y G n e K K I J).symm m
  ·exact d.hg q r b y o G e f I J N P
 ·intro q b v i;rcases t i with ⟨e,h⟩|⟨k,m,e⟩
  ·exact bB Prod.fst h
  ·exact d.leaf q b v e
 ·intro q b v i;rcases t i with ⟨e,h⟩|⟨k,m,e⟩
  ·cases bB Prod.snd h
  ·exact d.aU q b v e
 ·intro q b v i;rcases t i with ⟨e,h⟩|⟨k,m,e⟩
  ·have D:=bB Prod.snd h;simp only [aT.leaf.injEq] at D;subst D;exact aY
  ·exact d.rows q b v e
 ·intro q b v i;rcases t i with ⟨e,h⟩|⟨k,m,e⟩
  ·cases bB Prod.snd h
  ·exact d.ag q b v e
 ·intro q b v i;rcases t i with ⟨e,h⟩|⟨k,m,e⟩
  ·cases bB Prod.snd h
  ·exact aR b q v e (d.down q b v e)
 ·intro q b v i aU;rcases t i with ⟨e,h⟩|⟨k,m,e⟩
  ·cases bB Prod.snd h
  ·obtain ⟨E,ab,Q⟩:=d.held q b v e aU;refine ⟨E,ab,fun c y a3=>?_⟩;rcases t a3 with ⟨f,aa⟩|⟨F,M,f⟩
   ·obtain ⟨C,I,J⟩:=Q 0 (.leaf a) (by rw [f];exact w);cases I;cases aa;exact ⟨_,rfl,by show a.rows++g.rows=[];rw [J,ae];rfl⟩
   ·exact Q c y f
 ·intro q b C i R;rcases t i with ⟨e,h⟩|⟨k,m,e⟩
  ·have D:=bB Prod.snd h;simp only [aT.leaf.injEq] at D;subst D;cases R
  ·obtain ⟨r,bf,E,ab,Q,aN⟩:=d.gone q b C e R;have z:r≠l:=by rintro rfl;rw [w] at E;cases (cs E).2
   have A:r≠p:=by rintro rfl;rw [n] at E;cases (cs E).2
   exact ⟨r,bf,by rw [T r z A];exact E,ab,Q,aN⟩
 ·intro q C R;rcases dJ R with ⟨e,h⟩|⟨k,e⟩
  ·cases h;subst e;exact ⟨be,aD,(d.b6 q 0 _ n).low⟩
  ·obtain ⟨F,M⟩:=d.lim q C e;refine ⟨?_,M⟩;by_cases aC:q=l
   ·subst aC;rw [w] at F;cases F
   ·rw [T q aC k];exact F
theorem cD.forget(a:cD j s u){p:Int}(m: ∀ q b v,j q=Z (b,.aU v)→v.held=true→v.aH≠p):cD j (bL s p V) u:=
 {a with
  down:=fun q b v c f k=>by
   rcases a.down q b v c f k with n|⟨d,o,h,g,r,t⟩
   ·exact .inl n
   ·refine .inr ⟨d,o,h,g,?_,t⟩;rw[fk (by rw[h];exact m q b v c d)];exact r
  lim:=fun q g l=>by
   rcases dJ l with⟨e,i⟩|⟨w,e⟩
   ·cases i
   ·exact a.lim q g e}
theorem cD.drop(i:cD j s u){A:Int}{c:aY}(m:j A=Z (1,.aU c))(I:c.held=true){g:bl}(G:s c.aH=Z g){l h:List cw}{x y:cw}(C:c.ag=l++x::y::h)(av:y.key=c.aD):
  cD (bL j A (Z (1,.aU ⟨c.low,c.high,c.unb,c.right,l++x::h,false,0,0,ByteArray.empty⟩))) (bL s c.aH V) u:=by
 have z:=i.ag A 1 c m;have D:=(i.lim _ _ G).1;have L: ∀ f,f∈l++x::h→f∈c.ag:=fun f n=>by
  rw [C];rcases cu.1 n with q|q
  ·exact iW _ q
  ·rcases bd.1 q with rfl|q
   ·simp
   ·simp [q]
 have ar: (l++x::h).Sublist c.ag:=by
  rw [C];exact List.Sublist.append (uR _) (List.Sublist.cons_cons _ (List.sublist_cons_self _ _))
 have aq: ∀ f,f∈l++x::h→f.key≠c.aD:=fun f n e=>by
  have R:=z.ok.ord;rw [C] at R;have S: (l++[x]++y::h).Pairwise fun a b=>aE a.key < aE b.key:=by simpa using R
  rw [h6] at S;obtain ⟨aF,ax,ay⟩:=S;rw [←av] at e;have an:f∈l++[x]∨f∈h:=by
   rcases cu.1 n with q|q
   ·exact .inl (iW _ q)
   ·rcases bd.1 q with rfl|q
    ·exact .inl J
    ·exact .inr q
  rcases an with q|q
  ·have:=ay f q y J;rw [e] at this;omega
  ·have:=(hJ.1 ax).1 f q;rw [e] at this;omega
 have ag:h8 ⟨c.low,c.high,c.unb,c.right,l++x::h,false,0,0,ByteArray.empty⟩:=by
  refine ⟨⟨fun f n=>z.ok.b6 f (L f n),z.ok.ord.sublist ar⟩,?_,fun f n=>z.high f (L f n)⟩;obtain ⟨aA,aC,d,t⟩:=z.first;rw [C] at d;cases l with
  |nil=>simp only [gJ,n7] at d;exact ⟨x,h,rfl,by rw [d.1];exact t⟩
  |cons a l=>simp only [pQ,n7] at d;exact ⟨a,l++x::h,rfl,by rw [d.1];exact t⟩
 have F:cD (bL j A (Z (1,.aU ⟨c.low,c.high,c.unb,c.right,l++x::h,false,0,0,ByteArray.empty⟩))) s u:=by
  refine i.set (x':= .aU ⟨c.low,c.high,c.unb,c.right,l++x::h,false,0,0,ByteArray.empty⟩) m rfl rfl rfl rfl (fun v e=>by cases e) (fun v e=>bP) i.ok (fun q b v p=>?_) (fun v e=>?_) (fun q b W aD p F Q=>?_) (fun q b o p al=>?_)
  ·rcases dJ p with ⟨e,w⟩|⟨N,e⟩
   ·cases w
   ·exact i.rows q b v e
  ·cases e;refine ⟨ag,fun f n=> .inl (i.below m (L f n) (.inr (aq f n))),fun q=>by cases q⟩
  ·rcases i.aH p F with ⟨o,d, -⟩|⟨o,d, -⟩
   ·rw [Q,m] at d;cases (cs d).2
   ·rw [Q] at d;have:=(i.lim _ _ d).1;rw [m] at this;cases this
  ·rcases dJ p with ⟨e,w⟩|⟨N,e⟩
   ·cases w
   ·obtain ⟨r,W,E,ab,P,ae⟩:=i.gone q b o e al;refine ⟨r,W,?_,ab,P,ae⟩;rw [fk]
    ·exact E
    ·rintro rfl;rw [m] at E;obtain ⟨-,aa⟩:=cs E;cases aa;rw [P,e] at D;cases D
 refine F.forget fun q b v p M e=>?_;rcases dJ p with ⟨B,w⟩|⟨N,B⟩
 ·cases w;cases M
 ·rcases i.aH B M with ⟨o,d, -⟩|⟨o,d,t⟩
  ·rw [e,D] at d;cases d
  ·rw [e,G] at d;cases d;obtain ⟨-, -, -,u3, -⟩:=i.holds m I;have az:=i.holds B M;have am:g.low=c.aD:=by
    rcases i.aH m I with ⟨o,d, -⟩|⟨o,d,t⟩
    ·rw [D] at d;cases d
    ·rw [G] at d;cases d;exact t
   obtain ⟨rfl,u1,u2,T, -⟩:=az;have aG:=i.holds m I;rw [←t,am] at u2 T;exact N (i.qN B m (k:=aE c.aD) K T K u3).1
end
section
structure hL (j:ee) (b:ByteArray) (wr:Bool) (n:Int) (ab:Option (Int×aY)) (a:Nat) (c:aT):Prop where
 cc:j n=Z (a,c)
 le:c.lo≤aE b
 zv:ab=V→n=0
 m8: ∀ d v,ab=Z (d,v)→j d=Z (a+1,.aU v)∧aE v.low≤aE b∧aE b < df v.high v.unb∧(wr=true→v.held=false)∧
  ∃ e∈v.ag,aE e.key≤c.lo∧(∀ f∈v.ag,aE f.key≤aE b→aE f.key≤aE e.key)∧(aE e.key=c.lo→e.page=n)
structure va (j:ee) (s:LT) (wr:Bool) (n:Int) (ab:Option (Int×aY)) (a:aT):Prop where
 cc: ∃ g,s n=Z g∧a= .leaf g∧g.gone=true
 wr:wr=false
theorem cD.start(d:cD j s u)(f:ByteArray)(wr:Bool): ∃ a b,hL j f wr 0 V a b:=by
 obtain⟨c,b,g,i,k,l⟩:=d.root;exact⟨c,b,g,K,fun _=>rfl,fun h v e=>by cases e⟩
theorem hL.tC(c:cD j s u){p:ByteArray}{n:Int}{ab:Option (Int×aY)}{a:Nat}{r:aT}(E:p.size≤16)(f:hL j p true n ab a r): ∀ q b d,j q=Z (b,.aU d)→d.held=true→d.aH≠n:=fun q b d h l e=>by
 have x:=c.holds h l;rcases c.aH h l with⟨g,i,I,y⟩|⟨g,i, -⟩
 ·rw[e,f.cc]at i;obtain⟨rfl,rfl⟩:=cs i;cases o:ab with
  |none=>
   have:=f.zv o;subst this;obtain⟨B,r,t,J,L,z⟩:=c.root;rw[f.cc]at t;obtain⟨rfl, -⟩:=cs t;have:=z q b _ h;have:=c.aU q b d h;omega
  |some w=>
   obtain⟨m,v⟩:=w;obtain⟨u1,u2,u3,u4,C,u5,u6,u7,u8⟩:=f.m8 m v o;obtain⟨rfl,M,N,A, -⟩:=x;have G:=(c.ag m _ v u1).lo u5;have F:=f.le;have D: (aT.leaf g).lo=aE d.aD:=y;obtain⟨-,rfl⟩:=c.qN u1 h (k:=aE d.aD) K K K A;rw[u4 rfl]at l;cases l
 ·rw[e]at i;have:=(c.lim _ _ i).1;rw[f.cc]at this;cases this
theorem hL.DN(b:cD j s u){d:ByteArray}{n:Int}{ab:Option (Int×aY)}{a:Nat}{v:bl}{wr:Bool}(i:d.size≤16)(c:hL j d wr n ab a (.leaf v))(h:v.gone=true):wr=false:=by
 cases wr with
 |false=>rfl
 |true=>
  obtain⟨q,k,e,f,g,l⟩:=b.gone n a v c.cc h;exact absurd g (c.tC b i q 1 k e f)
theorem nu{b:aT}{a:ByteArray}(c:vl b)(d:a.size≤16):b.has a=true↔b.lo≤aE a∧aE a < b.hi:=iM c.low c.high d
theorem hL.gM(h:cD j s u){d:ByteArray}{n:Int}{ab:Option (Int×aY)}{a:Nat}{b:aT}{wr:Bool}(c:hL j d wr n ab a b)(p:b.hi≤aE d): ∃ g,hL j d wr b.right ab a g∧g.lo=b.hi:=by
 have t:=hX d;obtain⟨g,l,m⟩:=h.right n a b c.cc K;have r:=h.span n a b c.cc;refine⟨g,⟨l,K,fun e=>?_,fun k v e=>?_⟩,m⟩
 ·have:=c.zv e;subst this;obtain⟨o,w,i,x,y,z⟩:=h.root;rw[c.cc]at i;obtain⟨-,rfl⟩:=cs i;omega
 ·obtain⟨u1,u2,u3,u4,f,u5,u6,u7,u8⟩:=c.m8 k v e;exact⟨u1,u2,u3,u4,f,u5,K,u7,fun q=>K⟩
theorem hL.down(k:cD j s u){c:ByteArray}{n:Int}{ab:Option (Int×aY)}{a:Nat}{v:aY}{wr:Bool}(C:c.size≤16)(i:hL j c wr n ab a (.aU v))(L:aE c < (aT.aU v).hi)(A:wr=true→v.held=false):
  ∃ e,hx v c=Z e∧((∃ b p,a=b+1∧hL j c wr e.page (Z (n,v)) b p)∨(∃ p,va j s wr e.page (Z (n,v)) p)):=by
 have l:=k.ag n a v i.cc;have D:=k.b6 n a _ i.cc;have m:aE v.low≤aE c:=i.le;have B:aE c < df v.high v.unb:=L;obtain⟨I,W,N,P⟩:=l.first;obtain⟨Q,e,h,r,E,S,F⟩:=l.ok.child (v:=v) C ((iM D.low D.high C).2 ⟨m,B⟩) ⟨I,by rw[N];simp,by rw[P];exact m⟩;have x:e∈v.ag:=by rw[r];simp
 have M: ∀ f∈v.ag,aE f.key≤aE c→aE f.key≤aE e.key:=fun f z aa=>by
  have o:=l.ok.ord;rw[r]at z o;rw[h6]at o;rcases cu.1 z with q|q
  ·exact fE (o.2.2 f q e J)
  ·rcases bd.1 q with rfl|q
   ·exact aG _
   ·have:=F f q;omega
 refine⟨e,E,?_⟩;rcases k.down n a v i.cc e x with⟨b,y,d,t,G⟩|⟨d,t,G,g,w,T⟩
 ·left;refine⟨b,y,d,t,K,fun q=>(by cases q),fun R ae q=>?_⟩;obtain⟨rfl,rfl⟩:=cs q;exact⟨by rw[←d];exact i.cc,m,B,A,e,x,K,M,fun _=>rfl⟩
 ·right;refine⟨.leaf g,⟨g,w,rfl,(k.lim _ _ w).2.1⟩,?_⟩;cases wr with
  |false=>rfl
  |true=>rw[A rfl]at d;cases d
end
structure aA where
 i:Nat
 g:Nat
 deriving DecidableEq
structure az where
 aQ:List (Nat×Option ar)
 ax:List (Option (Option aA))
 now:Nat
 ins:Option Nat
def a4 (r:Option aA):Int×Int:=match r with|some r=>((r.i:Int)+1,(r.g:Int))|none=>(0,0)
def h0 (y:ar) (r:Option aA):ar:=⟨{y.x with slot:=(a4 r).1,gen:=(a4 r).2},y.ag⟩
def Live (d:az) (r:aA) (y:ar):Prop:=d.aQ[r.i]?=Z (r.g,Z y)
def jV (w:Nat) (a:Nat×Option ar):Bool:=a.2.isNone && decide (a.1≠w)
inductive jJ where
 |ok (r:aA) (d:az)
 |no (e:Int)
def b2 (w:Nat) (d:az) (y:ar):jJ:=
 match d.aQ.findIdx? (jV w)with
 |some i=> .ok ⟨i,(d.aQ.getD i (0,V)).1+1⟩ {d with aQ:=d.aQ.set i ((d.aQ.getD i (0,V)).1+1,Z y)}
 |none=> .no (if d.aQ.any (fun a=>a.2.isNone)=true then 5 else 3)
def e3 (d:az) (r:aA):az:={d with aQ:=d.aQ.set r.i (r.g,V)}
def eR (d:az):Option (Nat×az):=
 match d.ax.findIdx? (fun q=>q.isNone)with
 |some i=>Z (i,{d with ax:=d.ax.set i (Z V)})
 |none=>V
def b1 (d:az) (p:Int) (r:Option aA):az:={d with ax:=d.ax.set p.toNat (Z r)}
def eC (d:az) (p:Int):az:={d with ax:=d.ax.set p.toNat V}
def b7 (d:az):Nat:=(d.aQ.filter fun a=>a.2.isSome).length
def fp (d:az):List aA→List ar→Prop
 |[],[]=>True
 |r::a,y::b=>Live d r y∧(y.x.slot,y.x.gen)=a4 a.head?∧fp d a b
 |_,_=>False
theorem fp.len{d:az}: ∀ {a:List aA} {b:List ar},fp d a b→b.length=a.length
 |[],[],_=>rfl
 |r::a,y::b,c=>by rw[fY,fY,fp.len c.2.2]
theorem fp.live{d:az}: ∀ {b:List aA} {c:List ar},fp d b c→∀ r∈b,∃ y∈c,Live d r y
 |[],[],_=>J
 |r::b,y::c,e=>fun x a=>by
  rcases bd.1 a with rfl|a
  ·exact⟨y,J,e.1⟩
  ·obtain⟨h,f,g⟩:=fp.live e.2.2 x a;exact⟨h,by simp[f],g⟩
theorem fp.I{d c:az}: ∀ {rs:List aA} {b:List ar},fp d rs b→(∀ r∈rs,∀ y,Live d r y→Live c r y)→fp c rs b
 |[],[],_=>fun _=>trivial
 |r::rs,y::b,a=>fun e=>⟨e r J y a.1,a.2.1,fp.I a.2.2 fun x f=>e x (by simp[f])⟩
theorem Live.one{d:az}{r b:aA}{f:ar}(a:Live d r y)(c:Live d b f)(e:r.i=b.i):r=b:=by
 unfold Live at a c;rw[e,c]at a;cases r;cases b;simp only[eS,mK]at a;simp only[aA.mk.injEq];exact⟨e,a.1.symm⟩
theorem k4{d b:az}{r:aA}(c:b2 w d y= .ok r b):
  b={d with aQ:=d.aQ.set r.i (r.g,Z y)}∧(∃ g,d.aQ[r.i]?=Z (g,V)∧r.g=g+1∧g≠w)∧Live b r y∧(∀ a k,Live d a k→a≠r∧Live b a k)∧b7 b=b7 d+1:=by
 unfold b2 at c;split at c
 ·rename_i i s;obtain⟨h,f, -⟩:=rJ.1 s;unfold jV at f;simp only[fZ,zV,ke]at f;have q:d.aQ.getD i (0,V)=d.aQ[i]:=by rw[h2,cP h];rfl
  rw[q]at c;injection c with o p
  subst o;subst p;have m:d.aQ[i]?=Z (d.aQ[i].1,V):=by rw[cP h,←f.1]
  refine⟨rfl,⟨d.aQ[i].1,m,rfl,f.2⟩,?_,fun a k j=>?_,?_⟩
  ·show(d.aQ.set i _)[i]?=_;rw[l5 h]
  ·have l:i≠a.i:=by
    rintro e;unfold Live at j;rw[←e,m]at j;have t:=bB Prod.snd (fo j);cases t
   refine⟨fun e=>l (by rw[e]),?_⟩;show(d.aQ.set i _)[a.i]?=_;rw[ll l];exact j
  ·show((d.aQ.set i _).filter _).length=(d.aQ.filter _).length+1;have n:d.aQ=d.aQ.take i++d.aQ[i]::d.aQ.drop (i+1):=by rw[←kQ h,jF]
   rw[zW,a9 h];conv=>rhs;rw[n]
   rw[gn,gn,h3,h3];rw[f.1];simp;omega
 ·cases c
theorem mn{d:az}{e:Int}(a:b2 w d y= .no e):e=3∨e=5:=by
 unfold b2 at a;split at a
 ·cases a
 ·injection a with a
  rw[←a];split
  ·exact .inr rfl
  ·exact .inl rfl
theorem zk{d b:az}{p:Nat}(a:eR d=Z (p,b)):b=b1 d p V∧d.ax[p]?=Z none:=by
 unfold eR at a;split at a
 ·rename_i i e;obtain⟨f,c, -⟩:=rJ.1 e;simp only[eS,mK]at a;obtain⟨rfl,rfl⟩:=a;simp only[zV]at c;exact⟨rfl,by rw[cP f,c]⟩
 ·cases a
theorem xd(d:az){p:Int}{a:Option (Option aA)}(b:d.ax[p.toNat]?=Z a)(r:Option aA): (b1 d p r).ax[p.toNat]?=Z (Z r):=by
 show(d.ax.set p.toNat _)[p.toNat]?=_;rw[l5 (c3.1 b).1]
theorem lO(d:az){p q:Int}(c:0≤q)(b:0≤p)(a:q≠p)(r:Option aA): (b1 d p r).ax[q.toNat]?=d.ax[q.toNat]?:=by
 show(d.ax.set p.toNat _)[q.toNat]?=_;rw[ll K]
theorem te(d:az){p q:Int}(c:0≤q)(b:0≤p)(a:q≠p): (eC d p).ax[q.toNat]?=d.ax[q.toNat]?:=by
 show(d.ax.set p.toNat _)[q.toNat]?=_;rw[ll K]
structure bT (y:ar):Prop where
 rows:y.x.r.rows.length≤100
 ag:y.ag.length≤1000
structure bK where
 dF:Nat
 refs:List aA
 page:Int
structure cX (d:az) (l:Int→List aA) (o:Int→List ar) (h:List bK):Prop where
 cc: ∀ p,l p≠[]→0≤p∧d.ax[p.toNat]?=Z (Z (l p).head?)
 gw: ∀ p,fp d (l p) (o p)
 nd: ∀ p,(l p).Nodup
 kt: ∀ p q,p≠q→∀ r∈l p,r∉l q
 lF: ∀ b∈h,b.refs≠[]∧b.refs.Nodup∧∃ c,fp d b.refs c∧∀ y∈c,bT y
 k5: ∀ b∈h,∀ p,∀ r∈b.refs,r∉l p
 lH:h.Pairwise fun a b=>(∀ r∈a.refs,r∉b.refs)∧(a.page=b.page→a.page < 0)
 k8: ∀ p,∀ y∈o p,bT y
 lG: ∀ b∈h,b.page < 0∨(d.ax[b.page.toNat]?.isSome=true∧d.ax[b.page.toNat]?≠Z V∧l b.page=[])
def dM {z:Type} (l:Int→List z) (p:Int) (x:List z):Int→List z:=fun q=>if q=p then x else l q
theorem ew(j:Int→List z)(p:Int)(x:List z):dM j p x p=x:=by unfold dM;rw[a9 rfl]
theorem cz{j:Int→List z}{x:List z}(a:q≠p):dM j p x q=j q:=by unfold dM;rw[aS a]
section
variable {d : az} {l : Int → List aA} {o : Int → List ar} {h : List bK}
structure lv (l:Int→List aA) (h:List bK) (r:aA):Prop where
 c: ∀ p,r∉l p
 b: ∀ x∈h,r∉x.refs
theorem cX.of(a:cX d l o h){e:az}(k: ∀ p:Int,l p≠[]∨(∃ b∈h,b.page=p∧0≤p)→e.ax[p.toNat]?=d.ax[p.toNat]?)(j: ∀ r y,Live d r y→((∃ p,r∈l p)∨∃ b∈h,r∈b.refs)→Live e r y):cX e l o h:=by
 refine⟨fun p i=>?_,fun p=>(a.gw p).I fun r f y g=>j r y g (.inl ⟨p,f⟩),a.nd,a.kt,fun b c=>?_,a.k5,a.lH,a.k8,fun b c=>?_⟩
 ·rw[k p (.inl i)];exact a.cc p i
 ·obtain⟨n,s,z,t,u⟩:=a.lF b c;exact⟨n,s,z,t.I fun r f y g=>j r y g (.inr ⟨b,c,f⟩),u⟩
 ·rcases a.lG b c with q|⟨v,w,x⟩
  ·exact .inl q
  ·by_cases m:b.page < 0
   ·exact .inl m
   ·rw[k b.page (.inr ⟨b,c,rfl,K⟩)];exact .inr ⟨v,w,x⟩
theorem cX.alloc(g:cX d l o h){w:Nat}{y:ar}{r:aA}{a:az}(t:b2 w d y= .ok r a):cX a l o h∧Live a r y∧lv l h r∧a.ax=d.ax∧a.now=d.now∧a.ins=d.ins∧b7 a=b7 d+1∧∀ e c,Live d e c→e≠r∧Live a e c:=by
 obtain⟨i,x,n,f,q⟩:=k4 t;have m:a.ax=d.ax:=by rw[i]
 refine⟨g.of (fun p _=>by rw[m]) fun e c v _=>(f e c v).2,n,⟨fun p j=>?_,fun b u j=>?_⟩,m,by rw[i],by rw[i],q,f⟩
 ·obtain⟨c, -,k⟩:=(g.gw p).live r j;exact(f r c k).1 rfl
 ·obtain⟨-, -,z,s, -⟩:=g.lF b u;obtain⟨c, -,k⟩:=s.live r j;exact(f r c k).1 rfl
theorem j7{b:Int→List z}{x:List z}{r:z}(a:r∈dM b p x q): (q=p∧r∈x)∨(q≠p∧r∈b q):=by
 unfold dM at a;split at a
 ·rename_i e;exact .inl ⟨e,a⟩
 ·rename_i e;exact .inr ⟨e,a⟩
theorem cX.tO(c:cX d l o h){p:Int}(k:0≤p){J:Option (Option aA)}(F:d.ax[p.toNat]?=Z J)(s: ∀ b∈h,b.page≠p){rs:List aA}{ys:List ar}(R:rs≠[])(D:rs.Nodup)(B:fp d rs ys)(C: ∀ y∈ys,bT y)(n: ∀ r∈rs,r∈l p∨lv l h r):
  cX (b1 d p rs.head?) (dM l p rs) (dM o p ys) h:=by
 refine⟨fun q t=>?_,fun q=>?_,fun q=>?_,fun q S j r G I=>?_,fun b f=>?_,fun b f q r m A=>?_,c.lH,fun q y i=>?_,fun b f=>?_⟩
 ·by_cases e:q=p
  ·subst e;rw[ew];exact⟨k,xd d F _⟩
  ·rw[cz e]at t ⊢;obtain⟨g,a⟩:=c.cc q t;exact⟨g,by rw[lO d g k e];exact a⟩
 ·by_cases e:q=p
  ·subst e;rw[ew,ew];exact B.I fun r _ y i=>i
  ·rw[cz e,cz e];exact(c.gw q).I fun r _ y i=>i
 ·by_cases e:q=p
  ·subst e;rw[ew];exact D
  ·rw[cz e];exact c.nd q
 ·rcases j7 G with⟨rfl,g⟩|⟨Q,g⟩ <;> rcases j7 I with⟨rfl,a⟩|⟨u,a⟩
  ·exact j rfl
  ·rcases n r g with q|q
   ·exact c.kt _ _ j r q a
   ·exact q.c _ a
  ·rcases n r a with q|q
   ·exact c.kt _ _ j r g q
   ·exact q.c _ g
  ·exact c.kt _ _ j r g a
 ·obtain⟨v,w,P,x,z⟩:=c.lF b f;exact⟨v,w,P,x.I fun r _ y i=>i,z⟩
 ·rcases j7 A with⟨rfl,a⟩|⟨u,a⟩
  ·rcases n r a with q|q
   ·exact c.k5 b f _ r m q
   ·exact q.b b f m
  ·exact c.k5 b f _ r m a
 ·rcases j7 i with⟨-,a⟩|⟨-,a⟩
  ·exact C y a
  ·exact c.k8 q y a
 ·rcases c.lG b f with q|⟨L,M,N⟩
  ·exact .inl q
  ·by_cases E:b.page < 0
   ·exact .inl E
   ·rw[lO d K k (s b f),cz (s b f)];exact .inr ⟨L,M,N⟩
theorem cX.q3(a:cX d l o h){p:Int}(c:l p≠[]): ∀ b∈h,b.page≠p:=fun b f e=>by
 have g:=(a.cc p c).1;rcases a.lG b f with q|⟨-, -,q⟩
 ·omega
 ·rw[e]at q;exact c q
theorem cX.push(a:cX d l o h){p:Int}(e:l p≠[]){r:aA}{y:ar}(j:bT y)(k:Live d r y)(f:lv l h r)(m: (y.x.slot,y.x.gen)=a4 (l p).head?):cX (b1 d p (Z r)) (dM l p (r::l p)) (dM o p (y::o p)) h:=by
 obtain⟨g,i⟩:=a.cc p e;refine a.tO g i (a.q3 e) J (fN.2 ⟨f.c p,a.nd p⟩) ⟨k,m,a.gw p⟩ (fun n c=>?_) fun q b=>?_
 ·rcases bd.1 c with rfl|c
  ·exact j
  ·exact a.k8 p n c
 ·rcases bd.1 b with rfl|b
  ·exact .inr f
  ·exact .inl b
theorem cX.zt(g:cX d l o h){p:Int}(n:l p≠[]){r:aA}{y:ar}(B:bT y)(C:Live d r y)(v:lv l h r)(s: (y.x.slot,y.x.gen)=(0,0))(E:Nat):cX (b1 d p (Z r)) (dM l p [r]) (dM o p [y]) (h++[⟨E,l p, -1⟩]):=by
 obtain⟨z,A⟩:=g.cc p n;have f:=g.tO (rs:=[r]) (ys:=[y]) z A (g.q3 n) J J ⟨C,s,trivial⟩ (fun F w=>by rw[aO]at w;subst w;exact B) fun i j=>by
  rw[aO]at j;subst j;exact .inr v
 refine⟨f.cc,f.gw,f.nd,f.kt,fun b a=>?_,fun b a q i m t=>?_,?_,f.k8,fun b a=>?_⟩
 ·rcases cu.1 a with a|a
  ·exact f.lF b a
  ·rw[aO]at a;subst a;exact⟨n,g.nd p,o p,(g.gw p).I fun r _ y s=>s,g.k8 p⟩
 ·rcases cu.1 a with a|a
  ·exact f.k5 b a q i m t
  ·rw[aO]at a;subst a;rcases j7 t with⟨rfl,k⟩|⟨e,k⟩
   ·rw[aO]at k;subst k;exact v.c _ m
   ·exact g.kt p q (fun x=>e x.symm) i m k
 ·rw[h6];refine⟨f.lH,pS _ _,fun b a c u=>?_⟩;rw[aO]at u;subst u;exact⟨fun i j D=>g.k5 b a p i j D,fun e=>by rw[e];show(-1:Int) < 0;decide⟩
 ·rcases cu.1 a with a|a
  ·exact f.lG b a
  ·rw[aO]at a;subst a;exact .inl (by show(-1:Int) < 0;decide)
theorem cX.FZ(f:cX d l o h){p:Int}(j:l p≠[])(G:Nat):cX d (dM l p []) (dM o p []) (h++[⟨G,l p,p⟩]):=by
 obtain⟨J,s⟩:=f.cc p j;refine⟨fun q k=>?_,fun q=>?_,fun q=>?_,fun q i w r x z=>?_,fun b a=>?_,fun b a q i t v=>?_,?_,fun q y C=>?_,fun b a=>?_⟩
 ·by_cases e:q=p
  ·subst e;rw[ew]at k;exact absurd rfl k
  ·rw[cz e]at k ⊢;exact f.cc q k
 ·by_cases e:q=p
  ·subst e;rw[ew,ew];trivial
  ·rw[cz e,cz e];exact f.gw q
 ·by_cases e:q=p
  ·subst e;rw[ew];exact iX
  ·rw[cz e];exact f.nd q
 ·rcases j7 x with⟨-,m⟩|⟨I,m⟩
  ·cases m
  ·rcases j7 z with⟨-,g⟩|⟨n,g⟩
   ·cases g
   ·exact f.kt _ _ w r m g
 ·rcases cu.1 a with a|a
  ·exact f.lF b a
  ·rw[aO]at a;subst a;exact⟨j,f.nd p,o p,f.gw p,f.k8 p⟩
 ·rcases j7 v with⟨-,g⟩|⟨n,g⟩
  ·cases g
  ·rcases cu.1 a with a|a
   ·exact f.k5 b a q i t g
   ·rw[aO]at a;subst a;exact f.kt p q (fun e=>n e.symm) i t g
 ·rw[h6];refine⟨f.lH,pS _ _,fun b a c u=>?_⟩;rw[aO]at u;subst u;exact⟨fun i A B=>f.k5 b a p i A B,fun e=>absurd e (f.q3 j b a)⟩
 ·rcases j7 C with⟨-,g⟩|⟨-,g⟩
  ·cases g
  ·exact f.k8 q y g
 ·rcases cu.1 a with a|a
  ·rcases f.lG b a with q|⟨D,E,F⟩
   ·exact .inl q
   ·refine .inr ⟨D,E,?_⟩;rw[cz (f.q3 j b a)];exact F
  ·rw[aO]at a;subst a;exact .inr ⟨(by show d.ax[p.toNat]?.isSome=true;rw[s];rfl),(by show d.ax[p.toNat]?≠Z V;rw[s];intro e;cases e),ew _ _ _⟩
theorem cX.take(f:cX d l o h){p:Nat}{a:az}(s:eR d=Z (p,a)):cX a l o h∧l p=[]∧(∀ b∈h,b.page≠p)∧a.ax[p]?=Z (Z V)∧a.aQ=d.aQ∧a.now=d.now∧a.ins=d.ins∧a=b1 d p V∧d.ax[p]?=Z none:=by
 obtain⟨rfl,g⟩:=zk s;have k:l p=[]:=by
  cases n:l p with
  |nil=>rfl
  |cons r u=>
   have:=(f.cc p (by rw[n];simp)).2;rw[kd,g]at this;cases this
 have j: ∀ b∈h,b.page≠p:=fun b i e=>by
  rcases f.lG b i with q|⟨-,q, -⟩
  ·omega
  ·rw[e,kd]at q;exact q g
 refine⟨f.of (fun q c=>?_) fun r y t _=>t,k,j,?_,rfl,rfl,rfl,rfl,g⟩
 ·rcases c with c|⟨b,i,rfl,m⟩
  ·refine lO d (f.cc q c).1 K (fun e=>?_) V;rw[e]at c;exact c k
  ·exact lO d m K (j b i) V
 ·have:=xd d (p:=(p:Int)) (by rw[kd];exact g) V;rwa[kd]at this
theorem cX.link(e:cX d l o h){p:Int}(f:0≤p){old:Option (Option aA)}(m:d.ax[p.toNat]?=Z old)(g: ∀ b∈h,b.page≠p){r:aA}{y:ar}(j:bT y)(k:Live d r y)(i:lv l h r)(n: (y.x.slot,y.x.gen)=(0,0)):cX (b1 d p (Z r)) (dM l p [r]) (dM o p [y]) h:=
 e.tO (rs:=[r]) (ys:=[y]) f m g J J ⟨k,n,trivial⟩ (fun s c=>by rw[aO]at c;subst c;exact j) fun q a=>by
  rw[aO]at a;subst a;exact .inr i
theorem cX.ku(c:cX d l o h){p:Int}(f:0≤p)(k:l p=[])(i: ∀ b∈h,b.page≠p):cX (eC d p) l o h:=
 c.of (fun q a=>by
  rcases a with a|⟨b,j,rfl,g⟩
  ·exact te d (c.cc q a).1 f (fun e=>by rw[e]at a;exact a k)
  ·exact te d g f (i b j)) fun r y m _=>m
theorem cX.free(i:cX d l o h){r:aA}{y:ar}(k:Live d r y)(c:lv l h r):cX (e3 d r) l o h:=
 i.of (fun q _=>rfl) fun g s f n=>by
  have m:r.i≠g.i:=fun e=>by
   have:=k.one f e;subst this;rcases n with⟨p,a⟩|⟨b,j,a⟩
   ·exact c.c p a
   ·exact c.b b j a
  show(d.aQ.set r.i _)[g.i]?=_;rw[ll m];exact f
theorem cX.BM(a:cX d l o h){f:List bK}(e:f.Sublist h):cX d l o f:=
 ⟨a.cc,a.gw,a.nd,a.kt,fun b c=>a.lF b (e.subset c),fun b c=>a.k5 b (e.subset c),a.lH.sublist e,a.k8,fun b c=>a.lG b (e.subset c)⟩
theorem mA{z:Type}[DecidableEq z]: ∀ {u m:List z},u.Nodup→(∀ x∈u,x∈m)→u.length≤m.length
 |[],m,_,_=>aJ _
 |a::u,m,b,d=>by
  rw[fN]at b;have c:=d a J;have:=mA (m:=m.erase a) b.2 fun x f=>by
   have g:x≠a:=fun e=>b.1 (e ▸ f);exact(List.mem_erase_of_ne g).2 (d x (by simp[f]))
  rw[List.length_erase_of_mem c]at this;have h:0 < m.length:=List.length_pos_of_mem c;rw[fY];omega
theorem Iw(b:List (Nat×Option ar)): ((List.range b.length).filter fun i=>((b[i]?.getD (0,V)).2).isSome).length=(b.filter fun q=>q.2.isSome).length:=by
 induction b with
 |nil=>rfl
 |cons a b ih=>
  rw[fY,List.range_succ_eq_map,h3,List.filter_map,h3];have e: ((List.range b.length).filter ((fun i=>(((a::b)[i]?.getD (0,V)).2).isSome) ∘ Nat.succ)).length=(b.filter fun q=>q.2.isSome).length:=ih;cases c:a.2.isSome
  ·simp only[mV,kF,c,Bool.false_eq_true,if_false,fM];exact e
  ·simp only[mV,kF,c,kb,fY,fM];rw[e]
theorem cX.count(f:cX d l o h){vs:List Int}(w:vs.Nodup): (vs.map fun p=>(l p).length).sum≤b7 d:=by
 have B: ∀ c:List Int,c.Nodup→((c.flatMap l).map aA.i).Nodup:=by
  intro c z;have n: ∀ r∈c.flatMap l,∃ y,Live d r y:=fun r a=>by
   obtain⟨p, -,j⟩:=List.mem_flatMap.1 a;obtain⟨y, -,b⟩:=(f.gw p).live r j;exact⟨y,b⟩
  have x: (c.flatMap l).Nodup:=by
   rw[h4,List.pairwise_flatMap];refine⟨fun p _=>h4.1 (f.nd p),?_⟩;refine(h4.1 z).imp fun {p q} g r a t k e=>?_;subst e;exact f.kt p q g r a k
  rw[h4,l6];refine(h4.1 x).imp_of_mem fun {r t} a k g e=>?_;obtain⟨y,b⟩:=n r a;obtain⟨C,A⟩:=n t k;exact g (b.one A e)
 have v:=B vs w;have s:=mA (m:=(List.range d.aQ.length).filter fun i=>((d.aQ[i]?.getD (0,V)).2).isSome) v fun i u=>by
  obtain⟨r,a,rfl⟩:=kE.1 u;obtain⟨p, -,j⟩:=List.mem_flatMap.1 a;obtain⟨y, -,b⟩:=(f.gw p).live r j;unfold Live at b;refine gW.2 ⟨lm.2 (c3.1 b).1,?_⟩;rw[b];rfl
 rw[Iw,fM,List.length_flatMap]at s;exact s
end
abbrev b8:ByteArray:=ByteArray.empty
def eu (a:Int):ar:=⟨⟨⟨a,b8,b8,false,0,[],b8,b8,0⟩,0,0,b8,0,0⟩,[]⟩
def eP (a b:ByteArray):ar:=⟨⟨⟨2,b8,b8,false,0,[],a,b,0⟩,0,0,b8,0,0⟩,[]⟩
def lI (a:ByteArray):ar:=⟨⟨⟨3,b8,b8,false,0,[],a,b8,0⟩,0,0,b8,0,0⟩,[]⟩
def kB:ar:=eu 5
def qR (a:ByteArray) (page:Int):ar:=⟨⟨⟨8,b8,b8,false,0,[],a,b8,page⟩,0,0,b8,0,0⟩,[]⟩
def jn (a:ByteArray) (page:Int):ar:=⟨⟨⟨9,b8,b8,false,0,[],a,b8,page⟩,0,0,b8,0,0⟩,[]⟩
def qL (page left:Int) (a:ByteArray):ar:=⟨⟨⟨10,b8,b8,false,0,[],b8,b8,0⟩,page,left,a,0,0⟩,[]⟩
def gS:ar:=eu 11
def hb (g:bl):ar:=⟨jZ g,[]⟩
def bA (v:aY):ar:=⟨⟨⟨7,v.low,v.high,v.unb,v.right,[],b8,b8,0⟩,0,0,b8,0,0⟩,v.ag⟩
def fH (a:aT):ar:=match a with| .leaf v=>⟨bY v,[]⟩| .aU v=>bA v
def cI (v:aY) (right:Int):aY:={v with ag:=v.ag.take (v.ag.length / 2),high:=(bw v.ag (v.ag.length / 2)).key,unb:=false,right:=right}
def bN (v:aY):aY:={v with ag:=v.ag.drop (v.ag.length / 2),low:=(bw v.ag (v.ag.length / 2)).key}
def lZ (b:aT) (p:Int):Option (ar×ar):=
 match b with
 | .leaf v=>match(e5 v).1 with|some a=>Z (⟨bY (c6 v a),[]⟩,⟨hZ a p,[]⟩)|none=>V
 | .aU v=>if v.held=false∧v.ag.length / 2≠0 then Z (bA (bN v),jn (bw v.ag (v.ag.length / 2)).key p)else V
def lM (b:aT) (p q:Int):Option (ar×ar×ar):=
 match b with
 | .leaf v=>match(e5 v).1 with|some a=>Z (⟨bY (eN v a q),[]⟩,⟨bY (c6 v a),[]⟩,⟨eW v,[⟨v.low,p⟩,⟨a,q⟩]⟩)|none=>V
 | .aU v=>if v.held=false∧v.ag.length / 2≠0 then Z (bA (cI v q),bA (bN v),bA {v with ag:=[⟨v.low,p⟩,⟨(bw v.ag (v.ag.length / 2)).key,q⟩]})else V
structure cn where
 n:Int
 refs:List aA
 ek:List ar
 nd:aT
structure bQ where
 n:Int
 head:aA
 view:aY
structure dS (lim:aK) (d:az) (a:cn):Prop where
 ne:a.refs≠[]
 hU:0≤a.n
 head:d.ax[a.n.toNat]?=Z (Z a.refs.head?)
 gw:fp d a.refs a.ek
 nd:dw a.ek=Z a.nd
 len:a.refs.length≤lim.aQ
 fit: ∀ y∈a.ek,bT y
def nx (y:ar) (r:aA):ar:=h0 y (Z r)
def dI.final:dI→Bool
 | .down _=>false
 | .gM _=>false
 |_=>true
inductive de (lim:aK) (c:ByteArray) (d:az) (wr:Bool):Int→Option bQ→Nat→cn→Option bQ→dI→Prop
 |stop {a:cn} {ab:Option bQ} {b:dI} (h:dS lim d a) (i:dX a.nd a.refs.length a.n (ab.map bQ.view) c lim wr=b) (k:b.final=true):de lim c d wr a.n ab (1+a.refs.length) a ab b
 |right{a e:cn} {ab f:Option bQ} {dst:Int} {g:Nat} {b:dI} (h:dS lim d a) (i:dX a.nd a.refs.length a.n (ab.map bQ.view) c lim wr= .gM dst) (j:de lim c d wr dst ab g e f b):de lim c d wr a.n ab (1+a.refs.length+g) e f b
 |down {a e:cn} {ab f:Option bQ} {dst:Int} {g:Nat} {b:dI} {v:aY} {cT:aA} (h:dS lim d a) (m:a.nd= .aU v) (l:a.refs.head?=Z cT) (i:dX a.nd a.refs.length a.n (ab.map bQ.view) c lim wr= .down dst) (j:de lim c d wr dst (Z ⟨a.n,cT,v⟩) g e f b):de lim c d wr a.n ab (1+a.refs.length+g) e f b
def c8 (w:Nat) (d:az) (n:Int) (y:ar):jJ:=match b2 w d y with| .ok r a=> .ok r (b1 a n (Z r))| .no e=> .no e
inductive hs where
 |ok (d:az)
 |no (d:az) (e:Int)
def jl (w:Nat) (d:az) (n:Int) (f:Int→ar×ar):hs:=
 match eR d with
 |none=> .no d 3
 |some (p,b)=>
  match b2 w b (f p).1 with
  | .no e=> .no (eC b p) e
  | .ok a c=>
   match b2 w (b1 c p (Z a)) (f p).2 with
   | .no e=> .no (eC (e3 (b1 c p (Z a)) a) p) e
   | .ok h g=> .ok (b1 g n (Z h))
def jk (w:Nat) (d:az) (n:Int) (b:Int→Int→ar×ar×ar):hs:=
 match eR d with
 |none=> .no d 3
 |some (p,f)=>
  match eR f with
  |none=> .no (eC f p) 3
  |some (q,g)=>
   match b2 w g (b p q).1 with
   | .no e=> .no (eC (eC g q) p) e
   | .ok a h=>
    match b2 w h (b p q).2.1 with
    | .no e=> .no (eC (eC (e3 h a) q) p) e
    | .ok c i=>
     match b2 w (b1 (b1 i p (Z a)) q (Z c)) (b p q).2.2 with
     | .no e=> .no (eC (eC (e3 (e3 (b1 (b1 i p (Z a)) q (Z c)) c) a) q) p) e
     | .ok k j=> .ok (b1 j n (Z k))
inductive ki (lim:aK) (d:az) (v:aY):Nat→az→List aA→bl→Prop
 |dU {P:cn} {g:bl} (c:dS lim d P) (h:P.n=v.aH) (f:P.nd= .leaf g) (e:g.gone=true):ki lim d v (1+P.refs.length) d P.refs g
 |put {P:cn} {g:bl} {b r:aA} {a:az} (c:dS lim d P) (h:P.n=v.aH) (f:P.nd= .leaf g) (e:g.gone=false) (i:P.refs.head?=Z b) (j:c8 lim.count d P.n (nx kB b)= .ok r a):ki lim d v (1+P.refs.length+2) a (r::P.refs) {g with gone:=true}
inductive jM (lim:aK) (d:az) (v:aY):Int→Nat→cn→bl→Bool→Prop
 |has {c:cn} {a:bl} (f:dS lim d c) (i:c.nd= .leaf a) (g:a.gone=false) (h:c.nd.has v.aD=true∨(c.nd.has v.aD=false∧a.unb=false∧a.high=v.aD∧a.right≠v.aH)):jM lim d v c.n (1+c.refs.length) c a false
 |pr {c:cn} {a:bl} (f:dS lim d c) (i:c.nd= .leaf a) (g:a.gone=false) (h:c.nd.has v.aD=false∧a.unb=false∧a.high=v.aD∧a.right=v.aH):jM lim d v c.n (1+c.refs.length) c a true
 |next {c e:cn} {a b:bl} {j:Nat} {k:Bool} (f:dS lim d c) (i:c.nd= .leaf a) (g:a.gone=false) (h:c.nd.has v.aD=false∧a.unb=false∧a3.cmp (aF a.high) (aF v.aD) < 0) (l:jM lim d v a.right j e b k):jM lim d v c.n (1+c.refs.length+j) e b k
inductive p0 where
 |done(a:List aA)
 |no (e:Int)
inductive iF (lim:aK) (d:az) (h:Int) (i:aA) (v:aY):Nat→az→p0→Prop
 |tg {P:cn} {g:bl} {j:aA} {e:Int} (x:dS lim d P) (B:P.n=v.aH) (A:P.nd= .leaf g) (y:g.gone=false) (p:P.refs.head?=Z j) (z:c8 lim.count d P.n (nx kB j)= .no e):iF lim d h i v (1+P.refs.length+1) d (.no e)
 |has {c f:Nat} {b l:az} {k:List aA} {g a:bl} {P:cn} {r:aA} (m:ki lim d v c b k g) (n:jM lim b v v.bb f P a false) (u:b.ax[h.toNat]?=Z (Z (Z i))) (o:c8 lim.count b h (nx gS i)= .ok r l):iF lim d h i v (c+f+2) l (.done k)
 |tk {c f:Nat} {b:az} {k:List aA} {g a:bl} {P:cn} {e:Int} (m:ki lim d v c b k g) (n:jM lim b v v.bb f P a false) (o:c8 lim.count b h (nx gS i)= .no e):iF lim d h i v (c+f+1) b (.no e)
 |uk {c f:Nat} {b:az} {k:List aA} {g a:bl} {P:cn} {j:aA} {e:Int} (m:ki lim d v c b k g) (n:jM lim b v v.bb f P a true) (s:bT (hb g)) (p:P.refs.head?=Z j) (o:c8 lim.count b P.n (nx (hb g) j)= .no e):iF lim d h i v (c+f+1) b (.no e)
 |pr {c f:Nat} {b l q:az} {k:List aA} {g a:bl} {P:cn} {j r w:aA} (m:ki lim d v c b k g) (n:jM lim b v v.bb f P a true) (s:bT (hb g)) (p:P.refs.head?=Z j) (o:c8 lim.count b P.n (nx (hb g) j)= .ok r l) (u:l.ax[h.toNat]?=Z (Z (Z i))) (t:c8 lim.count l h (nx gS i)= .ok w q):iF lim d h i v (c+f+4) q (.done k)
 |uj {c f:Nat} {b l:az} {k:List aA} {g a:bl} {P:cn} {j r:aA} {e:Int} (m:ki lim d v c b k g) (n:jM lim b v v.bb f P a true) (s:bT (hb g)) (p:P.refs.head?=Z j) (o:c8 lim.count b P.n (nx (hb g) j)= .ok r l) (t:c8 lim.count l h (nx gS i)= .no e):iF lim d h i v (c+f+3) l (.no e)
structure cV where
 kind:Int
 key:ByteArray
 val:ByteArray
structure g3 where
 val:ByteArray
 code:Int
def nM (b:dI):Option ar:=
 match b with
 | .post a page=>Z (qR a page)
 | .hold page left a=>Z (qL page left a)
 |_=>V
def fs (c:cV):ar:=if c.kind=5 then lI c.key else eP c.key c.val
def dq (c:cV) (rows:List aN):Option Int:=
 if hasB c.key rows=true∧c.kind=2 then Z 7 else if hasB c.key rows=false∧c.kind≠2∧c.kind≠4 then Z 6 else V
def ds (a:ByteArray) (u:List aN):ByteArray:=if hasB a u=true then dx u (place a u)else b8
inductive One (lim:aK) (c:cV) (d:az) (h:List bK) (wr:Bool):Nat→az→List bK→Bool→Option g3→Prop
 |again {k:Nat} {P:cn} {ab:Option bQ} (b:de lim c.key d wr 0 V k P ab .again):One lim c d h wr k d h (wr||(match P.nd with| .leaf _=>true| .aU _=>false)) V
 |tT {k:Nat} {P:cn} {g:bQ} {o:dI} {y:ar} {r:aA} {a:az} (b:de lim c.key d wr 0 V k P (Z g) o) (z:nM o=Z y) (A:d.ax[g.n.toNat]?=Z (Z (Z g.head))) (i:c8 lim.count d g.n (nx y g.head)= .ok r a):One lim c d h wr (k+2) a h wr V
 |tU {k:Nat} {P:cn} {g:bQ} {o:dI} {y:ar} {e:Int} (b:de lim c.key d wr 0 V k P (Z g) o) (z:nM o=Z y) (i:c8 lim.count d g.n (nx y g.head)= .no e):One lim c d h wr (k+1) d h wr (Z ⟨b8,e⟩)
 |tidy {k:Nat} {P:cn} {ab:Option bQ} {r:aA} {a:az} (b:de lim c.key d wr 0 V k P ab .tidy) (j:bT (fH P.nd)) (i:c8 lim.count d P.n (fH P.nd)= .ok r a):One lim c d h wr (k+3) a (h++[⟨a.now,P.refs, -1⟩]) wr V
 |uo {k:Nat} {P:cn} {ab:Option bQ} {e:Int} (b:de lim c.key d wr 0 V k P ab .tidy) (j:bT (fH P.nd)) (i:c8 lim.count d P.n (fH P.nd)= .no e):One lim c d h wr (k+1) d h wr (Z ⟨b8,e⟩)
 |split{k:Nat} {P:cn} {ab:Option bQ} {hd:aA} {f:Int→ar×ar} {a:az} (b:de lim c.key d wr 0 V k P ab .split) (j:bT (fH P.nd)) (l:P.refs.head?=Z hd) (t: ∀ p,lZ P.nd p=Z (f p)) (i:jl lim.count d P.n (fun p=>((f p).1,nx (f p).2 hd))= .ok a):One lim c d h wr (k+5) a h wr V
 |pn {k:Nat} {P:cn} {ab:Option bQ} {hd:aA} {f:Int→ar×ar} {a:az} {e:Int} (b:de lim c.key d wr 0 V k P ab .split) (j:bT (fH P.nd)) (l:P.refs.head?=Z hd) (t: ∀ p,lZ P.nd p=Z (f p)) (i:jl lim.count d P.n (fun p=>((f p).1,nx (f p).2 hd))= .no a e):One lim c d h wr (k+6) a h wr (Z ⟨b8,e⟩)
 |grow {k:Nat} {P:cn} {ab:Option bQ} {f:Int→Int→ar×ar×ar} {a:az} (b:de lim c.key d wr 0 V k P ab .grow) (j:bT (fH P.nd)) (t: ∀ p q,lM P.nd p q=Z (f p q)) (i:jk lim.count d P.n f= .ok a):One lim c d h wr (k+9) a (h++[⟨a.now,P.refs, -1⟩]) wr V
 |oU {k:Nat} {P:cn} {ab:Option bQ} {f:Int→Int→ar×ar×ar} {a:az} {e:Int} (b:de lim c.key d wr 0 V k P ab .grow) (j:bT (fH P.nd)) (t: ∀ p q,lM P.nd p q=Z (f p q)) (i:jk lim.count d P.n f= .no a e):One lim c d h wr (k+11) a h wr (Z ⟨b8,e⟩)
 |gQ {k n:Nat} {P:cn} {ab:Option bQ} {hd:aA} {v:aY} {a:az} {w:List aA} (b:de lim c.key d wr 0 V k P ab .gQ) (m:P.nd= .aU v) (l:P.refs.head?=Z hd) (x:iF lim d P.n hd v n a (.done w)):One lim c d h wr (k+n+1) a (h++[⟨a.now,w,v.aH⟩]) wr V
 |tn {k n:Nat} {P:cn} {ab:Option bQ} {hd:aA} {v:aY} {a:az} {e:Int} (b:de lim c.key d wr 0 V k P ab .gQ) (m:P.nd= .aU v) (l:P.refs.head?=Z hd) (x:iF lim d P.n hd v n a (.no e)):One lim c d h wr (k+n) a h wr (Z ⟨b8,e⟩)
 |dq {k:Nat} {P:cn} {ab:Option bQ} {v:bl} {e:Int} (b:de lim c.key d wr 0 V k P ab .act) (m:P.nd= .leaf v) (s:dq c v.rows=Z e):One lim c d h wr k d h wr (Z ⟨b8,e⟩)
 |sC {k:Nat} {P:cn} {ab:Option bQ} {v:bl} (b:de lim c.key d wr 0 V k P ab .act) (m:P.nd= .leaf v) (s:dq c v.rows=V) (u:c.kind=1):One lim c d h wr k d h wr (Z ⟨ds c.key v.rows,0⟩)
 |act {k:Nat} {P:cn} {ab:Option bQ} {v:bl} {hd r:aA} {a:az} (b:de lim c.key d wr 0 V k P ab .act) (m:P.nd= .leaf v) (l:P.refs.head?=Z hd) (s:dq c v.rows=V) (u:c.kind≠1) (i:c8 lim.count d P.n (nx (fs c) hd)= .ok r a):One lim c d h wr (k+2) a h wr (Z ⟨ds c.key v.rows,0⟩)
 |sB {k:Nat} {P:cn} {ab:Option bQ} {v:bl} {hd:aA} {e:Int} (b:de lim c.key d wr 0 V k P ab .act) (m:P.nd= .leaf v) (l:P.refs.head?=Z hd) (s:dq c v.rows=V) (u:c.kind≠1) (i:c8 lim.count d P.n (nx (fs c) hd)= .no e):One lim c d h wr (k+1) d h wr (Z ⟨b8,e⟩)
inductive je (lim:aK) (c:cV):az→List bK→Bool→Nat→az→List bK→g3→Prop
 |last {d b:az} {h a:List bK} {wr f:Bool} {e:Nat} {r:g3} (k:One lim c d h wr e b a f (Z r)):je lim c d h wr e b a r
 |more {d b i:az} {h a g:List bK} {wr f:Bool} {e j:Nat} {r:g3} (k:One lim c d h wr e b a f V) (l:je lim c b a f j i g r):je lim c d h wr (e+j) i g r
inductive mj:az→List aA→Nat→az→Prop
 |nil (d:az):mj d [] 0 d
 |cons {d b:az} {r:aA} {a:List aA} {y:ar} {c:Nat} (f:Live d r y) (h: (y.x.slot,y.x.gen)=a4 a.head?) (g:mj (e3 d r) a c b) (e:bT y):mj d (r::a) (2+c) b
inductive kp:az→List bK→Nat→az→Prop
 |nil (d:az):kp d [] 0 d
 |chain {d a c:az} {b:bK} {e:List bK} {f g:Nat} (k:b.refs≠[]) (h:mj d b.refs f a) (j:b.page < 0) (i:kp a e g c):kp d (b::e) (f+g) c
 |page {d a c:az} {b:bK} {e:List bK} {f g:Nat} (k:b.refs≠[]) (h:mj d b.refs f a) (j:0≤b.page) (l:a.ax[b.page.toNat]?.isSome=true∧a.ax[b.page.toNat]?≠Z V) (i:kp (eC a b.page) e g c):kp d (b::e) (f+1+g) c
def bump (w:Nat) (d:az):az:={d with now:=if d.now=w then d.now else d.now+1}
inductive mi (lim:aK) (c:cV) (d:az) (h:List bK):Nat→az→List bK→g3→Prop
 |j8 (g:d.now=lim.count):mi lim c d h 1 d h ⟨b8,5⟩
 |calm {a:az} {k:Nat} {r:g3} (g:d.now≠lim.count) (l:d.ins=V) (m:je lim c {d with now:=d.now+1,ins:=Z (d.now+1)} h (decide (c.kind≠1)) k a [] r) (j:a.ins.isSome=true):mi lim c d h (2+k+1) {a with ins:=V} [] r
 |rl {a f:az} {e:List bK} {k i:Nat} {r:g3} (g:d.now≠lim.count) (l:d.ins=V) (m:je lim c {d with now:=d.now+1,ins:=Z (d.now+1)} h (decide (c.kind≠1)) k a e r) (j:a.ins.isSome=true) (n:e≠[])
   (IT:kp (bump lim.count {a with ins:=V}) (e.filter fun b=>decide (b.dF < (bump lim.count a).now)) i f):
   mi lim c d h (2+k+1+1+lim.cO+i) f (e.filter fun b=>decide (¬b.dF < (bump lim.count a).now)) r
end Go.Proofs.YtbkmjhhpcinppaaGreatDoor
