import Derived.Test.YtbkmjhhpcinppaaGreatDoorQ26
namespace Go.Proofs.YtbkmjhhpcinppaaGreatDoor
set_option linter.unusedVariables false
set_option linter.defProp false
set_option linter.unusedSimpArgs false
set_option maxRecDepth 100000
set_option maxHeartbeats 40000000
open Go.BigFrame Go.RowKit Go.WideShapes
open Ending renaming returned→ap
open Go renaming Addr→ai,Calls→ao,Value→ak,World→ad
open Go.Proofs.Tryz renaming prog→aj
open IntKind renaming i64→U
open Obj renaming cells→X
open Option renaming none→V,some→Z
open Value renaming agg→aw,bool→ah,int→O,nilIface→aB,pointer→au,slice→ac,string→af,tuple→a0
open World renaming alloc→H,setCells→ba
variable {S u R k cb T C m nb p : Nat} {D : bU} {l : aV} {s am A : az} {x : cn} {Q : ad → Prop} {i w B : List Nat} {t z : eT} {c n : Int} {e W : Ending} {hd r : aA} {lim : aK} {ob : Option ai} {v : bl} {P : List ak} {d j E I : ad} {y : ar}
section
variable {ag : bU} 
def gK (l:aV) (lim:aK) (k:Nat) (D:bU) (i:List Nat) (d:ad) (s:az) (n:Int) (hd:aA) (v:bl) (e:Ending) (j:ad):Prop:=
 e=ap (ah false)∧(∀ c,dq D.c v.rows=Z c→cS l lim k D D.bin i d s ⟨#[]⟩ (Z c) e j)∧
 (dq D.c v.rows=V→D.c.kind=1→cS l lim k D D.bin i d s (ds D.c.key v.rows) V e j)∧
 (dq D.c v.rows=V→D.c.kind≠1→(∀ r A,s.ax[n.toNat]?=Z (Z (Z hd))→b2 lim.count s (nx (fs D.c) hd)= .ok r A→a7 l k 2 j (cS l lim k D D.bin i d (b1 A n (Z r)) (ds D.c.key v.rows) V))∧∀ c,b2 lim.count s (nx (fs D.c) hd)= .no c→a7 l k 1 j (cS l lim k D D.bin i d s ⟨#[]⟩ (Z c)))
theorem gK.no{f:Int}(b:dq D.c v.rows=Z f)(q:cS l lim k D D.bin i d s ⟨#[]⟩ (Z f) e j):gK l lim k D i d s n hd v e j:=by
 refine⟨q.1,fun c a=>?_,fun a=>?_,fun a=>?_⟩
 ·rw[b]at a;cases a;exact q
 ·rw[b]at a;cases a
 ·rw[b]at a;cases a
theorem gK.get(g:dq D.c v.rows=V)(b:D.c.kind=1)(q:cS l lim k D D.bin i d s (ds D.c.key v.rows) V e j):gK l lim k D i d s n hd v e j:=by
 refine⟨q.1,fun c a=>?_,fun _ _=>q,fun _ f=>(f b).elim⟩;rw[g]at a;cases a
theorem gK.put(m:dq D.c v.rows=V)(g:D.c.kind≠1)(e: ∀ r A,s.ax[n.toNat]?=Z (Z (Z hd))→b2 lim.count s (nx (fs D.c) hd)= .ok r A→a7 l k 2 j (cS l lim k D D.bin i d (b1 A n (Z r)) (ds D.c.key v.rows) V))(f: ∀ c,b2 lim.count s (nx (fs D.c) hd)= .no c→a7 l k 1 j (cS l lim k D D.bin i d s ⟨#[]⟩ (Z c))):gK l lim k D i d s n hd v (ap (ah false)) j:=by
 refine⟨rfl,fun c a=>?_,fun _ b=>(g b).elim,fun _ _=>⟨e,f⟩⟩;rw[m]at a;cases a
theorem AL{ch:Option ai}{b8:Nat}{ci:Option ai}{cf b9:Nat}{o:Option ai}{c:Nat}(W:aP l i d lim s k D ob nb cb P)(c5:bk (ay d i) o m c v.rows)(cd:0≤n)(c9:1≤D.c.kind∧D.c.kind≤5):
  ao aj 123 #[aa k,aw (b5 n ((hd.i:Int)+1) (hd.g:Int) ch C b8 ci cf b9 v o m c)] d (gK l lim k D i d s n hd v):=by
 obtain ⟨cX,cP,cQ⟩:=gv d 35 170 [aa k] (b5 n ((hd.i:Int)+1) (hd.g:Int) ch C b8 ci cf b9 v o m c);have B:=N W;have c3:=N c5;have c2:=N c9;clear c9;have ct:=W.aC cX;have bJ:=ct.box.cell 9 rfl;have aY:=ct.box.cell 4 rfl;have c0:=ct.box.cell 5 rfl;have aX:=cP.cell 0 rfl;clear W c5 ct;go_enter Tryz.func123,Tryz.ntmps123;go_upto_region 1 with fail
 show Code.wp _ _ _ _ ((H d (X #[aa k] 35)).alloc (X (b5 n ((hd.i:Int)+1) (hd.g:Int) ch C b8 ci cf b9 v o m c) 170));generalize (H d (X #[aa k] 35)).alloc (X (b5 n ((hd.i:Int)+1) (hd.g:Int) ch C b8 ci cf b9 v o m c) 170)=ax at *;go_upto_region 4 with fail
 refine cZ (fun _=>True) (fun j=>j.cell? d=Z (aa k)∧j.cell? ⟨k,4,V⟩=Z (af D.c.key)∧j.cell? ⟨k,5,V⟩=Z (af D.c.val)) 12 G ?_;have a:True:=trivial;have cu:=(Y.refl ax).drew;have hKC:=And.intro (cu.I aX) (And.intro (cu.I aY) (cu.I c0));refine' bc (v:=aa k) 0 24 rfl (.inl ⟨aq,?_⟩) a hKC ?_
 ·(intro d g;have aA:=g.2.1;clear g;go_simp)
 refine' aI 1 25 (aa k) rfl a hKC ?_;refine' aI 2 26 (au (Z ⟨k,3,V⟩)) rfl a hKC ?_;refine' aI 3 27 (au (Z ⟨k,4,V⟩)) rfl a hKC ?_;refine' bc (v:=af D.c.key) 4 28 rfl (.inl ⟨aq,?_⟩) a hKC ?_
 ·(intro d g;have aA:=g.2.2.1;clear g;go_simp)
 refine' bc (v:=aa k) 5 29 rfl (.inl ⟨aq,?_⟩) a hKC ?_
 ·(intro d g;have aA:=g.2.1;clear g;go_simp)
 refine' aI 6 30 (aa k) rfl a hKC ?_;refine' aI 7 31 (au (Z ⟨k,3,V⟩)) rfl a hKC ?_;refine' aI 8 32 (au (Z ⟨k,5,V⟩)) rfl a hKC ?_;refine' bc (v:=af D.c.val) 9 33 rfl (.inl ⟨aq,?_⟩) a hKC ?_
 ·(intro d g;have aA:=g.2.2.2;clear g;go_simp)
 refine' aI 10 34 (aw #[O U 2,af ⟨#[]⟩,af ⟨#[]⟩,false,O U 0,ac V 0 0,ac V 0 0,D.c.key,D.c.val,O U 0,O U 0,O U 0,af ⟨#[]⟩,O U 0,O U 0]) rfl a hKC ?_;refine b4 11 (Z 5) rfl (fun t f=>?_);go_simp;have cU:ae (ax.drew.alloc (X al 85)) ax.heap.size al:=(ae.new ax.drew _ _ rfl).of J;have u:Y ax (ax.drew.alloc (X al 85)):=cu.alloc _;refine a5 f (trivial) (fun _=>And.intro (u.I aX) (And.intro (u.I aY) (u.I c0))) ?_;clear f t;refine cg 12 (V) rfl (fun t f=>?_);refine dQ _ _ _ rfl _ _ (an (eP D.c.key D.c.val).x V 0 0 V 0 0).toArray rfl rfl cU.may G du ?_;(try simp only [bu]);refine bM f (trivial) ?_;clear f t;refine cC G ?_;go_upto_region 5 with fail
 have cL:ae ((ax.drew.alloc (X al 85)).setCells ax 0 (an (eP D.c.key D.c.val).x V 0 0 V 0 0)) ax.heap.size (an (eP D.c.key D.c.val).x V 0 0 V 0 0):=cU.aR rfl;have cv:Y ax ((ax.drew.alloc (X al 85)).setCells ax 0 (an (eP D.c.key D.c.val).x V 0 0 V 0 0)):=u.setCells (aG _) _ _;have dv:d.heap.size+2≤ax.heap.size:=by have:=gN (cQ.cell 0 rfl);omega
 have BT:=cP.I cv;have b2:=cQ.I cv;have c1:=B.out.aC (cX.trans cv);have az:=cX.trans cv;clear cU u hKC a aX aY c0 bJ cP cQ;show Code.wp _ _ _ _ ((ax.drew.alloc (X al 85)).setCells ax 0 (an (eP D.c.key D.c.val).x V 0 0 V 0 0));generalize (ax.drew.alloc (X al 85)).setCells ax 0 (an (eP D.c.key D.c.val).x V 0 0 V 0 0)=bW at *;generalize ax.heap.size=am at *;have aX:=BT.cell 0 rfl;have aY:=c1.box.cell 4 rfl;have cI:bW.cell? ⟨d.heap.size+1,10,V⟩=Z (ac o m c):=b2.cell 10 rfl;have aD:=c1.key.1;refine cZ (fun _=>True) (fun j=>j.cell? d=Z (aa k)∧j.cell? ⟨k,4,V⟩=Z (af D.c.key)∧j.cell? ⟨d.heap.size+1,10,V⟩=Z (ac o m c)) 8 G ?_;have a:True:=trivial;have bX:=(Y.refl bW).drew;have hKC:=And.intro (bX.I aX) (And.intro (bX.I aY) (bX.I cI));refine' aI 0 36 (au (Z ⟨d.heap.size+1,6,V⟩)) rfl a hKC ?_;refine' aI 1 37 (au (Z ⟨d.heap.size+1,10,V⟩)) rfl a hKC ?_;refine' bc (v:=ac o m c) 2 38 rfl (.inl ⟨aq,?_⟩) a hKC ?_
 ·(intro d g;have aA:=g.2.2.2;clear g;go_simp)
 refine' bc (v:=aa k) 3 39 rfl (.inl ⟨aq,?_⟩) a hKC ?_
 ·(intro d g;have aA:=g.2.1;clear g;go_simp)
 refine' aI 4 40 (aa k) rfl a hKC ?_;refine' aI 5 41 (au (Z ⟨k,3,V⟩)) rfl a hKC ?_;refine' aI 6 42 (au (Z ⟨k,4,V⟩)) rfl a hKC ?_;refine' bc (v:=af D.c.key) 7 43 rfl (.inl ⟨aq,?_⟩) a hKC ?_
 ·(intro d g;have aA:=g.2.2.1;clear g;go_simp)
 refine cg 8 (Z 44) rfl (fun t f=>?_);go_simp;go_at_call 111;refine (s3 o m c v.rows D.c.key bW.drew (c3.out.gP.I (az.trans bX)) aD).mono ?_;rintro e aC ⟨rfl,c8⟩;have bY:Y bW aC:=bX.trans c8.aC;refine bM f (trivial) ?_;clear f t;refine' a8 9 35 (a0 #[O U (place D.c.key v.rows:Int),(hasB D.c.key v.rows)]) rfl a ?_;refine' a8 10 45 (O U (place D.c.key v.rows:Int)) rfl a ?_;refine' a8 11 46 (ah (hasB D.c.key v.rows)) rfl a ?_;refine' a8 12 6 (O U (place D.c.key v.rows:Int)) rfl a ?_;refine' a8 13 7 (ah (hasB D.c.key v.rows)) rfl a ?_;refine cC G ?_;have cT:ae (H aC (X #[af ⟨#[]⟩,aB] 44)) aC.heap.size [af ⟨#[]⟩,aB]:=(ae.new aC _ _ rfl).of J;clear hKC a aX aY cI bX c8;go_upto_region 7 with (with_reducible refine bq 44 (cT) ([af ⟨#[]⟩,aB]) ?_)
 have bU:ae ((H aC (X #[af ⟨#[]⟩,aB] 44)).setCells aC 0 [af ⟨#[]⟩,aB]) aC.heap.size [af ⟨#[]⟩,aB]:=cT.aR rfl;have cw:Y aC ((H aC (X #[af ⟨#[]⟩,aB] 44)).setCells aC 0 [af ⟨#[]⟩,aB]):=((Y.refl aC).alloc _).setCells (aG _) _ _;have dr:am < aC.heap.size:=dR (gN (cL.cell 0 rfl)) bY.le;have bL:=b2.I (bY.trans cw);have c4:=N (c3.out.gP.I ((az.trans bY).trans cw));have dt:d.heap.size+1 < aC.heap.size:=K;clear cT;(try simp only [Act.put]);generalize (H aC (X #[af ⟨#[]⟩,aB] 44)).setCells aC 0 [af ⟨#[]⟩,aB]=ab at *;generalize c6:aC.heap.size=T at *;have dd:=N c6;clear c6;have bV:=B.out.aC ((az.trans bY).trans cw);have aV:=bY.trans cw;have cM:=BT.I aV;have ck:=cL.I aV;have aX:=cM.cell 0 rfl;have bS:=bV.box.cell 3 rfl;cases a7:hasB D.c.key v.rows with
 |false=>
  have ce:ds D.c.key v.rows=⟨#[]⟩:=by unfold ds;rw [a7];rfl
  have bO:=N ce;have aU:=N a7;clear a7 ce;by_cases aE:D.c.kind=1
  ·rw [aE] at bS;have z:=N aE;clear aE;go_wp2_with (go_at_call 102;(with_reducible refine (mv bV (.iface 48 (O U 6)) 6 (.code 6 rfl)).mono ?_);rintro e bK ⟨rfl,bR,bv,bT,bE,bF,bG⟩);go_ret;have bQ:iE l i lim s k D ob nb cb P ab 6 (ap (ah false)) bK:=⟨rfl,bR,bv,bT,bE,bF,bG⟩;have av:dq D.c v.rows=Z 6:=by unfold dq;rw [aU.out,z.out];rfl
   have Q:bD i d i ab:=Y.av (az.trans aV);exact gK.no av (bQ.ha Q)
  by_cases aT:D.c.kind=2
  ·rw [aT] at bS;have z:=N aT;clear aE aT;obtain ⟨p,rfl⟩:=fP cd;have bn:ab.rangeAt (d.heap.size+1) 1 [O U ((hd.i:Int)+1),(hd.g:Int)]:=fun S aR L=>by
    rcases S with _|_|S
    ·cases L;exact bL.cell 1 rfl
    ·cases L;exact bL.cell 2 rfl
    ·simp at L
   have bx:ab.cell? ⟨d.heap.size+1,0,V⟩=Z (O U (p:Int)):=bL.cell 0 rfl;go_upto_region 22 with fail
   refine cZ (fun _=>True) (fun j=>j.cell? d=Z (aa k)∧j.cell? ⟨d.heap.size+1,0,V⟩=Z (O U (p:Int))∧j.rangeAt (d.heap.size+1) 1 [O U ((hd.i:Int)+1),(hd.g:Int)]∧j.rangeAt am 0 (an (eP D.c.key D.c.val).x V 0 0 V 0 0)) 8 G ?_;have a:True:=trivial;have F:=(Y.refl ab).drew;have hKC:=And.intro (F.I aX) (And.intro (F.I bx) (And.intro (F.range bn) (F.range ck.aM)));refine' bc (v:=aa k) 0 93 rfl (.inl ⟨aq,?_⟩) a hKC ?_
   ·(intro d g;have aA:=g.2.1;clear g;go_simp)
   refine' aI 1 94 (au (Z ⟨d.heap.size+1,0,V⟩)) rfl a hKC ?_;refine' bc (v:=O U (p:Int)) 2 95 rfl (.inl ⟨aq,?_⟩) a hKC ?_
   ·(intro d g;have aA:=g.2.2.1;clear g;go_simp)
   refine' aI 3 96 (au (Z ⟨d.heap.size+1,1,V⟩)) rfl a hKC ?_;refine' bc 4 97 rfl (cj aq _ _ rfl _ _ rfl _ _ (fun d W=>W.2.2.2.1) dm rfl G) a hKC ?_;refine' bc 5 98 rfl (cj aq _ _ rfl _ _ rfl _ _ (fun d W=>W.2.2.2.2) cG rfl G) a hKC ?_;refine' aI 7 100 (.func (.func 143) #[] #[aa d,aa T]) rfl a hKC ?_;refine b4 6 (Z 99) rfl (fun t f=>?_);go_simp;go_at_call 134;with_reducible refine (nH p hd (eP D.c.key D.c.val) V 0 0 V 0 0 ab.drew).mono ?_
   rintro e y ⟨M,rfl,a9,x,a4⟩;have cc:Y ab y:=F.trans x;have aN:Y d y:=(az.trans aV).trans cc;refine a5 f (trivial) (fun _=>And.intro (x.I hKC.1) (And.intro (x.I hKC.2.1) (And.intro (x.range hKC.2.2.1) (x.range hKC.2.2.2)))) ?_;clear f t;have aK:=B.out.aC aN;have hold:=B.out.mem.old;have a3:fA i y (.func (.func 163) #[] #[aa M]) [] [] (nx (eP D.c.key D.c.val) hd):=lc ns (fun I bw n c bm=>nG bm bw n c) (fun S aR L=>bp.2 ⟨fun q=>by have:=hold M q;have:ab.heap.size≤M:=a9;have:=(az.trans aV).le;omega,a4 S aR L⟩) ((⟨gD _,bo.nil _ _ _,⟨aJ _,aJ _,aD,B.out.key.2,aJ _⟩⟩:b3 (ay y i) (eP D.c.key D.c.val) V 0 0 V 0 0).h0 (Z hd));have br:y.cell? d=Z (aa k):=x.I hKC.1;have bs:=bU.I cc;refine cg 8 (Z 101) rfl (fun t f=>?_);go_simp;go_at_call 133;with_reducible refine (jm aK (page:=(p:Int)) 163 #[] #[aa M] 143 #[] #[aa d,aa T] (la aK.mem a3)).mono ?_
   rintro e bA ⟨rfl,cB,cm,cJ,R,w,cp,cn,co,a6,bj,be,aL,aM,ar⟩;refine bM f (trivial) ?_;clear f t;refine cg 9 (Z 4) rfl (fun t f=>?_);go_simp;refine bM f (trivial) ?_;clear f t;refine cC G ?_;go_wp2_with fail;go_ret;obtain ⟨no,cA,cz,cD,cx,cr,cE,cy,cs,aH⟩:=a6;have aF:=aH.under bj (fun c bf=>by rw [aO.1 bf];exact ⟨(aH.av.sub _ B.out.cE),B.out.c5,be⟩);have bg: (ay y i).cell? d=Z (aa k):=bp.2 ⟨fun q=>by have:=hold _ q;omega,br⟩;have bd:T∉i:=fun q=>by have:=hold _ q;omega
   have Q:bD i d w bA:=(Y.av aN).trans ar;have av:dq D.c v.rows=none:=by unfold dq;rw [aU.out,z.out];rfl
   have aQ:fs D.c=eP D.c.key D.c.val:=by unfold fs;rw [z.out];rfl
   refine gK.put av (by rw [z.out];decide) (fun r A bl E=>?_) (fun c E=>?_)
   ·rw [aQ] at E;rw [bO.out];refine lV (q:=Z hd) aL aF aM ⟨aJ _,aJ _⟩ bl E oO fun bB aZ a2 u=>?_;have bh:=(ar.aL.cell _ _ _ bg);have bi:=u.aL.cell _ _ _ bh;have bb:=(ar.trans u).box (.inl bd) bs;exact (oB a2 (bp.1 bi).2 bb).mono fun e bC q=>⟨false,q.1,cS.from (D:=D) q (Q.trans u)⟩
   ·rw [aQ] at E;exact lU aL aF aM ⟨aJ _,aJ _⟩ E fun e bB bC aZ q u=>q.ha (Q.trans u)
  by_cases bt:D.c.kind=5
  ·rw [bt] at bS;have z:=N bt;clear aE aT bt;have aY:=bV.box.cell 4 rfl;go_upto_region 20 with (with_reducible refine bq 85 (ck) ([O U 3,af ⟨#[]⟩,af ⟨#[]⟩,false,O U 0,ac V 0 0,ac V 0 0,D.c.key,af ⟨#[]⟩,O U 0,O U 0,O U 0,af ⟨#[]⟩,O U 0,O U 0]) ?_)
   have cW:d.heap.size≠am:=K;have cO:=cM.others cW [O U 3,af ⟨#[]⟩,af ⟨#[]⟩,false,O U 0,ac V 0 0,ac V 0 0,D.c.key,af ⟨#[]⟩,O U 0,O U 0,O U 0,af ⟨#[]⟩,O U 0,O U 0];have dw:=cO.cell 0 rfl;have cV:d.heap.size≤am:=K;have bZ:Y d (ba ab am 0 [O U 3,af ⟨#[]⟩,af ⟨#[]⟩,false,O U 0,ac V 0 0,ac V 0 0,D.c.key,af ⟨#[]⟩,O U 0,O U 0,O U 0,af ⟨#[]⟩,O U 0,O U 0]):=(az.trans aV).setCells cV _ _;have cl:=B.out.aC bZ;have cY:=cl.box.cell 3 rfl;clear bS aY bV;rw [z.out] at cY;(try simp only [Act.put]);generalize ba ab am 0 [O U 3,af ⟨#[]⟩,af ⟨#[]⟩,false,O U 0,ac V 0 0,ac V 0 0,D.c.key,af ⟨#[]⟩,O U 0,O U 0,O U 0,af ⟨#[]⟩,O U 0,O U 0]=a1 at *;go_wp2_with (go_at_call 102;(with_reducible refine (mv cl (.iface 48 (O U 6)) 6 (.code 6 rfl)).mono ?_);rintro e bK ⟨rfl,bR,bv,bT,bE,bF,bG⟩);go_ret;have bQ:iE l i lim s k D ob nb cb P a1 6 (ap (ah false)) bK:=⟨rfl,bR,bv,bT,bE,bF,bG⟩;have av:dq D.c v.rows=Z 6:=by unfold dq;rw [aU.out,z.out];rfl
   have Q:bD i d i a1:=Y.av bZ;exact gK.no av (bQ.ha Q)
  by_cases aW:D.c.kind=3
  ·rw [aW] at bS;have z:=N aW;clear aE aT bt aW;go_wp2_with (go_at_call 102;(with_reducible refine (mv bV (.iface 48 (O U 6)) 6 (.code 6 rfl)).mono ?_);rintro e bK ⟨rfl,bR,bv,bT,bE,bF,bG⟩);go_ret;have bQ:iE l i lim s k D ob nb cb P ab 6 (ap (ah false)) bK:=⟨rfl,bR,bv,bT,bE,bF,bG⟩;have av:dq D.c v.rows=Z 6:=by unfold dq;rw [aU.out,z.out];rfl
   have Q:bD i d i ab:=Y.av (az.trans aV);exact gK.no av (bQ.ha Q)
  have bI:D.c.kind=4:=by have:=c2.out;omega
  rw [bI] at bS;have z:=N bI;clear aE aT bt aW bI;obtain ⟨p,rfl⟩:=fP cd;have bn:ab.rangeAt (d.heap.size+1) 1 [O U ((hd.i:Int)+1),(hd.g:Int)]:=fun S aR L=>by
   rcases S with _|_|S
   ·cases L;exact bL.cell 1 rfl
   ·cases L;exact bL.cell 2 rfl
   ·simp at L
  have bx:ab.cell? ⟨d.heap.size+1,0,V⟩=Z (O U (p:Int)):=bL.cell 0 rfl;go_upto_region 22 with fail
  refine cZ (fun _=>True) (fun j=>j.cell? d=Z (aa k)∧j.cell? ⟨d.heap.size+1,0,V⟩=Z (O U (p:Int))∧j.rangeAt (d.heap.size+1) 1 [O U ((hd.i:Int)+1),(hd.g:Int)]∧j.rangeAt am 0 (an (eP D.c.key D.c.val).x V 0 0 V 0 0)) 8 G ?_;have a:True:=trivial;have F:=(Y.refl ab).drew;have hKC:=And.intro (F.I aX) (And.intro (F.I bx) (And.intro (F.range bn) (F.range ck.aM)));refine' bc (v:=aa k) 0 93 rfl (.inl ⟨aq,?_⟩) a hKC ?_
  ·(intro d g;have aA:=g.2.1;clear g;go_simp)
  refine' aI 1 94 (au (Z ⟨d.heap.size+1,0,V⟩)) rfl a hKC ?_;refine' bc (v:=O U (p:Int)) 2 95 rfl (.inl ⟨aq,?_⟩) a hKC ?_
  ·(intro d g;have aA:=g.2.2.1;clear g;go_simp)
  refine' aI 3 96 (au (Z ⟨d.heap.size+1,1,V⟩)) rfl a hKC ?_;refine' bc 4 97 rfl (cj aq _ _ rfl _ _ rfl _ _ (fun d W=>W.2.2.2.1) dm rfl G) a hKC ?_;refine' bc 5 98 rfl (cj aq _ _ rfl _ _ rfl _ _ (fun d W=>W.2.2.2.2) cG rfl G) a hKC ?_;refine' aI 7 100 (.func (.func 143) #[] #[aa d,aa T]) rfl a hKC ?_;refine b4 6 (Z 99) rfl (fun t f=>?_);go_simp;go_at_call 134;with_reducible refine (nH p hd (eP D.c.key D.c.val) V 0 0 V 0 0 ab.drew).mono ?_
  rintro e y ⟨M,rfl,a9,x,a4⟩;have cc:Y ab y:=F.trans x;have aN:Y d y:=(az.trans aV).trans cc;refine a5 f (trivial) (fun _=>And.intro (x.I hKC.1) (And.intro (x.I hKC.2.1) (And.intro (x.range hKC.2.2.1) (x.range hKC.2.2.2)))) ?_;clear f t;have aK:=B.out.aC aN;have hold:=B.out.mem.old;have a3:fA i y (.func (.func 163) #[] #[aa M]) [] [] (nx (eP D.c.key D.c.val) hd):=lc ns (fun I bw n c bm=>nG bm bw n c) (fun S aR L=>bp.2 ⟨fun q=>by have:=hold M q;have:ab.heap.size≤M:=a9;have:=(az.trans aV).le;omega,a4 S aR L⟩) ((⟨gD _,bo.nil _ _ _,⟨aJ _,aJ _,aD,B.out.key.2,aJ _⟩⟩:b3 (ay y i) (eP D.c.key D.c.val) V 0 0 V 0 0).h0 (Z hd));have br:y.cell? d=Z (aa k):=x.I hKC.1;have bs:=bU.I cc;refine cg 8 (Z 101) rfl (fun t f=>?_);go_simp;go_at_call 133;with_reducible refine (jm aK (page:=(p:Int)) 163 #[] #[aa M] 143 #[] #[aa d,aa T] (la aK.mem a3)).mono ?_
  rintro e bA ⟨rfl,cB,cm,cJ,R,w,cp,cn,co,a6,bj,be,aL,aM,ar⟩;refine bM f (trivial) ?_;clear f t;refine cg 9 (Z 4) rfl (fun t f=>?_);go_simp;refine bM f (trivial) ?_;clear f t;refine cC G ?_;go_wp2_with fail;go_ret;obtain ⟨no,cA,cz,cD,cx,cr,cE,cy,cs,aH⟩:=a6;have aF:=aH.under bj (fun c bf=>by rw [aO.1 bf];exact ⟨(aH.av.sub _ B.out.cE),B.out.c5,be⟩);have bg: (ay y i).cell? d=Z (aa k):=bp.2 ⟨fun q=>by have:=hold _ q;omega,br⟩;have bd:T∉i:=fun q=>by have:=hold _ q;omega
  have Q:bD i d w bA:=(Y.av aN).trans ar;have av:dq D.c v.rows=none:=by unfold dq;rw [aU.out,z.out];rfl
  have aQ:fs D.c=eP D.c.key D.c.val:=by unfold fs;rw [z.out];rfl
  refine gK.put av (by rw [z.out];decide) (fun r A bl E=>?_) (fun c E=>?_)
  ·rw [aQ] at E;rw [bO.out];refine lV (q:=Z hd) aL aF aM ⟨aJ _,aJ _⟩ bl E oO fun bB aZ a2 u=>?_;have bh:=(ar.aL.cell _ _ _ bg);have bi:=u.aL.cell _ _ _ bh;have bb:=(ar.trans u).box (.inl bd) bs;exact (oB a2 (bp.1 bi).2 bb).mono fun e bC q=>⟨false,q.1,cS.from (D:=D) q (Q.trans u)⟩
  ·rw [aQ] at E;exact lU aL aF aM ⟨aJ _,aJ _⟩ E fun e bB bC aZ q u=>q.ha (Q.trans u)
 |true=>
  have ce:ds D.c.key v.rows=dx v.rows (place D.c.key v.rows):=by unfold ds;rw [a7];rfl
  have di:place D.c.key v.rows < m:=by
   rw [←c4.out.len];unfold hasB at a7;rw [dp] at a7;exact a7.1
  obtain ⟨b,da,dj,c7⟩:=c4.out.cells;obtain ⟨rfl, -⟩:=dj K;have dn:=(c7 _ di).2;have cI:ab.cell? ⟨d.heap.size+1,10,V⟩=Z (ac (Z ⟨b,da,V⟩) m c):=bL.cell 10 rfl;have de:=bU.free 0 J;have dk:=bU.cell 0 rfl;have bO:=N ce;have aU:=N a7;clear a7 ce c7;generalize place D.c.key v.rows=bP at *;go_upto_region 9 with fail
  have b1:ae (ab.setCell ⟨T,0,V⟩ (af (dx v.rows bP))) T [af (dx v.rows bP),aB]:=(bU.set 0 (af (dx v.rows bP))).of rfl;have df:bW.heap.size≤T:=by have:=bY.le;have:=dd.out;omega
  have aS:Y bW (ab.setCell ⟨T,0,V⟩ (af (dx v.rows bP))):=aV.setCell (p:=⟨T,0,V⟩) df _;have b7:=B.out.aC (az.trans aS);have cN:=BT.I aS;have b6:=cL.I aS;have bJ:=b7.box.cell 3 rfl;have u0:=cN.cell 0 rfl;clear bS aX dn de dk cI bU ck cM bV;(try simp only [Act.put]);generalize ab.setCell ⟨T,0,V⟩ (af (dx v.rows bP))=ag at *;by_cases aE:D.c.kind=1
  ·rw [aE] at bJ;have z:=N aE;clear aE;go_wp2_with (first|(with_reducible refine b0 44 (b1) kJ ?_)|(go_at_call 119;(with_reducible refine (tx b7 (dx v.rows bP) aB (.inl rfl)).mono ?_);rintro e bK ⟨rfl,bv,bE,bF,bG⟩));go_ret;have av:dq D.c v.rows=none:=by unfold dq;rw [aU.out,z.out];rfl
   have Q:bD i d i ag:=Y.av (az.trans aS);refine gK.get av z.out ?_;rw [bO.out];exact ⟨rfl,aB,bv,i,D.wr,D.ab,ob,nb,cb,P,rfl,bE,bF,Q.trans bG.goes⟩
  by_cases aT:D.c.kind=2
  ·rw [aT] at bJ;have z:=N aT;clear aE aT;go_wp2_with (go_at_call 102;(with_reducible refine (mv b7 (.iface 48 (O U 7)) 7 (.code 7 rfl)).mono ?_);rintro e bK ⟨rfl,bR,bv,bT,bE,bF,bG⟩);go_ret;have bQ:iE l i lim s k D ob nb cb P ag 7 (ap (ah false)) bK:=⟨rfl,bR,bv,bT,bE,bF,bG⟩;have av:dq D.c v.rows=Z 7:=by unfold dq;rw [aU.out,z.out];rfl
   have Q:bD i d i ag:=Y.av (az.trans aS);exact gK.no av (bQ.ha Q)
  by_cases aW:D.c.kind=3
  ·rw [aW] at bJ;have z:=N aW;clear aE aT aW;have bN:=b2.I aS;obtain ⟨p,rfl⟩:=fP cd;have bn:ag.rangeAt (d.heap.size+1) 1 [O U ((hd.i:Int)+1),(hd.g:Int)]:=fun S aR L=>by
    rcases S with _|_|S
    ·cases L;exact bN.cell 1 rfl
    ·cases L;exact bN.cell 2 rfl
    ·simp at L
   have bx:ag.cell? ⟨d.heap.size+1,0,V⟩=Z (O U (p:Int)):=bN.cell 0 rfl;go_upto_region 22 with fail
   refine cZ (fun _=>True) (fun j=>j.cell? d=Z (aa k)∧j.cell? ⟨d.heap.size+1,0,V⟩=Z (O U (p:Int))∧j.rangeAt (d.heap.size+1) 1 [O U ((hd.i:Int)+1),(hd.g:Int)]∧j.rangeAt am 0 (an (eP D.c.key D.c.val).x V 0 0 V 0 0)) 8 G ?_;have a:True:=trivial;have F:=(Y.refl ag).drew;have hKC:=And.intro (F.I u0) (And.intro (F.I bx) (And.intro (F.range bn) (F.range b6.aM)));refine' bc (v:=aa k) 0 93 rfl (.inl ⟨aq,?_⟩) a hKC ?_
   ·(intro d g;have aA:=g.2.1;clear g;go_simp)
   refine' aI 1 94 (au (Z ⟨d.heap.size+1,0,V⟩)) rfl a hKC ?_;refine' bc (v:=O U (p:Int)) 2 95 rfl (.inl ⟨aq,?_⟩) a hKC ?_
   ·(intro d g;have aA:=g.2.2.1;clear g;go_simp)
   refine' aI 3 96 (au (Z ⟨d.heap.size+1,1,V⟩)) rfl a hKC ?_;refine' bc 4 97 rfl (cj aq _ _ rfl _ _ rfl _ _ (fun d W=>W.2.2.2.1) dm rfl G) a hKC ?_;refine' bc 5 98 rfl (cj aq _ _ rfl _ _ rfl _ _ (fun d W=>W.2.2.2.2) cG rfl G) a hKC ?_;refine' aI 7 100 (.func (.func 143) #[] #[aa d,aa T]) rfl a hKC ?_;refine b4 6 (Z 99) rfl (fun t f=>?_);go_simp;go_at_call 134;with_reducible refine (nH p hd (eP D.c.key D.c.val) V 0 0 V 0 0 ag.drew).mono ?_
   rintro e y ⟨M,rfl,a9,x,a4⟩;have bH:Y ag y:=F.trans x;have aN:Y d y:=(az.trans aS).trans bH;refine a5 f (trivial) (fun _=>And.intro (x.I hKC.1) (And.intro (x.I hKC.2.1) (And.intro (x.range hKC.2.2.1) (x.range hKC.2.2.2)))) ?_;clear f t;have aK:=B.out.aC aN;have hold:=B.out.mem.old;have a3:fA i y (.func (.func 163) #[] #[aa M]) [] [] (nx (eP D.c.key D.c.val) hd):=lc ns (fun I bw n c bm=>nG bm bw n c) (fun S aR L=>bp.2 ⟨fun q=>by have:=hold M q;have:ag.heap.size≤M:=a9;have:=(az.trans aS).le;omega,a4 S aR L⟩) ((⟨gD _,bo.nil _ _ _,⟨aJ _,aJ _,aD,B.out.key.2,aJ _⟩⟩:b3 (ay y i) (eP D.c.key D.c.val) V 0 0 V 0 0).h0 (Z hd));have br:y.cell? d=Z (aa k):=x.I hKC.1;have bs:=b1.I bH;refine cg 8 (Z 101) rfl (fun t f=>?_);go_simp;go_at_call 133;with_reducible refine (jm aK (page:=(p:Int)) 163 #[] #[aa M] 143 #[] #[aa d,aa T] (la aK.mem a3)).mono ?_
   rintro e bA ⟨rfl,cB,cm,cJ,R,w,cp,cn,co,a6,bj,be,aL,aM,ar⟩;refine bM f (trivial) ?_;clear f t;refine cg 9 (Z 4) rfl (fun t f=>?_);go_simp;refine bM f (trivial) ?_;clear f t;refine cC G ?_;go_wp2_with fail;go_ret;obtain ⟨no,cA,cz,cD,cx,cr,cE,cy,cs,aH⟩:=a6;have aF:=aH.under bj (fun c bf=>by rw [aO.1 bf];exact ⟨(aH.av.sub _ B.out.cE),B.out.c5,be⟩);have bg: (ay y i).cell? d=Z (aa k):=bp.2 ⟨fun q=>by have:=hold _ q;omega,br⟩;have bd:T∉i:=fun q=>by have:=hold _ q;omega
   have Q:bD i d w bA:=(Y.av aN).trans ar;have av:dq D.c v.rows=none:=by unfold dq;rw [aU.out,z.out];rfl
   have aQ:fs D.c=eP D.c.key D.c.val:=by unfold fs;rw [z.out];rfl
   refine gK.put av (by rw [z.out];decide) (fun r A bl E=>?_) (fun c E=>?_)
   ·rw [aQ] at E;rw [bO.out];refine lV (q:=Z hd) aL aF aM ⟨aJ _,aJ _⟩ bl E oO fun bB aZ a2 u=>?_;have bh:=(ar.aL.cell _ _ _ bg);have bi:=u.aL.cell _ _ _ bh;have bb:=(ar.trans u).box (.inl bd) bs;exact (oB a2 (bp.1 bi).2 bb).mono fun e bC q=>⟨false,q.1,cS.from (D:=D) q (Q.trans u)⟩
   ·rw [aQ] at E;exact lU aL aF aM ⟨aJ _,aJ _⟩ E fun e bB bC aZ q u=>q.ha (Q.trans u)
  by_cases bI:D.c.kind=4
  ·rw [bI] at bJ;have z:=N bI;clear aE aT aW bI;have bN:=b2.I aS;obtain ⟨p,rfl⟩:=fP cd;have bn:ag.rangeAt (d.heap.size+1) 1 [O U ((hd.i:Int)+1),(hd.g:Int)]:=fun S aR L=>by
    rcases S with _|_|S
    ·cases L;exact bN.cell 1 rfl
    ·cases L;exact bN.cell 2 rfl
    ·simp at L
   have bx:ag.cell? ⟨d.heap.size+1,0,V⟩=Z (O U (p:Int)):=bN.cell 0 rfl;go_upto_region 22 with fail
   refine cZ (fun _=>True) (fun j=>j.cell? d=Z (aa k)∧j.cell? ⟨d.heap.size+1,0,V⟩=Z (O U (p:Int))∧j.rangeAt (d.heap.size+1) 1 [O U ((hd.i:Int)+1),(hd.g:Int)]∧j.rangeAt am 0 (an (eP D.c.key D.c.val).x V 0 0 V 0 0)) 8 G ?_;have a:True:=trivial;have F:=(Y.refl ag).drew;have hKC:=And.intro (F.I u0) (And.intro (F.I bx) (And.intro (F.range bn) (F.range b6.aM)));refine' bc (v:=aa k) 0 93 rfl (.inl ⟨aq,?_⟩) a hKC ?_
   ·(intro d g;have aA:=g.2.1;clear g;go_simp)
   refine' aI 1 94 (au (Z ⟨d.heap.size+1,0,V⟩)) rfl a hKC ?_;refine' bc (v:=O U (p:Int)) 2 95 rfl (.inl ⟨aq,?_⟩) a hKC ?_
   ·(intro d g;have aA:=g.2.2.1;clear g;go_simp)
   refine' aI 3 96 (au (Z ⟨d.heap.size+1,1,V⟩)) rfl a hKC ?_;refine' bc 4 97 rfl (cj aq _ _ rfl _ _ rfl _ _ (fun d W=>W.2.2.2.1) dm rfl G) a hKC ?_;refine' bc 5 98 rfl (cj aq _ _ rfl _ _ rfl _ _ (fun d W=>W.2.2.2.2) cG rfl G) a hKC ?_;refine' aI 7 100 (.func (.func 143) #[] #[aa d,aa T]) rfl a hKC ?_;refine b4 6 (Z 99) rfl (fun t f=>?_);go_simp;go_at_call 134;with_reducible refine (nH p hd (eP D.c.key D.c.val) V 0 0 V 0 0 ag.drew).mono ?_
   rintro e y ⟨M,rfl,a9,x,a4⟩;have bH:Y ag y:=F.trans x;have aN:Y d y:=(az.trans aS).trans bH;refine a5 f (trivial) (fun _=>And.intro (x.I hKC.1) (And.intro (x.I hKC.2.1) (And.intro (x.range hKC.2.2.1) (x.range hKC.2.2.2)))) ?_;clear f t;have aK:=B.out.aC aN;have hold:=B.out.mem.old;have a3:fA i y (.func (.func 163) #[] #[aa M]) [] [] (nx (eP D.c.key D.c.val) hd):=lc ns (fun I bw n c bm=>nG bm bw n c) (fun S aR L=>bp.2 ⟨fun q=>by have:=hold M q;have:ag.heap.size≤M:=a9;have:=(az.trans aS).le;omega,a4 S aR L⟩) ((⟨gD _,bo.nil _ _ _,⟨aJ _,aJ _,aD,B.out.key.2,aJ _⟩⟩:b3 (ay y i) (eP D.c.key D.c.val) V 0 0 V 0 0).h0 (Z hd));have br:y.cell? d=Z (aa k):=x.I hKC.1;have bs:=b1.I bH;refine cg 8 (Z 101) rfl (fun t f=>?_);go_simp;go_at_call 133;with_reducible refine (jm aK (page:=(p:Int)) 163 #[] #[aa M] 143 #[] #[aa d,aa T] (la aK.mem a3)).mono ?_
   rintro e bA ⟨rfl,cB,cm,cJ,R,w,cp,cn,co,a6,bj,be,aL,aM,ar⟩;refine bM f (trivial) ?_;clear f t;refine cg 9 (Z 4) rfl (fun t f=>?_);go_simp;refine bM f (trivial) ?_;clear f t;refine cC G ?_;go_wp2_with fail;go_ret;obtain ⟨no,cA,cz,cD,cx,cr,cE,cy,cs,aH⟩:=a6;have aF:=aH.under bj (fun c bf=>by rw [aO.1 bf];exact ⟨(aH.av.sub _ B.out.cE),B.out.c5,be⟩);have bg: (ay y i).cell? d=Z (aa k):=bp.2 ⟨fun q=>by have:=hold _ q;omega,br⟩;have bd:T∉i:=fun q=>by have:=hold _ q;omega
   have Q:bD i d w bA:=(Y.av aN).trans ar;have av:dq D.c v.rows=none:=by unfold dq;rw [aU.out,z.out];rfl
   have aQ:fs D.c=eP D.c.key D.c.val:=by unfold fs;rw [z.out];rfl
   refine gK.put av (by rw [z.out];decide) (fun r A bl E=>?_) (fun c E=>?_)
   ·rw [aQ] at E;rw [bO.out];refine lV (q:=Z hd) aL aF aM ⟨aJ _,aJ _⟩ bl E oO fun bB aZ a2 u=>?_;have bh:=(ar.aL.cell _ _ _ bg);have bi:=u.aL.cell _ _ _ bh;have bb:=(ar.trans u).box (.inl bd) bs;exact (oB a2 (bp.1 bi).2 bb).mono fun e bC q=>⟨false,q.1,cS.from (D:=D) q (Q.trans u)⟩
   ·rw [aQ] at E;exact lU aL aF aM ⟨aJ _,aJ _⟩ E fun e bB bC aZ q u=>q.ha (Q.trans u)
  have bt:D.c.kind=5:=by have:=c2.out;omega
  rw [bt] at bJ;have z:=N bt;clear aE aT aW bI bt;have aY:=b7.box.cell 4 rfl;go_upto_region 20 with (with_reducible refine bq 85 (b6) ([O U 3,af ⟨#[]⟩,af ⟨#[]⟩,false,O U 0,ac V 0 0,ac V 0 0,D.c.key,af ⟨#[]⟩,O U 0,O U 0,O U 0,af ⟨#[]⟩,O U 0,O U 0]) ?_)
  have cV:d.heap.size≤am:=K;have bZ:Y d (ba ag am 0 [O U 3,af ⟨#[]⟩,af ⟨#[]⟩,false,O U 0,ac V 0 0,ac V 0 0,D.c.key,af ⟨#[]⟩,O U 0,O U 0,O U 0,af ⟨#[]⟩,O U 0,O U 0]):=(az.trans aS).setCells cV _ _;have cl:=B.out.aC bZ;have dc:ae (ba ag am 0 [O U 3,af ⟨#[]⟩,af ⟨#[]⟩,false,O U 0,ac V 0 0,ac V 0 0,D.c.key,af ⟨#[]⟩,O U 0,O U 0,O U 0,af ⟨#[]⟩,O U 0,O U 0]) am (an (lI D.c.key).x V 0 0 V 0 0):=b6.aR rfl;have cW:d.heap.size≠am:=K;have cO:ae (ba ag am 0 [O U 3,af ⟨#[]⟩,af ⟨#[]⟩,false,O U 0,ac V 0 0,ac V 0 0,D.c.key,af ⟨#[]⟩,O U 0,O U 0,O U 0,af ⟨#[]⟩,O U 0,O U 0]) d.heap.size [aa k]:=cN.others cW _;have dh:d.heap.size+1≠am:=K;have cK:ae (ba ag am 0 [O U 3,af ⟨#[]⟩,af ⟨#[]⟩,false,O U 0,ac V 0 0,ac V 0 0,D.c.key,af ⟨#[]⟩,O U 0,O U 0,O U 0,af ⟨#[]⟩,O U 0,O U 0]) (d.heap.size+1) (b5 n ((hd.i:Int)+1) (hd.g:Int) ch C b8 ci cf b9 v (Z ⟨b,da,V⟩) m c):=(b2.I aS).others dh _;have dg:T≠am:=K;have db:ae (ba ag am 0 [O U 3,af ⟨#[]⟩,af ⟨#[]⟩,false,O U 0,ac V 0 0,ac V 0 0,D.c.key,af ⟨#[]⟩,O U 0,O U 0,O U 0,af ⟨#[]⟩,O U 0,O U 0]) T [af (dx v.rows bP),aB]:=b1.others dg _;have cY:=cl.box.cell 3 rfl;have dl:=cO.cell 0 rfl;clear bJ u0 aY b7 b6 b1 cN;rw [z.out] at cY;(try simp only [Act.put]);generalize ba ag am 0 [O U 3,af ⟨#[]⟩,af ⟨#[]⟩,false,O U 0,ac V 0 0,ac V 0 0,D.c.key,af ⟨#[]⟩,O U 0,O U 0,O U 0,af ⟨#[]⟩,O U 0,O U 0]=a1 at *;obtain ⟨p,rfl⟩:=fP cd;have bn:a1.rangeAt (d.heap.size+1) 1 [O U ((hd.i:Int)+1),(hd.g:Int)]:=fun S aR L=>by
   rcases S with _|_|S
   ·cases L;exact cK.cell 1 rfl
   ·cases L;exact cK.cell 2 rfl
   ·simp at L
  have bx:a1.cell? ⟨d.heap.size+1,0,V⟩=Z (O U (p:Int)):=cK.cell 0 rfl;go_upto_region 22 with fail
  refine cZ (fun _=>True) (fun j=>j.cell? d=Z (aa k)∧j.cell? ⟨d.heap.size+1,0,V⟩=Z (O U (p:Int))∧j.rangeAt (d.heap.size+1) 1 [O U ((hd.i:Int)+1),(hd.g:Int)]∧j.rangeAt am 0 (an (lI D.c.key).x V 0 0 V 0 0)) 8 G ?_;have a:True:=trivial;have F:=(Y.refl a1).drew;have hKC:=And.intro (F.I dl) (And.intro (F.I bx) (And.intro (F.range bn) (F.range dc.aM)));refine' bc (v:=aa k) 0 93 rfl (.inl ⟨aq,?_⟩) a hKC ?_
  ·(intro d g;have aA:=g.2.1;clear g;go_simp)
  refine' aI 1 94 (au (Z ⟨d.heap.size+1,0,V⟩)) rfl a hKC ?_;refine' bc (v:=O U (p:Int)) 2 95 rfl (.inl ⟨aq,?_⟩) a hKC ?_
  ·(intro d g;have aA:=g.2.2.1;clear g;go_simp)
  refine' aI 3 96 (au (Z ⟨d.heap.size+1,1,V⟩)) rfl a hKC ?_;refine' bc 4 97 rfl (cj aq _ _ rfl _ _ rfl _ _ (fun d W=>W.2.2.2.1) dm rfl G) a hKC ?_;refine' bc 5 98 rfl (cj aq _ _ rfl _ _ rfl _ _ (fun d W=>W.2.2.2.2) cG rfl G) a hKC ?_;refine' aI 7 100 (.func (.func 143) #[] #[aa d,aa T]) rfl a hKC ?_;refine b4 6 (Z 99) rfl (fun t f=>?_);go_simp;go_at_call 134;with_reducible refine (nH p hd (lI D.c.key) V 0 0 V 0 0 a1.drew).mono ?_
  rintro e y ⟨M,rfl,a9,x,a4⟩;have bH:Y a1 y:=F.trans x;have aN:Y d y:=bZ.trans bH;refine a5 f (trivial) (fun _=>And.intro (x.I hKC.1) (And.intro (x.I hKC.2.1) (And.intro (x.range hKC.2.2.1) (x.range hKC.2.2.2)))) ?_;clear f t;have aK:=B.out.aC aN;have hold:=B.out.mem.old;have a3:fA i y (.func (.func 163) #[] #[aa M]) [] [] (nx (lI D.c.key) hd):=lc ns (fun I bw n c bm=>nG bm bw n c) (fun S aR L=>bp.2 ⟨fun q=>by have:=hold M q;have:a1.heap.size≤M:=a9;have:=bZ.le;omega,a4 S aR L⟩) ((⟨gD _,bo.nil _ _ _,⟨aJ _,aJ _,aD,aJ _,aJ _⟩⟩:b3 (ay y i) (lI D.c.key) V 0 0 V 0 0).h0 (Z hd));have br:y.cell? d=Z (aa k):=x.I hKC.1;have bs:=db.I bH;refine cg 8 (Z 101) rfl (fun t f=>?_);go_simp;go_at_call 133;with_reducible refine (jm aK (page:=(p:Int)) 163 #[] #[aa M] 143 #[] #[aa d,aa T] (la aK.mem a3)).mono ?_
  rintro e bA ⟨rfl,cB,cm,cJ,R,w,cp,cn,co,a6,bj,be,aL,aM,ar⟩;refine bM f (trivial) ?_;clear f t;refine cg 9 (Z 4) rfl (fun t f=>?_);go_simp;refine bM f (trivial) ?_;clear f t;refine cC G ?_;go_wp2_with fail;go_ret;obtain ⟨no,cA,cz,cD,cx,cr,cE,cy,cs,aH⟩:=a6;have aF:=aH.under bj (fun c bf=>by rw [aO.1 bf];exact ⟨(aH.av.sub _ B.out.cE),B.out.c5,be⟩);have bg: (ay y i).cell? d=Z (aa k):=bp.2 ⟨fun q=>by have:=hold _ q;omega,br⟩;have bd:T∉i:=fun q=>by have:=hold _ q;omega
  have Q:bD i d w bA:=(Y.av aN).trans ar;have av:dq D.c v.rows=none:=by unfold dq;rw [aU.out,z.out];rfl
  have aQ:fs D.c=lI D.c.key:=by unfold fs;rw [z.out];rfl
  refine gK.put av (by rw [z.out];decide) (fun r A bl E=>?_) (fun c E=>?_)
  ·rw [aQ] at E;rw [bO.out];refine lV (q:=Z hd) aL aF aM ⟨aJ _,aJ _⟩ bl E oO fun bB aZ a2 u=>?_;have bh:=(ar.aL.cell _ _ _ bg);have bi:=u.aL.cell _ _ _ bh;have bb:=(ar.trans u).box (.inl bd) bs;exact (oB a2 (bp.1 bi).2 bb).mono fun e bC q=>⟨false,q.1,cS.from (D:=D) q (Q.trans u)⟩
  ·rw [aQ] at E;exact lU aL aF aM ⟨aJ _,aJ _⟩ E fun e bB bC aZ q u=>q.ha (Q.trans u)
end
structure ed (t:eT) (p:Nat) (hd:aA) (v:aY):Prop where
 n:t.n=(p:Int)
 a:t.a=(hd.i:Int)+1
 b:t.b=(hd.g:Int)
 hp:t.hp=v.aH
 cq:t.cq=v.aD
 cQ:t.cQ=false
structure ow (t:eT) (g:bl) (F:List aA):Prop where
 g:t.g={g with gone:=true}
 pos: (t.x,t.y)=a4 F.head?
section
variable {L : az} {M : Nat} {v : aY} {g : bl} {F : List aA}
theorem dS.first(a:dS lim s x): ∃ b,x.refs.head?=Z b:=by
 cases c:x.refs with
 |nil=>exact absurd c a.ne
 |cons r d=>exact⟨r,rfl⟩
theorem qQ(a:c8 T s n y= .ok r A): ∃ L,b2 T s y= .ok r L∧A=b1 L n (Z r):=by
 unfold c8 at a;split at a
 ·rename_i c L b;cases a;exact⟨L,b,rfl⟩
 ·cases a
theorem qP{e:Int}(a:c8 T s n y= .no e):b2 T s y= .no e:=by
 unfold c8 at a;split at a
 ·cases a
 ·rename_i c b;cases a;exact b
theorem oT(aI:ki lim s v C A F g)(an:iH l i d lim s u t v.aH M)(a:ed t p hd v)(ay:t.fU=pt u)(ax:bn l.l u B E i d)
  (N: ∀ j w f z,iH l w j lim A u z t.left f→z.fU=nV u→ed z p hd v→ow z g F→z.left=t.left→bn l.l u B E w j→ep l lim u B E m j Q):ep l lim u B E (C+m) d Q:=by
 cases aI with
 |dU b aa W T=>
  rename_i x;obtain ⟨ar,k⟩:=b.first;obtain ⟨y,n⟩:=fP b.hU;refine nw (m:=m) (Q:=Q) sW (by rw [aa];exact an) a.cQ ay b k W ax fun j w aW G J P=>?_;obtain ⟨aP,aE,aQ,aO,aF,o,aN,c,rfl,K,ab⟩:=J;rw [n];refine (tf (p:=y) G K ab).mono fun e az q=>?_;rw [a9 T] at q;obtain ⟨D,f,ag,ae,aT⟩:=q;exact .inr ⟨D,N az ag f _ ae rfl ⟨a.n,a.a,a.b,a.hp,a.cq,a.cQ⟩ ⟨rfl,by rw [k];rfl⟩ rfl (P.trans aT)⟩
 |put b aa W T k aL=>
  rename_i x a4 ar r;obtain ⟨L,aK,rfl⟩:=qQ aL;obtain ⟨y,n⟩:=fP b.hU;rw [show 1+x.refs.length+2+m=1+x.refs.length+(2+m) by omega];rw [n] at N;refine nw (m:=2+m) (Q:=Q) sW (by rw [aa];exact an) a.cQ ay b k W ax fun j w aW G J P=>?_;obtain ⟨aP,aE,aQ,aO,aF,o,aN,c,rfl,K,ab⟩:=J;rw [n];refine (tf (p:=y) G K ab).mono fun e az q=>?_;rw [aS (by rw [T];decide)] at q;obtain ⟨I,aZ,aR,ae,D,S,ag,R,a5,no,bb,a8,bc,a6,a1,bd,a7,a2,aA,al⟩:=q;refine .inr ⟨D,?_⟩;have aM:s.ax[y]?=Z (Z (Z ar)):=by
   have:=b.head;rw [k,n] at this;exact this
  have av:=(P.trans aR).trans al;refine qK (m:=m) (Q:=Q) aA a.cQ ⟨aJ _,aJ _⟩ aM aK Db rfl av fun bf aY aH ⟨be,a3,aC⟩ am=>?_;refine (DM aH rfl aC aq aq ((dv _ _).cell _ _ _ ((al.trans am).aL.cell _ _ _ ae))).mono fun e aX q=>?_;obtain ⟨aG,f,aD,aU,aV⟩:=q;exact .inr ⟨aG,N aX aD f _ aU rfl ⟨a.n,a.a,a.b,a.hp,a.cq,a.cQ⟩ ⟨rfl,rfl⟩ rfl ((av.trans am).trans aV)⟩
theorem o3{a:bl}{am:Bool}(aN:jM lim s v n C x a am): ∀ (t:eT) (i:List Nat) (d:ad) (M:Nat),iH l i d lim s u t n M→t.fU=nV u→ed t p hd v→ow t g F→(am=true→bT (hb g))→bn l.l u B E i d→
  (am=false→∀ w j z e an,ed z p hd v→ow z g F→bn l.l u B E w j→hM l lim s u z 214 p hd (nx gS hd) w j e an→bW l lim u B E m Q e an)→
  (am=true→∀ w j z e an (y:Nat) A,x.n=(y:Int)→x.refs.head?=Z A→s.ax[y]?=Z (Z (Z A))→ed z p hd v→ow z g F→bn l.l u B E w j→hM l lim s u z 213 y A (nx (hb z.g) A) w j e an→bW l lim u B E m Q e an)→
  ep l lim u B E (C+m) d Q:=by
 induction aN with
 |has k G R r=>
  rename_i x a;intro t i d M T al f D ar ab aa aq;obtain⟨A,J⟩:=k.first;obtain⟨y,L⟩:=fP k.hU;refine nw (m:=m) (Q:=Q) sX T f.cQ al k J G ab fun j w aI I W P=>?_;obtain⟨aG,aA,aH,aF,aC,o,aE,c,rfl,N,S⟩:=W;rw[L];rw[G]at r;rcases r with r|⟨r,ae,ag,ay⟩
  ·exact(Ht (p:=y) I N S R (by rw[f.cq];exact r) f.n f.a f.b).mono fun e av q=>aa rfl _ _ _ _ _ f D P q
  ·exact(Hv (p:=y) I N S R (by rw[f.cq];exact r) f.n f.a f.b ae (by rw[f.cq];exact ag) (by rw[f.hp];exact ay)).mono fun e av q=>aa rfl _ _ _ _ _ f D P q
 |pr k G R r=>
  rename_i x a;intro t i d M T al f D ar ab aa aq;obtain⟨A,J⟩:=k.first;obtain⟨y,L⟩:=fP k.hU;have aP:s.ax[y]?=Z (Z (Z A)):=by
   have:=k.head;rw[J,L]at this;exact this
  refine nw (m:=m) (Q:=Q) sX T f.cQ al k J G ab fun j w aI I W P=>?_;obtain⟨aG,aA,aH,aF,aC,o,aE,c,rfl,N,S⟩:=W;rw[L];rw[G]at r;obtain⟨ax,ae,ag,ay⟩:=r;have aO:t.jW≤1000000:=by
   have aD:=I.rows.len;have aM:=(ar rfl).rows;rw[D.g]at aD;rw[←aD];exact bZ aM K
  exact(Hw (p:=y) I N S R (by rw[f.cq];exact ax) ae (by rw[f.cq];exact ag) (by rw[f.hp];exact ay) (by rw[D.g]) aO).mono fun e av q=>aq rfl _ _ _ _ _ y A L J aP f D P q
 |next k G R r aT ih=>
  rename_i x aS a b az am;intro t i d M T al f D ar ab aa aq;obtain⟨A,J⟩:=k.first;obtain⟨y,L⟩:=fP k.hU;rw[show 1+x.refs.length+az+m=1+x.refs.length+(az+m)by omega];refine nw (m:=az+m) (Q:=Q) sX T f.cQ al k J G ab fun j w aI I W P=>?_;obtain⟨aG,aA,aH,aF,aC,o,aE,c,rfl,N,S⟩:=W;rw[L];rw[G]at r;obtain⟨ax,ae,ag⟩:=r;refine(Hu (p:=y) I N S R (by rw[f.cq];exact ax) ae (by rw[f.cq];exact ag)).mono fun e av q=>?_;obtain⟨aL,aK,aJ,aQ,aR⟩:=q;exact .inr ⟨aL,ih _ aJ av aK aQ rfl ⟨f.n,f.a,f.b,f.hp,f.cq,f.cQ⟩ ⟨D.g,D.pos⟩ ar (P.trans aR) aa aq⟩
def hq (l:aV) (lim:aK) (u:Nat) (B:List Nat) (E:ad) (v:aY) (A:az) (r:p0) (j:ad):Prop:=
 ∃ w z,di l w j lim A u z∧bn l.l u B E w j∧z.cQ=true∧z.hp=v.aH∧match r with
  | .done F=>z.hS=true∧z.gx=aB∧(z.x,z.y)=a4 F.head?
  | .no e=>z.hS=false∧cm (ay j w) z.gx e
theorem q1{A:Nat}{n:aA}{f:FuncId}{e:Int}(r:hM l lim s u t f A n y i d W j)(a:ed t p hd v)(x:bT y)(w:b2 lim.count s y= .no e)(z:bn l.l u B E i d):bW l lim u B E 1 (hq l lim u B E v s (.no e)) W j:=by
 obtain⟨I,F,C,aa,m,S,D,R,K,no,P,N,Q,L,G,T,M,J,b,g⟩:=r;refine .inr ⟨m,Ev b a.cQ x w ((z.trans C).trans g) fun ab c gx o q k=>?_⟩;exact⟨c,_,o,k,rfl,a.hp,rfl,q⟩
theorem zr(y:hM l lim s u t 214 p hd (nx gS hd) i d W j)(k:ed t p hd v)(G:ow t g F)(K:s.ax[p]?=Z (Z (Z hd)))(z:c8 lim.count s (p:Int) (nx gS hd)= .ok r A)(D:bn l.l u B E i d):bW l lim u B E 2 (hq l lim u B E v A (.done F)) W j:=by
 obtain ⟨L,C,rfl⟩:=qQ z;obtain ⟨I,Q,M,N,q,S,P,R,ab,no,am,al,an,ae,T,aq,ag,aa,n,a⟩:=y;have f:=(D.trans M).trans a;refine .inr ⟨q,qK (m:=0) n k.cQ ⟨aJ _,aJ _⟩ K C Dk rfl f fun ar o c _ b=>?_⟩;refine (Hz c ((dv _ _).cell _ _ _ ((a.trans b).aL.cell _ _ _ N)) true).mono fun e av ⟨w,x,J⟩=> .inl ⟨w,?_⟩;exact ⟨o,_,x,(f.trans b).trans (c.own J),rfl,k.hp,rfl,rfl,G.pos⟩
theorem xg{r:p0}(aY:iF lim s (p:Int) hd v C A r)(al:iH l i d lim s u t v.aH M)(G:ed t p hd v)(an:t.fU=pt u)(ax:t.left=v.bb)(am:bn l.l u B E i d):ep l lim u B E C d (hq l lim u B E v A r):=by
 cases aY with
 |tg n a5 a4 a2 ae a3=>
  rename_i x bl aI e;obtain ⟨aD,ag⟩:=fP n.hU;refine nw (m:=1) sW (by rw [a5];exact al) G.cQ an n ae a4 am fun j w bs I aZ J=>?_;obtain ⟨bp,bj,bq,bo,bk,o,bm,c,rfl,a1,a6⟩:=aZ;rw [ag];refine (tf (p:=aD) I a1 a6).mono fun e ay q=>?_;rw [aS (by rw [a2];decide)] at q;exact q1 q ⟨G.n,G.a,G.b,G.hp,G.cq,G.cQ⟩ ⟨aJ _,aJ _⟩ (qP a3) J
 |has n I aM y=>
  rename_i f b L F g a x r;rw [show f+b+2=f+(b+2) by omega];refine oT (m:=b+2) n al G an am fun j w Q z k T W aa aE J=>?_;rw [ax] at k;exact o3 (m:=2) I z w j Q k T W aa (fun e=>by cases e) J (fun _ az aF aA e ay x1 N P D=>zr D x1 N aM y P) (fun e=>by cases e)
 |tk n I y=>
  rename_i f b F g a x e;rw [show f+b+1=f+(b+1) by omega];refine oT (m:=b+1) n al G an am fun j w Q z k T W aa aE J=>?_;rw [ax] at k;exact o3 (m:=1) I z w j Q k T W aa (fun e=>by cases e) J (fun _ az aF aA e ay x1 N P D=>q1 D x1 ⟨aJ _,aJ _⟩ (qP y) P) (fun e=>by cases e)
 |uk n I K ae y=>
  rename_i f b F g a x aI e;rw [show f+b+1=f+(b+1) by omega];refine oT (m:=b+1) n al G an am fun j w Q z k T W aa aE J=>?_;rw [ax] at k;refine o3 (m:=1) I z w j Q k T W aa (fun _=>K) J (fun e=>by cases e) (fun _ az aF aA e ay aD aQ ag ab aC x1 N P D=>?_);rw [ae] at ab;cases ab;rw [N.g] at D;rw [ag] at y;exact q1 D x1 ⟨K.rows,K.ag⟩ (qP y) P
 |pr n I K ae y aM aK=>
  rename_i f b L bi F g a x aI r br;rw [show f+b+4=f+(b+4) by omega];refine oT (m:=b+4) n al G an am fun j w Q z k T W aa aE J=>?_;rw [ax] at k;refine o3 (m:=4) I z w j Q k T W aa (fun _=>K) J (fun e=>by cases e) (fun _ az aF aA e ay aD aQ ag ab aC x1 N P D=>?_);rw [ae] at ab;cases ab;rw [N.g] at D;rw [ag] at y;obtain ⟨aR,aN,rfl⟩:=qQ y;obtain ⟨bf,aV,aO,aP,aH,S,aT,R,a7,no,bc,bb,bd,a8,aW,be,a9,aX,aG,aq⟩:=D;have av:=(P.trans aO).trans aq;refine .inr ⟨aH,qK (m:=2) aG x1.cQ ⟨K.rows,K.ag⟩ aC aN wy rfl av fun bg aU aL _ ar=>?_⟩;exact (zm aL x1.n x1.a x1.b ((dv _ _).cell _ _ _ ((aq.trans ar).aL.cell _ _ _ aP))).mono fun e bh q=>zr q ⟨x1.n,x1.a,x1.b,x1.hp,x1.cq,x1.cQ⟩ ⟨N.g,N.pos⟩ aM aK (av.trans ar)
 |uj n I K ae y aK=>
  rename_i f b L F g a x aI r e;rw [show f+b+3=f+(b+3) by omega];refine oT (m:=b+3) n al G an am fun j w Q z k T W aa aE J=>?_;rw [ax] at k;refine o3 (m:=3) I z w j Q k T W aa (fun _=>K) J (fun e=>by cases e) (fun _ az aF aA e ay aD aQ ag ab aC x1 N P D=>?_);rw [ae] at ab;cases ab;rw [N.g] at D;rw [ag] at y;obtain ⟨aR,aN,rfl⟩:=qQ y;obtain ⟨bf,aV,aO,aP,aH,S,aT,R,a7,no,bc,bb,bd,a8,aW,be,a9,aX,aG,aq⟩:=D;have av:=(P.trans aO).trans aq;refine .inr ⟨aH,qK (m:=1) aG x1.cQ ⟨K.rows,K.ag⟩ aC aN wy rfl av fun bg aU aL _ ar=>?_⟩;exact (zm aL x1.n x1.a x1.b ((dv _ _).cell _ _ _ ((aq.trans ar).aL.cell _ _ _ aP))).mono fun e bh q=>q1 q ⟨x1.n,x1.a,x1.b,x1.hp,x1.cq,x1.cQ⟩ ⟨aJ _,aJ _⟩ (qP aK) (av.trans ar)
end
section
variable {ab : Option bQ} 
theorem qi(A:de lim D.c.key s D.wr 0 V C x ab .act)(F:x.nd= .leaf v)(E:1≤D.c.kind∧D.c.kind≤5)(r:aP l i d lim s k D ob nb cb P)(G:ff l i d k D 0)(t:D.ab=V):
  a7 l k C d fun e j=> ∃ f I nx hd,x.refs.head?=Z hd∧dS lim s x∧bD i d f I∧gK l lim k {D with ab:=ab,nx:=nx} f I s x.n hd v e j:=by
 have n: {D with ab:=V,nx:=D.nx}=D:=by cases D;cases t;rfl
 refine mG (D:=D) (nb:=nb) (cb:=cb) (ob:=ob) A i d D.nx P rfl rfl (by rw[n];exact r) (by rw[n];exact G) bn.refl fun w j J S hd T B p g a u y=>?_;refine CB g a u fun I b=>?_;rw[F]at a;obtain⟨Q,K,R,N,L,o,m,c,rfl,z,M⟩:=a;exact(AL (g.aC b) (z.ex (bX b w)) p.hU E).mono fun e W q=>⟨false,q.1,w,I,J,hd,B,p,y.trans (Y.av b),q⟩
theorem AI(f:de lim D.c.key s D.wr 0 V C x ab .act)(o:x.nd= .leaf v)(g:dq D.c v.rows=Z c)(n:1≤D.c.kind∧D.c.kind≤5)(a:aP l i d lim s k D ob nb cb P)(p:ff l i d k D 0)(b:D.ab=V):
  a7 l k C d (cS l lim k D D.bin i d s ⟨#[]⟩ (Z c)):=
 (qi f o n a p b).mono fun e j ⟨r,I,nx,hd,u,t,m,q⟩=>cS.from (D:=D) (q.2.1 c g) m
theorem AG(c:de lim D.c.key s D.wr 0 V C x ab .act)(n:x.nd= .leaf v)(f:dq D.c v.rows=V)(m:D.c.kind=1)(a:aP l i d lim s k D ob nb cb P)(o:ff l i d k D 0)(b:D.ab=V):
  a7 l k C d (cS l lim k D D.bin i d s (ds D.c.key v.rows) V):=
 (qi c n K a o b).mono fun e j ⟨p,I,nx,hd,t,r,g,q⟩=>cS.from (D:=D) (q.2.2.1 f m) g
theorem AK(n:de lim D.c.key s D.wr 0 V C x ab .act)(y:x.nd= .leaf v)(b:x.refs.head?=Z hd)(p:dq D.c v.rows=V)(u:D.c.kind≠1)(a:c8 lim.count s x.n (nx (fs D.c) hd)= .ok r A)(w:1≤D.c.kind∧D.c.kind≤5)(f:aP l i d lim s k D ob nb cb P)(z:ff l i d k D 0)(g:D.ab=V):
  a7 l k (C+2) d (cS l lim k D D.bin i d A (ds D.c.key v.rows) V):=by
 refine a7.trans (qi n y w f z g) fun e j ⟨B,I,F,E,c,m,t,q⟩=>⟨q.1,?_⟩;rw[b]at c;cases c;unfold c8 at a;split at a
 ·rename_i G L o;cases a;refine((q.2.2.2 p u).1 r L ?_ o).mono fun e J q=>cS.from (D:=D) q t;rw[m.head,b]
 ·cases a
theorem AF(m:de lim D.c.key s D.wr 0 V C x ab .act)(w:x.nd= .leaf v)(r:x.refs.head?=Z hd)(o:dq D.c v.rows=V)(t:D.c.kind≠1)(a:c8 lim.count s x.n (nx (fs D.c) hd)= .no c)(u:1≤D.c.kind∧D.c.kind≤5)(f:aP l i d lim s k D ob nb cb P)(y:ff l i d k D 0)(g:D.ab=V):
  a7 l k (C+1) d (cS l lim k D D.bin i d s ⟨#[]⟩ (Z c)):=by
 refine a7.trans (qi m w u f y g) fun e j ⟨z,I,F,E,b,B,p,q⟩=>⟨q.1,?_⟩;rw[r]at b;cases b;unfold c8 at a;split at a
 ·cases a
 ·rename_i A n;cases a;exact((q.2.2.2 o t).2 c n).mono fun e G q=>cS.from (D:=D) q p
end
abbrev cT (p:Nat) (hd:aA) (c a:Int) (b:ByteArray):eT:=⟨p,(hd.i:Int)+1,(hd.g:Int),c,a,b,a,au V,au V,.nilFunc,.nilFunc,⟨⟨#[]⟩,⟨#[]⟩,false,0,[],false⟩,V,0,0,0,0,false,false,aB⟩
section
def z7 (l:aV) (lim:aK) (s:az) (p:Nat) (hd:aA) (v:aY) (i:List Nat) (d:ad) (e:Ending) (j:ad):Prop:=
 ∃ u M w t,e=ap (aa u)∧d.heap.size≤u∧iH l w j lim s u t v.aH M∧ed t p hd v∧t.fU=pt u∧t.left=v.bb∧bn l.l d.heap.size i d w j
theorem BD{v:aY}(t:aX l i d lim s)(A:v.aD.size≤maxLen):
  ao aj 136 #[O U (p:Int),j2 hd,aw #[v.aH,v.bb,v.aD]] d (z7 l lim s p hd v i d):=by
 obtain ⟨y,r,j⟩:=gv d 78 83 [O U ((hd.i:Int)+1),O U (hd.g:Int)] [O U v.aH,O U v.bb,af v.aD];have f:=N t;have D:=N A;clear t A;go_enter Tryz.func136,Tryz.ntmps136;go_upto_region 1 with fail
 show Code.wp _ _ _ _ ((H d (X #[O U ((hd.i:Int)+1),(hd.g:Int)] 78)).alloc (X #[O U v.aH,v.bb,v.aD] 83));generalize (H d (X #[O U ((hd.i:Int)+1),(hd.g:Int)] 78)).alloc (X #[O U v.aH,v.bb,v.aD] 83)=a at *;have K:=j.cell 1 rfl;go_upto_region 2 with (first|(with_reducible refine b0 78 (r) dm ?_)|(with_reducible refine b0 83 (j) od ?_))
 show Code.wp _ _ _ _ (H a (X (cT p hd v.aH v.bb v.aD).L.toArray 280));have g:ae (H a (X (cT p hd v.aH v.bb v.aD).L.toArray 280)) a.heap.size (cT p hd v.aH v.bb v.aD).L:=(ae.new a _ _ rfl).of J;have z:Y a (H a (X (cT p hd v.aH v.bb v.aD).L.toArray 280)):=(Y.refl a).alloc _;have I:=g.lt J;have m:=y.le;have G:=y.trans z;clear r j K z;generalize H a (X (cT p hd v.aH v.bb v.aD).L.toArray 280)=o at *;generalize a.heap.size=u at *;have hold:=f.out.old;have k:bn [] d.heap.size i d ([u]++i) o:=(Y.av G).more [u] fun b c=>by rw [aO.1 c];exact .inr ⟨m,I⟩
 have x: ∀ b∈l.l,b < u:=fun b c=>by have:=hold b (f.out.sub b c);omega
 have n:di l (u::i) o lim s u (cT p hd v.aH v.bb v.aD):=⟨f.out.av k fun b c=>⟨J,hold b (f.out.sub b c)⟩,g,gD _,⟨aJ _,aJ _⟩,D.out,J,x⟩;have B:=N (Dr n);have C:=N k;clear n g hold x k;go_wp2_with (go_at_call 164;(with_reducible refine B.out.mono ?_);rintro e L ⟨rfl,M,w,E,F⟩);go_ret;exact ⟨u,M,w,_,rfl,m,E,⟨rfl,rfl,rfl,rfl,rfl,rfl⟩,rfl,rfl,(C.out.wide fun b _ q=>q.elim (fun q=>by cases q) fun q=> .inr q).trans (F.under m)⟩
theorem DO(c:ae d u t.L)(hd:t.hS=true):ao aj 141 #[aa u] d fun e j=>e=ap (a0 #[aw #[t.x,t.y],t.hp])∧Y d j:=by
 have k:Y d (H d (X #[O U 0,O U 0] 78)):=(Y.refl d).alloc _;have a:ae (H d (X #[O U 0,O U 0] 78)) d.heap.size [O U 0,O U 0]:=(ae.new d _ _ rfl).of J;have b:=c.I k;have n: (H d (X #[O U 0,O U 0] 78)).cell? ⟨u,20,V⟩=Z (ah true):=by rw [←hd];exact b.cell 20 rfl
 have o: (H d (X #[O U 0,O U 0] 78)).cell? ⟨u,3,V⟩=Z (O U t.hp):=b.cell 3 rfl;have i:=b.ef 17 [O U t.x,t.y] rfl;have r:=c.lt J;clear c hd b;go_enter Tryz.func141,Tryz.ntmps141;go_upto_region 1 with fail
 generalize H d (X #[O U 0,O U 0] 78)=f at *;go_upto_region 3 with fail
 have s:=a.cell 0 rfl;have v:=a.cell 1 rfl;have p:=a.free 0 J;have q:=a.free 1 J;have l:f.cell? ⟨u,17,V⟩=Z (O U t.x):=i.aM 0 _ rfl;have m:f.cell? ⟨u,18,V⟩=Z (O U t.y):=i.aM 1 _ rfl;go_region_held3 (fun g=>g.cell? ⟨u,3,V⟩=Z (O U t.hp)∧g.cell? ⟨u,17,V⟩=Z (O U t.x)∧g.cell? ⟨u,18,V⟩=Z (O U t.y)) ((first|(have kG:=(Y.refl f);exact b9)|exact b9)) (fail);go_wp2_with fail;refine bH (((((a.set 0 (O U t.x)).set 1 (O U t.y)).I (Y.refl _).drew).of (us:=[O U t.x,t.y]) rfl).cK rfl _ rfl rfl dm rfl G) rfl ?_;exact ⟨rfl,((k.setCell (aG _) _).setCell (aG _) _).drew⟩
end
end Go.Proofs.YtbkmjhhpcinppaaGreatDoor
