import Derived.Test.YtbkmjhhpcinppaaGreatDoorQ21
namespace Go.Proofs.YtbkmjhhpcinppaaGreatDoor
set_option linter.unusedVariables false
set_option linter.defProp false
set_option linter.unusedSimpArgs false
set_option maxRecDepth 100000
set_option maxHeartbeats 40000000
open Go.BigFrame Go.RowKit Go.WideShapes
open Ending renaming returned→ap
open Go renaming Addr→ai,Calls→ao,Value→ak,World→ad
open Go.Proofs.Tryz renaming prog→aj
open IntKind renaming i64→U
open Obj renaming cells→X
open Option renaming none→V,some→Z
open Value renaming agg→aw,bool→ah,int→O,nilIface→aB,pointer→au,slice→ac,string→af,tuple→a0
open World renaming alloc→H,setCells→ba
variable {B bL a4 C l W T aM aQ aF I am P M F : Nat} {D : aV} {E : az} {ax : cn} {Q : Ending → ad → Prop} {S S' a2 : List Nat} {ag w s a3 : ad} {hd : aA} {bA : List aN} {lim : aK} {bO : ak} {n : Int} {be : aT} {m ab op aR a1 : Option ai} {aE : List Int} {rs : List aA} {v : aY} {y : ar} {h : List ar}
def fA (S:List Nat) (w:ad) (bO:ak) (aE:List Int) (h:List ar) (y:ar):Prop:=
 ∃ (f:FuncId) (first j:Array ak),bO= .func (.func f) first j∧(∀ (args:Array ak) (a:ad),(callFunc f args).run aj a= .ok (.enter f args) a)∧∀ (g:List Nat) (a:ad) (o:Option ai) (n c:Nat),(∀ b∈g,b < a.heap.size)→fq S w g a→bo h9 1 a o n c aE→
  ao aj f (first.push (ac o n c)++j) a fun e i=> ∃ m I l A u t k z d,e=ap (a0 #[ac m I l,aW y.x A u t k z d])∧fr (ay i g) m I l h∧b3 (ay i g) y A u t k z d∧Y a i
theorem fA.aL(a:fA S w bO aE h y)(l:fq S w S' s):fA S' s bO aE h y:=by
 obtain⟨f,first,d,e,k,a⟩:=a;exact⟨f,first,d,e,k,fun b o m n c g i j=>a b o m n c g (l.trans i) j⟩
def vk (S:List Nat) (b:ad) (h:List ar) (y:ar) (c e:ak) (a:ad):Prop:=
 ∃ m I l aD A u t k z d,c=ac m I l∧e=au (Z ⟨aD,0,V⟩)∧ae a aD (an y.x A u t k z d)∧fr (ay a S) m I l h∧b3 (ay a S) y A u t k z d∧Y b a∧b.heap.size≤aD
theorem qY{e c:ad}(g:Y e c){h:List ar}{y:ar}{m:Option ai}{I l a:Nat}{A:Option ai}{u t:Nat}{k:Option ai}{z d:Nat}(p:Y c ag)(j:ae ag a al)(f:c.heap.size≤a)(n:fr (ay ag (a::S)) m I l h)(o:b3 (ay ag (a::S)) y A u t k z d)(s: ∀ b∈S,b < c.heap.size):
  vk S e h y (ac m I l) (au (Z a)) (ba ag a 0 (an y.x A u t k z d)):=by
 have r:Mod [a] ag (ba ag a 0 (an y.x A u t k z d)):=Mod.setCells J _ _ _;have i:dD (ay ag (a::S)) (ay (ba ag a 0 (an y.x A u t k z d)) S):=(r.jT (S':=a::S) J).trans (oX _ fun b q=>h5 _ q);exact⟨m,I,l,a,A,u,t,k,z,d,rfl,rfl,j.aR rfl,bo.ex qd n i,o.ex i,g.trans (p.setCells f _ _),bZ g.le f⟩
structure ia (D:aV) (B:Nat) (a2:List Nat) (a3:ad) (lim:aK) (E:az) (C:Nat) (bB:List ak) (hd:ar) (aR:Option ai) (M aM:Nat) (a1:Option ai) (F aQ:Nat) (op:Option ai) (P T:Nat) (aE:List Int) (bj:Option ai) (bh bb:Nat) (h:List ar) (aD:Nat) (y:ar) (A:Option ai) (u t:Nat) (k:Option ai) (z d:Nat) (ab:Option ai) (am W:Nat) (rs:List aA) (S:List Nat) (ag:ad) (j:Nat) (m:Option ai) (l:Nat):Prop where
 R:bI D B a2 a3 lim E C bB hd aR M aM a1 F aQ S ag op P T aE m j l (h.take j) ab am W rs
 r6:ae ag aD (an y.x A u t k z d)
 o7:aD∉S
 w3:fr (ay ag S) bj bh bb h
 w4:b3 (ay ag S) y A u t k z d
section
variable {bB inl' : List ak} {hd : ar} {bj : Option ai} {bh bb : Nat} {aD : Nat} {A : Option ai} {u t : Nat} {k : Option ai} {z d : Nat} {bF : ad} {j j' : Nat} {bv : Option ai} {bt : Nat}
theorem ia.step(a:ia D B a2 a3 lim E C bB hd aR M aM a1 F aQ op P T aE bj bh bb h aD y A u t k z d ab am W rs S ag j m l)(R:bI D B a2 a3 lim E C inl' hd aR M aM a1 F aQ S' bF op P T aE bv j' bt (h.take j') ab am W rs){L:List Nat}(b:bn L B S ag S' bF)(c:aD∉S'):ia D B a2 a3 lim E C inl' hd aR M aM a1 F aQ op P T aE bj bh bb h aD y A u t k z d ab am W rs S' bF j' bv bt:=
 ⟨R,b.box (.inl a.o7) a.r6,c,bo.ex qd a.w3 b.aL,a.w4.ex b.aL⟩
theorem ia.aC(a:ia D B a2 a3 lim E C bB hd aR M aM a1 F aQ op P T aE bj bh bb h aD y A u t k z d ab am W rs S ag j m l)(b:Y ag bF):ia D B a2 a3 lim E C bB hd aR M aM a1 F aQ op P T aE bj bh bb h aD y A u t k z d ab am W rs S bF j m l:=
 a.step (a.R.aC b) (L:=[]) b.av a.o7
theorem ia.set(a:ia D B a2 a3 lim E C bB hd aR M aM a1 F aQ op P T aE bj bh bb h aD y A u t k z d ab am W rs S ag j m l)(e: ∀ b∈D.l,b < B)(i:Nat)(c:ak):ia D B a2 a3 lim E C (bB.set i c) hd aR M aM a1 F aQ op P T aE bj bh bb h aD y A u t k z d ab am W rs S (ag.setCell ⟨C,i,V⟩ c) j m l:=
 a.step (a.R.set e i c) (L:=[]) ((Mod.setCell (S:=[C]) ag ⟨C,i,V⟩ c J).av fun b f=>by rw[aO.1 f];exact⟨a.R.fJ.1,.inr a.R.fJ.2.1⟩) a.o7
theorem ia.nc(a:ia D B a2 a3 lim E C bB hd aR M aM a1 F aQ op P T aE bj bh bb h aD y A u t k z d ab am W rs S ag j m l)(g: ∀ b∈D.l,b < B)(f:bi (eK (ay ag S)) 15 85 bF B bv (j+1) bt (h.take (j+1)))(e:ag.grownBy bF (Value.ownBlock (ac m j l)))(c:Value.ownBlock (ac bv (j+1) bt)=Value.ownBlock (ac m j l)∨Value.ownBlock (ac bv (j+1) bt)=Z ag.heap.size):
  ia D B a2 a3 lim E C bB hd aR M aM a1 F aQ op P T aE bj bh bb h aD y A u t k z d ab am W rs (bg bv (j+1) bt++S) bF (j+1) bv bt:=by
 refine a.step (a.R.nc g f e c) (L:=[]) ((a.R.s.nc f e c).2 []) fun q=>?_;rcases cu.1 q with q|q
 ·rcases q7 c aD q with aF|aF
  ·exact a.o7 (a.R.s.ft aD (by simp only[bd,cu];exact .inr (.inr (.inl aF)))).1
  ·have:=a.r6.lt J;omega
 ·exact a.o7 q
end
section
variable {page bJ bK : Int} {bP : Nat} {bS : Int} {hd : ar} {bV : List ar} {done : Bool} {bN : ak}
theorem ks(a:bI D B a2 a3 lim E C (bE page bJ bK bP bO bS op P T m I l hd.x aR M aM a1 F aQ ab am W aF done bN) hd aR M aM a1 F aQ S w op P T aE m I l bV ab am W rs):w.cell? ⟨C,4,V⟩=Z bO∧w.cell? ⟨C,6,V⟩=Z (ac op P T):=⟨a.box.cell 4 rfl,a.box.cell 6 rfl⟩
theorem xU(b6:bI D B a2 a3 lim E C (bE page bJ bK bP bO bS op P T V 0 0 hd.x aR M aM a1 F aQ ab am W aF done bN) hd aR M aM a1 F aQ S w op P T aE V 0 0 [] ab am W rs)(cJ: ∀ b∈D.l,b < B)(dK:P≤1000)(bk:fA S w bO aE h y)(dv:h.length=bP)(c5: ∀ x∈h,x.x.slot=0∧x.x.gen=0)(cX:bP≤4):
  ao aj 180 #[aa C] w fun e s=>e=ap (a0 #[])∧∃ S' m I l A u t k z d,bI D B a2 a3 lim E C (bE page bJ bK bP bO (if bP=0 then 3 else 1) op P T m I l y.x A u t k z d ab am W 0 done bN) y A u t k z d S' s op P T aE m I l h ab am W rs:=by
 generalize c3: (if bP=0 then (3:Int) else 1)=dN;have cy:=N c3;clear c3;obtain ⟨f,first,bs,rfl,cm,bk⟩:=bk;have cx:=N cm;clear cm;have bF:=N cJ;have bY:=N b6;clear b6 cJ;go_enter Tryz.func180,Tryz.ntmps180;go_upto_region 0 with fail
 go_cut [2,3] (fun dA dB dD=>vk S w h y dA dB dD)
 case first=>
  refine cZ (fun _=>True) (fun s=>s.cell? ⟨C,4,V⟩=Z (.func (.func f) first bs)∧s.cell? ⟨C,6,V⟩=Z (ac op P T)) 11 G ?_;have Q:=bY.out.aC (Y.refl w).drew;have bk: ∀ (bH:List Nat) (bD:ad) (cc:Option ai) (n c:Nat),(∀ b∈bH,b < bD.heap.size)→(∀ b∈bH,b∈S∨w.drew.heap.size≤b)→Y w.drew bD→bo h9 1 bD cc n c aE→ao aj f (first.push (ac cc n c)++bs) bD fun e cs=> ∃ m I l A u t k z d,e=ap (a0 #[ac m I l,aW y.x A u t k z d])∧fr (ay cs bH) m I l h∧b3 (ay cs bH) y A u t k z d∧Y bD cs:=fun bH bD cc n c dj dl bl dt=>bk bH bD cc n c dj (((Y.refl w).drew.trans bl).aL fun b q=>(dl b q).imp id fun aF=>bZ (Y.refl w).drew.le aF) dt;have b8:=(Y.refl w).drew;generalize dn:w.drew=p at *;clear dn;have cm:=cx.out;have r:True:=trivial;have hKC:=ks Q;have bV:=Y.refl p;refine' aI 0 7 (aa C) rfl r hKC ?_;refine' aI 1 8 (aa C) rfl r hKC ?_;refine' aI 2 9 (au (Z C)) rfl r hKC ?_;refine' aI 3 10 (au (Z ⟨C,4,V⟩)) rfl r hKC ?_;refine' bc (v:= .func (.func f) first bs) 4 11 rfl (.inl ⟨aq,?_⟩) r hKC ?_
  ·(intro w bw;have c6:=bw.2.1;clear bw;go_simp)
  refine' aI 6 13 (aa C) rfl r hKC ?_;refine' aI 7 14 (aa C) rfl r hKC ?_;refine' aI 8 15 (au (Z ⟨C,6,V⟩)) rfl r hKC ?_;refine' bc (v:=ac op P T) 9 16 rfl (.inl ⟨aq,?_⟩) r hKC ?_
  ·(intro w bw;have c6:=bw.2.2;clear bw;go_simp)
  refine nY (j:=5) (j':=15) (o:=⟨Z 12,_,_,_,_,_⟩) (o':=⟨Z 3,_,_,_,_,_⟩) rfl rfl G G G (fun i a=>?_) (fun i a=>?_)
  ·refine a6 aq ?_;go_simp;have a7:Y p (H p (X #[] 3)):=bV.alloc _;have aV:bi h9 1 3 (H p (X #[] 3)) p.heap.size (Z ⟨p,0,V⟩) 0 0 []:=bi.fresh h9 1 3 rfl bV.le;have b7:p.heap.size≤p.heap.size:=bV.le;refine a5 a (trivial) (fun e=>by first|exact (ks (Q.aC a7))|exact bm e) ?_;clear a i;generalize H p (X #[] 3)=ag at *;refine nY (j:=10) (j':=15) (o:=⟨Z 17,_,_,_,_,_⟩) (o':=⟨Z 3,_,_,_,_,_⟩) rfl rfl G G G (fun i a=>?_) (fun i a=>?_)
   ·refine a6 aq ?_;refine gF fz oZ _ _ rfl (base:=p.heap.size) a7.le rfl aV rfl (bo.ex fz (Q.s.iq.fv fz) (lJ a7.ex (fun g bl=>by cases bl;exact b7))) c4 K ?_;intro bQ bL aU aC aN bA;simp only [cv,gJ] at aC ⊢;have az:Y p aU:=aV.aC aN a7 (aG _);have aX:=aC.fv fz;refine a5 a (trivial) (fun e=>by first|exact (ks (Q.aC az))|exact bm e) ?_;clear a i;clear aC aN bA aV;refine nY (j:=11) (j':=15) (o:=⟨Z 18,_,_,_,_,_⟩) (o':=⟨Z 3,_,_,_,_,_⟩) rfl rfl G G G (fun i a=>?_) (fun i a=>?_)
    ·refine a6 aq ?_;go_simp;with_reducible refine (bk S aU bQ P bL (fun b R=>dR (Q.mem.old b R) az.le) (fun b R=> .inl R) az aX).mono ?_
     rintro e ar ⟨m,I,l,A,u,t,k,z,d,rfl,bf,bg,aL⟩;have av:=az.trans aL;refine a5 a (trivial) (fun e=>by first|exact cp|exact bm e) ?_;clear a i;clear aL aX;refine' a8 12 6 (a0 #[ac m I l,aW y.x A u t k z d]) rfl r ?_;refine' a8 13 19 (ac m I l) rfl r ?_;refine' a8 14 20 (aW y.x A u t k z d) rfl r ?_;refine lk (j:=15) (o:=⟨Z 3,_,_,_,_,_⟩) rfl G G (fun i a=>?_);refine a6 aq ?_;go_simp;have bB:Y p (H ar (X al 85)):=av.alloc _;have L:ae (H ar (X al 85)) ar.heap.size al:=(ae.new ar _ _ rfl).of J;have be:p.heap.size≤ar.heap.size:=av.le;have bf:=bo.ex qd bf (oW ((Y.refl ar).alloc (X al 85)) (S':=ar.heap.size::S) (fun b R=>by rcases bd.1 R with q|q;exact .inr (by rw [q];exact aG _);exact .inl q));have bg:=bg.ex (oW ((Y.refl ar).alloc (X al 85)) (S':=ar.heap.size::S) (fun b R=>by rcases bd.1 R with q|q;exact .inr (by rw [q];exact aG _);exact .inl q));refine a5 a (trivial) (fun e=>by first|exact (ks (Q.aC bB))|exact bm e) ?_;clear a i;generalize H ar (X al 85)=ci at *;refine cg 16 (Z 2) rfl (fun i a=>?_);go_simp;refine bM a (trivial) ?_;clear a i;refine j9 (j:=17) (o:={dst:=V,op:= .store 85 (.tmp 3) (.tmp 20),type:=_,pos:=_,after:=_,guard:=V}) rfl G G (fun i a=>?_);refine a6 aq ?_;refine dQ _ _ _ rfl _ _ (an y.x A u t k z d).toArray rfl rfl L.may G du ?_;simp only [bu];refine bM a (trivial) ?_;clear a i;refine cC G ?_;go_wp2_with fail;go_meet;exact qY b8 bB L be bf bg Q.mem.old
    ·refine a6 aq ?_;go_simp;have av:Y p (H aU (X al 85)):=az.alloc _;have L:ae (H aU (X al 85)) aU.heap.size al:=(ae.new aU _ _ rfl).of J;have be:p.heap.size≤aU.heap.size:=az.le;have aX:=bo.I fz aX ((Y.refl aU).alloc (X al 85));refine a5 a (trivial) (fun e=>by first|exact (ks (Q.aC av))|exact bm e) ?_;clear a i;generalize H aU (X al 85)=ar at *;refine lk (j:=11) (o:=⟨Z 18,_,_,_,_,_⟩) rfl G G (fun i a=>?_);refine a6 aq ?_;go_simp;with_reducible refine (bk (aU.heap.size::S) ar bQ P bL (fun b R=>by rcases bd.1 R with q|q;rw [q];exact L.lt J;exact dR (Q.mem.old b q) av.le) (fun b R=>by rcases bd.1 R with q|q;exact .inr (by rw [q];exact be);exact .inl q) av aX).mono ?_
     rintro e ci ⟨m,I,l,A,u,t,k,z,d,rfl,bf,bg,aL⟩;have bB:=av.trans aL;have L:=L.I aL;refine a5 a (trivial) (fun e=>by first|exact cp|exact bm e) ?_;clear a i;clear aL aX;refine' a8 12 6 (a0 #[ac m I l,aW y.x A u t k z d]) rfl r ?_;refine' a8 13 19 (ac m I l) rfl r ?_;refine' a8 14 20 (aW y.x A u t k z d) rfl r ?_;refine cg 16 (Z 2) rfl (fun i a=>?_);go_simp;refine bM a (trivial) ?_;clear a i;refine j9 (j:=17) (o:={dst:=V,op:= .store 85 (.tmp 3) (.tmp 20),type:=_,pos:=_,after:=_,guard:=V}) rfl G G (fun i a=>?_);refine a6 aq ?_;refine dQ _ _ _ rfl _ _ (an y.x A u t k z d).toArray rfl rfl L.may G du ?_;simp only [bu];refine bM a (trivial) ?_;clear a i;refine cC G ?_;go_wp2_with fail;go_meet;exact qY b8 bB L be bf bg Q.mem.old
   ·refine a6 aq ?_;go_simp;have az:Y p (H ag (X al 85)):=a7.alloc _;have L:ae (H ag (X al 85)) ag.heap.size al:=(ae.new ag _ _ rfl).of J;have be:p.heap.size≤ag.heap.size:=a7.le;have co:ag.heap.size≠p.heap.size:=(Nat.ne_of_lt (aV.lt _ rfl).2).symm;have aV:=aV.I fz ((Y.refl ag).alloc (X al 85));refine a5 a (trivial) (fun e=>by first|exact (ks (Q.aC az))|exact bm e) ?_;clear a i;generalize H ag (X al 85)=aU at *;refine lk (j:=10) (o:=⟨Z 17,_,_,_,_,_⟩) rfl G G (fun i a=>?_);refine a6 aq ?_;refine gF fz oZ _ _ rfl (base:=p.heap.size) az.le rfl aV rfl (bo.ex fz (Q.s.iq.fv fz) (lJ az.ex (fun g bl=>by cases bl;exact b7))) c4 K ?_;intro bQ bL ar aC aN bA;simp only [cv,gJ] at aC ⊢;have av:Y p ar:=aV.aC aN az (aG _);have aX:=aC.fv fz;have L:=ej aN (fun q=>co (fo q).symm) L;refine a5 a (trivial) (fun e=>by first|exact (ks (Q.aC av))|exact bm e) ?_;clear a i;clear aC aN bA aV;refine lk (j:=11) (o:=⟨Z 18,_,_,_,_,_⟩) rfl G G (fun i a=>?_);refine a6 aq ?_;go_simp;with_reducible refine (bk (ag.heap.size::S) ar bQ P bL (fun b R=>by rcases bd.1 R with q|q;rw [q];exact L.lt J;exact dR (Q.mem.old b q) av.le) (fun b R=>by rcases bd.1 R with q|q;exact .inr (by rw [q];exact be);exact .inl q) av aX).mono ?_
    rintro e ci ⟨m,I,l,A,u,t,k,z,d,rfl,bf,bg,aL⟩;have bB:=av.trans aL;have L:=L.I aL;refine a5 a (trivial) (fun e=>by first|exact cp|exact bm e) ?_;clear a i;clear aL aX;refine' a8 12 6 (a0 #[ac m I l,aW y.x A u t k z d]) rfl r ?_;refine' a8 13 19 (ac m I l) rfl r ?_;refine' a8 14 20 (aW y.x A u t k z d) rfl r ?_;refine cg 16 (Z 2) rfl (fun i a=>?_);go_simp;refine bM a (trivial) ?_;clear a i;refine j9 (j:=17) (o:={dst:=V,op:= .store 85 (.tmp 3) (.tmp 20),type:=_,pos:=_,after:=_,guard:=V}) rfl G G (fun i a=>?_);refine a6 aq ?_;refine dQ _ _ _ rfl _ _ (an y.x A u t k z d).toArray rfl rfl L.may G du ?_;simp only [bu];refine bM a (trivial) ?_;clear a i;refine cC G ?_;go_wp2_with fail;go_meet;exact qY b8 bB L be bf bg Q.mem.old
  ·refine a6 aq ?_;go_simp;have a7:Y p (H p (X al 85)):=bV.alloc _;have L:ae (H p (X al 85)) p.heap.size al:=(ae.new p _ _ rfl).of J;have be:p.heap.size≤p.heap.size:=bV.le;refine a5 a (trivial) (fun e=>by first|exact (ks (Q.aC a7))|exact bm e) ?_;clear a i;generalize H p (X al 85)=ag at *;refine lk (j:=5) (o:=⟨Z 12,_,_,_,_,_⟩) rfl G G (fun i a=>?_);refine a6 aq ?_;go_simp;have az:Y p (H ag (X #[] 3)):=a7.alloc _;have aV:bi h9 1 3 (H ag (X #[] 3)) p.heap.size (Z ⟨ag,0,V⟩) 0 0 []:=bi.fresh h9 1 3 rfl a7.le;have b7:p.heap.size≤ag.heap.size:=a7.le;have co:p.heap.size≠ag.heap.size:=Nat.ne_of_lt (L.lt J);have L:=L.I ((Y.refl ag).alloc (X #[] 3));refine a5 a (trivial) (fun e=>by first|exact (ks (Q.aC az))|exact bm e) ?_;clear a i;generalize H ag (X #[] 3)=aU at *;refine lk (j:=10) (o:=⟨Z 17,_,_,_,_,_⟩) rfl G G (fun i a=>?_);refine a6 aq ?_;refine gF fz oZ _ _ rfl (base:=p.heap.size) az.le rfl aV rfl (bo.ex fz (Q.s.iq.fv fz) (lJ az.ex (fun g bl=>by cases bl;exact b7))) c4 K ?_;intro bQ bL ar aC aN bA;simp only [cv,gJ] at aC ⊢;have av:Y p ar:=aV.aC aN az (aG _);have aX:=aC.fv fz;have L:=ej aN (fun q=>co (fo q).symm) L;refine a5 a (trivial) (fun e=>by first|exact (ks (Q.aC av))|exact bm e) ?_;clear a i;clear aC aN bA aV;refine lk (j:=11) (o:=⟨Z 18,_,_,_,_,_⟩) rfl G G (fun i a=>?_);refine a6 aq ?_;go_simp;with_reducible refine (bk (p.heap.size::S) ar bQ P bL (fun b R=>by rcases bd.1 R with q|q;rw [q];exact L.lt J;exact dR (Q.mem.old b q) av.le) (fun b R=>by rcases bd.1 R with q|q;exact .inr (by rw [q];exact be);exact .inl q) av aX).mono ?_
   rintro e ci ⟨m,I,l,A,u,t,k,z,d,rfl,bf,bg,aL⟩;have bB:=av.trans aL;have L:=L.I aL;refine a5 a (trivial) (fun e=>by first|exact cp|exact bm e) ?_;clear a i;clear aL aX;refine' a8 12 6 (a0 #[ac m I l,aW y.x A u t k z d]) rfl r ?_;refine' a8 13 19 (ac m I l) rfl r ?_;refine' a8 14 20 (aW y.x A u t k z d) rfl r ?_;refine cg 16 (Z 2) rfl (fun i a=>?_);go_simp;refine bM a (trivial) ?_;clear a i;refine j9 (j:=17) (o:={dst:=V,op:= .store 85 (.tmp 3) (.tmp 20),type:=_,pos:=_,after:=_,guard:=V}) rfl G G (fun i a=>?_);refine a6 aq ?_;refine dQ _ _ _ rfl _ _ (an y.x A u t k z d).toArray rfl rfl L.may G du ?_;simp only [bu];refine bM a (trivial) ?_;clear a i;refine cC G ?_;go_wp2_with fail;go_meet;exact qY b8 bB L be bf bg Q.mem.old
 case rest=>
  obtain ⟨bj,bh,bb,aD,A,u,t,k,z,d,rfl,rfl,bR,cl,cN,cT,dq⟩:=hcut;obtain rfl:h.length=bh:=cl.len;subst dv;have br:=bY.out.aC cT;have cY:aD∉S:=fun q=>by have:=bY.out.mem.old _ q;omega
  have dg:=br.box.cell 3 rfl;have cw:=N (ia.mk br bR cY cl cN);clear br bR cY cl cN cT bY bk cx dq;generalize dp:wc=dE at *;clear dp;have ce:=N c5;clear c5;go_upto_region 2 with fail
  clear dg;go_loopw [26] (fun cr wr=> ∃ j:Nat,j≤h.length∧cr=O U (j:Int)∧Hid (∃ S' m l,ia D B a2 a3 lim E C (bE page bJ bK h.length (.func (.func f) first bs) bS op P T m j l hd.x aR M aM a1 F aQ ab am W aF done bN) hd aR M aM a1 F aQ op P T aE bj h.length bb h aD y A u t k z d ab am W rs S' wr j m l)) (fun cr _=>h.length - (intOf cr).toNat)
  case atStart=>exact ⟨0,aJ _,rfl,N ⟨S,V,0,cw.out⟩⟩
  case round=>
   obtain ⟨j,cU,rfl,cM⟩:=hrel;obtain ⟨S',m,l,aZ⟩:=cM.out;clear cM cw;by_cases bU:j < h.length
   ·have b9:h[j]?=Z h[j]:=cP bU;have cb:=ce.out _ (hI bU);generalize h[j]=x at b9 cb;obtain ⟨df,dw,c1,cS⟩:=fr.get aZ.w3;obtain ⟨aA,aP,aH,ax,aT,aK,bT⟩:=cS j x b9;have br:er wr df (dw+j * 15) (an x.x aA aP aH ax aT aK):=⟨fun q dC bl=>(bp.1 (bT.aM q dC bl)).2⟩;have br:=br.I ((Y.refl wr).alloc (X al 85));have c2:b3 (ay wr S') x aA aP aH ax aT aK:=⟨bT.rows,bT.ag,bT.size⟩;have dm:=nO bb c1 bU;have ck:ae (H wr (X al 85)) wr.heap.size al:=(ae.new wr _ _ rfl).of J;have cd:ae ((H wr (X al 85)).setCells wr 0 (an x.x aA aP aH ax aT aK)) wr.heap.size (an x.x aA aP aH ax aT aK):=ck.aR rfl;have cW:=cd.fi 13 2 J;have ct:=(cd.part 13 [O U 0,O U 0] J).of (us:=an x.x aA aP aH ax aT aK) (by
     show [_,_,_,_,_,_,_,_,_,_,_,_,_,Value.int U 0,Value.int U 0]=[_,_,_,_,_,_,_,_,_,_,_,_,_,Value.int U x.x.slot,Value.int U x.x.gen];rw [cb.1,cb.2])
    have bx:Y wr (((H wr (X al 85)).setCells wr 0 (an x.x aA aP aH ax aT aK)).setCells wr 13 [O U 0,O U 0]):=(((Y.refl wr).alloc _).setCells (aG _) _ _).setCells (aG _) _ _;have c0:wr.heap.size∉S':=fun q=>dk _ (aZ.R.mem.old _ q);have c8:=N (aZ.aC bx);have da:=N (c2.ex (bX bx S'));have c7:=N ct;have db:=N b9;clear aZ b9 cb cS bT c2 ct bx c1 ce;go_upto_region 8 with (first|(with_reducible refine dc 85 (br) cG ?_)|(with_reducible refine bq 85 (ck) ((an x.x aA aP aH ax aT aK)) ?_)|(with_reducible refine hY 78 (cW) ([O U 0,O U 0]) ?_))
    clear br ck cd cW dm;show Code.wp _ _ _ _ (((H wr (X al 85)).setCells wr 0 (an x.x aA aP aH ax aT aK)).setCells wr 13 [O U 0,O U 0]);generalize ((H wr (X al 85)).setCells wr 0 (an x.x aA aP aH ax aT aK)).setCells wr 13 [O U 0,O U 0]=b5 at *;generalize wr.heap.size=a4 at *;have dJ:j≤4:=K;refine cZ (fun s=>s.rangeAt a4 0 (an x.x aA aP aH ax aT aK)) (fun s=>s.cell? ⟨C,7,V⟩=Z (ac m j l)) 10 G ?_;have b1:=c8.out.aC (Y.refl b5).drew;have cA:=da.out.ex (bX (Y.refl b5).drew S');have aY:=c7.out.I (Y.refl b5).drew;generalize b5.drew=p at *;have r:=aY.aM;have hKC:=b1.R.box.cell 7 rfl;refine' aI 0 39 (aa C) rfl r hKC ?_;refine' aI 1 40 (aa C) rfl r hKC ?_;refine' aI 2 41 (aa C) rfl r hKC ?_;refine' aI 3 42 (au (Z ⟨C,7,V⟩)) rfl r hKC ?_;refine' bc (v:=ac m j l) 4 43 rfl (.inl ⟨aq,?_⟩) r hKC ?_
    ·(intro w bw;have c6:=bw.2;clear bw;go_simp)
    refine' bc 5 44 rfl (cj aq _ _ rfl _ _ rfl _ _ (fun w b6=>b6.1) cG rfl G) r hKC ?_;clear r hKC;refine b4 6 (Z 45) rfl (fun i a=>?_);go_simp;have bx:=(Y.refl p).alloc (X (an x.x aA aP aH ax aT aK) 85);have cz:ae (H p (X (an x.x aA aP aH ax aT aK) 85)) p.heap.size (an x.x aA aP aH ax aT aK):=(ae.new p _ _ rfl).of J;have cK:Value.ownBlock (ac m j l)≠Z p.heap.size:=fun e=>dk _ (b1.R.s.bm.lt _ e).2;have bn:=b1.aC bx;have cB:=cA.ex (bX bx S');have aY:=aY.I bx;refine a5 a ((aY.aM)) (fun _=>(bn.R.box.cell 7 rfl)) ?_;clear a i;clear b1 bx;generalize H p (X (an x.x aA aP aH ax aT aK) 85)=ag at *;generalize p.heap.size=dG at *;refine b4 7 (Z 46) rfl (fun i a=>?_);refine gF (kY _) kA _ _ rfl (base:=B) (fE (jB bn.R.fJ.2.1 bn.R.fJ.2.2)) rfl bn.R.s.bm rfl (mD cB cz.aM _ cK) c4 K ?_;intro bv bt aU aC aN bA;rw [show h.take j++[x]=h.take (j+1) by rw [kH,db.out];rfl] at aC;have b2:=bn.nc bF.out aC aN bA;have cQ:Value.ownBlock (ac m j l)≠Z a4:=fun e=>c0 (bn.R.s.ft a4 (by simp only [bd,cu,c9];exact .inr (.inr (.inl e)))).1;have aY:=ej aN cQ aY;refine a5 a ((aY.aM)) (fun _=>(b2.R.box.cell 7 rfl)) ?_;clear a i;have dr:C≠a4:=fun e=>c0 (by rw [←e];exact bn.R.fJ.1);clear bn aC aN bA cz cK cQ cA cB;have r:=aY.aM;have hKC:=b2.R.box.cell 7 rfl;refine' aI 8 47 (aa C) rfl r hKC ?_;refine' aI 9 48 (au (Z ⟨C,7,V⟩)) rfl r hKC ?_;refine cg 10 (V) rfl (fun i a=>?_);have dH:=b2.R.box.free 7 J;go_simp;have dd:=b2.set bF.out 7 (ac bv (j+1) bt);have aY:=aY.other (b':=C) (j:=7) dr (ac bv (j+1) bt);refine bM a ((aY.aM)) ?_;clear a i;refine cC G ?_;go_wp2_with fail;go_roundw
    case rel=>exact ⟨j+1,K,e9,N ⟨_,bv,bt,dd⟩⟩
    case measure=>simp [intOf];omega
   ·obtain rfl:j=h.length:=by omega
    have cV:=aZ.R.box.fi 8 15 J;have bR:=aZ.r6;have cL:=(aZ.R.box.part 8 (an y.x A u t k z d) J).of (us:=bE page bJ bK h.length (.func (.func f) first bs) bS op P T m h.length l y.x A u t k z d ab am W aF done bN) rfl;have cn:Mod [C] wr (ba wr C 8 (an y.x A u t k z d)):=Mod.setCells J _ _ _;have cD:=aZ.R.wrote bF.out cn cL;have cO:=aZ.w4.ex ((cn.sub (S':=S') (fun b R=>by rw [aO.1 R];exact aZ.R.fJ.1)).ex);have bG:bI D B a2 a3 lim E C (bE page bJ bK h.length (.func (.func f) first bs) bS op P T m h.length l y.x A u t k z d ab am W aF done bN) y A u t k z d S' (ba wr C 8 (an y.x A u t k z d)) op P T aE m h.length l h ab am W rs:=by
     obtain ⟨aA,ax,dM,dx,dz⟩:=cD;rw [pP (aG _)] at ax;exact ⟨aA,ax,cO,dx,dz⟩
    clear aZ cL cn cD cO ce;go_upto_region 11 with (first|(with_reducible refine b0 85 (bR) cG ?_)|(with_reducible refine hY 85 (cV) ((an y.x A u t k z d)) ?_))
    clear cV bR;generalize ba wr C 8 (an y.x A u t k z d)=de at *;have cI:=bG.box.cell 5 rfl;have cE:=bG.box.free 5 J;have di:=bG.box.cell 24 rfl;have dh:=bG.box.free 24 J;have bC:=((bG.set bF.out 5 (O U 1)).set bF.out 24 (O U 0)).of (inl':=bE page bJ bK h.length (.func (.func f) first bs) 1 op P T m h.length l y.x A u t k z d ab am W 0 done bN) rfl;clear bG;go_upto_region 12 with fail
    clear cI cE di dh;generalize (de.setCell ⟨C,5,V⟩ (O U 1)).setCell ⟨C,24,V⟩ (O U 0)=dF at *;have cI:=bC.box.cell 5 rfl;have cE:=bC.box.free 5 J;have dI:=bC.box.cell 3 rfl;rcases gm h.length with bW|bW
    ·have ds: ((h.length:Int)==0)=true:=by rw [ma];omega
     have cf:=N bW;have ch:=N ((bC.set bF.out 5 (O U 3)).of (inl':=bE page bJ bK h.length (.func (.func f) first bs) 3 op P T m h.length l y.x A u t k z d ab am W 0 done bN) rfl);clear bC bW cU bU cX;go_wp2_with fail;go_end0;rw [←cy.out,a9 cf.out];exact ⟨rfl,S',m,h.length,l,A,u,t,k,z,d,ch.out⟩
    ·have ds: ((h.length:Int)==0)=false:=by rw [ey];omega
     have cf:=N bW;have ch:=N bC;clear bC bW cU bU cX;go_wp2_with fail;go_end0;rw [←cy.out,aS (by have:=cf.out;omega)];exact ⟨rfl,S',m,h.length,l,A,u,t,k,z,d,ch.out⟩
end
theorem Ck{b:ByteArray}(d:gz v b=true)(a:hx v b=V):cY b v.ag=false∧bG b v.ag=0:=by
 by_cases c:cY b v.ag=true
 ·unfold hx at a;rw[a9 c,aS (fun q=>q.elim (fun r=>Bool.noConfusion (d.symm.trans r)) (fun r=>K))]at a;exact absurd a J
 ·by_cases e:bG b v.ag=0
  ·exact⟨by simpa using c,e⟩
  ·unfold hx at a;rw[aS c,aS (fun q=>q.elim (fun r=>Bool.noConfusion (d.symm.trans r)) e)]at a;exact absurd a J
theorem Cm(v:aY)(o:Option ai)(n c:Nat)(a:ByteArray)(w:ad)(k:aZ w o n c v.ag)(z:dZ v)(q:a.size≤maxLen)(g:gz v a=true)(p:hx v a=V):
  ao aj 157 #[fg v o n c,a] w fun u s=>u=ap (a0 #[wk ⟨⟨#[]⟩,0⟩,fR 2])∧Y w s:=by
 have x:Y w ((H w (X (bf v o n c) 95)).alloc (X #[af ⟨#[]⟩,O U 0] 174)):=((Y.refl w).alloc _).alloc _;have B:ae ((H w (X (bf v o n c) 95)).alloc (X #[af ⟨#[]⟩,O U 0] 174)) w.heap.size (bf v o n c):=((ae.new w _ _ rfl).of J).I ((Y.refl _).alloc _);have t:ae ((H w (X (bf v o n c) 95)).alloc (X #[af ⟨#[]⟩,O U 0] 174)) (w.heap.size+1) [af ⟨#[]⟩,O U 0]:=(ae.new (H w _) _ _ dW).of J;have m:=N fun b (y:Y w b)=>ld v o n c a b (aZ.I k y) q;have l:=N fun b=>qM v o n c a b z q;obtain ⟨i,j⟩:=Ck g p;rw [g] at l;rw [i,j] at m;clear g p i j k;go_enter Tryz.func157,Tryz.ntmps157;go_upto_region 1 with fail
 generalize (H w (X (bf v o n c) 95)).alloc (X #[af ⟨#[]⟩,O U 0] 174)=A at *;go_wp2_with (first|(with_reducible refine b0 95 (B) dB ?_)|(go_at_call 126;(refine (m.out _ iB).mono ?_);rintro e b ⟨rfl,d⟩;have r:=B.I d)|(with_reducible refine b0 95 (r) dB ?_)|(go_at_call 125;(refine (l.out _).mono ?_);rintro e D ⟨rfl,f⟩;have h:=t.I (d.trans f);have C:=(d.trans f).le)|(with_reducible refine bq 174 (h) ([af ⟨#[]⟩,O U 0]) ?_));refine bH ((h.aR (us:=[af ⟨#[]⟩,O U 0]) rfl).cK rfl _ rfl rfl mN rfl G) rfl ?_;exact ⟨rfl,((x.trans d).trans f).setCells K _ _⟩
section
variable {bR : ad} {av : List ak}
theorem cd.aU(b:cd bR n hd aF (.aU v) av): ∃ o a c,(av.drop 12).take 9=bf v o a c∧aZ bR o a c v.ag∧dZ v:=by
 obtain⟨g,f,ab,am,W,o,a,c,rfl,d,e⟩:=b;exact⟨o,a,c,rfl,d,e⟩
theorem CE(i:cd bR n hd aF be av)(u:Bool)(z a b:Int)(j:aY)(p:Option ai)(q s:Nat)(w:ad)(M:aZ w p q s j.ag)(aU:dZ j)(o:ByteArray)(Q:o.size≤maxLen)(lim:aK)(wr:Bool){v:aY}(aT:be= .aU v)(al:v.held=false∨wr=false)(am:be.has o=true)(an:wr=true→iT be aF n u j lim=V){c:cw}(aq:hx v o=Z c)(aW:dD bR w):
  ao aj 131 #[aw av,aw (cB u z a b j p q s),o,aw (bC lim),wr] w (jN be (.down c.page) w):=by
 obtain ⟨a5,⟨bb,a4,a9⟩,ax⟩:=i.at;obtain ⟨aN,ar,a6,a7,a8⟩:=i.mo;obtain ⟨A,B,aC,aE,T⟩:=hQ w 170 97 23 239 av (cB u z a b j p q s) (bC lim);have F:=N fun h=>kx i o Q h;have a1:=N fun h (C:Y w h)=>oJ i u z a b j p q s h (aZ.I M C) aU o Q wr;have aa:=N fun h (C:Y w h)=>px i u z a b j p q s h (aZ.I M C) lim;have a2:=N i;have aI:=N i.len;rw [am] at F;subst aT;obtain ⟨k,S,d,ay,aM,aV⟩:=i.aU;have W:=N fun h (C:Y w h)=>Cl v k S d o h (aZ.I (bo.ex cW aM aW) C) aV Q aq;have ag:av[17]?=Z (ah v.held):=ar;have L:av[5]?=Z (ah false):=ax;clear aN ar ax am aq;clear i M;go_enter mP,mQ;go_upto_region 1 with fail
 generalize (((H w (X av 170)).alloc (X (cB u z a b j p q s) 97)).alloc (X (bC lim) 23)).alloc (X bx 239)=a3 at *;have P: (aj.info? 170).map (·.size)=Z av.length:=by rw [aI.out];kernel_rfl
 have R:=dt;have bd:=B.cell 5 L;cases wr
 ·go_wp2_with (first|((with_reducible refine dV (ty:=170) B ?_ ?_ R ?_ ?_ ?_);(focus (exact rfl));(focus (exact ⟨_,rfl,rfl⟩));(focus (exact rfl));(focus (exact P)))|(go_at_call 154;(with_reducible refine (F.out _).mono ?_);rintro e h ⟨rfl,g⟩;have D:=T.I g;have aX:=(B.I g).cell 5 L;have I:=(B.I g).ef 12 (bf v k S d) ay;have aR:=g.le)|(with_reducible refine dc 95 (I) dB ?_)|(go_at_call 157;(with_reducible refine (W.out _ (A.trans g)).mono ?_);rintro e f ⟨rfl,l⟩;have y:ae (H f (X #[af ⟨#[]⟩,O U 0] 174)) f.heap.size [af ⟨#[]⟩,O U 0]:=(ae.new f _ _ rfl).of J;have E:ae ((H f (X #[af ⟨#[]⟩,O U 0] 174)).setCells f 0 [af c.key,O U c.page]) f.heap.size [af c.key,O U c.page]:=y.aR rfl;have m:Y f ((H f (X #[af ⟨#[]⟩,O U 0] 174)).setCells f 0 [af c.key,O U c.page]):=((Y.refl f).alloc _).setCells (aG _) _ _;have x:=D.I (l.trans m);have aS:=(l.trans m).le;have aL:=E.cell 1 rfl)|(with_reducible refine bq 174 (y) ([af c.key,O U c.page]) ?_)|(with_reducible refine bq 239 (x) ((bs 1 c.page ⟨#[]⟩ 0 0 0 ⟨#[]⟩)) ?_));refine bH ((x.aR (us:=bs 1 c.page ⟨#[]⟩ 0 0 0 ⟨#[]⟩) rfl).e7 rfl _ rfl eG rfl G) rfl ?_;exact ⟨rfl,((A.trans g).trans (l.trans m)).setCells K _ _⟩
 ·have az:v.held=false:=by rcases al with q|q;exact q;cases q
  rw [az] at ag;have bc:=B.cell 17 ag;rw [an rfl] at aa;clear an al az;go_wp2_with (first|((with_reducible refine dV (ty:=170) B ?_ ?_ R ?_ ?_ ?_);(focus (exact rfl));(focus (exact ⟨_,rfl,rfl⟩));(focus (exact rfl));(focus (exact P)))|(go_at_call 154;(with_reducible refine (F.out _).mono ?_);rintro e h ⟨rfl,g⟩;have aA:=B.I g;have aD:=aC.I g;have aH:=aE.I g)|((with_reducible refine dV (ty:=170) aA ?_ ?_ R ?_ ?_ ?_);(focus (exact rfl));(focus (exact ⟨_,rfl,rfl⟩));(focus (exact rfl));(focus (exact P)))|(with_reducible refine b0 97 (aD) mR ?_)|(with_reducible refine b0 23 (aH) fO ?_)|(go_at_call 156;(with_reducible refine (aa.out _ (A.trans g)).mono ?_);rintro e r ⟨⟨ab,rfl⟩,aO⟩;have aJ:ae (H r (X bx 239)) r.heap.size bx:=(ae.new r _ _ rfl).of J;have aP:=g.trans aO;have aQ:Y r ((H r (X bx 239)).setCells r 0 (bs ab 0 ⟨#[]⟩ 0 0 0 ⟨#[]⟩)):=((Y.refl r).alloc _).setCells (aG _) _ _;have t:=aP.trans aQ;have D:=T.I t;have aX:=(B.I t).cell 5 L;have I:=(B.I t).ef 12 (bf v k S d) ay;have aR:=t.le)|(with_reducible refine bq 239 (aJ) ((bs ab 0 ⟨#[]⟩ 0 0 0 ⟨#[]⟩)) ?_)|(with_reducible refine dc 95 (I) dB ?_)|(go_at_call 157;(with_reducible refine (W.out _ (A.trans t)).mono ?_);rintro e f ⟨rfl,l⟩;have y:ae (H f (X #[af ⟨#[]⟩,O U 0] 174)) f.heap.size [af ⟨#[]⟩,O U 0]:=(ae.new f _ _ rfl).of J;have E:ae ((H f (X #[af ⟨#[]⟩,O U 0] 174)).setCells f 0 [af c.key,O U c.page]) f.heap.size [af c.key,O U c.page]:=y.aR rfl;have m:Y f ((H f (X #[af ⟨#[]⟩,O U 0] 174)).setCells f 0 [af c.key,O U c.page]):=((Y.refl f).alloc _).setCells (aG _) _ _;have x:=D.I (l.trans m);have aS:=(l.trans m).le;have aL:=E.cell 1 rfl)|(with_reducible refine bq 174 (y) ([af c.key,O U c.page]) ?_)|(with_reducible refine bq 239 (x) ((bs 1 c.page ⟨#[]⟩ 0 0 0 ⟨#[]⟩)) ?_));refine bH ((x.aR (us:=bs 1 c.page ⟨#[]⟩ 0 0 0 ⟨#[]⟩) rfl).e7 rfl _ rfl eG rfl G) rfl ?_;exact ⟨rfl,((A.trans t).trans (l.trans m)).setCells K _ _⟩
theorem CL(h:cd bR n hd aF be av)(t:Bool)(y a b:Int)(i:aY)(p:Option ai)(q r:Nat)(w:ad)(M:aZ w p q r i.ag)(aT:dZ i)(m:ByteArray)(Q:m.size≤maxLen)(lim:aK)(wr:Bool){v:aY}(aS:be= .aU v)(al:v.held=false∨wr=false)(I:be.has m=true)(am:wr=true→iT be aF n t i lim=V)(an:hx v m=V)(aV:dD bR w):
  ao aj 131 #[aw av,aw (cB t y a b i p q r),m,aw (bC lim),wr] w (jN be .again w):=by
 obtain ⟨a4,⟨a9,a3,a8⟩,ar⟩:=h.at;obtain ⟨aM,aq,a5,a6,a7⟩:=h.mo;obtain ⟨z,B,aA,aD,T⟩:=hQ w 170 97 23 239 av (cB t y a b i p q r) (bC lim);have E:=N fun g=>kx h m Q g;have aX:=N fun g (A:Y w g)=>oJ h t y a b i p q r g (aZ.I M A) aT m Q wr;have aa:=N fun g (A:Y w g)=>px h t y a b i p q r g (aZ.I M A) lim;have a1:=N h;have aH:=N h.len;rw [I] at E;subst aS;obtain ⟨k,S,d,ax,aL,aU⟩:=h.aU;have W:=N fun g (A:Y w g)=>Cm v k S d m g (aZ.I (bo.ex cW aL aV) A) aU Q I an;have ag:av[17]?=Z (ah v.held):=aq;have L:av[5]?=Z (ah false):=ar;clear aM aq ar I an;clear h M;go_enter mP,mQ;go_upto_region 1 with fail
 generalize (((H w (X av 170)).alloc (X (cB t y a b i p q r) 97)).alloc (X (bC lim) 23)).alloc (X bx 239)=a2 at *;have P: (aj.info? 170).map (·.size)=Z av.length:=by rw [aH.out];kernel_rfl
 have R:=dt;have bc:=B.cell 5 L;cases wr
 ·go_wp2_with (first|((with_reducible refine dV (ty:=170) B ?_ ?_ R ?_ ?_ ?_);(focus (exact rfl));(focus (exact ⟨_,rfl,rfl⟩));(focus (exact rfl));(focus (exact P)))|(go_at_call 154;(with_reducible refine (E.out _).mono ?_);rintro e g ⟨rfl,f⟩;have C:=T.I f;have aW:=(B.I f).cell 5 L;have F:=(B.I f).ef 12 (bf v k S d) ax;have aQ:=f.le)|(with_reducible refine dc 95 (F) dB ?_)|(go_at_call 157;(with_reducible refine (W.out _ (z.trans f)).mono ?_);rintro e c ⟨rfl,j⟩;have x:ae (H c (X #[af ⟨#[]⟩,O U 0] 174)) c.heap.size [af ⟨#[]⟩,O U 0]:=(ae.new c _ _ rfl).of J;have D:ae ((H c (X #[af ⟨#[]⟩,O U 0] 174)).setCells c 0 [af ⟨#[]⟩,O U 0]) c.heap.size [af ⟨#[]⟩,O U 0]:=x.aR rfl;have l:Y c ((H c (X #[af ⟨#[]⟩,O U 0] 174)).setCells c 0 [af ⟨#[]⟩,O U 0]):=((Y.refl c).alloc _).setCells (aG _) _ _;have u:=C.I (j.trans l);have aR:=(j.trans l).le;have aJ:=D.cell 1 rfl)|(with_reducible refine bq 174 (x) ([af ⟨#[]⟩,O U 0]) ?_)|(with_reducible refine bq 239 (u) ((bs 3 0 ⟨#[]⟩ 0 0 0 ⟨#[]⟩)) ?_));refine bH ((u.aR (us:=bs 3 0 ⟨#[]⟩ 0 0 0 ⟨#[]⟩) rfl).e7 rfl _ rfl eG rfl G) rfl ?_;exact ⟨rfl,((z.trans f).trans (j.trans l)).setCells K _ _⟩
 ·have ay:v.held=false:=by rcases al with q|q;exact q;cases q
  rw [ay] at ag;have bb:=B.cell 17 ag;rw [am rfl] at aa;clear am al ay;go_wp2_with (first|((with_reducible refine dV (ty:=170) B ?_ ?_ R ?_ ?_ ?_);(focus (exact rfl));(focus (exact ⟨_,rfl,rfl⟩));(focus (exact rfl));(focus (exact P)))|(go_at_call 154;(with_reducible refine (E.out _).mono ?_);rintro e g ⟨rfl,f⟩;have az:=B.I f;have aC:=aA.I f;have aE:=aD.I f)|((with_reducible refine dV (ty:=170) az ?_ ?_ R ?_ ?_ ?_);(focus (exact rfl));(focus (exact ⟨_,rfl,rfl⟩));(focus (exact rfl));(focus (exact P)))|(with_reducible refine b0 97 (aC) mR ?_)|(with_reducible refine b0 23 (aE) fO ?_)|(go_at_call 156;(with_reducible refine (aa.out _ (z.trans f)).mono ?_);rintro e o ⟨⟨ab,rfl⟩,aN⟩;have aI:ae (H o (X bx 239)) o.heap.size bx:=(ae.new o _ _ rfl).of J;have aO:=f.trans aN;have aP:Y o ((H o (X bx 239)).setCells o 0 (bs ab 0 ⟨#[]⟩ 0 0 0 ⟨#[]⟩)):=((Y.refl o).alloc _).setCells (aG _) _ _;have s:=aO.trans aP;have C:=T.I s;have aW:=(B.I s).cell 5 L;have F:=(B.I s).ef 12 (bf v k S d) ax;have aQ:=s.le)|(with_reducible refine bq 239 (aI) ((bs ab 0 ⟨#[]⟩ 0 0 0 ⟨#[]⟩)) ?_)|(with_reducible refine dc 95 (F) dB ?_)|(go_at_call 157;(with_reducible refine (W.out _ (z.trans s)).mono ?_);rintro e c ⟨rfl,j⟩;have x:ae (H c (X #[af ⟨#[]⟩,O U 0] 174)) c.heap.size [af ⟨#[]⟩,O U 0]:=(ae.new c _ _ rfl).of J;have D:ae ((H c (X #[af ⟨#[]⟩,O U 0] 174)).setCells c 0 [af ⟨#[]⟩,O U 0]) c.heap.size [af ⟨#[]⟩,O U 0]:=x.aR rfl;have l:Y c ((H c (X #[af ⟨#[]⟩,O U 0] 174)).setCells c 0 [af ⟨#[]⟩,O U 0]):=((Y.refl c).alloc _).setCells (aG _) _ _;have u:=C.I (j.trans l);have aR:=(j.trans l).le;have aJ:=D.cell 1 rfl)|(with_reducible refine bq 174 (x) ([af ⟨#[]⟩,O U 0]) ?_)|(with_reducible refine bq 239 (u) ((bs 3 0 ⟨#[]⟩ 0 0 0 ⟨#[]⟩)) ?_));refine bH ((u.aR (us:=bs 3 0 ⟨#[]⟩ 0 0 0 ⟨#[]⟩) rfl).e7 rfl _ rfl eG rfl G) rfl ?_;exact ⟨rfl,((z.trans s).trans (j.trans l)).setCells K _ _⟩
end
theorem FG{c:List ar}{v:bl}(a:dw c=Z (.leaf v)): (g8 (eQ c)).1=Z v:=by
 unfold dw at a;cases e:c.getLast? with
 |none=>rw[e]at a;cases a
 |some b=>
  rw[e]at a;dsimp only at a;split at a
  ·cases d: (g8 (eQ c)).1 with
   |none=>rw[d]at a;cases a
   |some x=>rw[d]at a;simp only[iz,eS,aT.leaf.injEq]at a;rw[a]
  ·cases d:foldI c with
   |none=>rw[d]at a;cases a
   |some x=>rw[d]at a;cases a
section
theorem EZ(e:km lim E n aF bA): ∃ ax v d rest,dS lim E ax∧ax.n=n∧ax.nd= .leaf v∧aF=d+1∧bA=v.rows++rest∧((v.unb=true∧rest=[])∨(v.unb=false∧km lim E v.right d rest)):=by
 cases e with
 |last a c b=>exact⟨_,_,0,[],a,rfl,c,rfl,J,.inl ⟨b,rfl⟩⟩
 |more a c b f=>exact⟨_,_,_,_,a,rfl,c,rfl,rfl,.inr ⟨b,f⟩⟩
theorem DB(b:dS lim E ax){v:bl}(k:ax.nd= .leaf v)(g:aX D S s lim E)(d:Option ai)(a:Nat)(w:ad)(h:fr w d ax.ek.length a ax.ek):
  ao aj 41 #[ac d ax.ek.length a] w fun e s=> ∃ o c,e=ap (a0 #[eE v o v.rows.length c,aB])∧br s w o v.rows.length c v.rows∧Y w s:=by
 have f:=b.nd;rw[k]at f;have j:=FG f;refine(wK d ax.ek.length a ax.ek w h (pf g b) fun i y l=>(b.fit y (iV l)).1).mono fun e r q=>?_;unfold sc at q;rw[j]at q;obtain⟨o,n,c,M,F,p,m⟩:=q;obtain rfl:v.rows.length=n:=F.rows.len;exact⟨o,c,M,F,m⟩
abbrev nX (v:bl) (b:Option ai) (n a:Nat):List ak:=[af v.low,af v.high,ah v.unb,O U v.right,ac b n a,ah v.gone]
abbrev n3:List ak:=[af ⟨#[]⟩,af ⟨#[]⟩,ah false,O U 0,ac V 0 0,ah false]
theorem yX{bf am:Nat}{an:Int}(h:aX D S w lim E)(aS:jL lim E 0 bf an)(a5:bf≤eY E)(l:km lim E an am bA)(bF:am≤eY E)(a8:bA.length≤1000000):
  ao aj 15 #[aa D.m] w fun e s=> ∃ o c,e=ap (a0 #[ac o bA.length c,aB])∧bk s o bA.length c bA∧Y w s:=by
 have bH:eY E≤1000:=by
  have aR:eY E≤E.ax.length:=kg _ _;rw [h.fB] at aR;have:=h.lim.ax;omega
 have aE:=N (E3 h aS a5);have aI:=N fun ar (P:Y w ar)=>yn (h.I P);have aD:=N h;have aJ:=N l;have bi:=N a8;clear h aS a5 l a8;generalize eY E=B at *;go_enter Tryz.func15,Tryz.ntmps15;go_upto_region 6 with (go_at_call 38;(with_reducible refine aE.out.mono ?_);rintro e ar ⟨rfl,Q⟩)
 have aH:=N (aI.out ar Q);clear aI aE;go_upto_region 8 with (go_at_call 39;(with_reducible refine aH.out.mono ?_);rintro e av ⟨bJ,c,rfl,a2⟩)
 have P:=Q.trans a2;clear Q a2 aH;go_loopw [4,6,25] (fun bw bx aq wr=> ∃ (i aF:Nat) (n:Int) (o:Option ai) (b d:Nat) (f rest:List aN),bw=O U n∧bx=ac o b d∧aq=O U (i:Int)∧i+aF≤B∧Hid (km lim E n aF rest)∧Hid (bA=f++rest)∧Hid (br wr w o b d f)∧Y w wr) (fun _ _ aq _=>B - (intOf aq).toNat)
 case atStart=>exact ⟨0,am,an,V,0,0,[],bA,rfl,rfl,rfl,K,aJ,N rfl,N (q8 _ _),P⟩
 case round=>
  obtain ⟨i,aF,n,o,b,d,f,rest,rfl,rfl,rfl,bE,l,a6,j,T⟩:=hrel;obtain ⟨ax,v,bt,bv,I,aW,aY,rfl,be,a1⟩:=EZ l.out;have bW:=N (sP (aD.out.I T) I);rw [aW] at bW;have aA:=N fun av x p (bo:fr av x ax.ek.length p ax.ek)=>DB I aY aD.out x p av bo;have A:=N a1;have u:=a6.out;rw [be] at u;have aL:=N u;have bG:b+v.rows.length≤1000000:=by
   have aR:=j.out.rows.len;have bn:=bi.out;rw [u,dG,dG] at bn;omega
  have bD:i < B:=K;have bI:IntKind.i64.wrap ((i:Int)+1)=(i:Int)+1:=e0 _ K;clear a1 be u a6 l I aW aY aJ;go_upto_region 12 with (go_at_call 40;(with_reducible refine bW.out.mono ?_);rintro e bB ⟨x,p,ab,W,rfl,aZ,bp,R⟩)
  have aC:=N (aA.out bB x p aZ);have G:=j.out.I R;have a3:=T.trans R;clear aZ bp aA bW j T R;go_upto_region 13 with (first|(go_at_call 41;(with_reducible refine aC.out.mono ?_);rintro e a ⟨cQ,g,rfl,aT,r⟩;have F:ae (H a (X n3 119)) a.heap.size n3:=(ae.new a _ _ rfl).of J)|(with_reducible refine bq 119 (F) ((nX v cQ v.rows.length g)) ?_))
  have k:ae ((H a (X n3 119)).setCells a 0 (nX v cQ v.rows.length g)) a.heap.size (nX v cQ v.rows.length g):=F.aR rfl;have t:Y a ((H a (X n3 119)).setCells a 0 (nX v cQ v.rows.length g)):=((Y.refl a).alloc _).setCells (aG _) _ _;have aU:=(G.I r).I t;have bd:=aT.rows.I t;have bb:Value.ownBlock (ac o b d)≠Z a.heap.size:=fun e=>dk _ ((G.I r).own.lt _ e).2;have ag:=(a3.trans r).trans t;clear F G aT r t a3 aC;(try simp only [Act.put]);show Code.wp _ _ _ _ ((H a (X n3 119)).setCells a 0 (nX v cQ v.rows.length g));generalize (H a (X n3 119)).setCells a 0 (nX v cQ v.rows.length g)=bK at *;generalize a.heap.size=bm at *;have ay:=k.cell 2 rfl;have bh:=k.cell 3 rfl;have bC:=k.cell 4 rfl;have y:=N aU;have aP:=N bd;have az:=N k;have aK:=N ag;clear aU bd k;have M:=ag.le;have aO:Hid (Value.ownBlock (ac o b d)≠Z bm):=bb;clear bb;go_upto_region 16 with (at_builtin;refine zO rfl _ _ rfl rfl y.out rfl aP.out K M ?_;intro bg aQ bL aV L)
  have a4:=kP aK.out L M (fun q bs=>(y.out.own.lt q bs).1);have C:=ej L aO.out az.out;have ay:=C.cell 2 rfl;have bh:=C.cell 3 rfl;have z:=N aV;clear bC L ag aV C az M aK y aP aO;have al:b+v.rows.length=(f++v.rows).length:=z.out.rows.len.symm;rcases A.out with ⟨m,bc⟩|⟨m,a9⟩
  ·rw [m] at ay;have a7:bA=f++v.rows:=by
    have:=aL.out;rw [bc,me] at this;exact this
   have aM:=N a7;have bj:=N al;clear a7 al bh A m bc;go_wp2_with fail;go_ret2;have e:b+v.rows.length=bA.length:=by rw [aM.out];exact bj.out
   have j:=z.out.rows;rw [←aM.out,e] at j;exact ⟨bg,aQ,by rw [e];rfl,j,a4⟩
  ·rw [m] at ay;have bl:=N a9;clear A m a9 al;go_wp2_with fail;go_roundw
   case rel=>exact ⟨i+1,bt,v.right,bg,b+v.rows.length,aQ,f++v.rows,bv,rfl,rfl,rfl,K,bl,N (by rw [aL.out,lq]),z,a4⟩
   case measure=>simp [intOf];omega
end
abbrev bD (S:List Nat) (w:ad) (S':List Nat) (s:ad):Prop:=bn [] 0 S w S' s
theorem bn.goes{a:List Nat}(c:bn a B S w S' s):bD S w S' s:=c.wide fun b _ _=> .inr (aJ _)
section
variable {b1 : az} {aH : Nat} {bw bY : bU} {bQ : List ak}
structure Al (D:aV) (S:List Nat) (w:ad) (lim:aK) (E:az) (aH:Nat) (bw:bU) (m:Option ai) (I l:Nat) (bQ:List ak) (a a4 bL p:Nat) (hd r:aA) (h:List ar) (rs:List aA):Prop where
 ev:aP D S w lim E aH bw m I l bQ
 nx:bw.nx= .func (.func 99) #[] #[aa a4,aa bL]
 hR: (ay w S).cell? ⟨a4,0,V⟩=Z (aa a)
 c2: (ay w S).cell? ⟨bL,0,V⟩=Z (aa aH)
 L:gZ a S w a p hd (Z r) false h rs
 e4: ∀ b∈D.l,b < a
 cH:aH < a
theorem ud(a:aP D S w lim E aH bw m I l bQ)(f:bw.nx= .func (.func 99) #[] #[aa a4,aa bL])(c:ao aj 99 #[aa D.m,aa a4,aa bL] w fun e s=> ∃ b,e=ap (ah b)∧Q e s):
  ao aj 10 #[aa aH,aa D.m] w Q:=by
 have d:w.cell? ⟨aH,11,V⟩=Z (.func (.func 99) #[] #[aa a4,aa bL]):=by rw[←f];exact a.box.cell 11 rfl
 exact pq (first:= #[]) (cap:= #[aa a4,aa bL]) d Dl c
theorem E9{f p:Nat}: ∀ (k:List aA) (c:List ar) (r:aA) (y:ar) (h:List ar) (rs:List aA) (j:List Nat) (i:ad),
  Al D j i lim E aH bw m I l bQ f a4 bL p hd r h rs→fp E (r::k) (y::c)→(∀ x∈y::c,bT x)→h.length=rs.length→(rs++r::k).length≤lim.aQ→(∀ x∈h++y::c,bT x)→dw (h++y::c)=Z be→bD S w j i→
  (∀ s S' av,aP D S' s lim E aH bw m I l bQ→cd (ay s S') p hd (h++y::c).length be av→bD S w S' s→ao aj 103 #[aa aH,aw av,aw (bC lim)] s fun e ae=> ∃ b,e=ap (ah b)∧Q e ae)→
  a7 D aH (k.length+1) i Q:=by
 intro k;induction k with
 |nil=>
  intro c r y h rs j i a B o u g C N G z;obtain ⟨L,P,n⟩:=B;cases c with
  |cons ax c=>exact n.elim
  |nil=>
   have am:=a.ev.mem.lim.aQ;rw [dG] at g;refine a7.one (ud a.ev a.nx ?_);have A:=ri a.ev.mem a.e4 a.L L (o y J) (nx:=V) P u (by simp at g;omega) (.inl rfl);refine Iz (R:=fun e s=> ∃ S',gZ f S' s f p hd V true (h++[y]) (rs++[r])∧aX D S' s lim E∧bn D.l f j i S' s) ((bp.1 a.hR).2) (A.mono fun e s ⟨M,F⟩=>⟨M,F⟩) (fun e s ⟨S',M,F,d⟩=>⟨((dv _ _).cell _ _ _ (d.aL.cell _ _ _ a.hR)),((dv _ _).cell _ _ _ (d.aL.cell _ _ _ a.c2))⟩) (fun e s ⟨S',M,F,d⟩=>yl F.old M (by simp at g ⊢;omega) (by simp at g ⊢;omega) C N) (fun e s ab ⟨S',M,F,d⟩ t=>qU (F.I t)) (fun e s ab av ⟨S',M,F,d⟩ t al=>?_);have ag:=(a.ev.av d F ⟨a.ev.c5,a.cH⟩).aC t;exact (z ab S' av ag (al S' F.old) (G.trans (d.goes.trans t.av))).mono fun e ae ⟨b,W,q⟩=>⟨b,W,b,W,q⟩
 |cons T k ih=>
  intro c r y h rs j i a B o u g C N G z;obtain ⟨L,P,n⟩:=B;cases c with
  |nil=>exact n.elim
  |cons aq c=>
   have am:=a.ev.mem.lim.aQ;have K:=g;rw [dG] at K;have A:=ri a.ev.mem a.e4 a.L L (o y J) (nx:=Z T) P u (by simp at K;omega) (.inr (by simp at K;omega));refine a7.then (ud a.ev a.nx ((zJ (R:=fun s=> ∃ S',gZ f S' s f p hd (Z T) false (h++[y]) (rs++[r])∧aX D S' s lim E∧bn D.l f j i S' s) ((bp.1 a.hR).2) (A.mono fun e s ⟨M,F⟩=>⟨M,F⟩)).mono fun e s q=>⟨false,q.1,q⟩)) fun e s ⟨M,S',F,d,v⟩=>⟨M,?_⟩;refine ih c T aq (h++[y]) (rs++[r]) S' s ⟨a.ev.av v d ⟨a.ev.c5,a.cH⟩,a.nx,v.aL.cell _ _ _ a.hR,v.aL.cell _ _ _ a.c2,F,a.e4,a.cH⟩ n (fun x an=>o x (h5 _ an)) (by simp [u]) (by simpa using g) (by simpa using C) (by simpa using N) (G.trans v.goes) ?_;simpa using z
theorem tJ(c:aP D S w lim E aH bw m I l bQ)(G:ff D S w aH bw ax.n)(A:dS lim E ax)(j:ax.refs.head?=Z hd)
  (z: ∀ s S' av,aP D S' s lim E aH bw m I l bQ→cd (ay s S') ax.n hd ax.refs.length ax.nd av→bD S w S' s→ao aj 103 #[aa aH,aw av,aw (bC lim)] s fun e ab=> ∃ b,e=ap (ah b)∧Q e ab):
  a7 D aH (1+ax.refs.length) w Q:=by
 obtain ⟨n,W,T,be⟩:=ax;obtain ⟨p,C⟩:=fP A.hU;dsimp only at C j G z ⊢;subst C;obtain ⟨d,a4,bL,a⟩:=G;obtain ⟨t,K,u,f,v,x,i⟩:=A;dsimp only at t K u f v x i;cases W with
 |nil=>exact absurd rfl t
 |cons r rs=>
  simp only [List.head?_cons,eS] at j;subst j;cases T with
  |nil=>exact f.elim
  |cons y h=>
   rw [show 1+(r::rs).length=(rs.length+1)+1 by simp;omega];have N:d∉D.l:=fun q=>dk _ (a.e4 _ q);have L:=zc (hd:=r) c.mem a.e2 N a.box (by simpa using u);refine a7.then (ud c a.nx ((zJ (R:=fun s=>ae s d (gB p true false ((r.i:Int)+1) (r.g:Int) ((r.i:Int)+1) (r.g:Int) V 0 0 V 0 0 aB)∧aX D S s lim E∧Mod [D.m,d] w s) ((bp.1 a.hR).2) (L.mono fun e s ⟨M,F,k,o⟩=>⟨M,F,k,o⟩)).mono fun e s q=>⟨false,q.1,q⟩)) fun e s ⟨M,F,k,o⟩=>⟨M,?_⟩;have g:bn D.l d S w S s:=o.av fun b B=>by
    simp only [bd,c0,db] at B;rcases B with rfl|rfl
    ·exact ⟨c.mem.sub _ J,.inl J⟩
    ·exact ⟨a.e2,.inr (aG _)⟩
   have P:=f.len;refine E9 (S:=S) (w:=w) rs h r y [] [] S s ⟨c.av g k ⟨c.c5,a.cH⟩,a.nx,g.aL.cell _ _ _ a.hR,g.aL.cell _ _ _ a.c2,gZ.first a.e2 (aG _) F,a.e4,a.cH⟩ f i rfl (by simpa using x) (by simpa using i) v g.goes ?_;rw [gJ,P];exact z
end
end Go.Proofs.YtbkmjhhpcinppaaGreatDoor
