import Derived.Test.YtbkmjhhpcinppaaGreatDoorQ32
namespace Go.Proofs.YtbkmjhhpcinppaaGreatDoor
set_option linter.unusedVariables false
set_option linter.defProp false
set_option linter.unusedSimpArgs false
set_option maxRecDepth 100000
set_option maxHeartbeats 40000000
open Ending renaming returned→ap
open Go renaming Addr→ai,Calls→ao,Value→ak,World→ad
open Go.Proofs.Tryz renaming prog→aj
open IntKind renaming i64→U
open Obj renaming cells→X
open Option renaming none→V,some→Z
open Value renaming agg→aw,bool→ah,int→O,nilIface→aB,pointer→au,slice→ac,string→af,tuple→a0
open World renaming alloc→H
variable {M ar C W : List bK} {D av : bU} {f : aV} {u : List ByteArray} {g am al E : az} {an : ad → Prop} {S P : List Nat} {z w d T : ad} {bt p k n s : Nat} {c B : cV} {lim : aK} {o j : Option ai} {A ag x y : Int} {r : g3} {F : List aN} {v : ak} {m : List ak}
section
open Go.BigFrame Go.RowKit Go.WideShapes
theorem zL(t:Nat)(c:t≤1099511627776): (Lit.int U (t:Int)).wf=true:=by
 show (decide (IntKind.min U≤(t:Int)) && decide ((t:Int)≤IntKind.max U))=true;have a:IntKind.min U= -9223372036854775808:=bP;have b:IntKind.max U=9223372036854775807:=bP;rw [a,b,fZ];exact ⟨eo K,eo K⟩
section
variable {c t : Nat} 
theorem bU.Hh{a:List ak}(v:ak)(b:D.bO=a): ({D with nx:=v}:bU)={D with bO:=a,nx:=v}:=by rw[←b]
def kX (f:aV) (S:List Nat) (lim:aK) (g:az) (bt:Nat) (D:bU) (j:Option ai) (s p:Nat) (m:List ak) (A ag:Int) (C:List bK) (w:ad) (e:Ending) (d:ad):Prop:=
 bD S w S d∧∃ o n c x y,kl S d o n c C∧e=ap (ah C.isEmpty)∧(C=[]→aP f S d lim g bt {D with bO:=dT A ag o n c x y,nx:= .nilFunc} j s p m)∧
  ∀ b a,C=b::a→aP f S d lim g bt {D with bO:=dT A ag o n c (a4 b.refs.head?).1 (a4 b.refs.head?).2,nx:=nI bt} j s p m
theorem kX.to{e:Ending}(a:kX f S lim g bt D j s p m A ag C w e d)(b:bD S T S w):kX f S lim g bt D j s p m A ag C T e d:=⟨b.trans a.1,a.2⟩
theorem tt{nx:ak}(r:aP f S w lim g bt {D with bO:=dT A ag o n c x y,nx:=nx} j s p m)(k:kl S w o n c C):
  ao aj 176 #[aa bt] w fun e d=> ∃ t,e=ap (ah t)∧kX f S lim g bt D j s p m A ag C w e d:=by
 cases C with
 |nil=>
  have v:n=0:=by have:=k.len;simp at this;omega
  subst v;exact(EI r rfl).mono fun e d ⟨a,l,i⟩=>⟨true,a,i,o,0,c,x,y,bo.ex fy k i.aL,a,fun _=>l,fun b u q=>by cases q⟩
 |cons b C=>
  exact(EH r rfl k).mono fun e d ⟨a,l,i⟩=>⟨false,a,i,o,n,c,x,y,bo.ex fy k i.aL,a,fun q=>(by cases q),fun z u q=>by cases q;exact l⟩
theorem Fb(F:aP f S w lim g bt D j s p m)(av:D.bO=dT A (t:Int) V 0 0 0 0)(M:t+1=lim.cO)(be:lim.cO≤1000000)(aV:g.ins=V)(n:D.bin.length≤1000000):
  ao aj 153 #[aa bt,aa f.m] w fun e d=> ∃ T,e=ap (ah T)∧∃ Q P C,kX f S lim g bt {D with bin:=iQ A D.bin} Q P C m A ((t:Int)+1) (jq A D.bin) w e d:=by
 have aW:=zL t K;have bh:IntKind.i64.wrap ((t:Int)+1)=(t:Int)+1:=e0 _ K;have az:=N (vG F.mem (i:=t) K aV aW);have E:w.cell? ⟨bt,26,V⟩=Z (O U (t:Int)):=F.iw 1 (by rw [av];rfl);have aF:=N F;have aK:=N av;have a2:=N M;have a1:=N n;clear F av aV aW M n;go_enter Tryz.func153,Tryz.ntmps153;go_upto_region 3 with (go_at_call 174;(with_reducible refine az.out.mono ?_);rintro e r ⟨rfl,aQ,ar⟩)
 have I:=aF.out.acc aQ ar J;have aR:bD S w S r:=ar.av fun b n=>by
  rw [aO.1 n];exact ⟨aF.out.mem.sub _ J,.inr (aJ _)⟩
 have a4:r.cell? ⟨bt,26,V⟩=Z (O U (t:Int)):=I.iw 1 (by rw [aK.out];rfl);have a7:r.frozen? ⟨bt,26,V⟩=false:=I.rk 1 K;have R:=N I;have aA:=N aR;clear I aR aQ ar E az;go_upto_region 6 with fail
 have W:=R.out.nS 1 (O U ((t:Int)+1));have aT:Mod [bt] r (r.setCell ⟨bt,26,V⟩ (O U ((t:Int)+1))):=Mod.setCell _ _ _ J;have aC:=N (aA.out.trans (aT.av fun b n=>by rw [aO.1 n];exact ⟨R.out.cE,.inr (aJ _)⟩));have aM:D.bO.set 1 (O U ((t:Int)+1))=dT A ((t:Int)+1) V 0 0 0 0:=by rw [aK.out];rfl
 rw [aM] at W;have B:=N W;clear a4 a7 aT W aA R aM;(try simp only [Act.put]);show Code.wp _ _ _ _ (r.setCell ⟨bt,25+1,V⟩ (O U ((t:Int)+1)));generalize r.setCell ⟨bt,25+1,V⟩ (O U ((t:Int)+1))=ax at *;have E:ax.cell? ⟨bt,26,V⟩=Z (O U ((t:Int)+1)):=B.out.iw 1 rfl;refine cZ (fun _=>True) (fun d=>d.cell? ⟨bt,26,V⟩=Z (O U ((t:Int)+1))) 7 G ?_;have a:True:=trivial;have k:=(Y.refl ax).drew;have hKC:=k.I E;have aG:=N (qU (B.out.mem.I k));generalize ax.drew=a3 at *;refine' aI 0 39 (au (Z ⟨bt,25,V⟩)) rfl a hKC ?_;refine' aI 1 40 (au (Z ⟨bt,25,V⟩)) rfl a hKC ?_;refine' aI 2 41 (au (Z ⟨bt,26,V⟩)) rfl a hKC ?_;refine' bc (v:=O U ((t:Int)+1)) 3 42 rfl (.inl ⟨aq,?_⟩) a hKC ?_
 ·(intro w y;have bd:=y.2;clear y;go_simp)
 refine' aI 4 43 (aa f.m) rfl a hKC ?_;refine b4 5 (Z 44) rfl (fun o c=>?_);go_simp;go_at_call 104;refine aG.out.mono ?_;rintro e ay ⟨rfl,am⟩;have q:=am.I hKC;refine a5 c (trivial) (fun _=>q) ?_;clear c o;have hKC:=q;have bf:=xO lim;refine' aI 6 45 (O U (lim.cO:Int)) rfl a hKC ?_;have M:=a2.out;have bg:decide ((t:Int)+1 < (lim.cO:Int))=false:=dz K;clear M;refine cg 7 (Z 46) rfl (fun o c=>?_);go_simp;refine bM c (trivial) ?_;clear c o;refine cC G ?_;have al:=k.trans am;have ab:=B.out.aC al;have aD:=N (aC.out.trans (Y.av (L:=[]) (B0:=0) al));have aL:ay.cell? ⟨bt,25,V⟩=Z (O U A):=ab.iw 0 rfl;have aX:=N ab;clear hKC q al am k ab E aG aC B;go_upto_region 8 with fail
 refine cZ (fun _=>True) (fun d=>d.cell? ⟨bt,25,V⟩=Z (O U A)) 8 G ?_;have a:True:=trivial;have k:=(Y.refl ay).drew;have hKC:=k.I aL;have ae:=aX.out.aC k;have aH:=N (Gy ae (by rw [←ae.bin.len];exact a1.out) A);have aE:=N (aD.out.trans (Y.av (L:=[]) (B0:=0) k));clear ae aL k aD;generalize ay.drew=a3 at *;refine' a8 0 47 (au (Z ⟨bt,25,V⟩)) rfl a ?_;refine' aI 1 48 (aa bt) rfl a hKC ?_;refine' aI 2 49 (aa bt) rfl a hKC ?_;refine' aI 3 50 (au (Z ⟨bt,1,V⟩)) rfl a hKC ?_;refine' aI 4 51 (au (Z ⟨bt,25,V⟩)) rfl a hKC ?_;refine' aI 5 52 (au (Z ⟨bt,25,V⟩)) rfl a hKC ?_;refine' aI 6 53 (au (Z ⟨bt,25,V⟩)) rfl a hKC ?_;refine' bc (v:=O U A) 7 54 rfl (.inl ⟨aq,?_⟩) a hKC ?_
 ·(intro w y;have bd:=y.2;clear y;go_simp)
 refine b4 8 (Z 55) rfl (fun o c=>?_);go_simp;go_at_call 175;refine aH.out.mono ?_;rintro e l ⟨z,no,x,Q,P,C,rfl,aN,u,aS⟩;have q:l.cell? ⟨bt,25,V⟩=Z (O U A):=u.iw 0 rfl;refine a5 c (trivial) (fun _=>q) ?_;clear c o;have hKC:=q;have a6:l.cell? ⟨bt,27,V⟩=Z (ac V 0 0):=u.iw 2 rfl;have a9:l.frozen? ⟨bt,27,V⟩=false:=u.rk 2 K;refine' a8 9 56 (au (Z ⟨bt,25,V⟩)) rfl a ?_;refine' a8 10 57 (au (Z ⟨bt,27,V⟩)) rfl a ?_;refine cg 11 (V) rfl (fun o c=>?_);go_simp;refine bM c (trivial) ?_;clear c o;refine cC G ?_;have ag:=u.nS 2 (ac z no x);change aP f S (l.setCell ⟨bt,27,V⟩ (ac z no x)) lim g bt _ Q P C m at ag;have aU:Mod [bt] l (l.setCell ⟨bt,27,V⟩ (ac z no x)):=Mod.setCell _ _ _ J;have an:bD S l S (l.setCell ⟨bt,27,V⟩ (ac z no x)):=aU.av fun b n=>by rw [aO.1 n];exact ⟨u.cE,.inr (aJ _)⟩
 have aZ:=N (tt (D:={D with bin:=iQ A D.bin}) ag (bo.ex fy aN an.aL));have aY:=N ((aE.out.trans aS).trans an);clear hKC q a6 a9 ag aU an aS u aN aH aE;generalize l.setCell ⟨bt,27,V⟩ (ac z no x)=bi at *;go_wp2_with (go_at_call 176;(with_reducible refine aZ.out.mono ?_);rintro e bj ⟨T,rfl,bb⟩);go_ret;exact ⟨T,rfl,Q,P,C,bb.to aY.out⟩
end
theorem a7.bind{f:aV}{bt:Nat}: ∀ {n l:Nat} {w:ad} {Q a:Ending→ad→Prop},a7 f bt n w Q→(∀ e d,Q e d→a e d∨(e=ap (ah false)∧a7 f bt l d a))→a7 f bt (n+l) w a
 |0,_,_,_,_,c,_=>c.elim
 |n+1,l,w,Q,a,c,g=>by
  rw[show n+1+l=(n+l)+1 by omega];refine Calls.mono c fun e d q=>?_;rcases q with q|⟨j,k⟩
  ·rcases g e d q with b|⟨b,i⟩
   ·exact .inl b
   ·exact .inr ⟨b,i.more K⟩
  ·exact .inr ⟨j,a7.bind k g⟩
section
variable {c : Nat} 
theorem wR{W:List aA}(hF:mj g W k al): ∀ (w:ad) (D:bU) (r:aA) (I:List aA) (i:Ending→ad→Prop),W=r::I→D.nx=nI bt→D.bO=dT A ag o n c ((r.i:Int)+1) (r.g:Int)→aP f S w lim g bt D j s p m→
  (∀ l x y nx,aP f S l lim al bt {D with bO:=dT A ag o n c x y,nx:=nx} j s p m→bD S w S l→ao aj 204 #[aa bt,aw #[O U 0,O U 0]] l fun e d=> ∃ am,e=ap (ah am)∧i e d)→a7 f bt k w i:=by
 induction hF with
 |nil g=>intro w D r I i q;cases q
 |cons F v aC ax ih=>
  rename_i g al fC aI z k;intro w D r I i Q aD G M N;simp only[n7]at Q;obtain⟨rfl,rfl⟩:=Q;rw[show 2+k=(1+k)+1 by omega];refine a7.then (j5 (first:= #[aa bt]) (cap:= #[]) M aD Dh ((Gk M G F ax).mono fun e d q=>⟨false,q.1,q⟩)) fun e l ⟨an,nx,K,J,L,t,b,P⟩=>⟨an,?_⟩;cases aI with
  |nil=>
   cases aC;have B:z.x.slot=0:=bB Prod.fst v;have C:z.x.gen=0:=bB Prod.snd v;rw[B,C]at b;refine a7.one (j5 (first:= #[]) (cap:= #[aa K,aa J,aa L]) t b.nx wx (yH t b F fun ab u E=>?_));rw[bU.Hh nx G]at u;exact N ab _ _ nx u (P.trans E)
  |cons a aH=>
   have B:z.x.slot=(a.i:Int)+1:=bB Prod.fst v;have C:z.x.gen=(a.g:Int):=bB Prod.snd v;rw[B,C]at b;rw[show 1+k=k+1 by omega];refine a7.then (R:=fun e d=>e=ap (ah false)∧aP f S d lim (e3 g fC) bt {D with bO:=dT A ag o n c ((a.i:Int)+1) (a.g:Int),nx:=nI bt} j s p m∧bD S l S d) (j5 (first:= #[]) (cap:= #[aa K,aa J,aa L]) t b.nx wx (yH t b F fun ab u E=>?_)) fun e ae ⟨aq,ar,ay⟩=>⟨aq,?_⟩
   ·exact(DG (D:={D with nx:=nx}) u G).mono fun e ae ⟨T,aF,aG⟩=>⟨false,T,T,aF,E.trans aG⟩
   ·exact ih ae {D with bO:=dT A ag o n c ((a.i:Int)+1) (a.g:Int),nx:=nI bt} a aH i rfl rfl rfl ar fun aJ x y aE av az=>N aJ x y aE av ((P.trans ay).trans az)
def vq (f:aV) (S:List Nat) (lim:aK) (g:az) (bt:Nat) (D:bU) (j:Option ai) (s p:Nat) (m:List ak) (w:ad) (e:Ending) (d:ad):Prop:=
 e=ap (ah true)∧(∃ bO,aP f S d lim g bt {D with bO:=bO,nx:= .nilFunc} j s p m)∧bD S w S d
theorem yJ{b:bK}(c:b.refs≠[]): ∃ r a,b.refs=r::a:=by
 cases e:b.refs with
 |nil=>exact absurd e c
 |cons r a=>exact⟨r,a,rfl⟩
theorem Hj(aE:kp g C k E): ∀ (T w:ad) (e:Ending),kX f S lim g bt D j s p m A ag C T e w→
  vq f S lim E bt D j s p m T e w∨(e=ap (ah false)∧a7 f bt k w (vq f S lim E bt D j s p m T)):=by
 induction aE with
 |nil g=>
  intro T w e ⟨F,o,n,c,x,y,N,B,W,a⟩;exact .inl ⟨B,⟨_,W rfl⟩,F⟩
 |chain ae ab aG aF ih=>
  rename_i g al E b C k am;intro T w e ⟨F,o,n,c,x,y,N,B,W,a⟩;obtain⟨r,av,L⟩:=yJ ae;have v:=a b C rfl;rw[L]at v;refine .inr ⟨B,a7.bind (Q:=kX f S lim al bt D j s p m A ag C T) (wR ab w _ r av _ L rfl rfl v fun aK x1 P an a G=>?_) fun e d q=>ih T d e q⟩;exact wS (D:={D with bO:=dT A ag o n c x1 P,nx:=an}) a rfl (bo.ex fy N G.aL) (fun _ l aM i J I=>(tt (D:=D) i J).mono fun e aL ⟨R,aq,ar⟩=>⟨R,aq,ar.to ((F.trans G).trans I)⟩) (fun q=>K)
 |page ae ab aG aI aF ih=>
  rename_i g al E b C k am;intro T w e ⟨F,o,n,c,x,y,N,B,W,a⟩;obtain⟨r,av,L⟩:=yJ ae;obtain⟨aA,aJ⟩:=aI;obtain⟨q,aH⟩: ∃ q,al.ax[b.page.toNat]?=Z (Z q):=by
   cases M:al.ax[b.page.toNat]? with
   |none=>rw[M]at aA;cases aA
   |some q=>
    cases q with
    |none=>exact absurd M aJ
    |some q=>exact⟨q,rfl⟩
  have az: ((b.page.toNat:Nat):Int)=b.page:=K;have v:=a b C rfl;rw[L]at v;rw[show k+1+am=k+(1+am)by omega];refine .inr ⟨B,a7.trans (Q:=fun e d=>e=ap (ah false)∧∃ l aC aD nx u t,aP f S d lim al bt {D with bO:=dT A ag l (n - 1) (c - 1) aC aD,nx:=nx} j s p m∧kl S d l (n - 1) (c - 1) C∧sd S d bt nx b.page u t∧bD S T S d) (wR ab w _ r av _ L rfl rfl v fun aK x1 P an a G=>?_) fun e d ⟨M,l,aC,aD,nx,u,t,i,J,z,I⟩=>⟨M,?_⟩⟩
  ·refine wS (D:={D with bO:=dT A ag o n c x1 P,nx:=an}) a rfl (bo.ex fy N G.aL) (fun q=>K) (fun _ l nx u t d i J z I=>⟨rfl,l,x1,P,nx,u,t,i,J,z,(F.trans G).trans I⟩)
  ·rw[←az]at z;refine a7.bind (Q:=kX f S lim (eC al b.page) bt D j s p m A ag C T) (a7.one (j5 (first:= #[]) (cap:= #[aa u,aa t]) i z.nx Da (DF i z aH fun aL ax ay=>?_))) fun e d q=>ih T d e q;rw[az]at ax;exact(tt (D:=D) ax (bo.ex fy J ay.aL)).mono fun e aN ⟨R,aq,ar⟩=>⟨R,aq,ar.to (I.trans ay)⟩
theorem Fe{o:Ending→ad→Prop}(I:lim.cO≤1000000): ∀ (l t:Nat) (w:ad) (D:bU),t+l+1=lim.cO→D.nx=xS bt→D.bO=dT A (t:Int) V 0 0 0 0→g.ins=V→aP f S w lim g bt D j s p m→
  (∀ b,aP f S b lim g bt {D with bO:=dT A ((t+l:Nat):Int) V 0 0 0 0} j s p m→bD S w S b→ao aj 153 #[aa bt,aa f.m] b fun e d=> ∃ r,e=ap (ah r)∧o e d)→a7 f bt (l+1) w o:=by
 intro l;induction l with
 |zero=>
  intro t w D B c n k a i;refine a7.one (j5 (first:= #[aa bt]) (cap:= #[]) a c ww (i w ?_ bn.refl));have e: ({D with bO:=dT A (t:Int) V 0 0 0 0}:bU)=D:=by rw [←n]
  rw [gI,e];exact a
 |succ l ih=>
  intro t w D B c n k a i;have C:t+1 < lim.cO:=K;have E: (Lit.int U (t:Int)).wf=true:=zL t K;have F:IntKind.i64.wrap ((t:Int)+1)=(t:Int)+1:=e0 _ K;refine a7.then (j5 (first:= #[aa bt]) (cap:= #[]) a c ww ((Fc a n C k E F).mono fun e d q=>⟨false,q.1,q⟩)) fun e b ⟨u,v,y⟩=>⟨u,?_⟩;refine ih (t+1) b {D with bO:=dT A ((t:Int)+1) V 0 0 0 0} K c rfl k v fun G x z=>i G ?_ (y.trans z);rw [show t+(l+1)=t+1+l by omega];exact x
end
section
theorem je.len{b:List bK}{wr:Bool}(a:je lim c g M wr k al b r): ∀ {n:Nat},M.length+k≤n→b.length≤n:=by
 induction a with
 |last a=>intro n d;have:=a.len;omega
 |more a e ih=>intro n d;have:=a.len;exact ih K
def As (f:aV) (lim:aK) (bt:Nat) (D:bU) (M:List bK) (S:List Nat) (w:ad) (am:az) (bR:ByteArray) (c:Option Int) (e:Ending) (d:ad):Prop:=
 e=ap (ah true)∧∃ bF P wr ab bO j s p m,eH (ay d P) bF c∧aP f P d lim am bt {D with bin:=M,wr:=wr,ab:=ab,bR:=bR,bF:=bF,nx:= .nilFunc,bO:=bO} j s p m∧bD S w P d
theorem GA(M:List bK)(n:Nat):jq (n:Int) M=M.filter fun b=>decide (b.dF < n):=mL fun b _=>by
 rw [iY,dp,dp];omega
theorem Gs(M:List bK)(n:Nat):iQ (n:Int) M=M.filter fun b=>decide (¬b.dF < n):=mL fun b _=>by
 rw [iY,dp,dp];omega
theorem Hk{k:Nat}(R:1≤lim.cO∧lim.cO≤1000000)(r:aP f S w lim g bt D j s p m)(G:D.nx=ug bt)(F:g.ins=V)(A:D.bin.length≤1000000)
  (v:kp (bump lim.count g) (D.bin.filter fun b=>decide (b.dF < (bump lim.count g).now)) k E):
  a7 f bt (1+lim.cO+k) w fun e d=>e=ap (ah true)∧∃ bO j s p,aP f S d lim E bt {D with bin:=D.bin.filter fun b=>decide (¬b.dF < (bump lim.count g).now),nx:= .nilFunc,bO:=bO} j s p m∧bD S w S d:=by
 obtain ⟨l,T⟩: ∃ l,lim.cO=l+1:=⟨lim.cO - 1,K⟩;rw [show 1+lim.cO+k=((l+1)+k)+1 by omega];refine a7.then (j5 (first:= #[aa bt]) (cap:= #[]) r G Dj ((Hi r).mono fun e d q=>⟨false,q.1,q⟩)) fun e N ⟨y,z,B⟩=>⟨y,?_⟩;rw [←GA] at v;have u: (bump lim.count g).ins=none:=F;refine a7.bind (Q:=fun e d=> ∃ o n c,kX f S lim (bump lim.count g) bt {D with bin:=iQ ((bump lim.count g).now:Int) D.bin} o n c m ((bump lim.count g).now:Int) ((l:Int)+1) (jq ((bump lim.count g).now:Int) D.bin) w e d) (Fe K l 0 N _ K rfl rfl u z fun W t C=>?_) fun e d ⟨o,n,c,q⟩=>?_
 ·rw [cv] at t;exact (Fb t rfl K K u (by exact A)).mono fun e P ⟨x,a,o,n,c,i⟩=>⟨x,a,o,n,c,i.to (B.trans C)⟩
 ·rw [←Gs];rcases Hj v w d e q with ⟨a,⟨bO,i⟩,I⟩|⟨a,i⟩
  ·exact .inl ⟨a,bO,o,n,c,i,I⟩
  ·exact .inr ⟨a,i.mono fun e P ⟨J,⟨bO,L⟩,M⟩=>⟨J,bO,o,n,c,L,M⟩⟩
theorem B9(ae:mi lim c g M k am ar r)(an:1≤lim.cO∧lim.cO≤1000000)(az:M.length+k≤1000000)(I:1≤c.kind∧c.kind≤5)(t:aP f S w lim g bt D j s p m)(A:D.nx=kr bt)(G:D.c=c)(y:D.bin=M)(J:D.wr=decide (c.kind≠1)):
  a7 f bt k w (As f lim bt D ar S w am r.val (jS r.code)):=by
 have aA:=t.mem.now.2;cases ae with
 |j8 b=>
  refine a7.one (j5 (first:= #[aa bt]) (cap:= #[]) t A wo ((BZ t b).mono fun e d q=>⟨true,q.1,?_⟩));obtain ⟨l,bF,u,i,v⟩:=q;have T: ({D with bin:=M,wr:=D.wr,ab:=D.ab,bR:=b8,bF:=bF,nx:= .nilFunc,bO:=D.bO}:bU)={D with bR:=⟨#[]⟩,bF:=bF,nx:= .nilFunc}:=by rw [←y];rfl
  exact ⟨l,bF,S,D.wr,D.ab,D.bO,j,s,p,m,u,by rw [T];exact i,v⟩
 |calm aq z b x=>
  rw [←J] at b;refine (xK t A G y K z I K b x).mono fun e d q=>?_;obtain ⟨l,bF,P,wr,ab,Q,N,E,B,u,i,v⟩:=q;rw [a9 rfl] at i;exact ⟨l,bF,P,wr,ab,D.bO,Q,N,E,B,u,i,v⟩
 |rl aq z b x F av=>
  rename_i al C k L;rw [←J] at b;rw [show 2+k+1+1+lim.cO+L=(2+k+1)+(1+lim.cO+L) by omega];refine a7.trans (xK t A G y K z I K b x) fun e d q=>?_;obtain ⟨l,bF,P,wr,ab,Q,N,E,B,u,i,v⟩:=q;have ag:C.isEmpty=false:=by cases C with|nil=>exact absurd rfl F|cons a W=>rfl
  rw [ag] at l;rw [aS F] at i;refine ⟨l,(Hk an i rfl rfl (je.len b K) av).mono fun e aC ⟨ax,bO,o,n,c,ay,R⟩=>⟨ax,bF,P,wr,ab,bO,o,n,c,B,eH.aL u R.aL,ay,v.trans R⟩⟩
end
section
abbrev pX:bU:=⟨[],false,⟨0,⟨#[]⟩,⟨#[]⟩⟩,false,⟨#[]⟩,aB,.nilFunc,V,[O U 0,O U 0,ac V 0 0,O U 0,O U 0]⟩
theorem xY(a:aX f S w lim g):ao aj 8 #[O U 0] w fun e d=> ∃ bt,e=ap (aa bt)∧aP f (bt::S) d lim g bt pX V 0 0 g4∧Y w d∧bt=w.heap.size:=by
 have b:ae (H w (X (gj V 0 0 false ⟨0,⟨#[]⟩,⟨#[]⟩⟩ false ⟨#[]⟩ aB .nilFunc g4 [O U 0,O U 0,ac V 0 0,O U 0,O U 0]) 101)) w.heap.size (gj V 0 0 false ⟨0,⟨#[]⟩,⟨#[]⟩⟩ false ⟨#[]⟩ aB .nilFunc g4 [O U 0,O U 0,ac V 0 0,O U 0,O U 0]):=(ae.new w _ _ rfl).of J;have c:Y w (H w (X (gj V 0 0 false ⟨0,⟨#[]⟩,⟨#[]⟩⟩ false ⟨#[]⟩ aB .nilFunc g4 [O U 0,O U 0,ac V 0 0,O U 0,O U 0]) 101)):=(Y.refl w).alloc _;have i:=a.more c (aG _) (b.lt J);have j:Hid (aP f (w.heap.size::S) (H w (X (gj V 0 0 false ⟨0,⟨#[]⟩,⟨#[]⟩⟩ false ⟨#[]⟩ aB .nilFunc g4 [O U 0,O U 0,ac V 0 0,O U 0,O U 0]) 101)) lim g w pX V 0 0 g4):=N ⟨i,b,bo.nil _ _ _,rfl,rfl,⟨aJ _,aJ _⟩,J,a.hE (aG _)⟩;have k:=N c;clear b c i a;go_enter Tryz.func8,Tryz.ntmps8;go_wp2_with fail;go_ret;exact⟨w.heap.size,rfl,j.out,k.out,rfl⟩
theorem Gr(u:aP f S w lim g bt D j s p m)(x:D.nx= .nilFunc)(v:D.fI=true)(A:D.bF=aB∨∃ t b,D.bF= .iface t b):
  ao aj 11 #[aa bt] w fun e d=>e=ap (a0 #[aw #[D.bR,D.bF],aB])∧Y w d:=by
 have i:Y w (H w (X #[af ⟨#[]⟩,aB] 44)):=(Y.refl w).alloc _;have c:ae (H w (X #[af ⟨#[]⟩,aB] 44)) w.heap.size [af ⟨#[]⟩,aB]:=(ae.new w _ _ rfl).of J;have a:=u.aC i;have o: (H w (X #[af ⟨#[]⟩,aB] 44)).cell? ⟨bt,11,V⟩=Z .nilFunc:=by rw [←x];exact a.box.cell 11 rfl
 have C: (H w (X #[af ⟨#[]⟩,aB] 44)).cell? ⟨bt,2,V⟩=Z (ah true):=by rw [←v];exact a.box.cell 2 rfl
 have l:=N (ra o);have q: (H w (X #[af ⟨#[]⟩,aB] 44)).cell? ⟨bt,7,V⟩=Z (af D.bR):=a.box.cell 7 rfl;have r: (H w (X #[af ⟨#[]⟩,aB] 44)).cell? ⟨bt,8,V⟩=Z D.bF:=a.box.cell 8 rfl;clear u a x v;generalize D.bF=bF at *;generalize D.bR=bR at *;have n:er (H w (X #[af ⟨#[]⟩,aB] 44)) bt 7 [af bR,bF]:=⟨fun y b k=>by
  rcases y with _|_|y
  ·cases k;exact q
  ·cases k;exact r
  ·simp at k⟩
 clear q r o;rcases A with rfl|⟨t,b,rfl⟩
 all_goals
  go_enter Tryz.func11,Tryz.ntmps11;go_upto_region 1 with fail
 ·show Code.wp _ _ _ _ (H w (X #[af ⟨#[]⟩,aB] 44));generalize H w (X #[af ⟨#[]⟩,aB] 44)=z at *;go_wp2_with (first|(go_at_call 22;(with_reducible refine l.out.mono ?_);rintro e B ⟨rfl,rfl⟩)|(with_reducible refine dc 44 (n) kJ ?_)|(with_reducible refine bq 44 (c) ([af bR,aB]) ?_));refine bH ((c.aR (us:=[af bR,aB]) rfl).cK rfl _ rfl rfl kJ rfl G) rfl ?_;exact ⟨rfl,i.setCells (aG _) _ _⟩
 ·show Code.wp _ _ _ _ (H w (X #[af ⟨#[]⟩,aB] 44));generalize H w (X #[af ⟨#[]⟩,aB] 44)=z at *;go_wp2_with (first|(go_at_call 22;(with_reducible refine l.out.mono ?_);rintro e B ⟨rfl,rfl⟩)|(with_reducible refine dc 44 (n) kJ ?_)|(with_reducible refine bq 44 (c) ([af bR,.iface t b]) ?_));refine bH ((c.aR (us:=[af bR,.iface t b]) rfl).cK rfl _ rfl rfl kJ rfl G) rfl ?_;exact ⟨rfl,i.setCells (aG _) _ _⟩
theorem Cn(b: ¬ga c): (c.kind < 1∨5 < c.kind)∨((1≤c.kind∧c.kind≤5)∧j3 c.key=false)∨((1≤c.kind∧c.kind≤5)∧j3 c.key=true∧c.kind≠1∧c.kind≠5∧16 < c.val.size):=by
 by_cases a:1≤c.kind∧c.kind≤5
 ·cases d:j3 c.key
  ·exact .inr (.inl ⟨a,rfl⟩)
  ·refine .inr (.inr ⟨a,rfl,?_⟩);by_cases e:c.kind=1
   ·exact absurd ⟨a,d,fun q=>absurd e q⟩ b
   by_cases f:c.kind=5
   ·exact absurd ⟨a,d,fun _ q=>absurd f q⟩ b
   by_cases g:c.val.size≤16
   ·exact absurd ⟨a,d,fun _ _=>g⟩ b
   exact⟨e,f,K⟩
 ·exact .inl K
theorem Gu(m:c.key.size≤maxLen∧c.val.size≤maxLen)(o: ¬ga c)(w:ad):
  ao aj 30 #[aw #[c.kind,c.key,c.val]] w fun e d=>e=ap (ah false)∧Y w d:=by
 have i:ae (H w (X #[O U c.kind,c.key,c.val] 40)) w.heap.size [O U c.kind,c.key,c.val]:=(ae.new w _ _ rfl).of J;have l:Y w (H w (X #[O U c.kind,c.key,c.val] 40)):=(Y.refl w).alloc _;have g:=N (tR c.key (H w (X #[O U c.kind,c.key,c.val] 40)) m.1);have u:=Cn o;have x:=m.2;unfold maxLen at x;clear o m;have r:=i.cell 0 rfl;have x1:=i.cell 1 rfl;have s:=i.cell 2 rfl;clear i;rcases u with a|⟨a,b⟩|⟨a,b,p,q,t⟩
 ·have v:decide (c.kind < 1)=true∨(decide (c.kind < 1)=false∧decide (5 < c.kind)=true):=by
   simp only [ke,hH];omega
  clear a;rcases v with j|⟨j,n⟩
  all_goals
   go_enter Tryz.func30,Tryz.ntmps30;go_wp2_with fail;go_ret;exact ⟨rfl,l⟩
 ·rw [b] at g;have j:decide (c.kind < 1)=false:=dz K;have n:decide (5 < c.kind)=false:=dz K;clear a b;go_enter Tryz.func30,Tryz.ntmps30;go_wp2_with (go_at_call 52;(with_reducible refine g.out.mono ?_);rintro e y ⟨rfl,k⟩;have f:=k.aC);go_ret;exact ⟨rfl,l.trans f⟩
 ·rw [b] at g;have j:decide (c.kind < 1)=false:=dz K;have n:decide (5 < c.kind)=false:=dz K;have z: (c.kind==1)=false:=by rw [ey];exact p
  have A: (c.kind==5)=false:=by rw [ey];exact q
  have B:decide ((c.val.size:Int)≤16)=false:=dz K;clear a b p q t;go_enter Tryz.func30,Tryz.ntmps30;go_upto_region 3 with (go_at_call 52;(with_reducible refine g.out.mono ?_);rintro e y ⟨rfl,k⟩;have f:=k.aC)
  have r:=f.I r;have s:=f.I s;go_wp2_with fail;go_ret;exact ⟨rfl,l.trans f⟩
theorem G6(l:aP f S w lim g bt D j s p m)(b:c.key.size≤maxLen∧c.val.size≤maxLen)(i: ¬ga c):
  ao aj 9 #[aa bt,aw #[c.kind,c.key,c.val]] w fun e d=>e=ap (fR 1)∧Y w d:=by
 have n:Y w (H w (X #[O U c.kind,c.key,c.val] 40)):=(Y.refl w).alloc _;have a:ae (H w (X #[O U c.kind,c.key,c.val] 40)) w.heap.size [O U c.kind,c.key,c.val]:=(ae.new w _ _ rfl).of J;have k:=N (Gu b i (H w (X #[O U c.kind,c.key,c.val] 40)));clear l b i;go_enter Tryz.func9,Tryz.ntmps9;go_upto_region 1 with fail
 generalize H w (X #[O U c.kind,c.key,c.val] 40)=q at *;have c7:=a.cell 0 rfl;have t:=a.cell 1 rfl;have u:=a.cell 2 rfl;go_wp2_with(first|(go_at_call 30;(with_reducible refine k.out.mono ?_);rintro e r ⟨rfl,o⟩));go_ret;exact⟨rfl,n.trans o⟩
end
section
def ov (f:aV) (lim:aK) (bt:Nat) (M:List bK) (S:List Nat) (w:ad) (am:az) (bR:ByteArray) (o:Option Int) (b:ad):Prop:=
 ∃ a P j s p m,aP f P b lim am bt a j s p m∧a.nx= .nilFunc∧a.bin=M∧a.fI=true∧a.bR=bR∧eH (ay b P) a.bF o∧bD S w P b
theorem BP(k:Int): (k !=1)=decide (k≠1):=by
 by_cases a:k=1 <;> simp [a]
theorem started(x:mi lim c g D.bin k am ar r)(b:ga c)(n:c.key.size≤maxLen∧c.val.size≤maxLen)(i:aP f S w lim g bt D j s p m)(A:D.nx= .nilFunc)(y:D.bin.length+k≤1000000):
  ao aj 9 #[aa bt,aw #[c.kind,c.key,c.val]] w fun e d=>e=ap aB∧a7 f bt k d fun e t=>e=ap (ah true)∧ov f lim bt ar S w am r.val (jS r.code) t:=by
 have L:=i.mem.lim.cO;refine(G7 i A n fun o=>Gv n b.kind b.key (by
  have:=b.val;by_cases a:c.kind=1
  ·exact .inl a
  by_cases l:c.kind=5
  ·exact .inr (.inl l)
  exact .inr (.inr (this a l))) o).mono fun e o ⟨v,a,z⟩=>⟨v,?_⟩
 refine(B9 (D:={D with fI:=true,c:=c,wr:=c.kind !=1,bR:=⟨#[]⟩,bF:=aB,nx:=kr bt}) x K y b.kind a rfl rfl rfl (BP _)).mono fun e t q=>?_;obtain⟨E,bF,P,wr,ab,bO,C,B,u,J,F,G,I⟩:=q;exact⟨E,_,P,C,B,u,J,G,rfl,rfl,rfl,rfl,F,z.trans I⟩
theorem ov.nil{bR:ByteArray}{o:Option Int}{a:ad}(b:ov f lim bt M S w am bR o a):a.cell? ⟨bt,11,V⟩=Z .nilFunc:=by
 obtain⟨e,P,j,s,p,m,c,d, -⟩:=b;rw[←d];exact c.box.cell 11 rfl
def sr (f:aV) (bt:Nat) (D:ad→Prop) (n:Nat) (w:ad):Prop:=a7 f bt n w (fun e d=>e=ap (ah true)∧D d)∨D w
theorem Hc{l:ak}(b:w.cell? ⟨bt,11,V⟩=Z .nilFunc):
  ao aj 10 #[aa bt,l] w fun e d=>e=ap (ah true)∧w=d:=by
 have a:=N (ra b);go_enter Tryz.func10,Tryz.ntmps10;go_wp2_with(first|(go_at_call 22;(with_reducible refine a.out.mono ?_);rintro e d ⟨rfl,rfl⟩));go_ret;exact⟨rfl,rfl⟩
theorem Hd(i: ∀ w,an w→w.cell? ⟨bt,11,V⟩=Z .nilFunc)(a:sr f bt an (n+1) w):
  ao aj 10 #[aa bt,aa f.m] w fun e d=> ∃ b,e=ap (ah b)∧sr f bt an n d:=by
 rcases a with a|a
 ·exact Calls.mono a fun e d q=>by
   rcases q with⟨c,g⟩|⟨c,g⟩
   ·exact⟨true,c,.inr g⟩
   ·exact⟨false,c,.inl g⟩
 ·exact(Hc (i w a)).mono fun e d ⟨c,g⟩=>⟨true,c,.inr (g ▸ a)⟩
end
theorem sD(e:Y T w)(c:bD S w P d)(a: ∀ b∈S,T.heap.size≤b):Y T d∧∀ b∈P,T.heap.size≤b:=
 ⟨Mod.aC e c.Fq a,fun b f=>by
  rcases c.new b f with q|q
  ·exact a b q
  ·have:=e.le;omega⟩
theorem D7(w:ad):ao aj 6 #[] w fun e d=>e=ap (ah true)∧Y w d:=by
 have y:Hid (ao aj 7 #[aw #[O U 20,O U 4,O U 2,O U 4,O U 4,O U 99]] w fun e d=> ∃ f:aV,e=ap (a0 #[aa f.m,aB])∧aX f f.l d il (j0 il)∧(∀ b∈f.l,w.heap.size≤b)∧Y w d):=N (xV E4 w);go_enter Tryz.func6,Tryz.ntmps6;go_upto_region 2 with (go_at_call 7;(with_reducible refine y.out.mono ?_);rintro e T ⟨f,rfl,F,J,u⟩)
 have bh:=N (xY F);have A:=N J;clear F J y;go_upto_region 3 with (go_at_call 8;(with_reducible refine bh.out.mono ?_);rintro e x ⟨bt,rfl,g,Q,M⟩;have B:=N M;clear M)
 have L: ∀ b∈bt::f.l,w.heap.size≤b:=fun b aC=>by
  rcases bd.1 aC with q|q
  ·rw [q,B.out];exact u.le
  ·exact A.out b q
 have S:=u.trans Q;have z:Hid (ao aj 9 #[aa bt,aw #[O U 2,af ⟨#[97]⟩,af ⟨#[49]⟩]] x fun e d=>e=ap aB∧a7 f bt 7 d fun e W=>e=ap (ah true)∧ov f il bt [] (bt::f.l) x {mz with ins:=V} (ds nj.key cf.rows) (jS 0) W):=N (started (c:=nj) (D:=pX) B7 ⟨bP,bP,fun _ _=>bP⟩ ⟨by show 1≤maxLen;unfold maxLen;omega,by show 1≤maxLen;unfold maxLen;omega⟩ g rfl (by show 0+7≤1000000;omega));have ar:=N L;have av:=N S;clear g B L u Q S bh A;go_upto_region 5 with (go_at_call 9;(with_reducible refine z.out.mono ?_);rintro e W ⟨rfl,I⟩)
 have am:=N I;clear I z;generalize r:ov f il bt [] (bt::f.l) x {mz with ins:=V} (ds nj.key cf.rows) (jS 0)=k at *;have ab:Hid (∀ w,k w→w.cell? ⟨bt,11,V⟩=Z .nilFunc):=N fun w q=>by rw [←r] at q;exact q.nil
 have al:=N r;clear r;go_loopw [16] (fun v wr=> ∃ a:Nat,a≤7∧v=O U (a:Int)∧Hid (sr f bt k (7 - a) wr)) (fun v _=>7 - (intOf v).toNat)
 case atStart=>exact ⟨0,K,rfl,N (.inl am.out)⟩
 case round=>
  obtain ⟨a,aK,rfl,i⟩:=hrel;by_cases aL:a < 7
  ·have n:=i.out;rw [show 7 - a=(6 - a)+1 by omega] at n;have an:=N (Hd ab.out n);have aM:IntKind.i64.wrap ((a:Int)+1)=(a:Int)+1:=e0 _ K;have t:decide ((a:Int) < 7)=true:=eo K;clear i n;go_wp2_with (go_at_call 10;(with_reducible refine an.out.mono ?_);rintro e aO ⟨aI,rfl,G⟩;have ae:=N G;clear G);go_roundw
   case rel=>exact ⟨a+1,K,rfl,N (by rw [show 7 - (a+1)=6 - a by omega];exact ae.out)⟩
   case measure=>simp [intOf];omega
  ·obtain rfl:a=7:=by omega
   have t:k wr:=by
    rcases i.out with q|q
    ·exact q.elim
    ·exact q
   rw [←al.out] at t;obtain ⟨aH,P,j,s,p,m,l,g,ax,ay,az,aA,E⟩:=t;obtain ⟨aE,aJ⟩:=sD av.out E ar.out;have aq:Hid (ao aj 15 #[aa f.m] wr fun e d=> ∃ o c,e=ap (a0 #[ac o 1 c,aB])∧Y wr d):=N ((yX l.mem C0 (by rw [zC];omega) EY (by rw [zC];omega) bP).mono fun e d ⟨o,c,aF,aN,aG⟩=>⟨o,c,aF,aG⟩);have C:wr.cell? ⟨bt,11,V⟩=Z .nilFunc:=by rw [←g];exact l.box.cell 11 rfl
   have ag:=N fun T (aD:Y wr T)=>ra (bt:=bt) (aD.I C);clear i l g ax ay az aA E C;go_wp2_with (first|(go_at_call 15;(with_reducible refine aq.out.mono ?_);rintro e aP ⟨o,c,rfl,R⟩)|(go_at_call 22;(with_reducible refine (ag.out _ R).mono ?_);rintro e aQ ⟨rfl,rfl⟩));go_ret;exact ⟨rfl,aE.trans R⟩
theorem A0(c:cV)(W:List aN): (ei c W).2.2=0∨(ei c W).2.2=6∨(ei c W).2.2=7:=by
 unfold ei;repeat' split
 all_goals simp
theorem Inv.nL{W:List aN}(a:Inv lim u g M W):W.length≤u.length:=by
 obtain⟨e,c,b,d,a⟩:=a;exact xN a.bj.ok a.jr
structure ou (f:aV) (lim:aK) (bt:Nat) (u:List ByteArray) (z:ad) (dU:Nat) (o:Option ai) (l c:Nat) (w:ad) (D:bU) (S:List Nat) (g:az) (j:Option ai) (s p:Nat) (m:List ak) (rows:List aN):Prop where
 ev:aP f S w lim g bt D j s p m
 nx:D.nx= .nilFunc
 inv:Inv lim u g D.bin rows
 ins:g.ins=V
 dU:dU≤g.now
 rws:bk (ay w S) o l c rows
 aC:Y z w
 lo: ∀ b∈S,z.heap.size≤b
def jK (f:aV) (lim:aK) (bt:Nat) (u:List ByteArray) (z:ad) (dU:Nat) (o:Option ai) (l c:Nat) (w:ad):Prop:=∃ D S g j s p m rows,ou f lim bt u z dU o l c w D S g j s p m rows
section
variable {dU : Nat} {l c : Nat} {rows : List aN}
theorem ou.I(a:ou f lim bt u z dU o l c w D S g j s p m rows)(b:Y w d):ou f lim bt u z dU o l c d D S g j s p m rows:=
 ⟨a.ev.aC b,a.nx,a.inv,a.ins,a.dU,a.rws.ex (bX b S),a.aC.trans b,a.lo⟩
theorem jK.I(a:jK f lim bt u z dU o l c w)(b:Y w d):jK f lim bt u z dU o l c d:=by
 obtain⟨D,S,g,j,s,p,m,rows,a⟩:=a;exact⟨D,S,g,j,s,p,m,rows,a.I b⟩
theorem jK.aC(a:jK f lim bt u z dU o l c w):Y z w:=by
 obtain⟨D,S,g,j,s,p,m,rows,a⟩:=a;exact a.aC
structure iZ (f:aV) (lim:aK) (bt:Nat) (u:List ByteArray) (z:ad) (dU:Nat) (o:Option ai) (l c:Nat) (B:cV) (r:g3) (w:ad) (D:bU) (S:List Nat) (g:az) (j:Option ai) (s p:Nat) (m:List ak) (rows F:List aN):Prop where
 ev:aP f S w lim g bt D j s p m
 nx:D.nx= .nilFunc
 fI:D.fI=true
 bR:D.bR=r.val
 gx:eH (ay w S) D.bF (jS r.code)
 inv:Inv lim u g D.bin F
 ins:g.ins=V
 dU:dU≤g.now
 rws:bk (ay w S) o l c rows
 aC:Y z w
 lo: ∀ b∈S,z.heap.size≤b
 ok:sv B rows F r
 len:rows.length≤u.length
theorem iZ.I(a:iZ f lim bt u z dU o l c B r w D S g j s p m rows F)(b:Y w d):iZ f lim bt u z dU o l c B r d D S g j s p m rows F:=
 ⟨a.ev.aC b,a.nx,a.fI,a.bR,a.gx.ex (bX b S),a.inv,a.ins,a.dU,a.rws.ex (bX b S),a.aC.trans b,a.lo,a.ok,a.len⟩
theorem iZ.now(a:iZ f lim bt u z dU o l c B r w D S g j s p m rows F)(k:aX f S d lim g)(i:Mod [f.m] w d):iZ f lim bt u z dU o l c B r d D S g j s p m rows F:=by
 have e:bD S w S d:=i.av fun b n=>by rw[aO.1 n];exact⟨a.ev.mem.sub _ J,.inr (aJ _)⟩
 exact⟨a.ev.acc k i J,a.nx,a.fI,a.bR,a.gx.ex e.aL,a.inv,a.ins,a.dU,a.rws.ex e.aL,(sD a.aC e a.lo).1,a.lo,a.ok,a.len⟩
theorem G8(a:ou f lim bt u z dU o l c w D S g j s p m rows)(A:p4 lim)(al:u.length≤100)(C:ga B)(an:B.key∈u)(aq:B.key.size≤maxLen∧B.val.size≤maxLen):
  ∃ k r,k≤60000∧ao aj 9 #[aa bt,aw #[B.kind,B.key,B.val]] w fun e d=>e=ap aB∧a7 f bt k d fun e y=>e=ap (ah true)∧∃ i b E v t n x F,iZ f lim bt u z dU o l c B r y i b E v t n x rows F∧bD S w b y:=by
 obtain⟨k,E,av,r,F,G,I,J,L,ax,ay,M⟩:=B8 a.inv A al C an a.ins a.ev.mem.now;have az:=a.inv.sL;have aA:=A.aQ;refine⟨k,r,I,(started G C aq a.ev a.nx K).mono fun e aC ⟨ab,am⟩=>⟨ab,am.mono fun e y ⟨ar,i,b,v,t,n,x,N,P,Q,R,T,W,q⟩=>⟨ar,i,b,E,v,t,n,x,F,?_,q⟩⟩⟩;obtain⟨ae,ag⟩:=sD a.aC q a.lo;exact⟨N,P,R,T,W,by rw[Q];exact J,L,by have:=a.dU;omega,a.rws.ex q.aL,ae,ag,M,a.inv.nL⟩
theorem iZ.same(a:iZ f lim bt u z dU o l c B r w D S g j s p m rows F)(d:r.code=3∨r.code=5):jK f lim bt u z g.now o l c w:=by
 have e:F=rows:=by
  rcases a.ok with⟨i,b⟩|q
  ·exact b
  ·have:=A0 B rows;rw[q]at this;dsimp only at this;omega
 exact⟨D,S,g,j,s,p,m,rows,a.ev,a.nx,by rw[←e];exact a.inv,a.ins,aG _,a.rws,a.aC,a.lo⟩
theorem iZ.AZ(a:iZ f lim bt u z dU o l c B r w D S g j s p m rows F)(E: ¬ (r.code=3∨r.code=5))(J:u.length≤100)(A:ga B)(v:B.key.size≤maxLen∧B.val.size≤maxLen):
  ao aj 14 #[ac o l c,aw #[B.kind,B.key,B.val]] w fun e d=> ∃ k i b,e=ap (a0 #[ac k i b,r.val,r.code])∧jK f lim bt u z g.now k i b d∧Y w d:=by
 have y:ei B rows=(F,r.val,r.code):=by
  rcases a.ok with⟨n,x⟩|q
  ·exact absurd n E
  ·exact q
 have L:=A.kind;have C:l≤1000000:=by
  have G:=a.rws.len;have I:=a.len;omega
 have:=A2 (kind:=B.kind) (key:=B.key) (val:=B.val) a.rws a.ev.mem.old C v.1 v.2 K;have e: (⟨B.kind,B.key,B.val⟩:cV)=B:=rfl;rw[e,y]at this;exact this.mono fun e M ⟨k,i,b,n,x,t⟩=>⟨k,i,b,n,⟨D,S,g,j,s,p,m,F,a.ev.aC t,a.nx,a.inv,a.ins,aG _,x,a.aC.trans t,a.lo⟩,t⟩
end
abbrev mr (c:cV):List ak:=[O U c.kind,af c.key,af c.val]
section
theorem He(a:a7 f bt (n+1) w fun e d=>e=ap (ah true)∧an d):
  ao aj 10 #[aa bt,aa f.m] w fun e d=>(e=ap (ah true)∧an d)∨(e=ap (ah false)∧a7 f bt n d fun e d=>e=ap (ah true)∧an d):=a
theorem Cr{c:Int}(a:eH (ay w S) v (jS c))(f:w.cell? ⟨0,0,V⟩=Z mx):ao aj 13 #[v] w fun e d=>e=ap (O U c)∧Y w d:=by
 by_cases b:c=0
 ·subst b;obtain rfl:v=aB:=a;exact Cq w
 ·have e:jS c=Z c:=aS b;rw[e]at a;exact Cp (cm.ex a (dv w S)) f
theorem Gj{o:Option Int}(b:eH (ay w S) v o):v.oneCell'=true∧(v=aB∨∃ t a,v= .iface t a):=by
 cases o with
 |none=>obtain rfl:v=aB:=b;exact⟨rfl,.inl rfl⟩
 |some c=>obtain⟨t,a,rfl⟩:=cm.iface (show cm _ v c from b);exact⟨rfl,.inr ⟨t,a,rfl⟩⟩
end
theorem C4(I L M P Q R:Int)(ab:Option ai)(n C:Nat)(W:List g1)(j:Option ai)(l al:Nat)(ar:Int)(s:ad)(aI:lz s ab n C W)(a9: ∀ q∈W,q.n≤4000000000000)(c7:0≤ar∧ar≤255)(cU:s.cell? ⟨0,0,V⟩=Z mx):
  ao aj 3 #[aw (iP I L M P Q R ab n C j l al),O .u8 ar] s fun e d=>e=ap (ah true)∧Y s d:=by
 have aK:Y s (H s (X (iP I L M P Q R ab n C j l al) 27)):=(Y.refl s).alloc _;have aX:ae (H s (X (iP I L M P Q R ab n C j l al) 27)) s.heap.size (iP I L M P Q R ab n C j l al):=(ae.new s _ _ rfl).of J;have eh:=aI.len;have eE:=aI.dj;have d0:=aI.dr;unfold maxLen at d0;have b4:=N (Dp I L M P Q R ab n C W j l al (H s (X (iP I L M P Q R ab n C j l al) 27)) (bo.I vo aI aK) a9);have cz:=bo.I vo aI aK;have dp:=N cz;have dA:=N (aK.I cU);have bi:=N D7;have ch:=N c7;clear aI a9 cz cU c7;go_enter Tryz.func3,Tryz.ntmps3;go_upto_region 1 with fail
 show Code.wp _ _ _ _ (H s (X (iP I L M P Q R ab n C j l al) 27));generalize dY:H s (X (iP I L M P Q R ab n C j l al) 27)=z at *;clear dY;generalize dZ:s.heap.size=dO at *;clear dZ;go_wp2_with (with_reducible refine b0 27 (aX) rK ?_);refine b4.out.mono ?_;rintro e aF ⟨b,rfl,m,aC⟩;have cl:=aX.I aC;have bV:=cl.cell 6 rfl;have du:=N m;have bn:=N aX;clear aX m b4 cl;cases b
 ·go_wp2_with (go_at_call 6;(with_reducible refine (bi.out _).mono ?_);rintro e aS ⟨rfl,aD⟩);go_ret;exact ⟨rfl,(aK.trans aC).trans aD⟩
 by_cases cY:n=0
 ·subst cY;go_wp2_with (go_at_call 6;(with_reducible refine (bi.out _).mono ?_);rintro e aS ⟨rfl,aD⟩);go_ret;exact ⟨rfl,(aK.trans aC).trans aD⟩
 have c0: ((n:Int)==0)=false:=mf;obtain ⟨d7,d5,d8,d6,d3,d4,cL⟩:=du.out (by first|exact rfl|trivial);obtain ⟨t,rfl⟩: ∃ t:Nat,I=(t:Int):=⟨I.toNat,K⟩;obtain ⟨v,rfl⟩: ∃ v:Nat,L=(v:Int):=⟨L.toNat,K⟩;obtain ⟨y,rfl⟩: ∃ y:Nat,M=(y:Int):=⟨M.toNat,K⟩;obtain ⟨A,rfl⟩: ∃ A:Nat,P=(A:Int):=⟨P.toNat,K⟩;obtain ⟨B,rfl⟩: ∃ B:Nat,Q=(B:Int):=⟨Q.toNat,K⟩;obtain ⟨w,rfl⟩: ∃ w:Nat,R=(w:Int):=⟨R.toNat,K⟩;have aU:Hid (ml ⟨t,v,y,A,B,w⟩):=N ⟨by show 4≤t∧t≤200;omega,by show 3≤v∧v≤40;omega,by show 1≤y∧y≤8;omega,by show 2≤A∧A≤64;omega,by show 2≤B∧B≤64;omega,by show 8≤w∧w≤1099511627776;omega⟩;have dH:=N cL;have cj:er aF dO 0 (bC ⟨t,v,y,A,B,w⟩):=⟨fun p bT bK=>(bn.out.I aC).aM p bT (by
  have ed:=(c3.1 bK).1;simp at ed;rcases p with _|_|_|_|_|_|p
  all_goals first|exact bK|omega)⟩
 clear d7 d5 d8 d6 d3 d4 cL cY;go_upto_region 3 with fail
 clear bV;have b5:=N (xV aU.out aF);go_upto_region 6 with (first|(with_reducible refine dc 23 (cj) fO ?_)|(go_at_call 7;(with_reducible refine b5.out.mono ?_);rintro e aS ⟨f,rfl,cx,cD,aD⟩))
 have b9:=N (xY cx);have cd:=N cD;have cS:=aC.trans aD;have eg:=aD.le;have ef:=aC.le;clear cx cD aD aC cj b5;go_upto_region 7 with (go_at_call 8;(with_reducible refine b9.out.mono ?_);rintro e ew ⟨bt,rfl,a3,cN,cE⟩;have ce:=N cE;clear cE)
 obtain ⟨aq,bM⟩: ∃ q,W[0]?=Z q:=⟨_,cP (by have:=eh;simp at c0;omega)⟩;obtain ⟨u,cw⟩: ∃ u,u=aq.l.map cV.key:=⟨_,rfl⟩;have c5:=dH.out aq (iV bM);obtain ⟨dN,ep,c4,cJ⟩:=lz.get dp.out;obtain ⟨cG,bG⟩:=cJ 0 aq bM;rw [gI] at cG;have dx:=N bG;have br:=N bG.len;have ei:0 < n:=by simp at c0;omega
 have dG:=N c4;clear c4 cJ bG;have cT:=cS.trans cN;have cC: ∀ b∈bt::f.l,z.heap.size≤b:=fun b m=>by
  rcases bd.1 m with q|q
  ·rw [q,ce.out];omega
  ·have:=cd.out b q;omega
 have cu:jK f ⟨t,v,y,A,B,w⟩ bt u z 0 V 0 0 ew:=⟨pX,bt::f.l,j0 ⟨t,v,y,A,B,w⟩,V,0,0,g4,[],a3,rfl,EF _ u (by have:=aU.out.aQ;show 1≤t;have:4≤t:=this.1;omega) (by have:=aU.out.ax;show 1≤v;have:3≤v:=this.1;omega),rfl,aJ _,yQ _,cT,cC⟩;have dl:=N cu;have bj:=N cw;clear a3 cN ce cd cS cT cC cu eg ef bM cw b9;obtain ⟨G,dX,eD⟩: ∃ G:Nat,ar.tmod 40=(G:Int)∧G < 40:=by
  have:=ch.out;refine ⟨(ar.tmod 40).toNat,?_,?_⟩
  ·have:=Int.tmod_nonneg 40 this.1;omega
  ·have ct:=Int.tmod_lt_of_pos ar (b:=40) K;have:=Int.tmod_nonneg 40 this.1;omega
 have dR:wrap64 ar=ar:=by
  have:=ch.out;unfold wrap64;omega
 have aP:IntKind.i64.wrap ((G:Int)+1)=((G+1:Nat):Int):=by
  rw [Int.natCast_add];exact e0 _ K
 go_upto_region 10 with fail
 clear dR dX aP;go_loopw [8,9,49] (fun bR bS bP wr=> ∃ (i dU:Nat) (o:Option ai) (aM aH:Nat),i≤G+1∧bR=ac o aM aH∧bS=O U (dU:Int)∧bP=O U (i:Int)∧Hid (jK f ⟨t,v,y,A,B,w⟩ bt u z dU o aM aH wr)) (fun _ _ bP _=>G+1 - (intOf bP).toNat)
 case atStart=>exact ⟨0,0,V,0,0,aJ _,rfl,rfl,rfl,dl⟩
 case round=>
  obtain ⟨i,dU,o,aM,aH,eI,rfl,rfl,rfl,T⟩:=hrel;by_cases cX:i < G+1
  ·have eF:decide ((i:Int) < (G:Int)+1)=true:=eo K;have cg:=N cX;clear cX;have bJ:=T.out.aC;have bV:=(bn.out.I bJ).cell 6 rfl;have dQ:=bJ.I cG;have dT: ∀ aF,(Instr.indexAt 24 (ac ab n C) (O U 0)).run aj aF= .ok (au (Z ⟨dN,ep,V⟩)) aF:=fun aF=>yV (k:=0) C dG.out ei aF;have eN:IntKind.i64.wrap ((i:Int)+1)=(i:Int)+1:=e0 _ K;have dW:u.length≤24:=by
    rw [bj.out,fM];have ct:=c5;have a3:=br.out;omega
   obtain ⟨dM,eq,c2,cI⟩:=kU.get dx.out;have dv:=N cI;have dE:=N c2;clear bJ cI c2;go_upto_region 12 with fail
   clear bV dQ dT;go_loopw [8,9,56] (fun bR bS bQ ev=> ∃ (p av:Nat) (an:Option ai) (am ag:Nat),p≤aq.n∧bR=ac an am ag∧bS=O U (av:Int)∧bQ=O U (p:Int)∧Hid (jK f ⟨t,v,y,A,B,w⟩ bt u z av an am ag ev)) (fun _ _ bQ _=>aq.n - (intOf bQ).toNat)
   case atStart=>exact ⟨0,dU,o,aM,aH,aJ _,rfl,rfl,rfl,T⟩
   case round=>
    clear T;obtain ⟨p,av,an,am,ag,bK,rfl,rfl,rfl,T⟩:=hrel;by_cases ee:p < aq.n
    ·obtain ⟨c,bE⟩: ∃ c,aq.l[p]?=Z c:=⟨_,cP (by have:=br.out;omega)⟩;obtain ⟨dd,de,df⟩:=dv.out p c bE;have cQ:=T.out.aC;have ci:er wr dM (eq+p * 3) (mr c):=⟨fun q bT a9=>cQ.I (dd q bT a9)⟩;have dV:=yT aq.cap dE.out ee;have eO:IntKind.i64.wrap ((p:Int)+1)=(p:Int)+1:=e0 _ K;have cK:c.key∈u:=by rw [bj.out];exact List.mem_map_of_mem (iV bE)
     have bp:=N (And.intro de df);have dw:=N cK;have bs:ae (H wr (X #[O U 0,af ⟨#[]⟩,af ⟨#[]⟩] 40)) wr.heap.size [O U 0,af ⟨#[]⟩,af ⟨#[]⟩]:=(ae.new wr _ _ rfl).of J;clear bE dd de df cQ cK;go_upto_region 14 with (first|(with_reducible refine dc 40 (ci) pF ?_)|(with_reducible refine bq 40 (bs) ((mr c)) ?_))
     have aT:ae ((H wr (X #[O U 0,af ⟨#[]⟩,af ⟨#[]⟩] 40)).setCells wr 0 (mr c)) wr.heap.size (mr c):=bs.aR rfl;have cM:Y wr ((H wr (X #[O U 0,af ⟨#[]⟩,af ⟨#[]⟩] 40)).setCells wr 0 (mr c)):=((Y.refl wr).alloc _).setCells (aG _) _ _;obtain ⟨D,S,g,db,c9,cn,dh,rows,bB⟩:=T.out;have aE:wr.heap.size∉S:=fun q=>dk _ (bB.ev.mem.old _ q);have m:=bB.I cM;clear bs ci cM bB T dV;(try simp only [Act.put]);show Code.wp _ _ _ _ ((H wr (X #[O U 0,af ⟨#[]⟩,af ⟨#[]⟩] 40)).setCells wr 0 (mr c));generalize (H wr (X #[O U 0,af ⟨#[]⟩,af ⟨#[]⟩] 40)).setCells wr 0 (mr c)=ck at *;generalize wr.heap.size=dK at *;by_cases aQ:ga c
     ·obtain ⟨k,r,eK,cB⟩:=G8 m aU.out.ok K aQ dw.out bp.out;have b8:=N cB;have dF:=N aQ;have di:=N aT;have dB:=N aE;have dD:Hid (dK∉[f.m]):=N fun q=>aE (by rw [aO.1 q];exact m.ev.mem.sub f.m J);clear cB aQ m aE;go_upto_region 16 with (first|(with_reducible refine b0 40 (aT) pF ?_)|(go_at_call 9;(with_reducible refine b8.out.mono ?_);rintro e eu ⟨rfl,cA⟩;have b7:=N cA;clear cA))
      clear aT b8;(try simp only [bu]);go_loopw [12] (fun bO ez=> ∃ x:Nat,x≤k∧bO=O U (x:Int)∧Hid (a7 f bt (k - x) ez fun e aS=>e=ap (ah true)∧∃ aN aW E da c8 cm dg F,iZ f ⟨t,v,y,A,B,w⟩ bt u z av an am ag c r aS aN aW E da c8 cm dg rows F∧bD S ck aW aS)) (fun bO _=>k - (intOf bO).toNat)
      case atStart=>exact ⟨0,aJ _,rfl,b7⟩
      case round=>
       clear b7;obtain ⟨x,eJ,rfl,bw⟩:=hrel;have eL:x < k:=by
        rcases dC x k with q|q
        ·exact q
        ·have cs:=bw.out;rw [show k - x=0 by omega] at cs;exact cs.elim
       have bx:=bw.out;rw [show k - x=(k - (x+1))+1 by omega] at bx;have bm:=N (He bx);clear bw bx;go_wp2_with fail;refine bm.out.mono ?_;rintro e bU (⟨rfl,d2⟩|⟨rfl,aR⟩)
       ·obtain ⟨aN,aW,E,da,c8,cm,dg,F,ax,cO⟩:=d2;have aY:=cO.box (.inl dB.out) di.out;obtain ⟨bL,c6⟩:=Gj ax.gx;have bl:Hid (ao aj 11 #[aa bt] bU fun e d=>e=ap (a0 #[aw #[r.val,aN.bF],aB])∧Y bU d):=N (by
         have:=Gr ax.ev ax.nx ax.fI c6;rw [ax.bR] at this;exact this)
        have aV:=N ax;have cf:=N fun d (dS:eH (ay d aW) aN.bF (jS r.code)) (bH:Y z d)=>Cr dS (bH.I dA.out);obtain ⟨bF,bN⟩: ∃ bF,bF=aN.bF:=⟨_,rfl⟩;rw [←bN] at bL bl;have dJ:=N bN;have ek: ([af r.val,bF]:List ak).all (·.oneCell')=true:=by
         show ((Value.string r.val).oneCell' && (bF.oneCell' && true))=true;rw [bL];rfl
        clear ax cO c6 bL bm bN;go_upto_region 21 with (first|(go_at_call 11;(with_reducible refine bl.out.mono ?_);rintro e a ⟨rfl,aL⟩;have bv:ae (H a (X #[af ⟨#[]⟩,aB] 44)) a.heap.size [af ⟨#[]⟩,aB]:=(ae.new a _ _ rfl).of J)|((with_reducible refine ka (ty:=44) bv [af r.val,bF] ?_ ?_ ?_ ?_ ?_ ?_);(focus (exact rfl));(focus (exact ⟨_,_,rfl,rfl,rfl⟩));(focus (exact rfl));(focus kernel_rfl);(focus (exact ek))))
        have bW:ae ((H a (X #[af ⟨#[]⟩,aB] 44)).setCells a 0 [af r.val,bF]) a.heap.size [af r.val,bF]:=bv.aR rfl;have a5:Y a ((H a (X #[af ⟨#[]⟩,aB] 44)).setCells a 0 [af r.val,bF]):=((Y.refl a).alloc _).setCells (aG _) _ _;have cW: ∀ b,bU.heap.size≤b→b∉[f.m]:=fun b m q=>by
         rw [aO.1 q] at m;have:=aV.out.ev.mem.old _ (aV.out.ev.mem.sub f.m J);omega
        have cZ:=cW _ aL.le;have bI:=aL.trans a5;have bA:=aV.out.I bI;have aY:=aY.I bI;have aE:=dD.out;clear bv aL a5 cW bl bI;(try simp only [bu]);show Code.wp _ _ _ _ ((H a (X #[af ⟨#[]⟩,aB] 44)).setCells a 0 [af r.val,bF]);generalize (H a (X #[af ⟨#[]⟩,aB] 44)).setCells a 0 [af r.val,bF]=ex at *;generalize a.heap.size=eC at *;have b6:=N (x6 bA.ev.mem);have cb:=N bA;clear bA;go_upto_region 22 with (go_at_call 12;(with_reducible refine b6.out.mono ?_);rintro e be ⟨rfl,cy,a8⟩)
        have az:=cb.out.now cy a8;have bf:=a8.box cZ bW;have bX:=a8.box aE aY;have eA:=(bn.out.I az.aC).cell 5 rfl;have c1:=az.ev.mem.now.2;have el:=az.dU;have a1:decide (w < E.now)=false:=dz (by have:E.now≤w:=c1;omega);have a2:decide (E.now < av)=false:=dz K;have eB:=bf.cell 1 rfl;have b2:Hid (ao aj 13 #[bF] be fun e d=>e=ap (O U r.code)∧Y be d):=N (by
         rw [dJ.out];exact cf.out be az.gx az.aC)
        have cc:=N az;have bZ:=N bX;have b1:=N bf;clear az cy a8 bW aY bX bf b6 cb cZ aE c1 el cf aV;go_upto_region 25 with fail
        clear a1 a2 eA;go_upto_region 26 with (go_at_call 13;(with_reducible refine b2.out.mono ?_);rintro e eS ⟨rfl,a6⟩)
        have a4:=cc.out.I a6;have bg:=bZ.out.I a6;have bh:=b1.out.I a6;clear eB b2 a6 cc bZ b1;by_cases aA:r.code=3∨r.code=5
        ·have dm:=N (a4.same aA);have d1: (r.code==3)=true∨((r.code==3)=false∧(r.code==5)=true):=by
          rcases aA with q|q <;> simp [q]
         clear a4 aA bg bh;rcases d1 with aP|⟨aP,cr⟩
         all_goals
          go_wp2_with fail;go_roundw
          case rel=>exact ⟨p+1,E.now,an,am,ag,K,rfl,rfl,rfl,dm⟩
          case measure=>simp [intOf];omega
        ·have aP: (r.code==3)=false:=by rw [ey];exact fun q=>aA (.inl q)
         have cr: (r.code==5)=false:=by rw [ey];exact fun q=>aA (.inr q)
         have bY:=N (a4.AZ aA K dF.out bp.out);have b3:=N bh;clear aA a4 bh;go_upto_region 28 with (first|(with_reducible refine b0 40 (bg) pF ?_)|(go_at_call 14;(with_reducible refine bY.out.mono ?_);rintro e eT ⟨en,em,dP,rfl,cv,eb⟩))
         have eV:=(b3.out.I eb).cell 0 rfl;have dn:=N cv;clear cv bg aP cr bY b3;go_wp2_with fail;go_roundw
         case rel=>exact ⟨p+1,E.now,en,em,dP,K,rfl,rfl,rfl,dn⟩
         case measure=>simp [intOf];omega
       ·have dq:=N aR;have eG:decide ((60000:Int) < (x:Int))=false:=dz K;have eM:IntKind.i64.wrap ((x:Int)+1)=(x:Int)+1:=e0 _ K;clear aR bm;go_wp2_with fail;go_roundw
        case rel=>exact ⟨x+1,K,rfl,dq⟩
        case measure=>simp [intOf];omega
     ·have dt:=N (G6 m.ev bp.out aQ);have dj:Hid (jK f ⟨t,v,y,A,B,w⟩ bt u z av an am ag ck):=N ⟨D,S,g,db,c9,cn,dh,rows,m⟩;clear aQ m aE;go_wp2_with (first|(with_reducible refine b0 40 (aT) pF ?_)|(go_at_call 9;(with_reducible refine dt.out.mono ?_);rintro e eu ⟨rfl,d9⟩));(try simp only [bu]);go_roundw
      case rel=>exact ⟨p+1,av,an,am,ag,K,rfl,rfl,rfl,N (dj.out.I d9)⟩
      case measure=>simp [intOf];omega
    ·go_wp2_with fail;go_roundw
     case rel=>exact ⟨i+1,av,an,am,ag,by have:=cg.out;omega,rfl,rfl,rfl,T⟩
     case measure=>have:=cg.out;simp [intOf];omega
  ·obtain rfl:i=G+1:=by omega
   obtain ⟨D,S,g,db,c9,cn,dh,rows,m⟩:=T.out;obtain ⟨eR,eP,eQ,a1,a2,co,cp⟩:=GM m.inv;have dW:u.length≤24:=by
    rw [bj.out,fM];have ct:=c5;have a3:=br.out;omega
   have ej:=m.inv.nL;have dr:=N (yX m.ev.mem a1 a2 co cp K);have aR:=m.rws.gP;have ec:=m.aC;have ds:=N fun a bc aZ (bH:Y wr a) (bb:bk a bc rows.length aZ rows)=>(show ao aj 16 #[ac bc rows.length aZ,ac o aM aH] a fun e d=>e=ap (ah true)∧Y a d from (Gn bc o rows.length aZ aM aH rows rows a bb (aR.I bH)).mono fun e d ⟨es,et⟩=>⟨by rw [es];simp,et.aC⟩);clear T m a1 a2 co cp ej aR;go_wp2_with (first|(go_at_call 15;(with_reducible refine dr.out.mono ?_);rintro e a ⟨bc,aZ,rfl,bb,aL⟩;have dI:=N bb;clear bb)|(go_at_call 16;(with_reducible refine (ds.out _ _ _ aL dI.out).mono ?_);rintro e ex ⟨rfl,a5⟩)|(go_at_call 6;(with_reducible refine (bi.out _).mono ?_);rintro e be ⟨rfl,ea⟩));go_ret;exact ⟨rfl,aK.trans (((ec.trans aL).trans a5).trans ea)⟩
end
section
open Go.RowKit
theorem C5(g i k m o p:Int)(f:Option ai)(n c:Nat)(W:List g1)(j:Option ai)(l r:Nat)(b:Int)(a:ad)(v:lz a f n c W)(x: ∀ q∈W,q.n≤4000000000000)(y: (Lit.int .u8 b).wf=true)(w:a.cell? ⟨0,0,V⟩=Z mx):
  ao aj 3 #[aw #[g,i,k,m,o,p,ac f n c,ac j l r],O .u8 b] a fun e d=>e=ap (ah true)∧Y a d:=
 C4 g i k m o p f n c W j l r b a v x (by
  have s: (decide (IntKind.min .u8≤b) && decide (b≤IntKind.max .u8))=true:=y;have t:IntKind.min .u8=0:=bP;have u:IntKind.max .u8=255:=bP;rw [t,u,fZ,ke,ke] at s;exact s) w
end
end Go.Proofs.YtbkmjhhpcinppaaGreatDoor
