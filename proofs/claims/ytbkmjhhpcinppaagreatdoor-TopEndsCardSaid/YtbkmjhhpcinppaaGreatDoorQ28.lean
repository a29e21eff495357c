import Derived.Test.YtbkmjhhpcinppaaGreatDoorQ27
namespace Go.Proofs.YtbkmjhhpcinppaaGreatDoor
set_option linter.unusedVariables false
set_option linter.defProp false
set_option linter.unusedSimpArgs false
set_option maxRecDepth 100000
set_option maxHeartbeats 40000000
open Go.BigFrame Go.RowKit Go.WideShapes
open Ending renaming returned→ap
open Go renaming Addr→ai,Calls→ao,Value→ak,World→ad
open Go.Proofs.Tryz renaming prog→aj
open IntKind renaming i64→U
open Obj renaming cells→X
open Option renaming none→V,some→Z
open Value renaming agg→aw,bool→ah,int→O,nilIface→aB,slice→ac,string→af,tuple→a0
open World renaming alloc→H,setCells→ba
variable {I F aH : ar} {B0 T aN aR g aU aQ f c w s cb W am C m E z nb av p : Nat} {D a3 : bU} {d : aV} {M a8 R : az} {S aL B : List Nat} {aM : eT} {e : Ending} {hd : aA} {aS : ByteArray} {lim : aK} {n x y : Int} {o A u ob ax aC : Option ai} {aD : List aA} {v : aY} {aE : List ak} {a k l : ad}
theorem Dc:dH 137:=fun args a=>fj Tryz.func137 G rfl args a
section
structure lx (d:aV) (S:List Nat) (a:ad) (f g:Nat) (nx:ak) (aF T:Nat):Prop where
 nx:nx= .func (.func 137) #[] #[aa aF,aa T]
 qw: (ay a S).cell? ⟨aF,0,V⟩=Z (aa g)
 mq: (ay a S).cell? ⟨T,0,V⟩=Z (aa f)
 cH:f < g
def vj (d:aV) (S:List Nat) (lim:aK) (M:az) (f:Nat) (D:bU) (ob:Option ai) (nb cb:Nat) (aE:List ak) (p:Nat) (hd:aA) (v:aY) (a:ad) (e:Ending) (k:ad):Prop:=
 e=ap (ah false)∧∃ nx aL g aQ aM aF T,aP d aL k lim M f {D with nx:=nx} ob nb cb aE∧lx d aL k f g nx aF T∧iH d aL k lim M g aM v.aH aQ∧ed aM p hd v∧aM.fU=pt g∧aM.left=v.bb∧bD S a aL k
theorem iH.under(m:iH d S a lim M g aM n aQ)(j:Mod [f] a k)(i:f∈S∧f∉d.l∧f < g):iH d S k lim M g aM n aQ:=by
 obtain⟨c,o,p,r,l⟩:=m;have t:fq S a S k:=j.aL (by intro b e;rw[aO.1 e];exact i.1) fun _ q=> .inl q;have s:aX d S k lim M:=c.mem.step (j.ju fun b e=>by rw[aO.1 e];exact i.1) (fun b e q=>i.2.1 (by rw[←aO.1 q];exact e)) c.mem.sub;have E:g∉[f]:=fun q=>by rw[aO.1 q]at i;omega
 have z:aQ∉[f]:=fun q=>by rw[aO.1 q]at l;omega
 exact⟨⟨s,j.box E c.box,c.rows.ex t,c.b6,c.key,c.jf,c.e4⟩,o,j.box z p,r,l⟩
theorem k7(a:ad)(e cl cx:TypeId)(b c d:List ak):
  Y a (((H a (X b e)).alloc (X c cl)).alloc (X d cx))∧ae (((H a (X b e)).alloc (X c cl)).alloc (X d cx)) a.heap.size b∧ae (((H a (X b e)).alloc (X c cl)).alloc (X d cx)) (a.heap.size+1) c∧ae (((H a (X b e)).alloc (X c cl)).alloc (X d cx)) (a.heap.size+2) d∧a.heap.size+3=(((H a (X b e)).alloc (X c cl)).alloc (X d cx)).heap.size:=
 ⟨(((Y.refl a).alloc _).alloc _).alloc _,((ae.new a _ _ rfl).of J).I (((Y.refl _).alloc _).alloc _),((ae.new (H a _) _ _ dW).of J).I ((Y.refl _).alloc _),(ae.new ((H a _).alloc _) _ _ kT).of J,pU⟩
theorem Ej{ab:List ak}(j:aP d S a lim M f D ob nb cb aE)(aI:cd (ay a S) (p:Int) hd C (.aU v) ab):
  ao aj 122 #[aa f,aw ab,aw #[v.aH,v.bb,v.aD]] a (vj d S lim M f D ob nb cb aE p hd v a):=by
 obtain ⟨ax,W,aC,av,am,u,y,s,rfl,aH,R⟩:=aI;obtain ⟨x,B,t,F,aZ⟩:=k7 a 35 170 83 [aa f] (dd (p:Int) ((hd.i:Int)+1) (hd.g:Int) ax C W aC av am v u y s) [O U v.aH,O U v.bb,af v.aD];have z:=N j;have an:=N fun (aW:ad) (aN:Y a aW)=>BD (p:=p) (hd:=hd) (v:=v) (j.mem.I aN) R.aD;have hold:=j.mem.old;have aX:=j.lt;clear j aH R;go_enter Tryz.func122,Tryz.ntmps122;go_upto_region 1 with fail
 show Code.wp _ _ _ _ (((H a (X [aa f].toArray 35)).alloc (X (dd (p:Int) ((hd.i:Int)+1) (hd.g:Int) ax C W aC av am v u y s) 170)).alloc (X [O U v.aH,v.bb,v.aD].toArray 83));generalize (((H a (X [aa f].toArray 35)).alloc (X (dd (p:Int) ((hd.i:Int)+1) (hd.g:Int) ax C W aC av am v u y s) 170)).alloc (X [O U v.aH,v.bb,v.aD].toArray 83))=m at *;have aV:m.cell? ⟨a.heap.size+1,0,V⟩=Z (O U (p:Int)):=t.cell 0 rfl;have A:=t.ef 1 [O U ((hd.i:Int)+1),(hd.g:Int)] rfl;have aq:=N (an.out m x);go_upto_region 2 with (first|(with_reducible refine dc 78 (A) dm ?_)|(with_reducible refine b0 83 (F) od ?_)|(go_at_call 136;(with_reducible refine aq.out.mono ?_);rintro e c ⟨g,aQ,aL,aM,rfl,aY,n,T,Q,P,o⟩))
 have al:ae (H c (X #[aa g] 256)) c.heap.size [aa g]:=(ae.new c _ _ rfl).of J;have l:Y c (H c (X #[aa g] 256)):=(Y.refl c).alloc _;have I:f < g:=K;have aU: ∀ b∈aL,b∈S∨m.heap.size≤b:=fun b w=>(o.new b w).imp id fun q=>q.1;have aR:a.heap.size∉aL:=fun q=>by
  rcases aU _ q with C|C
  ·have:=hold _ C;omega
  ·omega
 have aG:=o.box (.inl (fun q=>by have:=hold _ q;omega)) B;have G:=z.out.av ((Y.av x).trans o) n.h.mem ⟨z.out.c5,K⟩;have aS:c.heap.size∉aL:=fun q=>dk _ (n.h.mem.old _ q);have aT:c.heap.size≠f:=fun e=>by have:=G.lt;omega
 have E:=aG.I l;have k:=G.aC l;have i:=N n;have aF:=N T;have aD:=N Q;have aA:=N P;have az:=N ((Y.av (L:=d.l) (B0:=m.heap.size) (S:=S) x).trans o);clear n T Q P B t F aV A;(try simp only [Act.put]);show Code.wp _ _ _ _ (H c (X #[aa g] 256));generalize H c (X #[aa g] 256)=ag at *;have a2:=E.cell 0 rfl;have ar:=N (iS k 137 #[] #[aa c,aa a]);go_wp2_with (go_at_call 57;(with_reducible refine ar.out.mono ?_);rintro e a1 ⟨rfl,rfl⟩);go_ret;have r:=Mod.setCell (S:=[f]) ag ⟨f,11,V⟩ (.func (.func 137) #[] #[aa c,aa a]) J;have aK:iH d aL ag lim M g aM v.aH aQ:=⟨i.out.h.aC l,i.out.lo,i.out.box.I l,i.out.e2,i.out.cH⟩;refine ⟨rfl,_,aL,g,aQ,aM,c.heap.size,a.heap.size,k.next _,⟨rfl,bp.2 ⟨aS,(r.box (by simpa using aT) al).cell 0 rfl⟩,bp.2 ⟨aR,(r.box cJ E).cell 0 rfl⟩,I⟩,aK.under r ⟨k.cE,k.c5,I⟩,aF.out,aD.out,aA.out,?_⟩;exact (az.out.goes.trans (Y.av l)).trans (r.av fun b w=>by rw [aO.1 w];exact ⟨k.cE,.inr (aJ _)⟩)
end
section
variable {aF : Nat} {n : Nat}
def m5 (d:aV) (B:List Nat) (l:ad) (lim:aK) (R:az) (f:Nat) (D:bU) (ob:Option ai) (nb cb:Nat) (aE:List ak) (aD:List aA) (c:Int) (e:Ending) (k:ad):Prop:=
 ∃ a b,bD B l a b∧qf d a lim R f D ob nb cb aE (a4 aD.head?).1 (a4 aD.head?).2 c b e k
theorem CV(q:lx d B l f g D.nx aF T)(j:bW d lim g B l n (hq d lim g B l v R (.done aD)) e a):
  (e=ap (ah true)∧∃ c b,a.cell? aF=Z (aa g)∧a.cell? T=Z (aa f)∧Hid (di d c a lim R g b∧bn d.l g B l c a∧b.hS=true∧b.hp=v.aH∧(b.x,b.y)=a4 aD.head?)∧Hid (ao aj 139 #[aa g] a fun e k=>e=ap (a0 #[ah true,aB])∧Y a k))∨(e=ap (ah false)∧ep d lim g B l n a (hq d lim g B l v R (.done aD))):=by
 rcases j with ⟨rfl,c,b,p,i,t,s,o,r,u⟩|j
 ·have m:=wb p.box t;rw [o,r] at m;exact .inl ⟨rfl,c,b,(dv _ _).cell _ _ _ (i.aL.cell _ _ _ q.qw),(dv _ _).cell _ _ _ (i.aL.cell _ _ _ q.mq),N ⟨p,i,o,s,u⟩,N m⟩
 ·exact .inr j
theorem Ee(z:aP d B l lim M f D ob nb cb aE)(j:lx d B l f g D.nx aF T)(ae:bn d.l g B l S a)(E:ao aj 138 #[aa g,aa d.m] a (bW d lim g B l n (hq d lim g B l v R (.done aD)))):
  ao aj 137 #[aa d.m,aa aF,aa T] a fun e k=>(e=ap (ah false)∧ep d lim g B l n k (hq d lim g B l v R (.done aD)))∨m5 d B l lim R f D ob nb cb aE aD v.aH e k:=by
 have ay:=(dv _ _).cell _ _ _ (ae.aL.cell _ _ _ j.qw);have L:=N (E.mono fun e ar q=>CV j q);have w:=N z;have J:=N j;clear E z j;go_enter Tryz.func137,Tryz.ntmps137;go_wp2_with (first|(go_at_call 138;(with_reducible refine L.out.mono ?_);rintro e ar (⟨rfl,Q,x,u,t,P,K⟩|⟨rfl,ab⟩))|(go_at_call 139;(with_reducible refine K.out.mono ?_);rintro e av ⟨rfl,p⟩;have u:=p.I u;have t:=p.I t))
 ·obtain ⟨A,y,W,ag,I⟩:=P.out;refine cZ (fun _=>True) (fun k=>k.cell? aF=Z (aa g)∧k.cell? T=Z (aa f)) 5 G ?_;have m:True:=trivial;have o:=(Y.refl av).drew;have hKC:=And.intro (o.I u) (o.I t);refine' bc (v:=aa f) 0 24 rfl (.inl ⟨aq,?_⟩) m hKC ?_
  ·(intro a i;have an:=i.2.2;clear i;go_simp)
  refine' bc (v:=aa g) 1 25 rfl (.inl ⟨aq,?_⟩) m hKC ?_
  ·(intro a i;have an:=i.2.1;clear i;go_simp)
  refine b4 2 (Z 26) rfl (fun c b=>?_);go_simp;go_at_call 141;refine (DO (A.aC (p.trans o)).box W).mono ?_;rintro e ax ⟨rfl,r⟩;have C:=And.intro (r.I hKC.1) (r.I hKC.2);refine a5 b (trivial) (fun _=>C) ?_;clear b c;have hKC:=C;have F:=(p.trans o).trans r;have al:x.x=(a4 aD.head?).1:=bB Prod.fst I;have am:x.y=(a4 aD.head?).2:=bB Prod.snd I;rw [al,am,ag];have bh:=(w.out.av y A.mem ⟨w.out.c5,J.out.cH⟩).aC F;refine' aI 3 27 (aw #[O U (a4 aD.head?).1,O U (a4 aD.head?).2]) rfl m hKC ?_;refine' aI 4 28 (O U v.aH) rfl m hKC ?_;refine cg 5 (Z 29) rfl (fun c b=>?_);go_simp;go_at_call 140;refine (uc bh (a4 aD.head?).1 (a4 aD.head?).2 v.aH).mono ?_;rintro e az s;obtain ⟨rfl,s⟩:=s;refine bM b (trivial) ?_;clear b c;refine cg 6 (Z 4) rfl (fun c b=>?_);go_simp;refine bM b (trivial) ?_;clear b c;refine cC G ?_;go_wp2_with fail;go_ret;exact .inr ⟨Q,ax,y.goes.trans (Y.av F),rfl,s⟩
 ·go_ret;exact .inl ⟨rfl,ab⟩
theorem FE{c:Int}(s:lx d B l f g D.nx aF T)(p:bW d lim g B l n (hq d lim g B l v R (.no c)) e a):
  (e=ap (ah true)∧∃ b j t i,a.cell? aF=Z (aa g)∧a.cell? T=Z (aa f)∧Hid (di d b a lim R g j∧bn d.l g B l b a∧cm (ay a b) (.iface t i) c)∧Hid (ao aj 139 #[aa g] a fun e k=>e=ap (a0 #[ah false,.iface t i])∧Y a k))∨(e=ap (ah false)∧ep d lim g B l n a (hq d lim g B l v R (.no c))):=by
 rcases p with ⟨rfl,b,j,r,m,x,y,w,o⟩|p
 ·have q:=wb r.box x;obtain ⟨t,i,u⟩:=cm.iface o;rw [w,u] at q;rw [u] at o;exact .inl ⟨rfl,b,j,t,i,(dv _ _).cell _ _ _ (m.aL.cell _ _ _ s.qw),(dv _ _).cell _ _ _ (m.aL.cell _ _ _ s.mq),N ⟨r,m,o⟩,N q⟩
 ·exact .inr p
theorem Eg{c:Int}(p:aP d B l lim M f D ob nb cb aE)(j:lx d B l f g D.nx aF T)(C:bn d.l g B l S a)(r:ao aj 138 #[aa g,aa d.m] a (bW d lim g B l n (hq d lim g B l v R (.no c)))):
  ao aj 137 #[aa d.m,aa aF,aa T] a fun e k=>(e=ap (ah false)∧ep d lim g B l n k (hq d lim g B l v R (.no c)))∨cS d lim f D D.bin B l R ⟨#[]⟩ (Z c) e k:=by
 have ae:=(dv _ _).cell _ _ _ (C.aL.cell _ _ _ j.qw);have z:=N (r.mono fun e I q=>FE j q);have m:=N p;have w:=N j;clear r p j;go_enter Tryz.func137,Tryz.ntmps137;go_wp2_with (first|(go_at_call 138;(with_reducible refine z.out.mono ?_);rintro e I (⟨rfl,o,ab,t,G,u,s,i,x⟩|⟨rfl,A⟩))|(go_at_call 139;(with_reducible refine x.out.mono ?_);rintro e J ⟨rfl,b⟩;have u:=b.I u;have s:=b.I s;have y:=N (mv (((m.out.av i.out.2.1 i.out.1.mem ⟨m.out.c5,w.out.cH⟩).aC b)) (.iface t G) c (cm.ex i.out.2.2 (bX b o))))|(go_at_call 102;(with_reducible refine y.out.mono ?_);rintro e K ⟨rfl,F,E,L,P,Q,W⟩))
 ·go_ret;have q:iE d o lim R f D ob nb cb aE J c (ap (ah false)) K:=⟨rfl,F,E,L,P,Q,W⟩;exact .inr (q.ha (i.out.2.1.goes.trans (Y.av b)))
 ·go_ret;exact .inl ⟨rfl,A⟩
theorem xi{c:p0}{P:Ending→ad→Prop}(j:aP d B l lim M f D ob nb cb aE)(m:lx d B l f g D.nx aF T)(s: ∀ (n:Nat) (S:List Nat) (a:ad),bn d.l g B l S a→ao aj 138 #[aa g,aa d.m] a (bW d lim g B l n (hq d lim g B l v R c))→
  ao aj 137 #[aa d.m,aa aF,aa T] a fun e k=>(e=ap (ah false)∧ep d lim g B l n k (hq d lim g B l v R c))∨((∃ b,e=ap (ah b))∧P e k)):
  ∀ (C:Nat) (a:ad),ep d lim g B l C a (hq d lim g B l v R c)→a7 d f C a P:=by
 intro C;induction C with
 |zero=>intro a i;exact i.elim
 |succ C ih=>
  intro a i;obtain⟨⟨S,w,o,r⟩,t⟩:=i;have p:=j.av o r ⟨j.c5,m.cH⟩;have u:a.cell? ⟨f,11,V⟩=Z (.func (.func 137) #[] #[aa aF,aa T]):=by rw[←m.nx];exact p.box.cell 11 rfl
  refine pq (first:= #[]) (cap:= #[aa aF,aa T]) u Dc ((s C S a o t).mono fun e k q=>?_);rcases q with⟨rfl,q⟩|⟨⟨b,rfl⟩,q⟩
  ·exact⟨false,rfl,.inr ⟨rfl,ih k q⟩⟩
  ·exact⟨b,rfl,.inl q⟩
theorem D9(c:aP d B l lim M f D ob nb cb aE)(i:lx d B l f g D.nx aF T)(t:ep d lim g B l C l (hq d lim g B l v R (.done aD)))(s:D.bin.length≤1000000):
  a7 d f (C+1) l (eh d lim f D (D.bin++[⟨R.now,aD,v.aH⟩]) D.wr B l R):=by
 refine a7.trans (xi (P:=m5 d B l lim R f D ob nb cb aE aD v.aH) c i (fun n S a r p=>(Ee c i r p).mono fun e k q=>q.imp id fun q=>⟨⟨false,?_⟩,q⟩) C l t) fun e k q=>?_
 ·obtain⟨o,x,j,b,m⟩:=q;exact b
 ·obtain⟨o,x,j,b,nx,y,aN,aR,m,u,w⟩:=q;exact⟨b,(po (D:={D with nx:=nx}) m u s).mono fun e z q=>eh.from q (j.trans w)⟩
theorem Eb{c:Int}(b:aP d B l lim M f D ob nb cb aE)(i:lx d B l f g D.nx aF T)(o:ep d lim g B l C l (hq d lim g B l v R (.no c))):
  a7 d f C l (cS d lim f D D.bin B l R ⟨#[]⟩ (Z c)):=
 xi b i (fun n S a m j=>(Eg b i m j).mono fun e k q=>q.imp id fun q=>⟨⟨false,q.1⟩,q⟩) C l o
end
theorem wq:dH 146:=fun args a=>fj Tryz.func146 G rfl args a
theorem wu:dH 148:=fun args a=>fj Tryz.func148 G rfl args a
theorem wv:dH 150:=fun args a=>fj Tryz.func150 G rfl args a
theorem nr:dH 151:=fun args a=>fj Tryz.func151 G rfl args a
section
theorem vV{b:Nat}{x:fc}(F:a.rangeAt b 0 (an x A E w u z s))(y:Option ai)(n c:Nat):ao aj 146 #[ac y n c,aa b] a fun e k=>e=ap (a0 #[ac V 0 0,aW x A E w u z s])∧Y a k∧∃ l,a.heap.size≤l∧Mod [l] a k:=by
 have m:Y a (H a (X al 85)):=(Y.refl a).alloc _;have r:ae (H a (X al 85)) a.heap.size al:=(ae.new a _ _ rfl).of J;have q:=m.range F;clear F;go_enter Tryz.func146,Tryz.ntmps146;go_upto_region 1 with fail
 generalize H a (X al 85)=d at *;refine cZ (fun _=>True) (fun k=>k.rangeAt b 0 (an x A E w u z s)) 2 G ?_;have v:True:=trivial;have hKC:=(Y.refl d).drew.range q;have i:=r.I (Y.refl d).drew;have p:Y a d.drew:=m.trans (Y.refl d).drew;generalize d.drew=B at *;refine' bc 0 5 rfl (cj aq _ _ rfl _ _ rfl _ _ (fun a t=>t.2) cG rfl G) v hKC ?_;refine b4 1 (Z 3) rfl (fun g f=>?_);go_simp;refine a5 f (trivial) (fun _=>hKC) ?_;clear f g;refine j9 (j:=2) (o:={dst:=V,op:= .store 85 (.tmp 4) (.tmp 5),type:=_,pos:=_,after:=_,guard:=V}) rfl G G (fun g f=>?_);refine a6 aq ?_;refine dQ _ _ _ rfl _ _ (an x A E w u z s).toArray rfl rfl i.may G du ?_;simp only [bu];refine bM f (trivial) ?_;clear f g;refine cC G ?_;go_wp2_with fail;refine bH ((i.aR (us:=an x A E w u z s) rfl).ph rfl _ rfl rfl cG rfl G) rfl ?_;exact ⟨rfl,p.setCells (aG _) _ _,a.heap.size,aG _,(p.mod _).trans (Mod.setCells J _ _ _)⟩
theorem vY(c:aP d S a lim M f D ob nb cb aE)(l:a.cell? aR=Z (O U 6))(i:a.cell? T=Z (aa f))(j:a.cell? ⟨aN,1,V⟩=Z (O U x))(k:a.cell? ⟨aN,2,V⟩=Z (O U y)):
  ao aj 151 #[ah true,aa aR,aa T,aa aN] a (qf d S lim M f D ob nb cb aE x y (-1) a):=by
 have g:=N (uc c x y (-1));clear c;go_enter Tryz.func151,Tryz.ntmps151;go_wp2_with(go_at_call 140;(with_reducible refine g.out.mono ?_);rintro e m b;(obtain⟨rfl,b⟩:=b));go_ret;exact⟨rfl,b⟩
theorem v0(c:aP d S a lim M f D ob nb cb aE)(l:a.cell? aR=Z (O U 8))(i:a.cell? T=Z (aa f))(j:a.cell? ⟨aN,1,V⟩=Z (O U x))(k:a.cell? ⟨aN,2,V⟩=Z (O U y)):
  ao aj 151 #[ah true,aa aR,aa T,aa aN] a (qf d S lim M f D ob nb cb aE x y (-1) a):=by
 have g:=N (uc c x y (-1));clear c;go_enter Tryz.func151,Tryz.ntmps151;go_wp2_with(go_at_call 140;(with_reducible refine g.out.mono ?_);rintro e m b;(obtain⟨rfl,b⟩:=b));go_ret;exact⟨rfl,b⟩
theorem vZ(c:aP d S a lim M f D ob nb cb aE)(j:a.cell? aR=Z (O U 7))(i:a.cell? T=Z (aa f)):
  ao aj 151 #[ah true,aa aR,aa T,aa aN] a (mh d S lim M f D ob nb cb a):=by
 have g:=N (oC c);clear c;go_enter Tryz.func151,Tryz.ntmps151;go_wp2_with(go_at_call 60;(with_reducible refine g.out.mono ?_);rintro e k b;(obtain⟨rfl,b⟩:=b));go_ret;exact⟨rfl,b⟩
end
section
variable {aT : Nat} {P : cn} {ab : Option bQ} 
theorem xf(x:de lim D.c.key M D.wr 0 V C P ab .gQ)(o:P.nd= .aU v)(r:aP d S a lim M f D ob nb cb aE)(z:ff d S a f D 0)(s:D.ab=V):
  a7 d f C a fun e k=> ∃ j b nx i hd p,P.refs.head?=Z hd∧P.n=((p:Nat):Int)∧bD S a j b∧vj d j lim M f {D with ab:=ab,nx:=nx} ob nb cb i p hd v b e k:=by
 have m: {D with ab:=V,nx:=D.nx}=D:=by cases D;cases s;rfl
 refine mG (D:=D) (nb:=nb) (cb:=cb) (ob:=ob) x S a D.nx aE rfl rfl (by rw[m];exact r) (by rw[m];exact z) bn.refl fun aL k A i hd B y w l c t u=>?_;refine CJ l c t fun b g=>?_;obtain⟨p,n⟩:=fP w.hU;rw[o,n]at c;rw[o];exact(Ej (l.aC g) (c.ex (bX g aL))).mono fun e E q=>⟨false,q.1,aL,b,A,i,hd,p,y,n,u.trans (Y.av g),q⟩
theorem Ei(l:de lim D.c.key M D.wr 0 V C P ab .gQ)(s:P.nd= .aU v)(n:P.refs.head?=Z hd)(b:iF lim M P.n hd v aT R (.done aD))(o:D.bin.length≤1000000)(i:aP d S a lim M f D ob nb cb aE)(t:ff d S a f D 0)(j:D.ab=V):
  a7 d f (C+aT+1) a (eh d lim f D (D.bin++[⟨R.now,aD,v.aH⟩]) D.wr S a R):=by
 rw[rA];refine a7.trans (xf l s i t j) fun e k ⟨G,N,K,L,J,p,c,r,m,w,u,I,g,aQ,aM,aF,T,x,y,z,A,B,E,F⟩=>⟨w,?_⟩;rw[n]at c;cases c;rw[r]at b;exact(D9 (D:={D with ab:=ab,nx:=u}) x y (xg b z A B E bn.refl) o).mono fun e Q q=>eh.from (D:=D) q (m.trans F)
theorem Ea{c:Int}(m:de lim D.c.key M D.wr 0 V C P ab .gQ)(s:P.nd= .aU v)(o:P.refs.head?=Z hd)(b:iF lim M P.n hd v aT R (.no c))(j:aP d S a lim M f D ob nb cb aE)(t:ff d S a f D 0)(l:D.ab=V):
  a7 d f (C+aT) a (cS d lim f D D.bin S a R ⟨#[]⟩ (Z c)):=by
 refine a7.trans (xf m s j t l) fun e k ⟨G,N,K,L,J,p,i,r,n,w,u,I,g,aQ,aM,aF,T,x,y,z,A,B,E,F⟩=>⟨w,?_⟩;rw[o]at i;cases i;rw[r]at b;exact(Eb (D:={D with ab:=ab,nx:=u}) x y (xg b z A B E bn.refl)).mono fun e Q q=>cS.from (D:=D) q (n.trans F)
end
def kZ (I F:ar) (a:ad) (e:Ending) (k:ad):Prop:=
 ∃ A E w u z s i f c j g d,e=ap (a0 #[aW I.x A E w u z s,aW F.x i f c j g d,aB])∧(∀ S:List Nat,(∀ b∈S,b < a.heap.size)→b3 (ay k S) I A E w u z s∧b3 (ay k S) F i f c j g d)∧Y a k
def kW (I F aH:ar) (a:ad) (e:Ending) (k:ad):Prop:=
 ∃ A E w u z s n i c o j d p l f q m g,e=ap (a0 #[aW I.x A E w u z s,aW F.x n i c o j d,aW aH.x p l f q m g,aB])∧(∀ S:List Nat,(∀ b∈S,b < a.heap.size)→b3 (ay k S) I A E w u z s∧b3 (ay k S) F n i c o j d∧b3 (ay k S) aH p l f q m g)∧Y a k
theorem b3.others{y:ar}(d:b3 (ay a S) y A E w u z s){b:Nat}(e:b∈S)(o:Nat)(c:List ak):b3 (ay (ba a b o c) S) y A E w u z s:=
 d.ex ((Mod.setCells (S:=[b]) J c o a).jT (by simpa using e))
theorem vO(a:ad)(f cl cx g:TypeId)(b c d e:List ak):Y a ((((H a (X b f)).alloc (X c cl)).alloc (X d cx)).alloc (X e g))∧ae ((((H a (X b f)).alloc (X c cl)).alloc (X d cx)).alloc (X e g)) a.heap.size b∧ae ((((H a (X b f)).alloc (X c cl)).alloc (X d cx)).alloc (X e g)) (a.heap.size+1) c∧ae ((((H a (X b f)).alloc (X c cl)).alloc (X d cx)).alloc (X e g)) (a.heap.size+2) d∧ae ((((H a (X b f)).alloc (X c cl)).alloc (X d cx)).alloc (X e g)) (a.heap.size+3) e∧a.heap.size+4=((((H a (X b f)).alloc (X c cl)).alloc (X d cx)).alloc (X e g)).heap.size:=
 ⟨((((Y.refl a).alloc _).alloc _).alloc _).alloc _,((ae.new a _ _ rfl).of J).I ((((Y.refl _).alloc _).alloc _).alloc _),((ae.new (H a _) _ _ dW).of J).I (((Y.refl _).alloc _).alloc _),((ae.new ((H a _).alloc _) _ _ kT).of J).I ((Y.refl _).alloc _),(ae.new (((H a _).alloc _).alloc _) _ _ pU).of J,by rw [dL,dL,dL,dL]⟩
section
theorem y3{f:ad}{d:List cw}(e:aZ f o m c d)(i:Nat): (bw d i).key.size≤maxLen:=by
 obtain⟨b,j, -,g⟩:=e.get;rcases dC i d.length with a|a
 ·exact(g i (by rw[←e.len];exact a)).2.2
 ·unfold bw;rw[h2,List.getElem?_eq_none a];exact aJ _
theorem za{v:bl}(b:bk a o m c v.rows)(j:eB v)(i:m≤1000000)(d: (e5 v).1=Z aS)(p:Int):ao aj 170 #[eE v o m c,p] a (kZ ⟨hZ aS p,[]⟩ ⟨bY (c6 v aS),[]⟩ a):=
 (G1 v p o m c a b i).mono fun e k q=>by
  unfold lB at q;rw[d]at q;obtain⟨A,l,w,n,r,s⟩:=q;have f:=tr b d;exact⟨V,0,0,V,0,0,A,l,w,V,0,0,n,fun S g=>⟨⟨gD _,bo.nil _ _ _,⟨aJ _,aJ _,f,aJ _,aJ _⟩⟩,⟨r.aL g,bo.nil _ _ _,⟨f,j.high,aJ _,aJ _,aJ _⟩⟩⟩,s⟩
theorem y9(b:aZ a o m c v.ag)(l:dZ v)(j:m≤10000)(i:v.held=false)(f:v.ag.length / 2≠0)(p:Int):ao aj 171 #[fg v o m c,p] a (kZ (jn (bw v.ag (v.ag.length / 2)).key p) (bA (bN v)) a):=
 (G2 v p o m c a b i (by rw[←b.len];exact f) j).mono fun e k q=>by
  obtain⟨u,z,s,n,r,t,w⟩:=q;have d:=y3 b (v.ag.length / 2);exact⟨V,0,0,V,0,0,V,0,0,u,z,s,n,fun S g=>⟨⟨gD _,bo.nil _ _ _,⟨aJ _,aJ _,d,aJ _,aJ _⟩⟩,⟨gD _,r.aL t g,⟨d,l.high,aJ _,aJ _,aJ _⟩⟩⟩,w⟩
theorem wZ{v:bl}(f:bk a o m c v.rows)(b:eB v)(t:m≤1000000)(g: (e5 v).1=Z aS)(p q:Int):ao aj 172 #[eE v o m c,p,q] a (kW ⟨bY (eN v aS q),[]⟩ ⟨bY (c6 v aS),[]⟩ ⟨eW v,[⟨v.low,p⟩,⟨aS,q⟩]⟩ a):=
 (DW v p q o m c a f t b aS g).mono fun e k ⟨A,x,w,u,y,s,j,z,B,C,D,l,n,r,E⟩=>by
  have i:=tr f g;exact⟨A,x,w,V,0,0,u,y,s,V,0,0,V,0,0,j,2,2,z,fun S d=>⟨⟨B.aL l d,bo.nil _ _ _,⟨b.low,i,aJ _,aJ _,aJ _⟩⟩,⟨C.aL n d,bo.nil _ _ _,⟨i,b.high,aJ _,aJ _,aJ _⟩⟩,⟨gD _,D.aL r d,⟨b.low,b.high,aJ _,aJ _,aJ _⟩⟩⟩,E⟩
theorem wY(d:aZ a o m c v.ag)(b:dZ v)(x:m≤10000)(t:v.held=false)(r:v.ag.length / 2≠0)(p q:Int):ao aj 173 #[fg v o m c,p,q] a (kW (bA (cI v q)) (bA (bN v)) (bA {v with ag:=[⟨v.low,p⟩,⟨(bw v.ag (v.ag.length / 2)).key,q⟩]}) a):=
 (DS v p q o m c a d b t (by rw[←d.len];exact r) x).mono fun e k ⟨A,E,w,u,z,s,B,y,i,C,D,F,G,j,l,n,I⟩=>by
  have g:=y3 d (v.ag.length / 2);exact⟨V,0,0,A,E,w,V,0,0,u,z,s,V,0,0,B,y,i,C,fun S f=>⟨⟨gD _,D.aL j f,⟨b.low,g,aJ _,aJ _,aJ _⟩⟩,⟨gD _,F.aL l f,⟨g,b.high,aJ _,aJ _,aJ _⟩⟩,⟨gD _,G.aL n f,⟨b.low,b.high,aJ _,aJ _,aJ _⟩⟩⟩,I⟩
theorem zz{v:bl}(p:Int)(L: ∀ t,Y a t→ao aj 170 #[eE v o m c,p] t (kZ I F t)):
  ao aj 147 #[aw (b5 n ((hd.i:Int)+1) (hd.g:Int) ax C W aC av am v o m c),p] a (kZ I F a):=by
 obtain ⟨M,x,aa,ab,aD⟩:=k7 a 170 85 85 (b5 n ((hd.i:Int)+1) (hd.g:Int) ax C W aC av am v o m c) al al;have bW:=N L;clear L;go_enter Tryz.func147,Tryz.ntmps147;go_upto_region 1 with fail
 show Code.wp _ _ _ _ (((H a (X (b5 n ((hd.i:Int)+1) (hd.g:Int) ax C W aC av am v o m c) 170)).alloc (X al 85)).alloc (X al 85));generalize (((H a (X (b5 n ((hd.i:Int)+1) (hd.g:Int) ax C W aC av am v o m c) 170)).alloc (X al 85)).alloc (X al 85))=l at *;have aE:l.cell? ⟨a,5,V⟩=Z (ah true):=x.cell 5 rfl;have T:=x.ef 6 (ci v o m c) rfl;have P:=N (bW.out l M);go_wp2_with (first|(with_reducible refine dc 119 (T) dn ?_)|(go_at_call 170;(refine P.out.mono ?_);rintro e aF ⟨A,E,w,u,z,s,j,g,d,k,i,f,rfl,ar,r⟩;have B:=aa.I r;have D:=ab.I r)|(with_reducible refine bq 85 (B) ((an I.x A E w u z s)) ?_)|(with_reducible refine bq 85 ((D.others K _)) ((an F.x j g d k i f)) ?_));have Q:=(B.aR (us:=(an I.x A E w u z s)) rfl).others (b':=a.heap.size+2) K (an F.x j g d k i f);have R:=(D.others (b':=a.heap.size+1) K (an I.x A E w u z s)).aR (us:=(an F.x j g d k i f)) rfl;refine bH (ae.nK (y:=aB) Q R rfl _ rfl rfl rfl cG rfl G G) rfl ?_;refine ⟨A,E,w,u,z,s,j,g,d,k,i,f,rfl,fun S ay=>?_,((M.trans r).setCells K _ _).setCells K _ _⟩;have az: ∀ b∈(a.heap.size+1):: (a.heap.size+2)::S,b < l.heap.size:=fun b aA=>by
  rcases bd.1 aA with q|q
  ·omega
  ·rcases bd.1 q with q|q
   ·omega
   ·have:=ay b q;omega
 obtain ⟨ag,aq⟩:=ar _ az;exact ⟨((ag.others J 0 (an I.x A E w u z s)).others J 0 (an F.x j g d k i f)).less hn,((aq.others J 0 (an I.x A E w u z s)).others J 0 (an F.x j g d k i f)).less hn⟩
theorem zy(p:Int)(L: ∀ t,Y a t→ao aj 171 #[fg v o m c,p] t (kZ I F t)):
  ao aj 147 #[aw (dd n ((hd.i:Int)+1) (hd.g:Int) ax C W aC av am v o m c),p] a (kZ I F a):=by
 obtain ⟨M,x,aa,ab,aD⟩:=k7 a 170 85 85 (dd n ((hd.i:Int)+1) (hd.g:Int) ax C W aC av am v o m c) al al;have bW:=N L;clear L;go_enter Tryz.func147,Tryz.ntmps147;go_upto_region 1 with fail
 show Code.wp _ _ _ _ (((H a (X (dd n ((hd.i:Int)+1) (hd.g:Int) ax C W aC av am v o m c) 170)).alloc (X al 85)).alloc (X al 85));generalize (((H a (X (dd n ((hd.i:Int)+1) (hd.g:Int) ax C W aC av am v o m c) 170)).alloc (X al 85)).alloc (X al 85))=l at *;have aE:l.cell? ⟨a,5,V⟩=Z (ah false):=x.cell 5 rfl;have T:=x.ef 12 (bf v o m c) rfl;have P:=N (bW.out l M);go_wp2_with (first|(with_reducible refine dc 95 (T) dB ?_)|(go_at_call 171;(refine P.out.mono ?_);rintro e aF ⟨A,E,w,u,z,s,j,g,d,k,i,f,rfl,ar,r⟩;have B:=aa.I r;have D:=ab.I r)|(with_reducible refine bq 85 (B) ((an I.x A E w u z s)) ?_)|(with_reducible refine bq 85 ((D.others K _)) ((an F.x j g d k i f)) ?_));have Q:=(B.aR (us:=(an I.x A E w u z s)) rfl).others (b':=a.heap.size+2) K (an F.x j g d k i f);have R:=(D.others (b':=a.heap.size+1) K (an I.x A E w u z s)).aR (us:=(an F.x j g d k i f)) rfl;refine bH (ae.nK (y:=aB) Q R rfl _ rfl rfl rfl cG rfl G G) rfl ?_;refine ⟨A,E,w,u,z,s,j,g,d,k,i,f,rfl,fun S ay=>?_,((M.trans r).setCells K _ _).setCells K _ _⟩;have az: ∀ b∈(a.heap.size+1):: (a.heap.size+2)::S,b < l.heap.size:=fun b aA=>by
  rcases bd.1 aA with q|q
  ·omega
  ·rcases bd.1 q with q|q
   ·omega
   ·have:=ay b q;omega
 obtain ⟨ag,aq⟩:=ar _ az;exact ⟨((ag.others J 0 (an I.x A E w u z s)).others J 0 (an F.x j g d k i f)).less hn,((aq.others J 0 (an I.x A E w u z s)).others J 0 (an F.x j g d k i f)).less hn⟩
theorem zo{v:bl}(p q:Int)(ab: ∀ P,Y a P→ao aj 172 #[eE v o m c,p,q] P (kW I F aH P)):
  ao aj 149 #[aw (b5 n ((hd.i:Int)+1) (hd.g:Int) ax C W aC av am v o m c),p,q] a (kW I F aH a):=by
 obtain ⟨aq,Q,aE,aF,aG,aO⟩:=vO a 170 85 85 85 (b5 n ((hd.i:Int)+1) (hd.g:Int) ax C W aC av am v o m c) al al al;have bW:=N ab;clear ab;go_enter Tryz.func149,Tryz.ntmps149;go_upto_region 1 with fail
 show Code.wp _ _ _ _ ((((H a (X (b5 n ((hd.i:Int)+1) (hd.g:Int) ax C W aC av am v o m c) 170)).alloc (X al 85)).alloc (X al 85)).alloc (X al 85));generalize ((((H a (X (b5 n ((hd.i:Int)+1) (hd.g:Int) ax C W aC av am v o m c) 170)).alloc (X al 85)).alloc (X al 85)).alloc (X al 85))=M at *;have aP:M.cell? ⟨a,5,V⟩=Z (ah true):=Q.cell 5 rfl;have aD:=Q.ef 6 (ci v o m c) rfl;have ar:=N (bW.out M aq);go_wp2_with (first|(with_reducible refine dc 119 (aD) dn ?_)|(go_at_call 172;(refine ar.out.mono ?_);rintro e aQ ⟨A,E,w,u,z,s,t,j,d,x,k,f,B,l,g,D,r,i,rfl,aL,L⟩;have R:=aE.I L;have T:=aF.I L;have aa:=aG.I L)|(with_reducible refine bq 85 (R) ((an I.x A E w u z s)) ?_)|(with_reducible refine bq 85 ((T.others K _)) ((an F.x t j d x k f)) ?_)|(with_reducible refine bq 85 (((aa.others K _).others K _)) ((an aH.x B l g D r i)) ?_));have ay:=((R.aR (us:=(an I.x A E w u z s)) rfl).others (b':=a.heap.size+2) K (an F.x t j d x k f)).others (b':=a.heap.size+3) K (an aH.x B l g D r i);have az:=((T.others (b':=a.heap.size+1) K (an I.x A E w u z s)).aR (us:=(an F.x t j d x k f)) rfl).others (b':=a.heap.size+3) K (an aH.x B l g D r i);have aA:=((aa.others (b':=a.heap.size+1) K (an I.x A E w u z s)).others (b':=a.heap.size+2) K (an F.x t j d x k f)).aR (us:=(an aH.x B l g D r i)) rfl;refine bH (ae.rb (y:=aB) ay az aA rfl _ rfl rfl rfl rfl cG rfl G G G) rfl ?_;refine ⟨A,E,w,u,z,s,t,j,d,x,k,f,B,l,g,D,r,i,rfl,fun S aM=>?_,(((aq.trans L).setCells K _ _).setCells K _ _).setCells K _ _⟩;have aN: ∀ b∈(a.heap.size+1):: (a.heap.size+2):: (a.heap.size+3)::S,b < M.heap.size:=fun b ag=>by
  simp only [bd] at ag;rcases ag with q|q|q|q
  ·omega
  ·omega
  ·omega
  ·have:=aM b q;omega
 obtain ⟨aI,aJ,aK⟩:=aL _ aN;exact ⟨(((aI.others J 0 (an I.x A E w u z s)).others J 0 (an F.x t j d x k f)).others J 0 (an aH.x B l g D r i)).less hn,(((aJ.others J 0 (an I.x A E w u z s)).others J 0 (an F.x t j d x k f)).others J 0 (an aH.x B l g D r i)).less hn,(((aK.others J 0 (an I.x A E w u z s)).others J 0 (an F.x t j d x k f)).others J 0 (an aH.x B l g D r i)).less hn⟩
theorem zn(p q:Int)(ab: ∀ P,Y a P→ao aj 173 #[fg v o m c,p,q] P (kW I F aH P)):
  ao aj 149 #[aw (dd n ((hd.i:Int)+1) (hd.g:Int) ax C W aC av am v o m c),p,q] a (kW I F aH a):=by
 obtain ⟨aq,Q,aE,aF,aG,aO⟩:=vO a 170 85 85 85 (dd n ((hd.i:Int)+1) (hd.g:Int) ax C W aC av am v o m c) al al al;have bW:=N ab;clear ab;go_enter Tryz.func149,Tryz.ntmps149;go_upto_region 1 with fail
 show Code.wp _ _ _ _ ((((H a (X (dd n ((hd.i:Int)+1) (hd.g:Int) ax C W aC av am v o m c) 170)).alloc (X al 85)).alloc (X al 85)).alloc (X al 85));generalize ((((H a (X (dd n ((hd.i:Int)+1) (hd.g:Int) ax C W aC av am v o m c) 170)).alloc (X al 85)).alloc (X al 85)).alloc (X al 85))=M at *;have aP:M.cell? ⟨a,5,V⟩=Z (ah false):=Q.cell 5 rfl;have aD:=Q.ef 12 (bf v o m c) rfl;have ar:=N (bW.out M aq);go_wp2_with (first|(with_reducible refine dc 95 (aD) dB ?_)|(go_at_call 173;(refine ar.out.mono ?_);rintro e aQ ⟨A,E,w,u,z,s,t,j,d,x,k,f,B,l,g,D,r,i,rfl,aL,L⟩;have R:=aE.I L;have T:=aF.I L;have aa:=aG.I L)|(with_reducible refine bq 85 (R) ((an I.x A E w u z s)) ?_)|(with_reducible refine bq 85 ((T.others K _)) ((an F.x t j d x k f)) ?_)|(with_reducible refine bq 85 (((aa.others K _).others K _)) ((an aH.x B l g D r i)) ?_));have ay:=((R.aR (us:=(an I.x A E w u z s)) rfl).others (b':=a.heap.size+2) K (an F.x t j d x k f)).others (b':=a.heap.size+3) K (an aH.x B l g D r i);have az:=((T.others (b':=a.heap.size+1) K (an I.x A E w u z s)).aR (us:=(an F.x t j d x k f)) rfl).others (b':=a.heap.size+3) K (an aH.x B l g D r i);have aA:=((aa.others (b':=a.heap.size+1) K (an I.x A E w u z s)).others (b':=a.heap.size+2) K (an F.x t j d x k f)).aR (us:=(an aH.x B l g D r i)) rfl;refine bH (ae.rb (y:=aB) ay az aA rfl _ rfl rfl rfl rfl cG rfl G G G) rfl ?_;refine ⟨A,E,w,u,z,s,t,j,d,x,k,f,B,l,g,D,r,i,rfl,fun S aM=>?_,(((aq.trans L).setCells K _ _).setCells K _ _).setCells K _ _⟩;have aN: ∀ b∈(a.heap.size+1):: (a.heap.size+2):: (a.heap.size+3)::S,b < M.heap.size:=fun b ag=>by
  simp only [bd] at ag;rcases ag with q|q|q|q
  ·omega
  ·omega
  ·omega
  ·have:=aM b q;omega
 obtain ⟨aI,aJ,aK⟩:=aL _ aN;exact ⟨(((aI.others J 0 (an I.x A E w u z s)).others J 0 (an F.x t j d x k f)).others J 0 (an aH.x B l g D r i)).less hn,(((aJ.others J 0 (an I.x A E w u z s)).others J 0 (an F.x t j d x k f)).others J 0 (an aH.x B l g D r i)).less hn,(((aK.others J 0 (an I.x A E w u z s)).others J 0 (an F.x t j d x k f)).others J 0 (an aH.x B l g D r i)).less hn⟩
end
section
def sz (d:aV) (lim:aK) (f:Nat) (D:bU) (S:List Nat) (a:ad) (M:az) (p:Nat) (hd:aA) (y:ar) (e:Ending) (k:ad):Prop:=
 e=ap (ah false)∧(∀ r R aD,aD.head?=Z hd→D.bin.length≤1000000→M.ax[p]?=Z (Z (Z hd))→b2 lim.count M y= .ok r R→a7 d f 3 k (eh d lim f D (D.bin++[⟨R.now,aD, -1⟩]) D.wr S a (b1 R (p:Int) (Z r))))∧∀ c,b2 lim.count M y= .no c→a7 d f 1 k (cS d lim f D D.bin S a M ⟨#[]⟩ (Z c))
theorem HD{v:bl}(aX:aP d S a lim M f D ob nb cb aE)(bI:bk (ay a S) o m c v.rows)(bO:eB v)(E:bT (⟨bY v,[]⟩:ar)):
  ao aj 124 #[aa f,aw (b5 (p:Int) ((hd.i:Int)+1) (hd.g:Int) ax C W aC av am v o m c),O U 6] a (sz d lim f D S a M p hd ⟨bY v,[]⟩):=by
 obtain ⟨bJ,bv,T,bw,cs⟩:=k7 a 35 170 3 [aa f] (b5 (p:Int) ((hd.i:Int)+1) (hd.g:Int) ax C W aC av am v o m c) [O U 6];have aI:=N aX;have a9:=N bI;have bb:=N bO;have hold:=aX.mem.old;clear aX bI bO;go_enter oe,og;go_upto_region 1 with fail
 show Code.wp _ _ _ _ (((H a (X [aa f].toArray 35)).alloc (X (b5 (p:Int) ((hd.i:Int)+1) (hd.g:Int) ax C W aC av am v o m c) 170)).alloc (X [O U 6].toArray 3));generalize (((H a (X [aa f].toArray 35)).alloc (X (b5 (p:Int) ((hd.i:Int)+1) (hd.g:Int) ax C W aC av am v o m c) 170)).alloc (X [O U 6].toArray 3))=i at *;have cy:i.cell? ⟨a.heap.size+1,0,V⟩=Z (O U (p:Int)):=T.cell 0 rfl;have be:=T.ef 1 [O U ((hd.i:Int)+1),(hd.g:Int)] rfl;have aW:ae (H i (X [O U 0,O U 0,O U 0,O U 0,.nilFunc].toArray 253)) i.heap.size [O U 0,O U 0,O U 0,O U 0,.nilFunc]:=(ae.new i _ _ rfl).of J;go_upto_region 2 with (first|(with_reducible refine dc 78 (be) dm ?_)|(with_reducible refine bq 253 (aW) ((cp (p:Int) ((hd.i:Int)+1) (hd.g:Int) 0 .nilFunc)) ?_))
 have aA:ae ((H i (X [O U 0,O U 0,O U 0,O U 0,.nilFunc].toArray 253)).setCells i 0 (cp (p:Int) ((hd.i:Int)+1) (hd.g:Int) 0 .nilFunc)) i.heap.size (cp (p:Int) ((hd.i:Int)+1) (hd.g:Int) 0 .nilFunc):=aW.aR rfl;have F:Y i ((H i (X [O U 0,O U 0,O U 0,O U 0,.nilFunc].toArray 253)).setCells i 0 (cp (p:Int) ((hd.i:Int)+1) (hd.g:Int) 0 .nilFunc)):=((Y.refl i).alloc _).setCells (aG _) _ _;have bN:=bJ.trans F;have bx:=bv.I F;have aS:=T.I F;have aT:=bw.I F;clear aW cy be bv T bw F bJ;(try simp only [Act.put]);show Code.wp _ _ _ _ ((H i (X [O U 0,O U 0,O U 0,O U 0,.nilFunc].toArray 253)).setCells i 0 (cp (p:Int) ((hd.i:Int)+1) (hd.g:Int) 0 .nilFunc));generalize (H i (X [O U 0,O U 0,O U 0,O U 0,.nilFunc].toArray 253)).setCells i 0 (cp (p:Int) ((hd.i:Int)+1) (hd.g:Int) 0 .nilFunc)=bt at *;have ce:i.heap.size=a.heap.size+3:=cs.symm;generalize i.heap.size=cO at *;subst ce;have I:=aT.cell 0 rfl;have bh:=aS.ef 12 (bf (⟨⟨#[]⟩,⟨#[]⟩,false,0,[],false,0,0,⟨#[]⟩⟩:aY) V 0 0) rfl;have a8:=N (ni (⟨⟨#[]⟩,⟨#[]⟩,false,0,[],false,0,0,⟨#[]⟩⟩:aY) V 0 0 bt (bo.nil _ _ _) K);go_upto_region 9 with (first|(with_reducible refine dc 95 (bh) dB ?_)|(go_at_call 144;(refine a8.out.mono ?_);rintro e j ⟨A,x,rfl,cl,a4⟩;have aV:ae (H j (X al 85)) j.heap.size al:=(ae.new j _ _ rfl).of J)|(with_reducible refine bq 85 (aV) ((an (bA (⟨⟨#[]⟩,⟨#[]⟩,false,0,[],false,0,0,⟨#[]⟩⟩:aY)).x V 0 0 A 0 x)) ?_))
 have aF:ae ((H j (X al 85)).setCells j 0 (an (bA (⟨⟨#[]⟩,⟨#[]⟩,false,0,[],false,0,0,⟨#[]⟩⟩:aY)).x V 0 0 A 0 x)) j.heap.size (an (bA (⟨⟨#[]⟩,⟨#[]⟩,false,0,[],false,0,0,⟨#[]⟩⟩:aY)).x V 0 0 A 0 x):=aV.aR rfl;have k:Y bt ((H j (X al 85)).setCells j 0 (an (bA (⟨⟨#[]⟩,⟨#[]⟩,false,0,[],false,0,0,⟨#[]⟩⟩:aY)).x V 0 0 A 0 x)):=a4.trans (((Y.refl j).alloc _).setCells (aG _) _ _);have cS:a.heap.size+3 < j.heap.size:=dR (aA.lt J) a4.le;clear aV cl a4 bh a8;(try simp only [Act.put]);show Code.wp _ _ _ _ ((H j (X al 85)).setCells j 0 (an (bA (⟨⟨#[]⟩,⟨#[]⟩,false,0,[],false,0,0,⟨#[]⟩⟩:aY)).x V 0 0 A 0 x));generalize (H j (X al 85)).setCells j 0 (an (bA (⟨⟨#[]⟩,⟨#[]⟩,false,0,[],false,0,0,⟨#[]⟩⟩:aY)).x V 0 0 A 0 x)=aQ at *;generalize j.heap.size=g at *;have cx:=bx.I k;have L:=aS.I k;have aK:=aT.I k;have bj:=aA.I k;have ab:=bN.trans k;clear bx aS aT aA k bN I;have I:=aK.cell 0 rfl;have a5:aQ.cell? ⟨a.heap.size+1,5,V⟩=Z (ah true):=L.cell 5 rfl;go_upto_region 10 with fail
 have bV:=L.ef 6 (ci v o m c) rfl;have bS:=N (qm v o m c aQ (a9.out.ex (bX ab S)).gP (by have:=a9.out.len;have:=E.rows;simp only [bY] at this;omega));go_upto_region 11 with (first|(with_reducible refine dc 119 (bV) dn ?_)|(go_at_call 145;(refine bS.out.mono ?_);rintro e u ⟨t,s,l,rfl,cm,y⟩;have aH:=aF.I y)|(with_reducible refine bq 85 (aH) ((an (bY v) t s l V 0 0)) ?_))
 have cT:g < aQ.heap.size:=aF.lt J;have bF:b3 (ay u (g:: (a.heap.size+3)::S)) (⟨bY v,[]⟩:ar) t s l V 0 0:=⟨cm.aL fun b cd=>by (rcases bd.1 cd with q|q;omega;rcases bd.1 q with q|q;omega;have:=hold b q;have:=ab.le;omega),bo.nil _ _ _,⟨bb.out.low,bb.out.high,aJ _,aJ _,aJ _⟩⟩;have a6:ae (ba u g 0 (an (bY v) t s l V 0 0)) g (an (bY v) t s l V 0 0):=aH.aR rfl;have G:Mod [g] u (ba u g 0 (an (bY v) t s l V 0 0)):=Mod.setCells J _ _ _;have k:Y a (ba u g 0 (an (bY v) t s l V 0 0)):=(ab.trans y).setCells K _ _;have bm:=G.box cJ (cx.I y);have bn:=G.box cJ (L.I y);have aM:=G.box cJ (aK.I y);have P:=G.box cJ (bj.I y);have bG:b3 (ay (ba u g 0 (an (bY v) t s l V 0 0)) (g:: (a.heap.size+3)::S)) (⟨bY v,[]⟩:ar) t s l V 0 0:=bF.boxed _;clear cx L aK bj aH aF bF G ab I a5;(try simp only [Act.put]);generalize ba u g 0 (an (bY v) t s l V 0 0)=w at *;have b8:=P.free 4 J;have ct:=P.cell 4 rfl;have I:=aM.cell 0 rfl;go_upto_region 18 with fail
 have bR:ae (w.setCell ⟨a.heap.size+3,4,V⟩ (.func (.func 146) #[] #[aa g])) (a.heap.size+3) (cp (p:Int) ((hd.i:Int)+1) (hd.g:Int) 0 (.func (.func 146) #[] #[aa g])):=(P.set 4 _).of rfl;have z:Mod [a.heap.size+3] w (w.setCell ⟨a.heap.size+3,4,V⟩ (.func (.func 146) #[] #[aa g])):=Mod.setCell _ _ _ J;have bL:Y a (w.setCell ⟨a.heap.size+3,4,V⟩ (.func (.func 146) #[] #[aa g])):=k.setCell (p:=⟨a.heap.size+3,4,V⟩) (by show a.heap.size≤a.heap.size+3;omega) _;have br:=z.box J bm;have bs:=z.box J bn;have bW:=z.box J aM;have bZ:=z.box cJ a6;have bH:b3 (ay (w.setCell ⟨a.heap.size+3,4,V⟩ (.func (.func 146) #[] #[aa g])) S) (⟨bY v,[]⟩:ar) t s l V 0 0:=(bG.ex (z.jT J)).less hn;clear bm bn aM P a6 b8 ct bG z k I;(try simp only [Act.put]);generalize w.setCell ⟨a.heap.size+3,4,V⟩ (.func (.func 146) #[] #[aa g])=B at *;have c4:=br.cell 0 rfl;have bE:fA S B (.func (.func 146) #[] #[aa g]) [] [] (⟨bY v,[]⟩:ar):=lc wq (fun cD cw n c co=>vV co cw n c) (fun az c0 cj=>bp.2 ⟨fun q=>by have:=hold _ q;omega,by rw [cv];exact bZ.cell az cj⟩) bH;have aZ:=aI.out.aC bL;have bU:=N (jm aZ (page:=(p:Int)) (a1:=(hd.i:Int)+1) (a2:=(hd.g:Int)) 146 #[] #[aa g] 151 #[] #[aa (a.heap.size+2),aa a,aa (a.heap.size+1)] (la aZ.mem bE));clear bE bH aZ;go_wp2_with (first|(with_reducible refine b0 253 (bR) kK ?_)|(go_at_call 133;(with_reducible refine bU.out.mono ?_);rintro e bQ ⟨rfl,cu,cI,c2,aU,aL,cN,cK,aR,cc,ck,cg,bB,bC,bK⟩));go_ret;obtain ⟨no,cX,cW,cY,cU,cP,cZ,cV,cQ,bg⟩:=cc;have bc:=bg.under ck (fun c ch=>by rw [aO.1 ch];exact ⟨(bg.av.sub _ aI.out.cE),aI.out.c5,cg⟩);have ag: ∀ az,a.heap.size+az∉S:=fun az q=>by have:=hold _ q;omega
 have b7: (ay B S).cell? ⟨a.heap.size+2,0,V⟩=Z (O U 6):=bp.2 ⟨ag 2,bW.cell 0 rfl⟩;have b2: (ay B S).cell? a=Z (aa f):=bp.2 ⟨ag 0,br.cell 0 rfl⟩;have b4: (ay B S).cell? ⟨a.heap.size+1,1,V⟩=Z (O U ((hd.i:Int)+1)):=bp.2 ⟨ag 1,bs.cell 1 rfl⟩;have b6: (ay B S).cell? ⟨a.heap.size+1,2,V⟩=Z (O U (hd.g:Int)):=bp.2 ⟨ag 1,bs.cell 2 rfl⟩;have bM:bD S a aL bQ:=(Y.av bL).trans bK;refine ⟨rfl,fun r R aD cr cf cn a3=>?_,fun c a3=>?_⟩
 ·refine a7.trans (n:=2) (m:=1) (Q:=m5 d aL bQ lim (b1 R (p:Int) (Z r)) f {D with nx:=cu} ob nb cb aE aD (-1)) (lV (q:=Z hd) bB bc bC ⟨E.rows,E.ag⟩ cn a3 nr fun bP bi b9 k=>?_) fun e c3 q=>?_
  ·have aq:=bK.aL.trans k.aL;refine (vY b9 ((dv _ _).cell _ _ _ (aq.cell _ _ _ b7)) ((dv _ _).cell _ _ _ (aq.cell _ _ _ b2)) ((dv _ _).cell _ _ _ (aq.cell _ _ _ b4)) ((dv _ _).cell _ _ _ (aq.cell _ _ _ b6))).mono fun e cE q=>⟨false,q.1,bi,bP,k,?_⟩;rw [cr];exact q
  ·obtain ⟨cG,cD,cz,cA,nx,cL,aN,cM,cB,cC,a5⟩:=q;exact ⟨cA,(po (D:={D with nx:=nx}) cB cC cf).mono fun e c1 q=>eh.from q ((bM.trans cz).trans a5)⟩
 ·exact lU bB bc bC ⟨E.rows,E.ag⟩ a3 fun e bP cE bi q k=>q.ha (bM.trans k)
theorem HC(aA:aP d S a lim M f D ob nb cb aE)(bm:aZ (ay a S) o m c v.ag)(bw:dZ v)(z:bT (bA v)):
  ao aj 124 #[aa f,aw (dd (p:Int) ((hd.i:Int)+1) (hd.g:Int) ax C W aC av am v o m c),O U 6] a (sz d lim f D S a M p hd (bA v)):=by
 obtain ⟨bn,bb,E,bc,bZ⟩:=k7 a 35 170 3 [aa f] (dd (p:Int) ((hd.i:Int)+1) (hd.g:Int) ax C W aC av am v o m c) [O U 6];have T:=N aA;have aT:=N bm;have aV:=N bw;have hold:=aA.mem.old;clear aA bm bw;go_enter oe,og;go_upto_region 1 with fail
 show Code.wp _ _ _ _ (((H a (X [aa f].toArray 35)).alloc (X (dd (p:Int) ((hd.i:Int)+1) (hd.g:Int) ax C W aC av am v o m c) 170)).alloc (X [O U 6].toArray 3));generalize (((H a (X [aa f].toArray 35)).alloc (X (dd (p:Int) ((hd.i:Int)+1) (hd.g:Int) ax C W aC av am v o m c) 170)).alloc (X [O U 6].toArray 3))=g at *;have b6:g.cell? ⟨a.heap.size+1,0,V⟩=Z (O U (p:Int)):=E.cell 0 rfl;have aX:=E.ef 1 [O U ((hd.i:Int)+1),(hd.g:Int)] rfl;have az:ae (H g (X [O U 0,O U 0,O U 0,O U 0,.nilFunc].toArray 253)) g.heap.size [O U 0,O U 0,O U 0,O U 0,.nilFunc]:=(ae.new g _ _ rfl).of J;go_upto_region 2 with (first|(with_reducible refine dc 78 (aX) dm ?_)|(with_reducible refine bq 253 (az) ((cp (p:Int) ((hd.i:Int)+1) (hd.g:Int) 0 .nilFunc)) ?_))
 have L:ae ((H g (X [O U 0,O U 0,O U 0,O U 0,.nilFunc].toArray 253)).setCells g 0 (cp (p:Int) ((hd.i:Int)+1) (hd.g:Int) 0 .nilFunc)) g.heap.size (cp (p:Int) ((hd.i:Int)+1) (hd.g:Int) 0 .nilFunc):=az.aR rfl;have A:Y g ((H g (X [O U 0,O U 0,O U 0,O U 0,.nilFunc].toArray 253)).setCells g 0 (cp (p:Int) ((hd.i:Int)+1) (hd.g:Int) 0 .nilFunc)):=((Y.refl g).alloc _).setCells (aG _) _ _;have F:=bn.trans A;have be:=bb.I A;have aq:=E.I A;have ar:=bc.I A;clear az b6 aX bb E bc A bn;(try simp only [Act.put]);show Code.wp _ _ _ _ ((H g (X [O U 0,O U 0,O U 0,O U 0,.nilFunc].toArray 253)).setCells g 0 (cp (p:Int) ((hd.i:Int)+1) (hd.g:Int) 0 .nilFunc));generalize (H g (X [O U 0,O U 0,O U 0,O U 0,.nilFunc].toArray 253)).setCells g 0 (cp (p:Int) ((hd.i:Int)+1) (hd.g:Int) 0 .nilFunc)=a9 at *;have aI:g.heap.size=a.heap.size+3:=bZ.symm;generalize g.heap.size=cl at *;subst aI;have aK:=ar.cell 0 rfl;have a3:=aq.ef 12 (bf v o m c) rfl;have aS:=N (ni v o m c a9 (bo.gP cW (bo.ex cW aT.out (bX F S))) (by have:=aT.out.len;have:=z.ag;simp only [bA] at this;omega));go_upto_region 9 with (first|(with_reducible refine dc 95 (a3) dB ?_)|(go_at_call 144;(refine aS.out.mono ?_);rintro e i ⟨l,k,rfl,bv,u⟩;have P:ae (H i (X al 85)) i.heap.size al:=(ae.new i _ _ rfl).of J)|(with_reducible refine bq 85 (P) ((an (bA v).x V 0 0 l v.ag.length k)) ?_))
 have aQ:ae ((H i (X al 85)).setCells i 0 (an (bA v).x V 0 0 l v.ag.length k)) i.heap.size (an (bA v).x V 0 0 l v.ag.length k):=P.aR rfl;have t:Y i ((H i (X al 85)).setCells i 0 (an (bA v).x V 0 0 l v.ag.length k)):=((Y.refl i).alloc _).setCells (aG _) _ _;have aI:a.heap.size+3 < a9.heap.size:=L.lt J;have bj:b3 (ay i ((a.heap.size+3)::S)) (bA v) V 0 0 l v.ag.length k:=⟨gD _,p8.aL bv fun b bO=>by (rcases bd.1 bO with q|q;omega;have:=hold b q;have:=F.le;omega),⟨aV.out.low,aV.out.high,aJ _,aJ _,aJ _⟩⟩;have bk:=bj.ex (bX t ((a.heap.size+3)::S));have w:=(F.trans u).trans t;have a5:=be.I (u.trans t);have ab:=aq.I (u.trans t);have ag:=ar.I (u.trans t);have B:=L.I (u.trans t);have co:a.heap.size+3 < i.heap.size:=dR aI u.le;clear be aq ar L P bj t F bv u a3 aS aK;(try simp only [Act.put]);show Code.wp _ _ _ _ ((H i (X al 85)).setCells i 0 (an (bA v).x V 0 0 l v.ag.length k));generalize (H i (X al 85)).setCells i 0 (an (bA v).x V 0 0 l v.ag.length k)=s at *;generalize i.heap.size=j at *;have aM:s.cell? ⟨a.heap.size+1,5,V⟩=Z (ah false):=ab.cell 5 rfl;go_upto_region 11 with fail
 clear aM;have bL:=B.free 4 J;have b2:=B.cell 4 rfl;have aK:=ag.cell 0 rfl;go_upto_region 18 with fail
 have bC:ae (s.setCell ⟨a.heap.size+3,4,V⟩ (.func (.func 146) #[] #[aa j])) (a.heap.size+3) (cp (p:Int) ((hd.i:Int)+1) (hd.g:Int) 0 (.func (.func 146) #[] #[aa j])):=(B.set 4 _).of rfl;have x:Mod [a.heap.size+3] s (s.setCell ⟨a.heap.size+3,4,V⟩ (.func (.func 146) #[] #[aa j])):=Mod.setCell _ _ _ J;have bs:Y a (s.setCell ⟨a.heap.size+3,4,V⟩ (.func (.func 146) #[] #[aa j])):=w.setCell (p:=⟨a.heap.size+3,4,V⟩) (by show a.heap.size≤a.heap.size+3;omega) _;have a6:=x.box J a5;have a8:=x.box J ab;have bF:=x.box J ag;have bG:=x.box cJ aQ;have bl:b3 (ay (s.setCell ⟨a.heap.size+3,4,V⟩ (.func (.func 146) #[] #[aa j])) S) (bA v) V 0 0 l v.ag.length k:=(bk.ex (x.jT J)).less hn;clear a5 ab ag B aQ bL b2 bk x w aK;(try simp only [Act.put]);generalize s.setCell ⟨a.heap.size+3,4,V⟩ (.func (.func 146) #[] #[aa j])=y at *;have cC:=a6.cell 0 rfl;have bi:fA S y (.func (.func 146) #[] #[aa j]) [] [] (bA v):=lc wq (fun cd b5 n c bW=>vV bW b5 n c) (fun K cy bS=>bp.2 ⟨fun q=>by have:=hold _ q;omega,by rw [cv];exact bG.cell K bS⟩) bl;have aF:=T.out.aC bs;have bE:=N (jm aF (page:=(p:Int)) (a1:=(hd.i:Int)+1) (a2:=(hd.g:Int)) 146 #[] #[aa j] 151 #[] #[aa (a.heap.size+2),aa a,aa (a.heap.size+1)] (la aF.mem bi));clear bi bl aF;go_wp2_with (first|(with_reducible refine b0 253 (bC) kK ?_)|(go_at_call 133;(with_reducible refine bE.out.mono ?_);rintro e bB ⟨rfl,b4,cg,cA,aU,aL,ck,ch,aR,bN,bU,bQ,bg,bh,br⟩));go_ret;obtain ⟨no,cu,ct,cw,cr,cm,cx,cs,cn,aY⟩:=bN;have aW:=aY.under bU (fun c bR=>by rw [aO.1 bR];exact ⟨(aY.av.sub _ T.out.cE),T.out.c5,bQ⟩);have G: ∀ K,a.heap.size+K∉S:=fun K q=>by have:=hold _ q;omega
 have bK: (ay y S).cell? ⟨a.heap.size+2,0,V⟩=Z (O U 6):=bp.2 ⟨G 2,bF.cell 0 rfl⟩;have bH: (ay y S).cell? a=Z (aa f):=bp.2 ⟨G 0,a6.cell 0 rfl⟩;have bI: (ay y S).cell? ⟨a.heap.size+1,1,V⟩=Z (O U ((hd.i:Int)+1)):=bp.2 ⟨G 1,a8.cell 1 rfl⟩;have bJ: (ay y S).cell? ⟨a.heap.size+1,2,V⟩=Z (O U (hd.g:Int)):=bp.2 ⟨G 1,a8.cell 2 rfl⟩;have bt:bD S a aL bB:=(Y.av bs).trans br;refine ⟨rfl,fun r R aD bY bP bV aH=>?_,fun c aH=>?_⟩
 ·refine a7.trans (n:=2) (m:=1) (Q:=m5 d aL bB lim (b1 R (p:Int) (Z r)) f {D with nx:=b4} ob nb cb aE aD (-1)) (lV (q:=Z hd) bg aW bh ⟨z.rows,z.ag⟩ bV aH nr fun bx a4 bM w=>?_) fun e cB q=>?_
  ·have I:=br.aL.trans w.aL;refine (vY bM ((dv _ _).cell _ _ _ (I.cell _ _ _ bK)) ((dv _ _).cell _ _ _ (I.cell _ _ _ bH)) ((dv _ _).cell _ _ _ (I.cell _ _ _ bI)) ((dv _ _).cell _ _ _ (I.cell _ _ _ bJ))).mono fun e ce q=>⟨false,q.1,a4,bx,w,?_⟩;rw [bY];exact q
  ·obtain ⟨cf,cd,b7,b8,nx,ci,aN,cj,b9,cc,aM⟩:=q;exact ⟨b8,(po (D:={D with nx:=nx}) b9 cc bP).mono fun e cz q=>eh.from q ((bt.trans b7).trans aM)⟩
 ·exact lU bg aW bh ⟨z.rows,z.ag⟩ aH fun e bx ce a4 q w=>q.ha (bt.trans w)
end
end Go.Proofs.YtbkmjhhpcinppaaGreatDoor
