import Derived.Test.YtbkmjhhpcinppaaGreatDoorQ30
namespace Go.Proofs.YtbkmjhhpcinppaaGreatDoor
set_option linter.unusedVariables false
set_option linter.defProp false
set_option linter.unusedSimpArgs false
set_option maxRecDepth 100000
set_option maxHeartbeats 40000000
open Go.BigFrame Go.RowKit Go.WideShapes
open Ending renaming returned→ap
open Go renaming Addr→ai,Calls→ao,Value→ak,World→ad
open Go.Proofs.Tryz renaming prog→aj
open IntKind renaming i64→U
open Obj renaming cells→X
open Option renaming none→V,some→Z
open Value renaming agg→aw,bool→ah,int→O,nilIface→aB,pointer→au,tuple→a0
open World renaming alloc→H
variable {F Q : List bK} {D an : bU} {g : aV} {M av i : az} {E : cn} {S A : List Nat} {ab R : Option bQ} {I d c cb s t cnt k T m nb u p : Nat} {e n : Int} {hd : aA} {z : ByteArray} {lim : aK} {C : Int → ar × ar} {o ob w x : Option ai} {W : dI} {r : Option g3} {v : aY} {B : List ak} {a l : ad} {j wr : Bool}
section
variable {B0 : Nat} {al : List Nat} {am : ad} {P : Nat} 
def sx (g:aV) (lim:aK) (d:Nat) (D:bU) (S:List Nat) (a:ad) (M:az) (p:Nat) (hd:aA) (f:Int→ar×ar) (e:Ending) (l:ad):Prop:=
 e=ap (ah false)∧∀ b,jl lim.count M (p:Int) f=b→M.ax[p]?=Z (Z (Z hd))→(∀ i,b= .ok i→a7 g d 5 l (eh g lim d D D.bin D.wr S a i))∧(∀ i c,b= .no i c→a7 g d 6 l (cS g lim d D D.bin S a i ⟨#[]⟩ (Z c)))
def se (g:aV) (lim:aK) (d:Nat) (D:bU) (S:List Nat) (a:ad) (M:az) (p:Nat) (hd:aA) (j:Int→Int→ar×ar×ar) (e:Ending) (l:ad):Prop:=
 e=ap (ah false)∧∀ b,jk lim.count M (p:Int) j=b→M.ax[p]?=Z (Z (Z hd))→(∀ i,b= .ok i→∀ f:List aA,f.head?=Z hd→D.bin.length≤1000000→a7 g d 9 l (eh g lim d D (D.bin++[⟨i.now,f, -1⟩]) D.wr S a i))∧(∀ i c,b= .no i c→a7 g d 11 l (cS g lim d D D.bin S a i ⟨#[]⟩ (Z c)))
abbrev Ah (g:aV) (S:List Nat) (lim:aK) (M:az) (page b c:Int) (d:Nat) (C:ak) (a:ad) (P:Nat) (A:List Nat) (e:ad):Prop:=
 bI g a.heap.size S a lim M P (bE page b c d C 0 V 0 0 V 0 0 (eu 0).x V 0 0 V 0 0 V 0 0 0 false aB) (eu 0) V 0 0 V 0 0 A e V 0 0 [] V 0 0 [] V 0 0 []
theorem qO(l:aX g S a lim M){page m n:Int}{j:Nat}(r:0 < j)(q:j≤4){f:FuncId}{first k:Array ak}: ∀ c,Y a c→ao aj 159 #[aw (cp page m n j (.func (.func f) first k))] c fun e d=> ∃ P A,e=ap (aa P)∧Ah g S lim M page m n j (.func (.func f) first k) c P A d∧bn g.l c S c A d∧aX g A d lim M∧P < d.heap.size:=fun c o=>
 (BE (l.I o) (fun b p=>dR (l.old b (l.sub b p)) o.le) (aG _) r q f first k).mono fun e d ⟨P,s,t,i⟩=>⟨P,P::S,s,i,i.av,i.mem,i.fJ.2.2⟩
theorem G4{v:bl}(d:bk (ay a S) o m c v.rows)(e:eB v)(B:m≤1000000)(A: (e5 v).1=Z z)(f: (ay a S).rangeAt I 0 (b5 (p:Int) ((hd.i:Int)+1) (hd.g:Int) w k s x u t v o m c))(q:Int):fA S a (.func (.func 148) #[] #[aa I]) [q] [⟨bY (c6 v z),[]⟩] (nx ⟨hZ z q,[]⟩ hd):=
 ⟨_,#[],#[aa I],rfl,wu,fun g j J G F i b C=>vW (kk:=k) (n:=(p:Int)) (hd:=hd) (nd:= .leaf v) (vs:=(b5 (p:Int) ((hd.i:Int)+1) (hd.g:Int) w k s x u t v o m c)) i (show cd (ay j g) (p:Int) hd k (.leaf v) (b5 (p:Int) ((hd.i:Int)+1) (hd.g:Int) w k s x u t v o m c) from ⟨w,s,x,u,t,o,m,c,rfl,d.ex b,e⟩) (fun D E y=>(bp.1 (b.cell _ _ _ (f D E y))).2) C fun K l=>zz q fun L r=>(za ((d.ex b).gP.I (l.trans r)) e B A q)⟩
theorem G3(d:aZ (ay a S) o m c v.ag)(e:dZ v)(B:m≤10000)(z:v.held=false)(l:v.ag.length / 2≠0)(f: (ay a S).rangeAt I 0 (dd (p:Int) ((hd.i:Int)+1) (hd.g:Int) w k s x u t v o m c))(q:Int):fA S a (.func (.func 148) #[] #[aa I]) [q] [(bA (bN v))] (nx (jn (bw v.ag (v.ag.length / 2)).key q) hd):=
 ⟨_,#[],#[aa I],rfl,wu,fun g j J G F i b C=>vW (kk:=k) (n:=(p:Int)) (hd:=hd) (nd:= .aU v) (vs:=(dd (p:Int) ((hd.i:Int)+1) (hd.g:Int) w k s x u t v o m c)) i (show cd (ay j g) (p:Int) hd k (.aU v) (dd (p:Int) ((hd.i:Int)+1) (hd.g:Int) w k s x u t v o m c) from ⟨w,s,x,u,t,o,m,c,rfl,bo.ex cW d b,e⟩) (fun D E A=>(bp.1 (b.cell _ _ _ (f D E A))).2) C fun K r=>zy q fun L y=>(y9 ((bo.gP cW (bo.ex cW d b)).I cW (r.trans y)) e B z l q)⟩
theorem DU{v:bl}(f:bk (ay a S) o m c v.rows)(g:eB v)(C:m≤1000000)(B: (e5 v).1=Z z)(i: (ay a S).rangeAt I 0 (b5 (p:Int) ((hd.i:Int)+1) (hd.g:Int) w k s x u t v o m c))(d b:Int):fA S a (.func (.func 150) #[] #[aa I]) [d,b] [⟨bY (eN v z b),[]⟩,⟨bY (c6 v z),[]⟩] ⟨eW v,[⟨v.low,d⟩,⟨z,b⟩]⟩:=
 ⟨_,#[],#[aa I],rfl,wv,fun l j K J G q e D=>vX (kk:=k) (n:=(p:Int)) (hd:=hd) (nd:= .leaf v) (vs:=(b5 (p:Int) ((hd.i:Int)+1) (hd.g:Int) w k s x u t v o m c)) q (show cd (ay j l) (p:Int) hd k (.leaf v) (b5 (p:Int) ((hd.i:Int)+1) (hd.g:Int) w k s x u t v o m c) from ⟨w,s,x,u,t,o,m,c,rfl,f.ex e,g⟩) (fun E F A=>(bp.1 (e.cell _ _ _ (i E F A))).2) D fun L r=>zo d b fun M y=>(wZ ((f.ex e).gP.I (r.trans y)) g C B d b)⟩
theorem DT(f:aZ (ay a S) o m c v.ag)(g:dZ v)(C:m≤10000)(A:v.held=false)(r:v.ag.length / 2≠0)(i: (ay a S).rangeAt I 0 (dd (p:Int) ((hd.i:Int)+1) (hd.g:Int) w k s x u t v o m c))(d b:Int):fA S a (.func (.func 150) #[] #[aa I]) [d,b] [(bA (cI v b)),(bA (bN v))] (bA {v with ag:=[⟨v.low,d⟩,⟨(bw v.ag (v.ag.length / 2)).key,b⟩]}):=
 ⟨_,#[],#[aa I],rfl,wv,fun l j K J G q e D=>vX (kk:=k) (n:=(p:Int)) (hd:=hd) (nd:= .aU v) (vs:=(dd (p:Int) ((hd.i:Int)+1) (hd.g:Int) w k s x u t v o m c)) q (show cd (ay j l) (p:Int) hd k (.aU v) (dd (p:Int) ((hd.i:Int)+1) (hd.g:Int) w k s x u t v o m c) from ⟨w,s,x,u,t,o,m,c,rfl,bo.ex cW f e,g⟩) (fun E F B=>(bp.1 (e.cell _ _ _ (i E F B))).2) D fun L y=>zn d b fun M z=>(wY ((bo.gP cW (bo.ex cW f e)).I cW (y.trans z)) g C A r d b)⟩
theorem Cx{v:bl}(av:aP g S a lim M d D ob nb cb B)(aW:bk (ay a S) o m c v.rows)(bb:eB v){z:ByteArray}(a5: (e5 v).1=Z z)(aX:bT (⟨bY v,[]⟩:ar)):
  ao aj 124 #[aa d,aw (b5 (p:Int) ((hd.i:Int)+1) (hd.g:Int) w k s x u t v o m c),O U 7] a (sx g lim d D S a M p hd (fun q=>(⟨bY (c6 v z),[]⟩,nx ⟨hZ z q,[]⟩ hd))):=by
 obtain ⟨aY,aS,I,aT,bL⟩:=k7 a 35 170 3 [aa d] (b5 (p:Int) ((hd.i:Int)+1) (hd.g:Int) w k s x u t v o m c) [O U 7];have W:=N av;have ab:=N aW;have aF:=N bb;have hold:=av.mem.old;have a6:m≤1000000:=by have:=ab.out.len;have:=aX.rows;simp only [bY] at this;omega
 have bW:=N fun (j:ad) (bG:Y a j)=>((zz 0 fun cj n=>za (ab.out.gP.I (bG.trans n)) aF.out a6 a5 0):ao aj 147 #[aw (b5 (p:Int) ((hd.i:Int)+1) (hd.g:Int) w k s x u t v o m c),O U 0] j (kZ ⟨hZ z 0,[]⟩ ⟨bY (c6 v z),[]⟩ j));clear av aW bb;go_enter oe,og;go_upto_region 1 with fail
 show Code.wp _ _ _ _ (((H a (X [aa d].toArray 35)).alloc (X (b5 (p:Int) ((hd.i:Int)+1) (hd.g:Int) w k s x u t v o m c) 170)).alloc (X [O U 7].toArray 3));generalize (((H a (X [aa d].toArray 35)).alloc (X (b5 (p:Int) ((hd.i:Int)+1) (hd.g:Int) w k s x u t v o m c) 170)).alloc (X [O U 7].toArray 3))=b at *;have bP:b.cell? ⟨a.heap.size+1,0,V⟩=Z (O U (p:Int)):=I.cell 0 rfl;have aH:=I.ef 1 [O U ((hd.i:Int)+1),(hd.g:Int)] rfl;have aq:ae (H b (X [O U 0,O U 0,O U 0,O U 0,.nilFunc].toArray 253)) b.heap.size [O U 0,O U 0,O U 0,O U 0,.nilFunc]:=(ae.new b _ _ rfl).of J;go_upto_region 2 with (first|(with_reducible refine dc 78 (aH) dm ?_)|(with_reducible refine bq 253 (aq) ((cp (p:Int) ((hd.i:Int)+1) (hd.g:Int) 0 .nilFunc)) ?_))
 have F:ae ((H b (X [O U 0,O U 0,O U 0,O U 0,.nilFunc].toArray 253)).setCells b 0 (cp (p:Int) ((hd.i:Int)+1) (hd.g:Int) 0 .nilFunc)) b.heap.size (cp (p:Int) ((hd.i:Int)+1) (hd.g:Int) 0 .nilFunc):=aq.aR rfl;have n:Y b ((H b (X [O U 0,O U 0,O U 0,O U 0,.nilFunc].toArray 253)).setCells b 0 (cp (p:Int) ((hd.i:Int)+1) (hd.g:Int) 0 .nilFunc)):=((Y.refl b).alloc _).setCells (aG _) _ _;have a3:=aY.trans n;have aU:=aS.I n;have aV:=I.I n;have an:=aT.I n;clear aq bP aH aS I aT n aY;(try simp only [Act.put]);show Code.wp _ _ _ _ ((H b (X [O U 0,O U 0,O U 0,O U 0,.nilFunc].toArray 253)).setCells b 0 (cp (p:Int) ((hd.i:Int)+1) (hd.g:Int) 0 .nilFunc));generalize (H b (X [O U 0,O U 0,O U 0,O U 0,.nilFunc].toArray 253)).setCells b 0 (cp (p:Int) ((hd.i:Int)+1) (hd.g:Int) 0 .nilFunc)=C at *;have bC:b.heap.size=a.heap.size+3:=bL.symm;generalize b.heap.size=b1 at *;subst bC;have bO:=an.cell 0 rfl;have bv:=F.free 3 J;have bM:=F.cell 3 rfl;go_upto_region 14 with fail
 have aL:ae (C.setCell ⟨a.heap.size+3,3,V⟩ (O U 1)) (a.heap.size+3) (cp (p:Int) ((hd.i:Int)+1) (hd.g:Int) 1 .nilFunc):=(F.set 3 _).of rfl;have Q:Mod [a.heap.size+3] C (C.setCell ⟨a.heap.size+3,3,V⟩ (O U 1)):=Mod.setCell _ _ _ J;have az:Y a (C.setCell ⟨a.heap.size+3,3,V⟩ (O U 1)):=a3.setCell (p:=⟨a.heap.size+3,3,V⟩) (by show a.heap.size≤a.heap.size+3;omega) _;have cx:=Q.box J aU;have al:=Q.box J aV;have aK:=Q.box J an;clear F bv bM aU aV an Q a3 bO;(try simp only [Act.put]);generalize C.setCell ⟨a.heap.size+3,3,V⟩ (O U 1)=bo at *;have bf:=N (bW.out bo az);go_upto_region 15 with (first|(with_reducible refine b0 170 (al) dt ?_)|(go_at_call 147;(refine bf.out.mono ?_);rintro e E ⟨cd,b6,b2,ce,b7,br,cf,b8,b3,cg,b9,b4,rfl, -,r⟩))
 have aM:=cx.I r;have aN:=al.I r;have aQ:=aK.I r;have G:=aL.I r;have a4:=az.trans r;clear cx al aK aL az r;have bw:=G.free 4 J;have bN:=G.cell 4 rfl;go_upto_region 18 with fail
 have be:ae (E.setCell ⟨a.heap.size+3,4,V⟩ (.func (.func 148) #[] #[aa (a.heap.size+1)])) (a.heap.size+3) (cp (p:Int) ((hd.i:Int)+1) (hd.g:Int) 1 (.func (.func 148) #[] #[aa (a.heap.size+1)])):=(G.set 4 _).of rfl;have R:Mod [a.heap.size+3] E (E.setCell ⟨a.heap.size+3,4,V⟩ (.func (.func 148) #[] #[aa (a.heap.size+1)])):=Mod.setCell _ _ _ J;have aC:Y a (E.setCell ⟨a.heap.size+3,4,V⟩ (.func (.func 148) #[] #[aa (a.heap.size+1)])):=a4.setCell (p:=⟨a.heap.size+3,4,V⟩) (by show a.heap.size≤a.heap.size+3;omega) _;have aR:=R.box J aM;have bm:=R.box J aN;have bn:=R.box J aQ;clear aM aN aQ G bw bN R a4;(try simp only [Act.put]);generalize E.setCell ⟨a.heap.size+3,4,V⟩ (.func (.func 148) #[] #[aa (a.heap.size+1)])=am at *;have ck:=aR.cell 0 rfl;have ax:=W.out.aC aC;have bh:=N (ab.out.ex (bX aC S));have bg:=N (jm ax (page:=(p:Int)) (a1:=(hd.i:Int)+1) (a2:=(hd.g:Int)) (news:=1) 148 #[] #[aa (a.heap.size+1)] 151 #[] #[aa (a.heap.size+2),aa a,aa (a.heap.size+1)] (qO ax.mem K K));clear ax;go_wp2_with (first|(with_reducible refine b0 253 (be) kK ?_)|(go_at_call 133;(refine bg.out.mono ?_);rintro e bc ⟨rfl,cc,bR,ci,P,A,bV,bS,bU,aI,bJ,bE,bx,bB,aA⟩));go_ret;have bi:=aI.under bJ (fun c bF=>by rw [aO.1 bF];exact ⟨(aI.av.sub _ W.out.cE),W.out.c5,bE⟩);have aD: ∀ T,a.heap.size+T∉S:=fun T q=>by have:=hold _ q;omega
 have bt: (ay am S).cell? ⟨a.heap.size+2,0,V⟩=Z (O U 7):=bp.2 ⟨aD 2,bn.cell 0 rfl⟩;have bs: (ay am S).cell? a=Z (aa d):=bp.2 ⟨aD 0,aR.cell 0 rfl⟩;have bd: (ay am S).rangeAt (a.heap.size+1) 0 (b5 (p:Int) ((hd.i:Int)+1) (hd.g:Int) w k s x u t v o m c):=fun T ch bI=>bp.2 ⟨aD 1,by rw [cv];exact bm.cell T bI⟩;have aZ:bD S a A bc:=(Y.av aC).trans aA;refine ⟨rfl,fun aE bH bK=>?_⟩;have a9:a7 g d (uf aE) bc fun e y=>(∀ i,aE= .ok i→eh g lim d D D.bin D.wr S a i e y)∧(∀ i c,aE= .no i c→cS g lim d D D.bin S a i ⟨#[]⟩ (Z c) e y):=by
  refine xA bH bx bi bB nr (fun q=>(G4 (k:=k) bh.out aF.out a6 a5 bd q).aL aA.aL) (fun q=>⟨⟨by simp only [hl];exact bZ (rT _ _) aX.rows,aJ _⟩,⟨aJ _,aJ _⟩⟩) (fun q=>⟨rfl,rfl⟩) bK (fun i l y bj bA L=>?_) (fun i c l e y bQ bj q L=>?_)
  ·have a8:=aA.aL.trans L.aL;refine (vZ bA ((dv _ _).cell _ _ _ (a8.cell _ _ _ bt)) ((dv _ _).cell _ _ _ (a8.cell _ _ _ bs))).mono fun e bQ q=>⟨false,q.1,fun ag f=>?_,fun ag c f=>?_⟩
   ·rw [l] at f;cases f;exact mh.s q (aZ.trans L)
   ·rw [l] at f;cases f
  ·refine ⟨fun ag f=>?_,fun ag br f=>?_⟩
   ·rw [l] at f;cases f
   ·rw [l] at f;cases f;exact q.ha (aZ.trans L)
 refine ⟨fun i l=>?_,fun i c l=>?_⟩
 ·subst l;exact a9.mono fun e y q=>q.1 i rfl
 ·subst l;exact a9.mono fun e y q=>q.2 i c rfl
theorem Cw(aq:aP g S a lim M d D ob nb cb B)(aW:aZ (ay a S) o m c v.ag)(bb:dZ v)(aC:v.held=false)(ar:v.ag.length / 2≠0)(aX:bT (bA v)):
  ao aj 124 #[aa d,aw (dd (p:Int) ((hd.i:Int)+1) (hd.g:Int) w k s x u t v o m c),O U 7] a (sx g lim d D S a M p hd (fun q=>(bA (bN v),nx (jn (bw v.ag (v.ag.length / 2)).key q) hd))):=by
 obtain ⟨aY,aS,G,aT,bP⟩:=k7 a 35 170 3 [aa d] (dd (p:Int) ((hd.i:Int)+1) (hd.g:Int) w k s x u t v o m c) [O U 7];have T:=N aq;have W:=N aW;have aF:=N bb;have hold:=aq.mem.old;have a6:m≤10000:=by have:=W.out.len;have:=aX.ag;simp only [bA] at this;omega
 have bW:=N fun (j:ad) (bJ:Y a j)=>((zy 0 fun cl n=>y9 ((bo.gP cW W.out).I cW (bJ.trans n)) aF.out a6 aC ar 0):ao aj 147 #[aw (dd (p:Int) ((hd.i:Int)+1) (hd.g:Int) w k s x u t v o m c),O U 0] j (kZ (jn (bw v.ag (v.ag.length / 2)).key 0) (bA (bN v)) j));clear aq aW bb;have bj:=N aC;have bf:=N ar;clear aC ar;go_enter oe,og;go_upto_region 1 with fail
 show Code.wp _ _ _ _ (((H a (X [aa d].toArray 35)).alloc (X (dd (p:Int) ((hd.i:Int)+1) (hd.g:Int) w k s x u t v o m c) 170)).alloc (X [O U 7].toArray 3));generalize (((H a (X [aa d].toArray 35)).alloc (X (dd (p:Int) ((hd.i:Int)+1) (hd.g:Int) w k s x u t v o m c) 170)).alloc (X [O U 7].toArray 3))=b at *;have bU:b.cell? ⟨a.heap.size+1,0,V⟩=Z (O U (p:Int)):=G.cell 0 rfl;have aH:=G.ef 1 [O U ((hd.i:Int)+1),(hd.g:Int)] rfl;have an:ae (H b (X [O U 0,O U 0,O U 0,O U 0,.nilFunc].toArray 253)) b.heap.size [O U 0,O U 0,O U 0,O U 0,.nilFunc]:=(ae.new b _ _ rfl).of J;go_upto_region 2 with (first|(with_reducible refine dc 78 (aH) dm ?_)|(with_reducible refine bq 253 (an) ((cp (p:Int) ((hd.i:Int)+1) (hd.g:Int) 0 .nilFunc)) ?_))
 have E:ae ((H b (X [O U 0,O U 0,O U 0,O U 0,.nilFunc].toArray 253)).setCells b 0 (cp (p:Int) ((hd.i:Int)+1) (hd.g:Int) 0 .nilFunc)) b.heap.size (cp (p:Int) ((hd.i:Int)+1) (hd.g:Int) 0 .nilFunc):=an.aR rfl;have n:Y b ((H b (X [O U 0,O U 0,O U 0,O U 0,.nilFunc].toArray 253)).setCells b 0 (cp (p:Int) ((hd.i:Int)+1) (hd.g:Int) 0 .nilFunc)):=((Y.refl b).alloc _).setCells (aG _) _ _;have a4:=aY.trans n;have aU:=aS.I n;have aV:=G.I n;have am:=aT.I n;clear an bU aH aS G aT n aY;(try simp only [Act.put]);show Code.wp _ _ _ _ ((H b (X [O U 0,O U 0,O U 0,O U 0,.nilFunc].toArray 253)).setCells b 0 (cp (p:Int) ((hd.i:Int)+1) (hd.g:Int) 0 .nilFunc));generalize (H b (X [O U 0,O U 0,O U 0,O U 0,.nilFunc].toArray 253)).setCells b 0 (cp (p:Int) ((hd.i:Int)+1) (hd.g:Int) 0 .nilFunc)=z at *;have bG:b.heap.size=a.heap.size+3:=bP.symm;generalize b.heap.size=b4 at *;subst bG;have bS:=am.cell 0 rfl;have bx:=E.free 3 J;have bQ:=E.cell 3 rfl;go_upto_region 14 with fail
 have aL:ae (z.setCell ⟨a.heap.size+3,3,V⟩ (O U 1)) (a.heap.size+3) (cp (p:Int) ((hd.i:Int)+1) (hd.g:Int) 1 .nilFunc):=(E.set 3 _).of rfl;have L:Mod [a.heap.size+3] z (z.setCell ⟨a.heap.size+3,3,V⟩ (O U 1)):=Mod.setCell _ _ _ J;have ax:Y a (z.setCell ⟨a.heap.size+3,3,V⟩ (O U 1)):=a4.setCell (p:=⟨a.heap.size+3,3,V⟩) (by show a.heap.size≤a.heap.size+3;omega) _;have cx:=L.box J aU;have ag:=L.box J aV;have aK:=L.box J am;clear E bx bQ aU aV am L a4 bS;(try simp only [Act.put]);generalize z.setCell ⟨a.heap.size+3,3,V⟩ (O U 1)=br at *;have bg:=N (bW.out br ax);go_upto_region 15 with (first|(with_reducible refine b0 170 (ag) dt ?_)|(go_at_call 147;(refine bg.out.mono ?_);rintro e C ⟨cf,b8,b5,cg,b9,bs,ch,cc,b6,ci,cd,b7,rfl, -,r⟩))
 have aM:=cx.I r;have aN:=ag.I r;have aQ:=aK.I r;have F:=aL.I r;have a5:=ax.trans r;clear cx ag aK aL ax r;have bB:=F.free 4 J;have bR:=F.cell 4 rfl;go_upto_region 18 with fail
 have be:ae (C.setCell ⟨a.heap.size+3,4,V⟩ (.func (.func 148) #[] #[aa (a.heap.size+1)])) (a.heap.size+3) (cp (p:Int) ((hd.i:Int)+1) (hd.g:Int) 1 (.func (.func 148) #[] #[aa (a.heap.size+1)])):=(F.set 4 _).of rfl;have Q:Mod [a.heap.size+3] C (C.setCell ⟨a.heap.size+3,4,V⟩ (.func (.func 148) #[] #[aa (a.heap.size+1)])):=Mod.setCell _ _ _ J;have aA:Y a (C.setCell ⟨a.heap.size+3,4,V⟩ (.func (.func 148) #[] #[aa (a.heap.size+1)])):=a5.setCell (p:=⟨a.heap.size+3,4,V⟩) (by show a.heap.size≤a.heap.size+3;omega) _;have aR:=Q.box J aM;have bm:=Q.box J aN;have bn:=Q.box J aQ;clear aM aN aQ F bB bR Q a5;(try simp only [Act.put]);generalize C.setCell ⟨a.heap.size+3,4,V⟩ (.func (.func 148) #[] #[aa (a.heap.size+1)])=al at *;have cm:=aR.cell 0 rfl;have av:=T.out.aC aA;have bi:=N (bo.ex cW W.out (bX aA S));have bh:=N (jm av (page:=(p:Int)) (a1:=(hd.i:Int)+1) (a2:=(hd.g:Int)) (news:=1) 148 #[] #[aa (a.heap.size+1)] 151 #[] #[aa (a.heap.size+2),aa a,aa (a.heap.size+1)] (qO av.mem K K));clear av;go_wp2_with (first|(with_reducible refine b0 253 (be) kK ?_)|(go_at_call 133;(refine bh.out.mono ?_);rintro e bc ⟨rfl,ce,bY,ck,P,A,b3,b1,b2,aI,bM,bH,bC,bF,az⟩));go_ret;have bk:=aI.under bM (fun c bI=>by rw [aO.1 bI];exact ⟨(aI.av.sub _ T.out.cE),T.out.c5,bH⟩);have aD: ∀ R,a.heap.size+R∉S:=fun R q=>by have:=hold _ q;omega
 have bv: (ay al S).cell? ⟨a.heap.size+2,0,V⟩=Z (O U 7):=bp.2 ⟨aD 2,bn.cell 0 rfl⟩;have bt: (ay al S).cell? a=Z (aa d):=bp.2 ⟨aD 0,aR.cell 0 rfl⟩;have bd: (ay al S).rangeAt (a.heap.size+1) 0 (dd (p:Int) ((hd.i:Int)+1) (hd.g:Int) w k s x u t v o m c):=fun R cj bL=>bp.2 ⟨aD 1,by rw [cv];exact bm.cell R bL⟩;have a3:bD S a A bc:=(Y.av aA).trans az;refine ⟨rfl,fun aE bK bO=>?_⟩;have a9:a7 g d (uf aE) bc fun e y=>(∀ i,aE= .ok i→eh g lim d D D.bin D.wr S a i e y)∧(∀ i c,aE= .no i c→cS g lim d D D.bin S a i ⟨#[]⟩ (Z c) e y):=by
  refine xA bK bC bk bF nr (fun q=>(G3 (k:=k) bi.out aF.out a6 bj.out bf.out bd q).aL az.aL) (fun q=>⟨⟨aJ _,by simp only [bA,bN,hl];exact bZ (rT _ _) aX.ag⟩,⟨aJ _,aJ _⟩⟩) (fun q=>⟨rfl,rfl⟩) bO (fun i l y bl bE I=>?_) (fun i c l e y bV bl q I=>?_)
  ·have a8:=az.aL.trans I.aL;refine (vZ bE ((dv _ _).cell _ _ _ (a8.cell _ _ _ bv)) ((dv _ _).cell _ _ _ (a8.cell _ _ _ bt))).mono fun e bV q=>⟨false,q.1,fun ab f=>?_,fun ab c f=>?_⟩
   ·rw [l] at f;cases f;exact mh.s q (a3.trans I)
   ·rw [l] at f;cases f
  ·refine ⟨fun ab f=>?_,fun ab bs f=>?_⟩
   ·rw [l] at f;cases f
   ·rw [l] at f;cases f;exact q.ha (a3.trans I)
 refine ⟨fun i l=>?_,fun i c l=>?_⟩
 ·subst l;exact a9.mono fun e y q=>q.1 i rfl
 ·subst l;exact a9.mono fun e y q=>q.2 i c rfl
theorem Ci{v:bl}(aI:aP g S a lim M d D ob nb cb B)(bd:bk (ay a S) o m c v.rows)(bn:eB v){z:ByteArray}(bi: (e5 v).1=Z z)(aL:bT (⟨bY v,[]⟩:ar)):
  ao aj 124 #[aa d,aw (b5 (p:Int) ((hd.i:Int)+1) (hd.g:Int) w k s x u t v o m c),O U 8] a (se g lim d D S a M p hd (fun C r=>(⟨bY (eN v z r),[]⟩,⟨bY (c6 v z),[]⟩,⟨eW v,[⟨v.low,C⟩,⟨z,r⟩]⟩))):=by
 obtain ⟨be,a8,ag,a9,b1⟩:=k7 a 35 170 3 [aa d] (b5 (p:Int) ((hd.i:Int)+1) (hd.g:Int) w k s x u t v o m c) [O U 8];have ax:=N aI;have az:=N bd;have aU:=N bn;have hold:=aI.mem.old;have bj:m≤1000000:=by have:=az.out.len;have:=aL.rows;simp only [bY] at this;omega
 have bW:=N fun (j:ad) (bQ:Y a j)=>((zo 0 0 fun cM y=>wZ (az.out.gP.I (bQ.trans y)) aU.out bj bi 0 0):ao aj 149 #[aw (b5 (p:Int) ((hd.i:Int)+1) (hd.g:Int) w k s x u t v o m c),O U 0,O U 0] j (kW ⟨bY (eN v z 0),[]⟩ ⟨bY (c6 v z),[]⟩ ⟨eW v,[⟨v.low,0⟩,⟨z,0⟩]⟩ j));clear aI bd bn;go_enter oe,og;go_upto_region 1 with fail
 show Code.wp _ _ _ _ (((H a (X [aa d].toArray 35)).alloc (X (b5 (p:Int) ((hd.i:Int)+1) (hd.g:Int) w k s x u t v o m c) 170)).alloc (X [O U 8].toArray 3));generalize (((H a (X [aa d].toArray 35)).alloc (X (b5 (p:Int) ((hd.i:Int)+1) (hd.g:Int) w k s x u t v o m c) 170)).alloc (X [O U 8].toArray 3))=b at *;have b7:b.cell? ⟨a.heap.size+1,0,V⟩=Z (O U (p:Int)):=ag.cell 0 rfl;have aV:=ag.ef 1 [O U ((hd.i:Int)+1),(hd.g:Int)] rfl;have aH:ae (H b (X [O U 0,O U 0,O U 0,O U 0,.nilFunc].toArray 253)) b.heap.size [O U 0,O U 0,O U 0,O U 0,.nilFunc]:=(ae.new b _ _ rfl).of J;go_upto_region 2 with (first|(with_reducible refine dc 78 (aV) dm ?_)|(with_reducible refine bq 253 (aH) ((cp (p:Int) ((hd.i:Int)+1) (hd.g:Int) 0 .nilFunc)) ?_))
 have W:ae ((H b (X [O U 0,O U 0,O U 0,O U 0,.nilFunc].toArray 253)).setCells b 0 (cp (p:Int) ((hd.i:Int)+1) (hd.g:Int) 0 .nilFunc)) b.heap.size (cp (p:Int) ((hd.i:Int)+1) (hd.g:Int) 0 .nilFunc):=aH.aR rfl;have y:Y b ((H b (X [O U 0,O U 0,O U 0,O U 0,.nilFunc].toArray 253)).setCells b 0 (cp (p:Int) ((hd.i:Int)+1) (hd.g:Int) 0 .nilFunc)):=((Y.refl b).alloc _).setCells (aG _) _ _;have bg:=be.trans y;have bb:=a8.I y;have bc:=ag.I y;have aF:=a9.I y;clear aH b7 aV a8 ag a9 y be;(try simp only [Act.put]);show Code.wp _ _ _ _ ((H b (X [O U 0,O U 0,O U 0,O U 0,.nilFunc].toArray 253)).setCells b 0 (cp (p:Int) ((hd.i:Int)+1) (hd.g:Int) 0 .nilFunc));generalize (H b (X [O U 0,O U 0,O U 0,O U 0,.nilFunc].toArray 253)).setCells b 0 (cp (p:Int) ((hd.i:Int)+1) (hd.g:Int) 0 .nilFunc)=G at *;have bM:b.heap.size=a.heap.size+3:=b1.symm;generalize b.heap.size=cl at *;subst bM;have b4:=aF.cell 0 rfl;have bH:=W.free 3 J;have b2:=W.cell 3 rfl;go_upto_region 5 with fail
 have aZ:ae (G.setCell ⟨a.heap.size+3,3,V⟩ (O U 2)) (a.heap.size+3) (cp (p:Int) ((hd.i:Int)+1) (hd.g:Int) 2 .nilFunc):=(W.set 3 _).of rfl;have am:Mod [a.heap.size+3] G (G.setCell ⟨a.heap.size+3,3,V⟩ (O U 2)):=Mod.setCell _ _ _ J;have aM:Y a (G.setCell ⟨a.heap.size+3,3,V⟩ (O U 2)):=bg.setCell (p:=⟨a.heap.size+3,3,V⟩) (by show a.heap.size≤a.heap.size+3;omega) _;have cx:=am.box J bb;have aD:=am.box J bc;have aY:=am.box J aF;clear W bH b2 bb bc aF am bg b4;(try simp only [Act.put]);generalize G.setCell ⟨a.heap.size+3,3,V⟩ (O U 2)=bA at *;have bs:=N (bW.out bA aM);go_upto_region 6 with (first|(with_reducible refine b0 170 (aD) dt ?_)|(go_at_call 149;(refine bs.out.mono ?_);rintro e L ⟨cB,ct,cm,cC,cu,bB,cD,cw,cn,cE,cy,co,cG,cz,cr,cI,cA,cs,rfl, -,F⟩))
 have a3:=cx.I F;have a4:=aD.I F;have a5:=aY.I F;have ab:=aZ.I F;have bh:=aM.trans F;clear cx aD aY aZ aM F;have bI:=ab.free 4 J;have b3:=ab.cell 4 rfl;go_upto_region 18 with fail
 have br:ae (L.setCell ⟨a.heap.size+3,4,V⟩ (.func (.func 150) #[] #[aa (a.heap.size+1)])) (a.heap.size+3) (cp (p:Int) ((hd.i:Int)+1) (hd.g:Int) 2 (.func (.func 150) #[] #[aa (a.heap.size+1)])):=(ab.set 4 _).of rfl;have an:Mod [a.heap.size+3] L (L.setCell ⟨a.heap.size+3,4,V⟩ (.func (.func 150) #[] #[aa (a.heap.size+1)])):=Mod.setCell _ _ _ J;have aQ:Y a (L.setCell ⟨a.heap.size+3,4,V⟩ (.func (.func 150) #[] #[aa (a.heap.size+1)])):=bh.setCell (p:=⟨a.heap.size+3,4,V⟩) (by show a.heap.size≤a.heap.size+3;omega) _;have a6:=an.box J a3;have aE:=an.box J a4;have bx:=an.box J a5;clear a3 a4 a5 ab bI b3 an bh;(try simp only [Act.put]);generalize L.setCell ⟨a.heap.size+3,4,V⟩ (.func (.func 150) #[] #[aa (a.heap.size+1)])=Q at *;have cN:=a6.cell 0 rfl;have aK:=ax.out.aC aQ;have bv:=N (az.out.ex (bX aQ S));have bt:=N (jm aK (page:=(p:Int)) (a1:=(hd.i:Int)+1) (a2:=(hd.g:Int)) (news:=2) 150 #[] #[aa (a.heap.size+1)] 151 #[] #[aa (a.heap.size+2),aa a,aa (a.heap.size+1)] (qO aK.mem K K));clear aK;go_wp2_with (first|(with_reducible refine b0 253 (br) kK ?_)|(go_at_call 133;(refine bt.out.mono ?_);rintro e aT ⟨rfl,b6,cf,cL,P,A,ck,cg,ci,aW,bU,bO,bJ,bL,aN⟩));go_ret;have bw:=aW.under bU (fun c bP=>by rw [aO.1 bP];exact ⟨(aW.av.sub _ ax.out.cE),ax.out.c5,bO⟩);have R: ∀ av,a.heap.size+av∉S:=fun av q=>by have:=hold _ q;omega
 have bG: (ay Q S).cell? ⟨a.heap.size+2,0,V⟩=Z (O U 8):=bp.2 ⟨R 2,bx.cell 0 rfl⟩;have bC: (ay Q S).cell? a=Z (aa d):=bp.2 ⟨R 0,a6.cell 0 rfl⟩;have bE: (ay Q S).cell? ⟨a.heap.size+1,1,V⟩=Z (O U ((hd.i:Int)+1)):=bp.2 ⟨R 1,aE.cell 1 rfl⟩;have bF: (ay Q S).cell? ⟨a.heap.size+1,2,V⟩=Z (O U (hd.g:Int)):=bp.2 ⟨R 1,aE.cell 2 rfl⟩;have bo: (ay Q S).rangeAt (a.heap.size+1) 0 (b5 (p:Int) ((hd.i:Int)+1) (hd.g:Int) w k s x u t v o m c):=fun av cJ bS=>bp.2 ⟨R 1,by rw [cv];exact aE.cell av bS⟩;have bf:bD S a A aT:=(Y.av aQ).trans aN;refine ⟨rfl,fun aS bR bV=>?_⟩;have bm:a7 g d (ue aS) aT fun e E=>(∀ i,aS= .ok i→∀ T:List aA,T.head?=Z hd→m5 g A aT lim i d {D with nx:=b6} ob nb cb B T (-1) e E)∧(∀ i c,aS= .no i c→cS g lim d D D.bin S a i ⟨#[]⟩ (Z c) e E):=by
  refine xz bR bJ bw bL nr (fun C r=>(DU (k:=k) bv.out aU.out bj bi bo C r).aL aN.aL) (fun C r=>⟨⟨by simp only [fm];exact bZ (Nat.min_le_right _ _) aL.rows,aJ _⟩,⟨by simp only [hl];exact bZ (rT _ _) aL.rows,aJ _⟩,⟨aJ _,J⟩⟩) (fun C r=>⟨⟨rfl,rfl⟩,⟨rfl,rfl⟩⟩) bV (fun i l E aX bK al=>?_) (fun i c l e E cd aX q al=>?_)
  ·have aq:=aN.aL.trans al.aL;refine (v0 bK ((dv _ _).cell _ _ _ (aq.cell _ _ _ bG)) ((dv _ _).cell _ _ _ (aq.cell _ _ _ bC)) ((dv _ _).cell _ _ _ (aq.cell _ _ _ bE)) ((dv _ _).cell _ _ _ (aq.cell _ _ _ bF))).mono fun e cd q=>⟨false,q.1,fun aC f T aR=>?_,fun aC c f=>?_⟩
   ·rw [l] at f;cases f;refine ⟨aX,E,al,?_⟩;rw [aR];exact q
   ·rw [l] at f;cases f
  ·refine ⟨fun aC f=>?_,fun aC bB f=>?_⟩
   ·rw [l] at f;cases f
   ·rw [l] at f;cases f;exact q.ha (bf.trans al)
 refine ⟨fun i l T aR bN=>?_,fun i c l=>?_⟩
 ·subst l;refine a7.trans (n:=8) (m:=1) bm fun e E q=>?_;obtain ⟨ce,j,C,r,nx,ch,I,cj,b8,b9,cc⟩:=q.1 i rfl T aR;exact ⟨r,(po (D:={D with nx:=nx}) b8 b9 bN).mono fun e cK q=>eh.from q ((bf.trans C).trans cc)⟩
 ·subst l;exact bm.mono fun e E q=>q.2 i c rfl
theorem Ch(aH:aP g S a lim M d D ob nb cb B)(bf:aZ (ay a S) o m c v.ag)(bm:dZ v)(aR:v.held=false)(aI:v.ag.length / 2≠0)(aL:bT (bA v)):
  ao aj 124 #[aa d,aw (dd (p:Int) ((hd.i:Int)+1) (hd.g:Int) w k s x u t v o m c),O U 8] a (se g lim d D S a M p hd (fun z r=>(bA (cI v r),bA (bN v),bA {v with ag:=[⟨v.low,z⟩,⟨(bw v.ag (v.ag.length / 2)).key,r⟩]}))):=by
 obtain ⟨bg,bb,ab,bc,b5⟩:=k7 a 35 170 3 [aa d] (dd (p:Int) ((hd.i:Int)+1) (hd.g:Int) w k s x u t v o m c) [O U 8];have av:=N aH;have ax:=N bf;have aV:=N bm;have hold:=aH.mem.old;have bk:m≤10000:=by have:=ax.out.len;have:=aL.ag;simp only [bA] at this;omega
 have bW:=N fun (j:ad) (bY:Y a j)=>((zn 0 0 fun cQ y=>wY ((bo.gP cW ax.out).I cW (bY.trans y)) aV.out bk aR aI 0 0):ao aj 149 #[aw (dd (p:Int) ((hd.i:Int)+1) (hd.g:Int) w k s x u t v o m c),O U 0,O U 0] j (kW (bA (cI v 0)) (bA (bN v)) (bA {v with ag:=[⟨v.low,0⟩,⟨(bw v.ag (v.ag.length / 2)).key,0⟩]}) j));clear aH bf bm;have bB:=N aR;have bs:=N aI;clear aR aI;go_enter oe,og;go_upto_region 1 with fail
 show Code.wp _ _ _ _ (((H a (X [aa d].toArray 35)).alloc (X (dd (p:Int) ((hd.i:Int)+1) (hd.g:Int) w k s x u t v o m c) 170)).alloc (X [O U 8].toArray 3));generalize (((H a (X [aa d].toArray 35)).alloc (X (dd (p:Int) ((hd.i:Int)+1) (hd.g:Int) w k s x u t v o m c) 170)).alloc (X [O U 8].toArray 3))=b at *;have cc:b.cell? ⟨a.heap.size+1,0,V⟩=Z (O U (p:Int)):=ab.cell 0 rfl;have aW:=ab.ef 1 [O U ((hd.i:Int)+1),(hd.g:Int)] rfl;have aF:ae (H b (X [O U 0,O U 0,O U 0,O U 0,.nilFunc].toArray 253)) b.heap.size [O U 0,O U 0,O U 0,O U 0,.nilFunc]:=(ae.new b _ _ rfl).of J;go_upto_region 2 with (first|(with_reducible refine dc 78 (aW) dm ?_)|(with_reducible refine bq 253 (aF) ((cp (p:Int) ((hd.i:Int)+1) (hd.g:Int) 0 .nilFunc)) ?_))
 have T:ae ((H b (X [O U 0,O U 0,O U 0,O U 0,.nilFunc].toArray 253)).setCells b 0 (cp (p:Int) ((hd.i:Int)+1) (hd.g:Int) 0 .nilFunc)) b.heap.size (cp (p:Int) ((hd.i:Int)+1) (hd.g:Int) 0 .nilFunc):=aF.aR rfl;have y:Y b ((H b (X [O U 0,O U 0,O U 0,O U 0,.nilFunc].toArray 253)).setCells b 0 (cp (p:Int) ((hd.i:Int)+1) (hd.g:Int) 0 .nilFunc)):=((Y.refl b).alloc _).setCells (aG _) _ _;have bi:=bg.trans y;have bd:=bb.I y;have be:=ab.I y;have aE:=bc.I y;clear aF cc aW bb ab bc y bg;(try simp only [Act.put]);show Code.wp _ _ _ _ ((H b (X [O U 0,O U 0,O U 0,O U 0,.nilFunc].toArray 253)).setCells b 0 (cp (p:Int) ((hd.i:Int)+1) (hd.g:Int) 0 .nilFunc));generalize (H b (X [O U 0,O U 0,O U 0,O U 0,.nilFunc].toArray 253)).setCells b 0 (cp (p:Int) ((hd.i:Int)+1) (hd.g:Int) 0 .nilFunc)=F at *;have bR:b.heap.size=a.heap.size+3:=b5.symm;generalize b.heap.size=co at *;subst bR;have b8:=aE.cell 0 rfl;have bL:=T.free 3 J;have b6:=T.cell 3 rfl;go_upto_region 5 with fail
 have a4:ae (F.setCell ⟨a.heap.size+3,3,V⟩ (O U 2)) (a.heap.size+3) (cp (p:Int) ((hd.i:Int)+1) (hd.g:Int) 2 .nilFunc):=(T.set 3 _).of rfl;have am:Mod [a.heap.size+3] F (F.setCell ⟨a.heap.size+3,3,V⟩ (O U 2)):=Mod.setCell _ _ _ J;have aM:Y a (F.setCell ⟨a.heap.size+3,3,V⟩ (O U 2)):=bi.setCell (p:=⟨a.heap.size+3,3,V⟩) (by show a.heap.size≤a.heap.size+3;omega) _;have cx:=am.box J bd;have aC:=am.box J be;have a3:=am.box J aE;clear T bL b6 bd be aE am bi b8;(try simp only [Act.put]);generalize F.setCell ⟨a.heap.size+3,3,V⟩ (O U 2)=bF at *;have bt:=N (bW.out bF aM);go_upto_region 6 with (first|(with_reducible refine b0 170 (aC) dt ?_)|(go_at_call 149;(refine bt.out.mono ?_);rintro e G ⟨cE,cy,cr,cG,cz,bG,cJ,cA,cs,cK,cB,ct,cL,cC,cu,cM,cD,cw,rfl, -,E⟩))
 have a5:=cx.I E;have a6:=aC.I E;have a8:=a3.I E;have W:=a4.I E;have bj:=aM.trans E;clear cx aC a3 a4 aM E;have bM:=W.free 4 J;have b7:=W.cell 4 rfl;go_upto_region 18 with fail
 have br:ae (G.setCell ⟨a.heap.size+3,4,V⟩ (.func (.func 150) #[] #[aa (a.heap.size+1)])) (a.heap.size+3) (cp (p:Int) ((hd.i:Int)+1) (hd.g:Int) 2 (.func (.func 150) #[] #[aa (a.heap.size+1)])):=(W.set 4 _).of rfl;have an:Mod [a.heap.size+3] G (G.setCell ⟨a.heap.size+3,4,V⟩ (.func (.func 150) #[] #[aa (a.heap.size+1)])):=Mod.setCell _ _ _ J;have aQ:Y a (G.setCell ⟨a.heap.size+3,4,V⟩ (.func (.func 150) #[] #[aa (a.heap.size+1)])):=bj.setCell (p:=⟨a.heap.size+3,4,V⟩) (by show a.heap.size≤a.heap.size+3;omega) _;have a9:=an.box J a5;have aD:=an.box J a6;have bE:=an.box J a8;clear a5 a6 a8 W bM b7 an bj;(try simp only [Act.put]);generalize G.setCell ⟨a.heap.size+3,4,V⟩ (.func (.func 150) #[] #[aa (a.heap.size+1)])=L at *;have cT:=a9.cell 0 rfl;have aK:=av.out.aC aQ;have bx:=N (bo.ex cW ax.out (bX aQ S));have bv:=N (jm aK (page:=(p:Int)) (a1:=(hd.i:Int)+1) (a2:=(hd.g:Int)) (news:=2) 150 #[] #[aa (a.heap.size+1)] 151 #[] #[aa (a.heap.size+2),aa a,aa (a.heap.size+1)] (qO aK.mem K K));clear aK;go_wp2_with (first|(with_reducible refine b0 253 (br) kK ?_)|(go_at_call 133;(refine bv.out.mono ?_);rintro e aU ⟨rfl,b9,ci,cP,P,A,cn,cj,cl,aX,b3,bU,bO,bQ,aN⟩));go_ret;have bC:=aX.under b3 (fun c bV=>by rw [aO.1 bV];exact ⟨(aX.av.sub _ av.out.cE),av.out.c5,bU⟩);have Q: ∀ ar,a.heap.size+ar∉S:=fun ar q=>by have:=hold _ q;omega
 have bK: (ay L S).cell? ⟨a.heap.size+2,0,V⟩=Z (O U 8):=bp.2 ⟨Q 2,bE.cell 0 rfl⟩;have bH: (ay L S).cell? a=Z (aa d):=bp.2 ⟨Q 0,a9.cell 0 rfl⟩;have bI: (ay L S).cell? ⟨a.heap.size+1,1,V⟩=Z (O U ((hd.i:Int)+1)):=bp.2 ⟨Q 1,aD.cell 1 rfl⟩;have bJ: (ay L S).cell? ⟨a.heap.size+1,2,V⟩=Z (O U (hd.g:Int)):=bp.2 ⟨Q 1,aD.cell 2 rfl⟩;have bn: (ay L S).rangeAt (a.heap.size+1) 0 (dd (p:Int) ((hd.i:Int)+1) (hd.g:Int) w k s x u t v o m c):=fun ar cN b2=>bp.2 ⟨Q 1,by rw [cv];exact aD.cell ar b2⟩;have bh:bD S a A aU:=(Y.av aQ).trans aN;refine ⟨rfl,fun aT b1 b4=>?_⟩;have bl:a7 g d (ue aT) aU fun e C=>(∀ i,aT= .ok i→∀ R:List aA,R.head?=Z hd→m5 g A aU lim i d {D with nx:=b9} ob nb cb B R (-1) e C)∧(∀ i c,aT= .no i c→cS g lim d D D.bin S a i ⟨#[]⟩ (Z c) e C):=by
  refine xz b1 bO bC bQ nr (fun z r=>(DT (k:=k) bx.out aV.out bk bB.out bs.out bn z r).aL aN.aL) (fun z r=>⟨⟨aJ _,by simp only [bA,cI,fm];exact bZ (Nat.min_le_right _ _) aL.ag⟩,⟨aJ _,by simp only [bA,bN,hl];exact bZ (rT _ _) aL.ag⟩,⟨aJ _,by simp [bA]⟩⟩) (fun z r=>⟨⟨rfl,rfl⟩,⟨rfl,rfl⟩⟩) b4 (fun i l C aY bP al=>?_) (fun i c l e C cg aY q al=>?_)
  ·have aq:=aN.aL.trans al.aL;refine (v0 bP ((dv _ _).cell _ _ _ (aq.cell _ _ _ bK)) ((dv _ _).cell _ _ _ (aq.cell _ _ _ bH)) ((dv _ _).cell _ _ _ (aq.cell _ _ _ bI)) ((dv _ _).cell _ _ _ (aq.cell _ _ _ bJ))).mono fun e cg q=>⟨false,q.1,fun az f R aS=>?_,fun az c f=>?_⟩
   ·rw [l] at f;cases f;refine ⟨aY,C,al,?_⟩;rw [aS];exact q
   ·rw [l] at f;cases f
  ·refine ⟨fun az f=>?_,fun az bG f=>?_⟩
   ·rw [l] at f;cases f
   ·rw [l] at f;cases f;exact q.ha (bh.trans al)
 refine ⟨fun i l R aS bS=>?_,fun i c l=>?_⟩
 ·subst l;refine a7.trans (n:=8) (m:=1) bl fun e C q=>?_;obtain ⟨ch,j,z,r,nx,ck,I,cm,cd,ce,cf⟩:=q.1 i rfl R aS;exact ⟨r,(po (D:={D with nx:=nx}) cd ce bS).mono fun e cO q=>eh.from q ((bh.trans z).trans cf)⟩
 ·subst l;exact bl.mono fun e C q=>q.2 i c rfl
end
section
theorem G0{v:bl}(a: ∀ p,lZ (.leaf v) p=Z (C p)): ∃ z,(e5 v).1=Z z∧C=fun p=>(⟨bY (c6 v z),[]⟩,⟨hZ z p,[]⟩):=by
 unfold lZ at a;cases b: (e5 v).1 with
 |none=>have:=a 0;simp only at this;rw[b]at this;cases this
 |some z=>
  refine⟨z,rfl,funext fun p=>?_⟩;have:=a p;simp only at this;rw[b]at this;exact(fo this).symm
theorem GZ(b: ∀ p,lZ (.aU v) p=Z (C p)):v.held=false∧v.ag.length / 2≠0∧C=fun p=>(bA (bN v),jn (bw v.ag (v.ag.length / 2)).key p):=by
 unfold lZ at b;by_cases a:v.held=false∧v.ag.length / 2≠0
 ·refine⟨a.1,a.2,funext fun p=>?_⟩;have:=b p;simp only at this;rw[a9 a]at this;exact(fo this).symm
 ·have:=b 0;simp only at this;rw[aS a]at this;cases this
theorem DR{v:bl}{C:Int→Int→ar×ar×ar}(a: ∀ p q,lM (.leaf v) p q=Z (C p q)): ∃ z,(e5 v).1=Z z∧C=fun p q=>(⟨bY (eN v z q),[]⟩,⟨bY (c6 v z),[]⟩,⟨eW v,[⟨v.low,p⟩,⟨z,q⟩]⟩):=by
 unfold lM at a;cases b: (e5 v).1 with
 |none=>have:=a 0 0;simp only at this;rw[b]at this;cases this
 |some z=>
  refine⟨z,rfl,funext fun p=>funext fun q=>?_⟩;have:=a p q;simp only at this;rw[b]at this;exact(fo this).symm
theorem DQ{C:Int→Int→ar×ar×ar}(b: ∀ p q,lM (.aU v) p q=Z (C p q)):v.held=false∧v.ag.length / 2≠0∧C=fun p q=>(bA (cI v q),bA (bN v),bA {v with ag:=[⟨v.low,p⟩,⟨(bw v.ag (v.ag.length / 2)).key,q⟩]}):=by
 unfold lM at b;by_cases a:v.held=false∧v.ag.length / 2≠0
 ·refine⟨a.1,a.2,funext fun p=>funext fun q=>?_⟩;have:=b p q;simp only at this;rw[a9 a]at this;exact(fo this).symm
 ·have:=b 0 0;simp only at this;rw[aS a]at this;cases this
theorem zb(aa:de lim D.c.key M D.wr 0 V k E ab .split)(i:bT (fH E.nd))(ae:E.refs.head?=Z hd)(n: ∀ p,lZ E.nd p=Z (C p))(R:aP g S a lim M d D ob nb cb B)(an:ff g S a d D 0)(T:D.ab=V):
  a7 g d k a fun e l=> ∃ J j aq p,E.n=((p:Nat):Int)∧dS lim M E∧bD S a J j∧sx g lim d {D with ab:=ab,nx:=aq} J j M p hd (fun p=>((C p).1,nx (C p).2 hd)) e l:=by
 have L: {D with ab:=V,nx:=D.nx}=D:=by cases D;cases T;rfl
 refine mG (D:=D) (nb:=nb) (cb:=cb) (ob:=ob) aa S a D.nx B rfl rfl (by rw[L];exact R) (by rw[L];exact an) bn.refl fun A l Q ax av ay N y r b W K=>?_;rw[ae]at N;cases N;refine CN r b W fun j f=>?_;obtain⟨p,G⟩:=fP y.hU;rw[G]at b;have b:=b.ex (bX f A);obtain⟨w,s,x,u,t,b⟩:=b;cases P:E.nd with
 |leaf v=>
  rw[P]at b i n;obtain⟨o,m,c,rfl,F,I⟩:=b;obtain⟨z,ag,rfl⟩:=G0 n;exact(Cx (r.aC f) F I ag i).mono fun e ar q=>⟨false,q.1,A,j,Q,p,G,y,K.trans (Y.av f),q⟩
 |aU v=>
  rw[P]at b i n;obtain⟨o,m,c,rfl,F,I⟩:=b;obtain⟨al,am,rfl⟩:=GZ n;exact(Cw (r.aC f) F I al am i).mono fun e ar q=>⟨false,q.1,A,j,Q,p,G,y,K.trans (Y.av f),q⟩
theorem w1{C:Int→Int→ar×ar×ar}(aa:de lim D.c.key M D.wr 0 V k E ab .grow)(i:bT (fH E.nd))(ae:E.refs.head?=Z hd)(n: ∀ p q,lM E.nd p q=Z (C p q))(R:aP g S a lim M d D ob nb cb B)(an:ff g S a d D 0)(T:D.ab=V):
  a7 g d k a fun e l=> ∃ J j aq p,E.n=((p:Nat):Int)∧dS lim M E∧bD S a J j∧se g lim d {D with ab:=ab,nx:=aq} J j M p hd C e l:=by
 have L: {D with ab:=V,nx:=D.nx}=D:=by cases D;cases T;rfl
 refine mG (D:=D) (nb:=nb) (cb:=cb) (ob:=ob) aa S a D.nx B rfl rfl (by rw[L];exact R) (by rw[L];exact an) bn.refl fun A l Q ay ax az N y r b W K=>?_;rw[ae]at N;cases N;refine CH r b W fun j f=>?_;obtain⟨p,G⟩:=fP y.hU;rw[G]at b;have b:=b.ex (bX f A);obtain⟨w,s,x,u,t,b⟩:=b;cases P:E.nd with
 |leaf v=>
  rw[P]at b i n;obtain⟨o,m,c,rfl,F,I⟩:=b;obtain⟨z,ag,rfl⟩:=DR n;exact(Ci (r.aC f) F I ag i).mono fun e av q=>⟨false,q.1,A,j,Q,p,G,y,K.trans (Y.av f),q⟩
 |aU v=>
  rw[P]at b i n;obtain⟨o,m,c,rfl,F,I⟩:=b;obtain⟨al,am,rfl⟩:=DQ n;exact(Ch (r.aC f) F I al am i).mono fun e av q=>⟨false,q.1,A,j,Q,p,G,y,K.trans (Y.av f),q⟩
theorem dS.ax(a:dS lim M E)(c:E.n=(p:Int))(b:E.refs.head?=Z hd):M.ax[p]?=Z (Z (Z hd)):=by
 have:=a.head;rw[b,c]at this;exact this
def so (g:aV) (lim:aK) (d:Nat) (D:bU) (F:List bK) (wr:Bool) (S:List Nat) (a:ad) (M:az) (r:Option g3) (e:Ending) (l:ad):Prop:=
 match r with
 |none=>eh g lim d D F wr S a M e l
 |some r=>cS g lim d D F S a M r.val (if r.code=0 then V else Z r.code) e l
end
theorem oD{y:ar}(a:b2 cnt M y= .no e):e=3∨e=5:=
 iO (cnt:=cnt) (M:=M) (p:=0) (y:=y) (by unfold c8;rw[a])
theorem EE(a:jl cnt M n C= .no i e):e=3∨e=5:=by
 unfold jl at a;split at a
 ·cases a;exact .inl rfl
 ·split at a
  ·rename_i b;cases a;exact oD b
  ·split at a
   ·rename_i b;cases a;exact oD b
   ·cases a
theorem ED{C:Int→Int→ar×ar×ar}(a:jk cnt M n C= .no i e):e=3∨e=5:=by
 unfold jk at a;split at a
 ·cases a;exact .inl rfl
 ·split at a
  ·cases a;exact .inl rfl
  ·split at a
   ·rename_i b;cases a;exact oD b
   ·split at a
    ·rename_i b;cases a;exact oD b
    ·split at a
     ·rename_i b;cases a;exact oD b
     ·cases a
theorem Ed{f:Int}(g:iF lim M f hd v k i (.no e)):e=3∨e=5:=by
 cases g with
 |tg b p o n d m=>exact iO m
 |tk b c a=>exact iO a
 |uk b c l d a=>exact iO a
 |uj b c l d a j=>exact iO j
theorem AH{c:cV}{rows:List aN}(a:dq c rows=Z e):e=6∨e=7:=by
 unfold dq at a;split at a
 ·cases a;exact .inr rfl
 ·split at a
  ·cases a;exact .inl rfl
  ·cases a
section
theorem de.page(a:de lim z M wr n ab k E R W):dS lim M E:=by
 induction a with
 |stop a hd c=>exact a
 |right a hd b ih=>exact ih
 |down a e d hd b ih=>exact ih
theorem my{b:Ending}(f:e≠0)(c:cS g lim d D F S a M ⟨#[]⟩ (Z e) b l):so g lim d D F wr S a M (Z ⟨b8,e⟩) b l:=by
 unfold so;simp only;rw[aS f];exact c
theorem ye{c:cV}(ag:One lim c M F wr k i Q j r)(K:1≤c.kind∧c.kind≤5)(L:F.length≤1000000)(n:aP g S a lim M d D ob nb cb B)(s:ff g S a d D 0)(o:D.ab=V)(W:D.c=c)(T:D.bin=F)(aa:D.wr=wr):
  a7 g d k a (so g lim d D Q j S a i r):=by
 subst W T aa;cases ag with
 |again b=>exact AQ b n s o
 |tT b N ae f=>exact GJ b N ae f n s o
 |tU b N f=>exact(GI b N f n s o).mono fun e l q=>my (by rcases iO f with q|q <;> omega) q
 |tidy b t f=>exact HF b t f L n s o
 |uo b t f=>exact(HB b t f n s o).mono fun e l q=>my (by rcases iO f with q|q <;> omega) q
 |split b t m z f=>
  refine a7.trans (zb b t m z n s o) fun e l ⟨I,j,P,p,u,x,y,q⟩=>⟨q.1,?_⟩;rw[u]at f;exact((q.2 _ f (x.ax u m)).1 _ rfl).mono fun e R q=>eh.from (D:=D) q y
 |pn b t m z f=>
  refine a7.trans (zb b t m z n s o) fun e l ⟨I,j,P,p,u,x,y,q⟩=>⟨q.1,?_⟩;rw[u]at f;exact((q.2 _ f (x.ax u m)).2 _ _ rfl).mono fun e R q=>my (by rcases EE f with q|q <;> omega) (cS.from (D:=D) q y)
 |grow b t z f=>
  rename_i E ab C;have J:=b.page;obtain⟨hd,m⟩:=J.first;refine a7.trans (w1 b t m z n s o) fun e l ⟨I,j,P,p,u,x,y,q⟩=>⟨q.1,?_⟩;rw[u]at f;exact((q.2 _ f (x.ax u m)).1 _ rfl _ m L).mono fun e R q=>eh.from (D:=D) q y
 |oU b t z f=>
  rename_i E ab C e;have J:=b.page;obtain⟨hd,m⟩:=J.first;refine a7.trans (w1 b t m z n s o) fun e l ⟨I,j,P,p,u,x,y,q⟩=>⟨q.1,?_⟩;rw[u]at f;exact((q.2 _ f (x.ax u m)).2 _ _ rfl).mono fun e R q=>my (by rcases ED f with q|q <;> omega) (cS.from (D:=D) q y)
 |gQ b v m G=>exact Ei b v m G L n s o
 |tn b v m G=>exact(Ea b v m G n s o).mono fun e l q=>my (by rcases Ed G with q|q <;> omega) q
 |dq b v w=>exact(AI b v w K n s o).mono fun e l q=>my (by rcases AH w with q|q <;> omega) q
 |sC b v w A=>exact AG b v w A n s o
 |act b v m w A f=>exact AK b v m w A f K n s o
 |sB b v m w A f=>exact(AF b v m w A f K n s o).mono fun e l q=>my (by rcases iO f with q|q <;> omega) q
end
theorem de.pos(a:de lim z M wr n ab k E R W):1≤k:=by
 cases a <;> omega
theorem One.len{c:cV}(n:One lim c M F wr k i Q j r):Q.length≤F.length+k:=by
 cases n with
 |again a=>omega
 |tT a p q b=>omega
 |tU a p b=>omega
 |tidy a d b=>have:=a.pos;simp <;> omega
 |uo a d b=>omega
 |split a d e l b=>omega
 |pn a d e l b=>omega
 |grow a d l b=>have:=a.pos;simp <;> omega
 |oU a d l b=>omega
 |gQ a f e o=>have:=a.pos;simp <;> omega
 |tn a f e o=>omega
 |dq a f g=>omega
 |sC a f g m=>omega
 |act a f e g m b=>omega
 |sB a f e g m b=>omega
abbrev jS (c:Int):Option Int:=if c=0 then V else Z c
section
theorem ID{c:cV}{r:g3}(v:je lim c M F wr k i Q r)(t:1≤c.kind∧c.kind≤5): ∀ (S:List Nat) (a:ad) (D:bU) (ob:Option ai) (nb cb:Nat) (B:List ak),F.length+k≤1000000→aP g S a lim M d D ob nb cb B→ff g S a d D 0→D.ab=V→D.c=c→D.bin=F→D.wr=wr→
  a7 g d k a (cS g lim d D Q S a i r.val (jS r.code)):=by
 induction v with
 |last f=>
  intro S a D ob nb cb B w o s p b m n;exact ye f t K o s p b m n
 |more f N ih=>
  rename_i M i J F Q I wr j k T r;intro S a D ob nb cb B w o s p b m n;have L:=f.len;refine a7.trans (ye f t K o s p b m n) fun e l q=>?_;obtain⟨z,nx,A,y,x,u,C,E,G⟩:=q;exact⟨z,(ih A l {D with bin:=Q,wr:=j,ab:=V,nx:=nx} y x u g4 K C E rfl b rfl rfl).mono fun e P q=>cS.from (D:=D) q G⟩
end
theorem Df:dH 127:=fun args j=>fj Tryz.func127 G rfl args j
theorem Dj:dH 130:=fun args j=>fj Tryz.func130 G rfl args j
theorem ww:dH 153:=fun args j=>fj Tryz.func153 G rfl args j
section
abbrev ug (d:Nat):ak:= .func (.func 130) #[aa d] #[]
abbrev xS (d:Nat):ak:= .func (.func 153) #[aa d] #[]
theorem BO(b:aP g S a lim M d D ob nb cb B):ao aj 129 #[au (Z ⟨d,1,V⟩)] a fun e l=>e=ap (O U (D.bin.length:Int))∧a=l:=by
 have f:=b.box.cell 1 rfl;have c:=b.bin.len;clear b;rw[c];clear c;go_enter Tryz.func129,Tryz.ntmps129;go_wp2_with fail;go_ret;exact⟨rfl,rfl⟩
def p3 (g:aV) (S:List Nat) (lim:aK) (M:az) (d:Nat) (D:bU) (ob:Option ai) (nb cb:Nat) (B:List ak) (a:ad) (e:Ending) (l:ad):Prop:=
 if D.bin=[]then e=ap (ah true)∧aP g S l lim {M with ins:=V} d {D with nx:= .nilFunc} ob nb cb B∧bD S a S l
 else e=ap (ah false)∧aP g S l lim {M with ins:=V} d {D with nx:=ug d} ob nb cb B∧bD S a S l
theorem E2{b:Nat}(j:aP g S a lim M d D ob nb cb B)(c: (ay a S).cell? b=Z (aa d))(x:M.ins.isSome=true):
  ao aj 127 #[aa g.m,aa b] a (p3 g S lim M d D ob nb cb B a):=by
 have E:=(bp.1 c).2;have C:=j.box.cell 0 rfl;have s:=N (EX j.mem x);have r:=N j;have A:=N c;clear j c x;go_enter Tryz.func127,Tryz.ntmps127;go_upto_region 2 with (go_at_call 128;(with_reducible refine s.out.mono ?_);rintro e y ⟨rfl,u,o⟩)
 have f:=r.out.acc u o J;have m:bD S a S y:=o.av fun b c=>by
  simp only [bd,c0,db] at c;exact ⟨r.out.mem.sub b (by rcases c with rfl|rfl <;> simp),.inr (aJ _)⟩
 have F:=(dv _ _).cell _ _ _ (m.aL.cell _ _ _ A.out);have k:=N (BO f);have z:=N (tG f);have bh:=N (iS f 130 #[aa d] #[]);have w: ∀ v,bD S a S (y.setCell ⟨d,11,V⟩ v):=fun v=>m.trans ((Mod.setCell (S:=[d]) _ _ _ J).av fun b c=>by rw [aO.1 c];exact ⟨f.cE,.inr (aJ _)⟩);have q:=N f;have t:=N w;clear f w u o m C E s;by_cases i:D.bin=[]
 ·have n: (D.bin.length:Int)=0:=by rw [i];rfl
  rw [n] at k;have l:=N i;clear i n;go_wp2_with (first|(go_at_call 129;(with_reducible refine k.out.mono ?_);rintro e p ⟨rfl,rfl⟩)|(go_at_call 56;(with_reducible refine z.out.mono ?_);rintro e p ⟨rfl,rfl⟩));go_ret;unfold p3;rw [a9 l.out];exact ⟨rfl,q.out.next _,t.out _⟩
 ·have n: ((D.bin.length:Int)==0)=false:=by
   rw [ey];intro e;exact i (gH.1 K)
  have l:=N i;clear i;go_wp2_with (first|(go_at_call 129;(with_reducible refine k.out.mono ?_);rintro e p ⟨rfl,rfl⟩)|(go_at_call 57;(with_reducible refine bh.out.mono ?_);rintro e p ⟨rfl,rfl⟩));go_ret;unfold p3;rw [aS l.out];exact ⟨rfl,q.out.next _,t.out _⟩
end
theorem wo:dH 31:=fun args j=>fj Tryz.func31 G rfl args j
theorem C9:dH 58:=fun args j=>fj Tryz.func58 G rfl args j
section
structure r9 (S:List Nat) (a:ad) (d:Nat) (nx:ak) (n:Int) (b c:Nat):Prop where
 nx:nx= .func (.func 58) #[] #[aa b,aa c]
 c2: (ay a S).cell? ⟨b,0,V⟩=Z (aa d)
 hR: (ay a S).cell? ⟨c,0,V⟩=Z (O U n)
theorem B2(i:aP g S a lim M d D ob nb cb B)(ab:M.now < lim.count):
  ao aj 31 #[aa d,aa g.m] a fun e l=>e=ap (ah false)∧∃ nx K f,aP g S l lim {M with now:=M.now+1} d {D with nx:=nx} ob nb cb B∧r9 S l d nx ((M.now:Int)+1) K f∧bD S a S l:=by
 have y:Y a (H a (X #[aa d] 35)):=(Y.refl a).alloc _;have u:ae (H a (X #[aa d] 35)) a.heap.size [aa d]:=(ae.new a _ _ rfl).of J;have o:=i.aC y;have W:=i.lt;have hold:=i.mem.old;have C:Hid (ao aj 53 #[aa g.m] (H a (X #[aa d] 35)) fun e l=>e=ap (a0 #[O U ((M.now:Int)+1),aB])∧aX g S l lim {M with now:=M.now+1}∧Mod [g.m,g.c] (H a (X #[aa d] 35)) l):=N ((sN o.mem).mono fun e l q=>by
  rcases q with ⟨ag, -⟩|⟨-,R⟩
  ·omega
  ·exact R)
 have n:=N o;have F:=N i.cE;clear i o;go_enter Tryz.func31,Tryz.ntmps31;go_upto_region 1 with fail
 generalize H a (X #[aa d] 35)=G at *;go_upto_region 2 with (go_at_call 53;(with_reducible refine C.out.mono ?_);rintro e c ⟨rfl,x,t⟩)
 have j:=n.out.acc x t J;have r:bD S G S c:=t.av fun b k=>by
  simp only [bd,c0,db] at k;exact ⟨n.out.mem.sub b (by rcases k with rfl|rfl <;> simp),.inr (aJ _)⟩
 have z:a.heap.size∉S:=fun q=>dk _ (hold _ q);have v:=r.box (.inl z) u;have I:ae (H c (X #[O U ((M.now:Int)+1)] 3)) c.heap.size [O U ((M.now:Int)+1)]:=(ae.new c _ _ rfl).of J;have m:Y c (H c (X #[O U ((M.now:Int)+1)] 3)):=(Y.refl c).alloc _;have P:c.heap.size∉S:=fun q=>dk _ (j.mem.old _ q);have Q:c.heap.size≠d:=fun e=>by have:=j.lt;omega
 have p:=j.aC m;have w:=v.I m;have E:=N (((Y.av (L:=[]) (B0:=0) (S:=S) y).trans r).trans (Y.av m));clear x t r j u v m n;(try simp only [Act.put]);show Code.wp _ _ _ _ (H c (X #[O U ((M.now:Int)+1)] 3));generalize H c (X #[O U ((M.now:Int)+1)] 3)=T at *;generalize c.heap.size=f at *;have am:=w.cell 0 rfl;have bh:=N (iS p 58 #[] #[aa a,aa f]);have A:=N p;clear p;go_wp2_with (go_at_call 57;(with_reducible refine bh.out.mono ?_);rintro e al ⟨rfl,rfl⟩);go_ret;have s:=Mod.setCell (S:=[d]) T ⟨d,11,V⟩ (.func (.func 58) #[] #[aa a,aa f]) J;exact ⟨rfl,_,a.heap.size,f,A.out.next _,⟨rfl,bp.2 ⟨z,(s.box cJ w).cell 0 rfl⟩,bp.2 ⟨P,(s.box (by simpa using Q) I).cell 0 rfl⟩⟩,E.out.trans (s.av fun b k=>by rw [aO.1 k];exact ⟨F.out,.inr (aJ _)⟩)⟩
theorem BW{q r n:Nat}(o:aP g S a lim M d D ob nb cb B)(W:r9 S a d D.nx (n:Int) q r)(E:M.ins=V)(i:1≤n)(j:n≤M.now):
  ao aj 58 #[aa g.m,aa q,aa r] a (eh g lim d D D.bin D.wr S a {M with ins:=Z n}):=by
 obtain ⟨-,s,y⟩:=W;have x:=o.box.cell 0 rfl;have w:=N o;have K:=N (C8 (o.mem.I (Y.refl a).drew) E n i j);clear o E i j;go_enter Tryz.func58,Tryz.ntmps58;go_upto_region 1 with fail
 refine cZ (fun _=>True) (fun l=>l.cell? q=Z (aa d)∧l.cell? r=Z (O U (n:Int))∧l.cell? d=Z (O U 0)) 6 G ?_;have f:True:=trivial;have m:=(Y.refl a).drew;have hKC:=And.intro (m.I (bp.1 s).2) (And.intro (m.I (bp.1 y).2) (m.I x));refine' aI 0 6 (aa g.m) rfl f hKC ?_;refine' bc (v:=aa d) 1 7 rfl (.inl ⟨aq,?_⟩) f hKC ?_
 ·(intro a c;have F:=c.2.1;clear c;go_simp)
 refine' aI 2 8 (aa d) rfl f hKC ?_;refine' aI 3 9 (au (Z d)) rfl f hKC ?_;refine' bc (v:=O U 0) 4 10 rfl (.inl ⟨aq,?_⟩) f hKC ?_
 ·(intro a c;have F:=c.2.2.2;clear c;go_simp)
 refine' bc (v:=O U (n:Int)) 5 11 rfl (.inl ⟨aq,?_⟩) f hKC ?_
 ·(intro a c;have F:=c.2.2.1;clear c;go_simp)
 refine cg 6 (Z 12) rfl (fun p k=>?_);go_simp;go_at_call 59;refine K.out.mono ?_;rintro e ab ⟨rfl,z,u⟩;refine bM k (trivial) ?_;clear k p;refine cg 7 (Z 5) rfl (fun p k=>?_);go_simp;refine bM k (trivial) ?_;clear k p;refine cC G ?_;have i:=w.out.aC m;have j:=i.acc z u J;have t:bD S a S ab:=(Y.av m).trans (u.av fun b C=>by
  simp only [bd,c0,db] at C;exact ⟨w.out.mem.sub b (by rcases C with rfl|rfl <;> simp),.inr (aJ _)⟩)
 have T:=(dv _ _).cell _ _ _ (t.aL.cell _ _ _ s);have I:=N (oC j);have L:=N t;clear hKC z u i j t s y x;go_wp2_with (go_at_call 60;(with_reducible refine I.out.mono ?_);rintro e ae ⟨rfl,nx,A,P,Q,R⟩);go_ret;exact ⟨rfl,nx,A,ob,nb,cb,P,Q,L.out.trans R⟩
end
end Go.Proofs.YtbkmjhhpcinppaaGreatDoor
