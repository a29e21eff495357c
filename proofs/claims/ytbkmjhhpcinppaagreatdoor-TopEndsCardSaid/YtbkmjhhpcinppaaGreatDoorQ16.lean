import Derived.Test.YtbkmjhhpcinppaaGreatDoorQ15
namespace Go.Proofs.YtbkmjhhpcinppaaGreatDoor
set_option linter.unusedVariables false
set_option linter.defProp false
set_option linter.unusedSimpArgs false
set_option maxRecDepth 100000
set_option maxHeartbeats 40000000
open Go.BigFrame Go.RowKit Go.WideShapes
open Ending renaming returned→ap
open Go renaming Addr→ai,Calls→ao,Value→ak,World→ad
open Go.Proofs.Tryz renaming prog→aj
open IntKind renaming i64→U
open Obj renaming cells→X
open Option renaming none→V,some→Z
open Value renaming agg→aw,bool→ah,int→O,nilIface→aB,pointer→au,slice→ac,string→af,tuple→a0
open World renaming alloc→H,setCells→ba
variable {D w z : ad} {C : Program} {E : Exit → Act → ad → Prop} {a : Act} {b A k n o B : Nat} {d : aA} {l : List g1} {h : aT} {m : Option ai} {op : Oper} {F : Array Oper} {rest : List Oper} {ty : TypeId} {vs : List ak}
def fG:dK (Int×Int):=fun w x vs=>vs=[O U x.1,O U x.2]
theorem fb:fQ fG:=fun _ _ _ _ _ a=>a
theorem kC:jc aj 115 78 2 16:=⟨Tryz.underlying115,by
 obtain⟨i,b,d,c,a⟩:=kO (show(aj.info? 78).map (fun i=>(i.zero,i.size,i.bytes))=Z (Z (aw #[O U 0,O U 0]),2,16)by kernel_rfl);exact⟨i,_,b,d,c,a,rfl⟩,bP⟩
abbrev fw:List ak:=[af ⟨#[]⟩,af ⟨#[]⟩,ah false,O U 0,ac V 0 0,ah false]
abbrev tK (n a b:Int) (r:Option ai) (p c:Nat) (s:Option ai) (q d:Nat) (o:Bool) (cf t u v w x e f g h i j k l m:ak):List ak:=[O U n,O U a,O U b,ac r p c,ac s q d,ah o,cf,t,u,v,w,x,e,f,g,h,i,j,k,l,m]
abbrev b5 (n a b:Int) (i:Option ai) (g d:Nat) (j:Option ai) (h e:Nat) (v:bl) (o:Option ai) (f c:Nat):List ak:=tK n a b i g d j h e true (af v.low) (af v.high) (ah v.unb) (O U v.right) (ac o f c) (ah v.gone) (af ⟨#[]⟩) (af ⟨#[]⟩) (ah false) (O U 0) (ac V 0 0) (ah false) (O U 0) (O U 0) (af ⟨#[]⟩)
abbrev dd (n a b:Int) (i:Option ai) (g d:Nat) (j:Option ai) (h e:Nat) (v:aY) (o:Option ai) (f c:Nat):List ak:=tK n a b i g d j h e false (af ⟨#[]⟩) (af ⟨#[]⟩) (ah false) (O U 0) (ac V 0 0) (ah false) (af v.low) (af v.high) (ah v.unb) (O U v.right) (ac o f c) (ah v.held) (O U v.aH) (O U v.bb) (af v.aD)
abbrev jo (n a b:Int) (g:Option ai) (e c:Nat) (h:Option ai) (f d:Nat):List ak:=tK n a b g e c h f d false (af ⟨#[]⟩) (af ⟨#[]⟩) (ah false) (O U 0) (ac V 0 0) (ah false) (af ⟨#[]⟩) (af ⟨#[]⟩) (ah false) (O U 0) (ac V 0 0) (ah false) (O U 0) (O U 0) (af ⟨#[]⟩)
def cd (D:ad) (n:Int) (d:aA) (k:Nat) (h:aT) (vs:List ak):Prop:=
 ∃ g b i f e,match h with
  | .leaf v=> ∃ o a c,vs=b5 n ((d.i:Int)+1) (d.g:Int) g k b i f e v o a c∧bk D o a c v.rows∧eB v
  | .aU v=> ∃ o a c,vs=dd n ((d.i:Int)+1) (d.g:Int) g k b i f e v o a c∧aZ D o a c v.ag∧dZ v
def ox (w:ad) (n:Int) (d:aA) (k:Nat) (h:aT) (e:Ending) (z:ad):Prop:=
 ∃ vs,e=ap (a0 #[aw vs.toArray,aB])∧(∀ S:List Nat,(∀ b∈S,b < w.heap.size)→cd (ay z S) n d k h vs)∧Y w z
def ss (D:ad) (n i j:Int) (k:Nat) (h:aT) (vs:List ak):Prop:=
 ∃ f b g e d,match h with
  | .leaf v=> ∃ o a c,vs=b5 n i j f k b g e d v o a c∧bk D o a c v.rows∧eB v
  | .aU v=> ∃ o a c,vs=dd n i j f k b g e d v o a c∧aZ D o a c v.ag∧dZ v
def Ar (w:ad) (n a c:Int) (k:Nat) (h:aT) (e:Ending) (z:ad):Prop:=
 ∃ vs,e=ap (a0 #[aw vs.toArray,aB])∧(∀ S:List Nat,(∀ b∈S,b < w.heap.size)→ss (ay z S) n a c k h vs)∧Y w z
def su:dK ar:=fun w y vs=> ∃ e c a f d b,vs=an y.x e c a f d b
theorem jO:fQ su:=fun _ _ _ _ _ a=>a
theorem tN(y:ar)(d:Option ai)(h b:Nat)(f:Option ai)(i c:Nat)(j:TypeId)(a:ad)(r:Option Nat)(l: ∀ g,r=Z g→g < a.heap.size):bo su 15 (eb (H a (X (an y.x d h b f i c) j)) r) (Z ⟨a,0,V⟩) 1 1 [y]:=
 bo.one bP (aG _) c4 rfl (zS _ _ _ _ _ _ _) ⟨d,h,b,f,i,c,rfl⟩ fun m n k=>hT.2 ⟨fun e=>by have:=l _ e;omega,by
  have:=jD a (an y.x d h b f i c).toArray j m;rw[cv,this];simpa using k⟩
theorem ej{r:Option Nat}(c:w.grownBy z r){b:Nat}(d:r≠Z b){vs:List ak}(a:ae w b vs):ae z b vs:=
 (Mod.grown (S:=r.toList) c (fun x e=>by rw[e];simp)).box (fun q=>d (by cases r with|none=>cases q|some x=>simp at q;rw[q])) a
theorem ae.part(d:ae w b vs)(o:Nat)(a:List ak)(p:o+a.length≤vs.length):ae (ba w b o a) b (vs.take o++a++vs.drop (o+a.length)):=by
 have k:ez vs.length (fun (x:List ak) j=>j=x) w b [vs]:=⟨(fun i x f=>by
  rcases i with _|i
  ·cases f;exact⟨vs,rfl,rfl,by rw[jG];exact d.aM⟩
  ·cases f),by simpa using d.may⟩
 have c:=k.part (i:=0) rfl rfl (by rw[jG];exact d.aM) o a p (vs.take o++a++vs.drop (o+a.length)) rfl;rw[jG,cv]at c;obtain⟨j,l,m,e⟩:=c.at' 0 _ rfl;rw[jG]at e;subst m;exact⟨e,fun h g=>by
  have n:h < vs.length:=by rw[l]at g;exact g
  have:=c.may h (by simpa using n);exact this⟩
theorem ae.fi(a:ae w b vs)(o n:Nat)(e:o+n≤vs.length):w.there b o n:=fun c d=>by
 have:=a.may (o+c) K;rwa[cv]at this
theorem IM(d:w.there b o n)(c:List ak)(j:op.guard=V)
  (m: ∃ x y,op.op= .store ty x y∧a.eval x=au (Z ⟨b,o,V⟩)∧a.eval y=aw c)(l:c.length=n)(k: (C.info? ty).map (·.size)=Z c.length)(f:c.all (·.oneCell')=true)
  (e:wpList C F E rest (a.put op.dst undef) (ba w b o c)):wpList C F E (op::rest) a w:=by
 obtain ⟨x,y,g,h,i⟩:=m;refine dY j ty x y g b o c.toArray h i ?_ (by simpa using k) (by simpa using f) (by simpa using e);rw [←l] at d;simpa using d
theorem IK(h:er w b o vs){c:TypeDesc}(i:op.guard=V)
  (k: ∃ x,op.op= .load ty x∧a.eval x=au (Z ⟨b,o,V⟩))(l:C.underlying ty=Z c)(d:c.isRow=true)(j: (C.info? ty).map (·.size)=Z vs.length)
  (e:wpList C F E rest (a.put op.dst (aw vs)) w):wpList C F E (op::rest) a w:=by
 obtain⟨x,f,g⟩:=k;exact e8 i ty x f b o g vs c h.aM l d j e
theorem hY(ty:TypeId)(f:w.there b o n)(c:List ak)(d:wpList C F E rest (a.put op.dst undef) (ba w b o c))(g:op.guard=none:=by with_unfolding_all exact rfl)
  (j: ∃ x y,op.op= .store ty x y∧a.eval x=au (Z ⟨b,o,V⟩)∧a.eval y=aw c:=by with_unfolding_all exact⟨_,_,rfl,rfl,rfl⟩)(i:c.length=n:=by with_unfolding_all exact rfl)(h: (C.info? ty).map (·.size)=Z c.length:=by kernel_rfl)(e:c.all (·.oneCell')=true:=by kernel_rfl):wpList C F E (op::rest) a w:=IM f c g j i h e d
theorem dc(ty:TypeId)(f:er w b o vs){c:TypeDesc}(j:C.underlying ty=Z c)(e:wpList C F E rest (a.put op.dst (aw vs)) w)(g:op.guard=none:=by with_unfolding_all exact rfl)
  (i: ∃ x,op.op= .load ty x∧a.eval x=au (Z ⟨b,o,V⟩):=by with_unfolding_all exact⟨_,rfl,rfl⟩)(d:c.isRow=true:=by with_unfolding_all exact rfl)(h: (C.info? ty).map (·.size)=Z vs.length:=by kernel_rfl):wpList C F E (op::rest) a w:=IK f g i j d h e
abbrev cr:List ak:=jo 0 0 0 V 0 0 V 0 0
theorem of_int(n D E:Int)(m:Option ai)(k bd:Nat)(P:List ar)(cp:Option ai)(I b1:Nat)(rs:List (Int×Int))(h:aT)(w:ad)(be:fr w m k bd P)(cT:bo fG 2 w cp I b1 rs)(cK:k≤1000)(dl:I≤1000)(a2: ∀ y∈P,bT y)(aV:dw P=Z h):
  ao aj 65 #[O U n,aw #[D,E],ac m k bd,ac cp I b1] w (Ar w n D E k h):=by
 have aU:Y w ((H w (X #[O U D,E] 78)).alloc (X cr 170)):=((Y.refl w).alloc _).alloc _;have cz:ae ((H w (X #[O U D,E] 78)).alloc (X cr 170)) w.heap.size [O U D,E]:=((ae.new w _ _ rfl).of J).I ((Y.refl _).alloc _);have bM:ae ((H w (X #[O U D,E] 78)).alloc (X cr 170)) (w.heap.size+1) cr:=(ae.new (H w _) _ _ dW).of J;have bK:=N fun aA (az:Y w aA)=>bo.I fb cT az;have bW:=N be;clear be cT;go_enter Tryz.func65,Tryz.ntmps65;go_upto_region 1 with fail
 generalize (H w (X #[O U D,E] 78)).alloc (X cr 170)=aH at *;go_cut [10] (fun db bI=> ∃ l W R,db=au (Z ⟨l,0,V⟩)∧ae bI l (jo n D E V 0 0 W I R)∧Y aH bI∧aH.heap.size≤l)
 case first=>
  have dp:=cz.lt J;refine gG (S:=fun z=>z.rangeAt w 0 [O U D,E]) G (cz.I (Y.refl aH).drew).aM (fun r=>?_);have aE:=(Y.refl aH).drew;generalize aH.drew=s at *;have T:=r;have de:=aE.le;refine' bV 0 15 (O U n) rfl r ?_;refine' dA 1 16 rfl (cj aq _ _ rfl _ _ rfl _ _ (fun w be=>be) dm rfl G) r ?_;refine' bV 3 18 (ac cp I b1) rfl r ?_;refine cL (rs:=[2,6]) G J ?_;refine cy (o:=⟨Z 17,_,_,_,_,_⟩) rfl (fun f d=>?_) (cy (o:=⟨Z 10,_,_,_,_,_⟩) rfl (fun f d=>?_) cM)
  ·refine a6 aq ?_;go_simp;refine fT d (((Y.refl s).alloc (X #[] 78)).range r) (fun r=>?_);clear d f;refine cL (rs:=[4,6]) G J ?_;refine cy (o:=⟨Z 19,_,_,_,_,_⟩) rfl (fun f d=>?_) (cy (o:=⟨Z 10,_,_,_,_,_⟩) rfl (fun f d=>?_) cM)
   ·refine a6 aq ?_;refine mH fb kC _ _ rfl (base:=s.heap.size) (((Y.refl s).alloc (X #[] 78)).le) rfl (bi.fresh fG 2 78 rfl (aG _)) rfl (((bK.out _ (aU.trans aE)).ex fb (lJ (Y.ex ((Y.refl s).alloc (X #[] 78))) (fun g az=>by cases az;exact aG _)))) c4 K ?_;intro C t x aF L;simp only [cv];have aC:Y s x:=(bi.fresh fG 2 78 (w:=s) rfl (aG _)).aC L ((Y.refl s).alloc (X #[] 78)) (aG _);refine fT d (aC.range T) (fun r=>?_);clear d f;refine' bV 5 20 (aw (jo n D E V 0 0 C I t)) rfl r ?_;refine cL (rs:=[6]) G J ?_;refine cy (o:=⟨Z 10,_,_,_,_,_⟩) rfl (fun f d=>?_) cM;refine a6 aq ?_;go_simp;have aR:ae (H x (X cr 170)) x.heap.size cr:=(ae.new x _ _ rfl).of J;have ay:Y s (H x (X cr 170)):=aC.alloc _;have dn:=aC.le;refine fT d (ay.range T) (fun r=>?_);clear d f;refine cL (rs:=[7]) G J ?_;refine cy (o:={dst:=V,op:= .store 170 (.tmp 10) (.tmp 20),type:=_,pos:=_,after:=_,guard:=V}) rfl (fun f d=>?_) cM;refine a6 aq ?_;refine dQ _ _ _ rfl _ _ (jo n D E V 0 0 C I t).toArray rfl rfl aR.may G du ?_;simp only [bu];refine d.out _ _ (eg r _ _ _ (.inl K)) (fun r=>?_);clear d f;refine fx G ?_ _;go_wp2_with fail;go_meet;exact ⟨_,C,t,rfl,aR.aR rfl,(aE.trans ay).setCells K _ _,K⟩
   ·refine a6 aq ?_;go_simp;have aL:ae ((H s (X #[] 78)).alloc (X cr 170)) (s.heap.size+1) cr:=(ae.new (H s _) _ _ dW).of J;refine fT d ((((Y.refl s).alloc (X #[] 78)).alloc (X cr 170)).range T) (fun r=>?_);clear d f;refine cL (rs:=[4]) G J ?_;refine cy (o:=⟨Z 19,_,_,_,_,_⟩) rfl (fun f d=>?_) cM;refine a6 aq ?_;refine mH fb kC _ _ rfl (base:=s.heap.size) ((((Y.refl s).alloc (X #[] 78)).alloc (X cr 170)).le) rfl ((bi.fresh fG 2 78 rfl (aG _)).I fb ((Y.refl _).alloc (X cr 170))) rfl (((bK.out _ (aU.trans aE)).ex fb (lJ (Y.ex (((Y.refl s).alloc (X #[] 78)).alloc (X cr 170))) (fun g az=>by cases az;exact aG _)))) c4 K ?_;intro C t x aF L;simp only [cv];have ay:Y s x:=((bi.fresh fG 2 78 (w:=s) rfl (aG _)).I fb ((Y.refl _).alloc (X cr 170))).aC L (((Y.refl s).alloc (X #[] 78)).alloc (X cr 170)) (aG _);have aR:ae x (s.heap.size+1) cr:=(Mod.grown (S:=[s.heap.size]) L (fun b bD=>by cases bD;simp)).box J aL;refine fT d (ay.range T) (fun r=>?_);clear d f;refine' bV 5 20 (aw (jo n D E V 0 0 C I t)) rfl r ?_;refine cL (rs:=[7]) G J ?_;refine cy (o:={dst:=V,op:= .store 170 (.tmp 10) (.tmp 20),type:=_,pos:=_,after:=_,guard:=V}) rfl (fun f d=>?_) cM;refine a6 aq ?_;refine dQ _ _ _ rfl _ _ (jo n D E V 0 0 C I t).toArray rfl rfl aR.may G du ?_;simp only [bu];refine d.out _ _ (eg r _ _ _ (.inl K)) (fun r=>?_);clear d f;refine fx G ?_ _;go_wp2_with fail;go_meet;exact ⟨_,C,t,rfl,aR.aR rfl,(aE.trans ay).setCells K _ _,K⟩
  ·refine a6 aq ?_;go_simp;have aL:ae (H s (X cr 170)) s.heap.size cr:=(ae.new s _ _ rfl).of J;refine fT d (((Y.refl s).alloc (X cr 170)).range T) (fun r=>?_);clear d f;refine cL (rs:=[2]) G J ?_;refine cy (o:=⟨Z 17,_,_,_,_,_⟩) rfl (fun f d=>?_) cM;refine a6 aq ?_;go_simp;refine fT d ((((Y.refl s).alloc (X cr 170)).alloc (X #[] 78)).range T) (fun r=>?_);clear d f;refine cL (rs:=[4]) G J ?_;refine cy (o:=⟨Z 19,_,_,_,_,_⟩) rfl (fun f d=>?_) cM;refine a6 aq ?_;refine mH fb kC _ _ rfl (base:=s.heap.size+1) (by rw [dL,dL];omega) rfl (bi.fresh fG 2 78 (w:=H s (X cr 170)) (b:=s.heap.size+1) dW (aG _)) rfl (((bK.out _ (aU.trans aE)).ex fb (lJ (Y.ex (((Y.refl s).alloc (X cr 170)).alloc (X #[] 78))) (fun g az=>by cases az;show s.heap.size≤s.heap.size+1;omega)))) c4 K ?_;intro C t x aF L;simp only [cv];have cJ:Y (H s (X cr 170)) x:=(bi.fresh fG 2 78 (w:=H s (X cr 170)) (b:=s.heap.size+1) dW (aG _)).aC L ((Y.refl _).alloc (X #[] 78)) (by rw [dL];exact aG _);have ay:Y s x:=((Y.refl s).alloc (X cr 170)).trans cJ;have aR:=aL.I cJ;refine fT d (ay.range T) (fun r=>?_);clear d f;refine' bV 5 20 (aw (jo n D E V 0 0 C I t)) rfl r ?_;refine cL (rs:=[7]) G J ?_;refine cy (o:={dst:=V,op:= .store 170 (.tmp 10) (.tmp 20),type:=_,pos:=_,after:=_,guard:=V}) rfl (fun f d=>?_) cM;refine a6 aq ?_;refine dQ _ _ _ rfl _ _ (jo n D E V 0 0 C I t).toArray rfl rfl aR.may G du ?_;simp only [bu];refine d.out _ _ (eg r _ _ _ (.inl K)) (fun r=>?_);clear d f;refine fx G ?_ _;go_wp2_with fail;go_meet;exact ⟨_,C,t,rfl,aR.aR rfl,(aE.trans ay).setCells K _ _,K⟩
 case rest=>
  obtain ⟨l,W,R,rfl,bR,cg,ce⟩:=hcut;have bU:=N a2;have dg:l < wc.heap.size:=bR.lt J;obtain ⟨b,B,cQ,cI⟩:=bW.out.get;have cO:=bW.out.len;have di:=bW.out.dj;have c7:=bW.out.dr;unfold maxLen at c7;have cx:=N cQ;have cw:=N cI;have bb:=N cO;clear cQ cI cO bK;generalize c2:wc=aI at *;clear c2;have cV:=N bR;clear bR;go_upto_region 3 with fail
  go_loopw [23] (fun cs wr=> ∃ (j:Nat) (C:Option ai) (Q:Nat),j≤k∧cs=O U j∧Hid (ae wr l (jo n D E C j Q W I R))∧Hid (bi su 15 85 wr aI C j Q (P.take j))∧Y aH wr∧aI.heap.size≤wr.heap.size) (fun cs _=>k - (intOf cs).toNat)
  case atStart=>exact ⟨0,V,0,aJ _,rfl,cV,N (bi.nil _ _ _ _ _),cg,aG _⟩
  case round=>
   obtain ⟨j,C,Q,dj,rfl,cB,b6,bO,c3⟩:=hrel;by_cases c9:j < k
   ·have bl:P[j]?=Z (P[j]'(by have:=bb.out;omega)):=cP _;generalize (P[j]'(by have:=bb.out;omega))=y at bl;obtain ⟨a5,a3,aX,a7,a4,aY,bv⟩:=cw.out j y bl;have bc:=bv.I (aU.trans bO);have bB:=nO bd cx.out c9;have bL:=N bl;clear bl bv;go_upto_region 4 with fail
    go_cut [12] (fun dc bI=> ∃ aK:Nat,dc=au (Z aK)∧ae bI aK (an y.x a5 a3 aX a7 a4 aY)∧Y wr bI∧wr.heap.size≤aK)
    case first=>
     go_wp2_with (first|(refine e8 rfl 85 _ rfl _ _ rfl _ _ (bc).aM cG rfl G ?_)|(refine dY rfl 85 _ _ rfl _ 0 _ rfl rfl (ae.new _ _ _ rfl).may G G ?_));go_meet;exact ⟨wr.heap.size,rfl,(ae.new wr _ _ rfl).aR rfl,((Y.refl _).alloc _).setCells (aG _) _ _,aG _⟩
    case rest=>
     obtain ⟨aK,rfl,ct,bh,dh⟩:=hcut;go_upto_region 5 with fail
     have aM:=N ((b6.out.I jO bh).I jO ((Y.refl wc).drew));have cl: ∀ g,Value.ownBlock (ac C j Q)=Z g→g < wr.heap.size:=fun g aN=>(b6.out.lt g aN).2;have bg:=N ((cB.out.I bh).I ((Y.refl wc).drew));have bJ:=N (ct.I ((Y.refl wc).drew));have aE:=(bO.trans bh).drew;have bw:=bc.I (bh.drew);have b4:=bU.out y (iV bL.out);have cC:=N (sQ y a5 a3 aX a7 a4 aY wc.drew bw.rows bw.ag (by have:=bw.rows.len;have:=b4.rows;omega) (by have:=bw.ag.len;have:=b4.ag;omega));have bk:aI.heap.size≤wc.drew.heap.size:=bZ c3 bh.drew.le;have ck:aH.heap.size≤aI.heap.size:=cg.le;have df:l < aK:=K;refine gG (S:=fun z=>z.rangeAt aK 0 (an y.x a5 a3 aX a7 a4 aY)) G bJ.out.aM (fun r=>?_);clear ct bh bc bw b4 bB;generalize wc.drew=s at *;have T:=r;refine' bV 0 27 (au (Z ⟨l,3,V⟩)) rfl r ?_;refine' dA 2 29 rfl (cj aq _ _ rfl _ _ rfl _ _ (fun w be=>be) cG rfl G) r ?_;refine cL (rs:=[1,3]) G J ?_;refine cy (o:=⟨Z 28,_,_,_,_,_⟩) rfl (fun f d=>?_) (cy (o:=⟨Z 30,_,_,_,_,_⟩) rfl (fun f d=>?_) cM)
     ·have bx:=(bg.out.I ((Y.refl s))).cell 3 rfl;refine a6 aq ?_;go_simp;refine fT d (((Y.refl s)).range T) (fun r=>?_);clear d f;clear bx;refine cL (rs:=[3]) G J ?_;refine cy (o:=⟨Z 30,_,_,_,_,_⟩) rfl (fun f d=>?_) cM;refine a6 aq ?_;go_simp;(go_at_call 50;(with_reducible refine cC.out.mono ?_);rintro e bQ ⟨ag,am,aa,al,av,ab,rfl,b7,cb,A⟩);clear b7 cb;refine fT d (A.range T) (fun r=>?_);clear d f;refine cL (rs:=[4]) G J ?_;refine cy (o:=⟨Z 31,_,_,_,_,_⟩) rfl (fun f d=>?_) cM;refine a6 aq ?_;go_simp;refine fT d ((A.alloc (X (an y.x ag am aa al av ab) 85)).range T) (fun r=>?_);clear d f;refine cL (rs:=[5]) G J ?_;refine cy (o:=⟨Z 32,_,_,_,_,_⟩) rfl (fun f d=>?_) cM;refine a6 aq ?_;have aD:=aM.out.I jO (A.alloc (X (an y.x ag am aa al av ab) 85));refine mH jO kA _ _ rfl (base:=aI.heap.size) (bZ bk (A.alloc _).le) rfl aD rfl (tN y ag am aa al av ab 85 bQ _ (fun g aN=>dR (aM.out.lt g aN).2 A.le)) c4 K ?_;intro F t x aF L;have aC:Y aH x:=aD.aC L (aE.trans (A.alloc _)) ck;have ax:ae x l (jo n D E C j Q W I R):=ej L (fun q=>by have:=(aM.out.lt _ q).1;omega) (bg.out.I (A.alloc _));have aQ:ae x aK (an y.x a5 a3 aX a7 a4 aY):=ej L (fun q=>by have:=cl _ q;omega) (bJ.out.I (A.alloc _));refine fT d (aQ.aM) (fun r=>?_);clear d f;refine' bV 6 33 (au (Z ⟨l,3,V⟩)) rfl r ?_;refine cL (rs:=[7]) G J ?_;refine cy (o:={dst:=V,op:= .store 114 (.tmp 33) (.tmp 32),type:=_,pos:=_,after:=_,guard:=V}) rfl (fun f d=>?_) cM;have bG:=ax.cell 3 rfl;have bA:=ax.free 3 J;refine a6 aq ?_;go_simp;refine d.out _ _ (eg r l 3 [ac F (j+1) t] (.inl K)) (fun r=>?_);clear d f bG bA;refine fx G ?_ _;have bp:=N (ax.set 3 (ac F (j+1) t));have bt:=N (aF.gi (b:=l) (i:=3) (u:=ac F (j+1) t) jO K (fun _ _ q=>q));have bs:=N (show aI.heap.size≤(x.setCell ⟨l,3,V⟩ (ac F (j+1) t)).heap.size from bZ (bZ (bZ bk (A.alloc (X (an y.x ag am aa al av ab) 85)).le) L.size) (Mod.setCell (S:=[l]) x ⟨l,3,V⟩ (ac F (j+1) t) J).size);have br:=N (aC.setCell (p:=⟨l,3,V⟩) ce (ac F (j+1) t));clear ax aF aC aQ aD r L;generalize x.setCell ⟨l,3,V⟩ (ac F (j+1) t)=bm at *;go_wp2_with fail;go_roundw
      case rel=>exact ⟨j+1,F,t,K,e9,bp,by
       rw [kH,bL.out];exact bt,br.out,bs.out⟩
      case measure=>simp [intOf];omega
     ·refine a6 aq ?_;go_simp;(go_at_call 50;(with_reducible refine cC.out.mono ?_);rintro e bQ ⟨ag,am,aa,al,av,ab,rfl,b7,cb,A⟩);clear b7 cb;refine fT d (A.range T) (fun r=>?_);clear d f;refine cL (rs:=[1,4]) G J ?_;refine cy (o:=⟨Z 28,_,_,_,_,_⟩) rfl (fun f d=>?_) (cy (o:=⟨Z 31,_,_,_,_,_⟩) rfl (fun f d=>?_) cM)
      ·have bx:=(bg.out.I (A)).cell 3 rfl;refine a6 aq ?_;go_simp;refine fT d ((A).range T) (fun r=>?_);clear d f;clear bx;refine cL (rs:=[4]) G J ?_;refine cy (o:=⟨Z 31,_,_,_,_,_⟩) rfl (fun f d=>?_) cM;refine a6 aq ?_;go_simp;refine fT d ((A.alloc (X (an y.x ag am aa al av ab) 85)).range T) (fun r=>?_);clear d f;refine cL (rs:=[5]) G J ?_;refine cy (o:=⟨Z 32,_,_,_,_,_⟩) rfl (fun f d=>?_) cM;refine a6 aq ?_;have aD:=aM.out.I jO (A.alloc (X (an y.x ag am aa al av ab) 85));refine mH jO kA _ _ rfl (base:=aI.heap.size) (bZ bk (A.alloc _).le) rfl aD rfl (tN y ag am aa al av ab 85 bQ _ (fun g aN=>dR (aM.out.lt g aN).2 A.le)) c4 K ?_;intro F t x aF L;have aC:Y aH x:=aD.aC L (aE.trans (A.alloc _)) ck;have ax:ae x l (jo n D E C j Q W I R):=ej L (fun q=>by have:=(aM.out.lt _ q).1;omega) (bg.out.I (A.alloc _));have aQ:ae x aK (an y.x a5 a3 aX a7 a4 aY):=ej L (fun q=>by have:=cl _ q;omega) (bJ.out.I (A.alloc _));refine fT d (aQ.aM) (fun r=>?_);clear d f;refine' bV 6 33 (au (Z ⟨l,3,V⟩)) rfl r ?_;refine cL (rs:=[7]) G J ?_;refine cy (o:={dst:=V,op:= .store 114 (.tmp 33) (.tmp 32),type:=_,pos:=_,after:=_,guard:=V}) rfl (fun f d=>?_) cM;have bG:=ax.cell 3 rfl;have bA:=ax.free 3 J;refine a6 aq ?_;go_simp;refine d.out _ _ (eg r l 3 [ac F (j+1) t] (.inl K)) (fun r=>?_);clear d f bG bA;refine fx G ?_ _;have bp:=N (ax.set 3 (ac F (j+1) t));have bt:=N (aF.gi (b:=l) (i:=3) (u:=ac F (j+1) t) jO K (fun _ _ q=>q));have bs:=N (show aI.heap.size≤(x.setCell ⟨l,3,V⟩ (ac F (j+1) t)).heap.size from bZ (bZ (bZ bk (A.alloc (X (an y.x ag am aa al av ab) 85)).le) L.size) (Mod.setCell (S:=[l]) x ⟨l,3,V⟩ (ac F (j+1) t) J).size);have br:=N (aC.setCell (p:=⟨l,3,V⟩) ce (ac F (j+1) t));clear ax aF aC aQ aD r L;generalize x.setCell ⟨l,3,V⟩ (ac F (j+1) t)=bm at *;go_wp2_with fail;go_roundw
       case rel=>exact ⟨j+1,F,t,K,e9,bp,by
        rw [kH,bL.out];exact bt,br.out,bs.out⟩
       case measure=>simp [intOf];omega
      ·refine a6 aq ?_;go_simp;refine fT d ((A.alloc (X (an y.x ag am aa al av ab) 85)).range T) (fun r=>?_);clear d f;refine cL (rs:=[1]) G J ?_;refine cy (o:=⟨Z 28,_,_,_,_,_⟩) rfl (fun f d=>?_) cM;have bx:=(bg.out.I ((A.alloc (X (an y.x ag am aa al av ab) 85)))).cell 3 rfl;refine a6 aq ?_;go_simp;refine fT d (((A.alloc (X (an y.x ag am aa al av ab) 85))).range T) (fun r=>?_);clear d f;clear bx;refine cL (rs:=[5]) G J ?_;refine cy (o:=⟨Z 32,_,_,_,_,_⟩) rfl (fun f d=>?_) cM;refine a6 aq ?_;have aD:=aM.out.I jO (A.alloc (X (an y.x ag am aa al av ab) 85));refine mH jO kA _ _ rfl (base:=aI.heap.size) (bZ bk (A.alloc _).le) rfl aD rfl (tN y ag am aa al av ab 85 bQ _ (fun g aN=>dR (aM.out.lt g aN).2 A.le)) c4 K ?_;intro F t x aF L;have aC:Y aH x:=aD.aC L (aE.trans (A.alloc _)) ck;have ax:ae x l (jo n D E C j Q W I R):=ej L (fun q=>by have:=(aM.out.lt _ q).1;omega) (bg.out.I (A.alloc _));have aQ:ae x aK (an y.x a5 a3 aX a7 a4 aY):=ej L (fun q=>by have:=cl _ q;omega) (bJ.out.I (A.alloc _));refine fT d (aQ.aM) (fun r=>?_);clear d f;refine' bV 6 33 (au (Z ⟨l,3,V⟩)) rfl r ?_;refine cL (rs:=[7]) G J ?_;refine cy (o:={dst:=V,op:= .store 114 (.tmp 33) (.tmp 32),type:=_,pos:=_,after:=_,guard:=V}) rfl (fun f d=>?_) cM;have bG:=ax.cell 3 rfl;have bA:=ax.free 3 J;refine a6 aq ?_;go_simp;refine d.out _ _ (eg r l 3 [ac F (j+1) t] (.inl K)) (fun r=>?_);clear d f bG bA;refine fx G ?_ _;have bp:=N (ax.set 3 (ac F (j+1) t));have bt:=N (aF.gi (b:=l) (i:=3) (u:=ac F (j+1) t) jO K (fun _ _ q=>q));have bs:=N (show aI.heap.size≤(x.setCell ⟨l,3,V⟩ (ac F (j+1) t)).heap.size from bZ (bZ (bZ bk (A.alloc (X (an y.x ag am aa al av ab) 85)).le) L.size) (Mod.setCell (S:=[l]) x ⟨l,3,V⟩ (ac F (j+1) t) J).size);have br:=N (aC.setCell (p:=⟨l,3,V⟩) ce (ac F (j+1) t));clear ax aF aC aQ aD r L;generalize x.setCell ⟨l,3,V⟩ (ac F (j+1) t)=bm at *;go_wp2_with fail;go_roundw
       case rel=>exact ⟨j+1,F,t,K,e9,bp,by
        rw [kH,bL.out];exact bt,br.out,bs.out⟩
       case measure=>simp [intOf];omega
   ·obtain rfl:j=k:=by omega
    have cu:=N fun aA (az:Y w aA)=>bW.out.I az;have aL:=cB.out;have bX:=N (aU.trans bO);clear b6 cg;have cm:P≠[]:=by rintro rfl;cases aV
    have dk:0 < j:=by rw [←bb.out];exact rF.2 cm
    have bP:P[j - 1]?=Z (P[j - 1]'(by have:=bb.out;omega)):=cP _;generalize (P[j - 1]'(by have:=bb.out;omega))=bn at bP;obtain ⟨a5,a3,aX,a7,a4,aY,bv⟩:=cw.out (j - 1) bn bP;have bc:=bv.I bX.out;have bY:wr.cell? ⟨b,B+(j - 1) * 15,V⟩=Z (O U bn.x.r.kind):=bc.cell 0 rfl;have bB:=fun aA=>pj bd cx.out (k:=(j:Int) - 1) K K aA;have cA: ((j:Int) - 1).toNat=j - 1:=K;rw [cA] at bB;have cN:P.getLast?=Z bn:=by rw [uB,bb.out];exact bP
    have a8:Hid (if bn.x.r.kind=1 then (g8 (eQ P)).1.map aT.leaf=Z h else (foldI P).map aT.aU=Z h):=N (by
     unfold dw at aV;rw [cN] at aV;dsimp only at aV;split at aV
     ·rename_i q;rw [a9 q];exact aV
     ·rename_i q;rw [aS q];exact aV)
    have cE:ae wr (w.heap.size+1) cr:=bM.I bO;have cc:w.heap.size+1≠l:=by have:=bM.lt J;omega
    clear aV cN bP bv bc cA cm;by_cases bj:bn.x.r.kind=1
    ·rw [a9 bj] at a8;rw [bj] at bY;clear bj;obtain ⟨v,bF,rfl⟩: ∃ v,(g8 (eQ P)).1=Z v∧h= .leaf v:=by
      have q:=a8.out;cases a2: (g8 (eQ P)).1 with
      |none=>rw [a2] at q;cases q
      |some v=>rw [a2] at q;exact ⟨v,rfl,(fo q).symm⟩
     have bN:=fun aA (az:Y w aA)=>wK m j bd P aA (cu.out aA az) cK (fun i y c8=>(bU.out y (iV c8)).rows);unfold sc at bN;rw [bF] at bN;have bS:=N bN;have cW:=aL.cell 5 rfl;have cX:=aL.free 5 J;clear bN bF a8;have ay:Y w (wr.setCell ⟨l,5,V⟩ (ah true)):=bX.out.setCell (p:=⟨l,5,V⟩) (by have:=aU.le;show w.heap.size≤l;omega) _;have b2:=aL.set 5 (ah true);have c5:=cE.other (b':=l) (j:=5) (fun e=>cc e.symm) (ah true);have co:w.heap.size≤l:=by have:=aU.le;omega
     go_upto_region 11 with fail
     clear cW cX bY bB;generalize wr.setCell ⟨l,5,V⟩ (ah true)=bm at *;have da:l < bm.heap.size:=b2.lt J;have c6:w.heap.size+1 < bm.heap.size:=by have:=bM.lt J;omega
     go_upto_region 13 with (first|(go_at_call 41;(refine (bS.out _ ay).mono ?_);rintro e aW ⟨o,M,c,rfl,b8,cn,aP⟩;have a1:=b2.I aP;have bE:=a1.fi 6 6 J)|(with_reducible refine hY 119 (bE) ((ci v o M c)) ?_))
     have b3:=(a1.part 6 (ci v o M c) J).of (us:=(b5 n D E C j Q W I R v o M c)) rfl;have cS: ∀ g,Value.ownBlock (ac o M c)=Z g→bm.heap.size≤g:=fun g aN=>(b8.own.lt g aN).1;have c0:=b8.fu (b:=l) (fun q=>by have:=cS _ q;omega) (ci v o M c) 6;have ch:=(ay.trans aP).setCells (b:=l) co (ci v o M c) 6;have bC:ae (ba aW l 6 (ci v o M c)) (w.heap.size+1) cr:=(Mod.setCells (S:=[l]) J _ _ aW).box (fun q=>cc (aO.1 q)) (c5.I aP);clear a1 b2 bE b8 aP;generalize ba aW l 6 (ci v o M c)=cU at *;go_wp2_with (first|(with_reducible refine b0 170 (b3) dt ?_)|(with_reducible refine bq 170 (bC) ((b5 n D E C j Q W I R v o M c)) ?_));refine bH ((bC.aR (us:=(b5 n D E C j Q W I R v o M c)) rfl).cK rfl _ rfl rfl dt rfl G) rfl ?_;have c1:=c0.fu (b:=w.heap.size+1) (fun q=>by have:=cS _ q;omega) (b5 n D E C j Q W I R v o M c) 0;exact ⟨_,rfl,fun S b9=>⟨C,Q,W,I,R,o,M,c,rfl,c1.aL (fun b bD=>by have:=b9 b bD;omega),cn⟩,ch.setCells (gl _) _ _⟩
    ·rw [aS bj] at a8;obtain ⟨v,bF,rfl⟩: ∃ v,foldI P=Z v∧h= .aU v:=by
      have q:=a8.out;cases a2:foldI P with
      |none=>rw [a2] at q;cases q
      |some v=>rw [a2] at q;exact ⟨v,rfl,(fo q).symm⟩
     have bS:=N fun aA (az:Y w aA)=>Dx m j bd P v aA (cu.out aA az) cK (fun y bl=>(bU.out y bl).ag) bF;have cm: (bn.x.r.kind==1)=false:=by rw [ey];exact bj
     have co:w.heap.size≤l:=by have:=aU.le;omega
     have ay:=bX.out;clear bF a8 bj;go_upto_region 12 with fail
     clear bY bB;have da:l < wr.heap.size:=aL.lt J;have c6:w.heap.size+1 < wr.heap.size:=by have:=bM.lt J;omega
     go_upto_region 13 with (first|(go_at_call 85;(with_reducible refine (bS.out _ ay).mono ?_);rintro e aW ⟨o,M,c,rfl,cD,cf,cn,aP⟩;have a1:=aL.I aP;have bE:=a1.fi 12 9 J)|(with_reducible refine hY 95 (bE) ((bf v o M c)) ?_))
     have b3:=(a1.part 12 (bf v o M c) J).of (us:=(dd n D E C j Q W I R v o M c)) rfl;have cY:=aZ.mod cD (Mod.setCells (S:=[l]) (b:=l) J (bf v o M c) 12 aW) (fun a cd q=>by have:=cf a cd;rw [aO] at q;omega);have ch:=(ay.trans aP).setCells (b:=l) co (bf v o M c) 12;have bC:ae (ba aW l 12 (bf v o M c)) (w.heap.size+1) cr:=(Mod.setCells (S:=[l]) J _ _ aW).box (fun q=>cc (aO.1 q)) (cE.I aP);clear a1 bE cD aP;generalize ba aW l 12 (bf v o M c)=cU at *;go_wp2_with (first|(with_reducible refine b0 170 (b3) dt ?_)|(with_reducible refine bq 170 (bC) ((dd n D E C j Q W I R v o M c)) ?_));refine bH ((bC.aR (us:=(dd n D E C j Q W I R v o M c)) rfl).cK rfl _ rfl rfl dt rfl G) rfl ?_;have cZ:=aZ.mod cY (Mod.setCells (S:=[w.heap.size+1]) (b:=w.heap.size+1) J (dd n D E C j Q W I R v o M c) 0 cU) (fun a cd q=>by have:=cf a cd;rw [aO] at q;omega);exact ⟨_,rfl,fun S b9=>⟨C,Q,W,I,R,o,M,c,rfl,aZ.aL cZ cf (fun b bD=>by have:=b9 b bD;omega),cn⟩,ch.setCells (gl _) _ _⟩
theorem FQ(n:Int)(d:aA)(m:Option ai)(k c:Nat)(b:List ar)(g:Option ai)(a f:Nat)(i:List (Int×Int))(h:aT)(w:ad)(j:fr w m k c b)(s:bo fG 2 w g a f i)(p:k≤1000)(q:a≤1000)(o: ∀ y∈b,bT y)(r:dw b=Z h):
  ao aj 65 #[O U n,j2 d,ac m k c,ac g a f] w (ox w n d k h):=
 (of_int n ((d.i:Int)+1) (d.g:Int) m k c b g a f i h w j s p q o r).mono fun e z ⟨vs,t,u,v⟩=>⟨vs,t,fun S l=>u S l,v⟩
theorem cd.ex{i:ad}{n:Int}(a:cd D n d k h vs)(j:dD D i):cd i n d k h vs:=by
 obtain⟨q,l,r,p,m,a⟩:=a;refine⟨q,l,r,p,m,?_⟩;cases h with
 |leaf v=>obtain⟨o,g,c,b,e,f⟩:=a;exact⟨o,g,c,b,e.ex j,f⟩
 |aU v=>obtain⟨o,g,c,b,e,f⟩:=a;exact⟨o,g,c,b,e.ex cW j,f⟩
theorem vL{n:Int}(m:cd D n d k h vs)(w:ad):
  ao aj 158 #[aw vs] w fun e z=>e=ap (a0 #[af h.low,h.high,h.unb,h.right])∧Y w z:=by
 obtain⟨j,f,l,i,g,m⟩:=m;cases h with
 |leaf v=>
  obtain⟨o,b,c,rfl,p,q⟩:=m;have a:=(ae.new w (b5 n ((d.i:Int)+1) (d.g:Int) j k f l i g v o b c).toArray 170 rfl).of (us:=b5 n ((d.i:Int)+1) (d.g:Int) j k f l i g v o b c) J;have r:=(Y.refl w).alloc (X (b5 n ((d.i:Int)+1) (d.g:Int) j k f l i g v o b c) 170);have t:=a.cell 5 rfl;have B:=a.cell 6 rfl;have C:=a.cell 7 rfl;have E:=a.cell 8 rfl;have F:=a.cell 9 rfl;clear p q;go_enter Tryz.func158,Tryz.ntmps158;go_upto_region 1 with fail
  generalize H w (X (b5 n ((d.i:Int)+1) (d.g:Int) j k f l i g v o b c) 170)=s at *;go_wp2_with fail;go_big_quiet(fail);go_wp2_with fail;((try simp only[Exit.inBlock,Exit.then]);refine bH (pg rfl _ _ _) rfl ?_);exact⟨rfl,r.trans (bz)⟩
 |aU v=>
  obtain⟨o,b,c,rfl,p,q⟩:=m;have a:=(ae.new w (dd n ((d.i:Int)+1) (d.g:Int) j k f l i g v o b c).toArray 170 rfl).of (us:=dd n ((d.i:Int)+1) (d.g:Int) j k f l i g v o b c) J;have r:=(Y.refl w).alloc (X (dd n ((d.i:Int)+1) (d.g:Int) j k f l i g v o b c) 170);have t:=a.cell 5 rfl;have u:=a.cell 12 rfl;have x:=a.cell 13 rfl;have y:=a.cell 14 rfl;have A:=a.cell 15 rfl;clear p q;go_enter Tryz.func158,Tryz.ntmps158;go_upto_region 1 with fail
  generalize H w (X (dd n ((d.i:Int)+1) (d.g:Int) j k f l i g v o b c) 170)=s at *;go_wp2_with fail;go_big_quiet(fail);go_wp2_with fail;((try simp only[Exit.inBlock,Exit.then]);refine bH (pg rfl _ _ _) rfl ?_);exact⟨rfl,r.trans (bz)⟩
section
variable {f : aV} {S : List Nat} {lim : aK} {L : az}
abbrev bC (lim:aK):List ak:=[O U (lim.aQ:Int),O U (lim.ax:Int),O U (lim.cO:Int),O U (lim.rows:Int),O U (lim.chain:Int),O U (lim.count:Int)]
theorem qU(c:aX f S w lim L):
  ao aj 104 #[aa f.m] w fun e z=>e=ap (aw (bC lim))∧Y w z:=by
 have h:Y w (H w (X #[O U 0,O U 0,O U 0,O U 0,O U 0,O U 0] 23)):=(Y.refl w).alloc _;have b:ae (H w (X #[O U 0,O U 0,O U 0,O U 0,O U 0,O U 0] 23)) w.heap.size [O U 0,O U 0,O U 0,O U 0,O U 0,O U 0]:=(ae.new w _ _ rfl).of J;obtain ⟨n,d⟩:=c.mem;have g:=d.I h;have j:er (H w (X #[O U 0,O U 0,O U 0,O U 0,O U 0,O U 0] 23)) f.m 1 (bC lim):=⟨fun a l i=>by
  have:=g.aM (1+a) l (by
   have k:=(c3.1 i).1;simp at k;rcases a with _|_|_|_|_|_|a
   all_goals first|exact i|omega)
  rwa [cv] at this⟩
 clear c d g;go_enter Tryz.func104,Tryz.ntmps104;go_upto_region 1 with fail
 generalize H w (X #[O U 0,O U 0,O U 0,O U 0,O U 0,O U 0] 23)=m at *;go_wp2_with (first|(with_reducible refine dc 23 (j) fO ?_)|(with_reducible refine bq 23 (b) ((bC lim)) ?_));refine bH ((b.aR (us:=bC lim) rfl).e7 rfl _ rfl fO rfl G) rfl ?_;exact ⟨rfl,h.setCells (aG _) _ _⟩
end
def j6 (l:List g1):Nat:=(l.map g1.n).sum
theorem xI: ∀ {l:List g1} {q:g1},q∈l→q.n≤j6 l
 |[],_,b=>by cases b
 |a::l,q,b=>by
  have e:j6 (a::l)=a.n+j6 l:=by simp[j6]
  rw[e];rcases bd.1 b with rfl|b
  ·omega
  ·have:=xI b;omega
theorem ze{i:Nat}{q:g1}(a:l[i]?=Z q):j6 (l.take (i+1))=j6 (l.take i)+q.n:=by
 unfold j6;rw[kH,a];simp
theorem Hg{c:Nat}(b: ∀ q∈l,q.n≤c): ∀ i,j6 (l.take i)≤i * c:=by
 intro i;induction i with
 |zero=>simp[j6]
 |succ i ih=>
  cases a:l[i]? with
  |none=>
   have:l.take (i+1)=l.take i:=by
    rw[kH,a];simp
   rw[this,Nat.succ_mul];omega
  |some q=>
   rw[ze a,Nat.succ_mul];have:=b q (iV a);omega
structure Ab (a b d e f g:Int) (n:Nat) (l:List g1):Prop where
 s:4≤a∧a≤200
 p:3≤b∧b≤40
 t:1≤d∧d≤8
 r:2≤e∧e≤64
 c:2≤f∧f≤64
 k:8≤g∧g≤1099511627776
 q: ∀ q∈l,q.n≤24
theorem yV(A:Nat)(a:0 < n→m=Z ⟨b,B,V⟩){k:Nat}(c:k < n)(w:ad):
  (Instr.indexAt 24 (ac m n A) (O U (k:Int))).run aj w= .ok (au (Z ⟨b,B+k,V⟩)) w:=by
 rw[a K];go_simp
theorem yT(A:Nat)(a:0 < n→m=Z ⟨b,B,V⟩){k:Nat}(c:k < n)(w:ad):
  (Instr.indexAt 38 (ac m n A) (O U (k:Int))).run aj w= .ok (au (Z ⟨b,B+k * 3,V⟩)) w:=by
 rw[a K];go_simp
theorem kU.get{l:List cV}(g:kU w m n A l): ∃ b B,(0 < n→m=Z ⟨b,B,V⟩)∧∀ (k:Nat) (c:cV),l[k]?=Z c→w.rangeAt b (B+k * 3) [O U c.kind,c.key,c.val]∧c.key.size≤maxLen∧c.val.size≤maxLen:=by
 obtain⟨b,B,h,i⟩:=g.cells;refine⟨b,B,fun q=>(h q).1,fun k c j=>?_⟩;obtain⟨vs, -, -,⟨e,a,d⟩,f⟩:=i k c j;subst e;exact⟨f,a,d⟩
theorem lz.get(f:lz w m n A l): ∃ b B,(0 < n→m=Z ⟨b,B,V⟩)∧∀ (k:Nat) (q:g1),l[k]?=Z q→w.cell? ⟨b,B+k,V⟩=Z (ac q.oa q.n q.cap)∧kU w q.oa q.n q.cap q.l:=by
 obtain⟨b,B,g,h⟩:=f.cells;refine⟨b,B,fun q=>(g q).1,fun k c i=>?_⟩;obtain⟨vs, -, -,⟨e,a⟩,d⟩:=h k c i;subst e;have:=d 0 _ rfl;rw[Nat.mul_one,gI]at this;exact⟨this,a⟩
theorem kU.I{l:List cV}(a:kU w m n A l)(b:Y w z):kU z m n A l:=bo.I vd a b
theorem Dp(a d f g h j:Int)(m:Option ai)(n A:Nat)(l:List g1)(y:Option ai)(v u:Nat)(w:ad)(z:lz w m n A l)(I: ∀ q∈l,q.n≤4000000000000):
  ao aj 5 #[aw (iP a d f g h j m n A y v u)] w (vb (Ab a d f g h j n l) w):=by
 have F:Y w (H w (X (iP a d f g h j m n A y v u) 27)):=(Y.refl w).alloc _;have P:ae (H w (X (iP a d f g h j m n A y v u) 27)) w.heap.size (iP a d f g h j m n A y v u):=(ae.new w _ _ rfl).of J;have aH:=z.len;have bk:=z.dj;have a6:=z.dr;unfold maxLen at a6;obtain ⟨b,B,aI,aC⟩:=z.get;have al:=N I;have aR:=N aC;have aV:=N aI;have ag:=N aH;clear z aC aI I aH;go_enter Tryz.func5,Tryz.ntmps5;go_upto_region 1 with fail
 show Code.wp _ _ _ _ (H w (X (iP a d f g h j m n A y v u) 27));generalize H w (X (iP a d f g h j m n A y v u) 27)=aY at *;generalize w.heap.size=aZ at *;have M:=P.cell 6 rfl;have ed:=N P;clear P;go_upto_region 3 with fail
 clear M;go_loopw [3,10] (fun bc aa wr=> ∃ (i x:Nat),i≤n∧aa=O U (i:Int)∧(∃ E:Int,bc=O U E∧Hid (i≤1000→E=(x:Int)))∧Hid (x=j6 (l.take i))∧Y aY wr) (fun _ aa _=>n - (intOf aa).toNat)
 case atStart=>exact ⟨0,0,aJ _,rfl,⟨0,rfl,N fun _=>rfl⟩,N (by simp [j6]),Y.refl _⟩
 case round=>
  obtain ⟨i,x,bl,rfl,⟨E,rfl,aK⟩,T,r⟩:=hrel;by_cases a9:i < n
  ·obtain ⟨q,L⟩: ∃ q,l[i]?=Z q:=⟨_,cP (by have:=ag.out;omega)⟩;obtain ⟨aL,C⟩:=aR.out i q L;have aL:=(F.trans r).I aL;have C:=C.I (F.trans r);have bi:=yV A aV.out a9;have bp:IntKind.i64.wrap ((i:Int)+1)=(i:Int)+1:=e0 _ K;obtain ⟨bf,bg,aq,an⟩:=C.get;have bo:=al.out q (iV L);have aS:=N an;have aU:=N aq;have aE:=C.len;have aT:=N aE;have aW:=N L;have aX:Hid (i≤1000→IntKind.i64.wrap (E+(q.n:Int))=((x+q.n:Nat):Int)):=N fun ax=>by
    rw [aK.out ax];have ay:=Hg al.out i;rw [←T.out] at ay;have bh:x≤1000 * 4000000000000:=bZ ay (kS _ ax);have e: ((x:Int)+(q.n:Int))=((x+q.n:Nat):Int):=K;rw [e];exact e0 _ K
   generalize bs:IntKind.i64.wrap (E+(q.n:Int))=bx at *;clear C an aq aE L;go_upto_region 7 with fail
   go_loopw [6] (fun ab be=> ∃ k:Nat,k≤q.n∧ab=O U (k:Int)∧Y wr be) (fun ab _=>q.n - (intOf ab).toNat)
   case atStart=>exact ⟨0,aJ _,rfl,Y.refl _⟩
   case round=>
    obtain ⟨k,bm,rfl,D⟩:=hrel;by_cases G:k < q.n∧k≤24
    ·obtain ⟨c,aD⟩: ∃ c,q.l[k]?=Z c:=⟨_,cP (by have:=aT.out;omega)⟩;obtain ⟨Q,a2,a3⟩:=aS.out k c aD;have bt:=D.I (Q 1 _ rfl);have bv:=D.I (Q 2 _ rfl);unfold maxLen at a2 a3;have bj:=yT q.cap aU.out G.1;have ar:decide (k < q.n)=true:=eo K;have a4:decide ((k:Int)≤24)=true:=eo K;have bq:IntKind.i64.wrap ((k:Int)+1)=(k:Int)+1:=e0 _ K;have bn:=G.1;clear Q aD G;by_cases S:c.key.size≤100∧c.val.size≤100
     ·have av:decide ((100:Int) < (c.key.size:Int))=false:=dz K;have a5:decide ((100:Int) < (c.val.size:Int))=false:=dz K;clear S;go_wp2_with fail;go_roundw
      case rel=>exact ⟨k+1,K,rfl,D⟩
      case measure=>simp [intOf];omega
     ·have t:=(F.trans r).trans D;by_cases az:c.key.size≤100
      ·have av:decide ((100:Int) < (c.key.size:Int))=false:=dz K;have a5:decide ((100:Int) < (c.val.size:Int))=true:=eo K;clear S az;go_wp2_with fail;go_ret;exact ⟨false,rfl,fun o=>(by cases o),t⟩
      ·have av:decide ((100:Int) < (c.key.size:Int))=true:=eo K;clear S az;go_wp2_with fail;go_ret;exact ⟨false,rfl,fun o=>(by cases o),t⟩
    ·have t:=r.trans D;have a7:decide (k < q.n)=false∨(decide (k < q.n)=true∧decide ((k:Int)≤24)=false):=by
      simp only [ke,hH];omega
     clear G;rcases a7 with ar|⟨ar,a4⟩
     all_goals
      go_wp2_with fail;go_roundw
      case rel=>exact ⟨i+1,x+q.n,K,rfl,⟨_,rfl,N fun o=>aX.out K⟩,N (by rw [ze aW.out,T.out]),t⟩
      case measure=>simp [intOf];omega
  ·obtain rfl:i=n:=by omega
   have aF:=F.trans r;have p:=ed.out.I r;have aM:=p.cell 0 rfl;have x1:=p.cell 1 rfl;have aN:=p.cell 2 rfl;have M:=p.cell 6 rfl;have aO:=p.cell 7 rfl;have am:er wr aZ 0 (o4 a d f g h j):=⟨fun W bd aG=>p.aM W bd (by
    have a8:=(c3.1 aG).1;simp at a8;rcases W with _|_|_|_|_|_|W
    all_goals first|exact aG|omega)⟩
   have aP:=N (Gt a d f g h j wr);clear p r;go_wp2_with (with_reducible refine dc 23 (am) fO ?_);refine aP.out.mono ?_;rintro e bw ⟨a1,rfl,aA,s⟩;have aQ:=N aA;have aM:=s.I aM;have x1:=s.I x1;have aN:=s.I aN;have M:=s.I M;have aO:=s.I aO;have t:=aF.trans s;clear aA am s aF;cases a1
   ·go_wp2_with fail;go_ret;exact ⟨false,rfl,fun o=>(by cases o),t⟩
   ·go_wp2_with fail;all_goals
     go_ret;refine ⟨_,rfl,fun o=>?_,t⟩;first
     |(cases o;done)
     |(have R:=aQ.out (by first|exact rfl|trivial)
       have br:=aK.out K;have bb:=T.out;rw [←ag.out,mS] at bb;refine ⟨⟨K,K⟩,⟨K,K⟩,⟨K,K⟩,R.2.2.2.1,R.2.2.2.2.1,R.2.2.2.2.2,fun q I=>?_⟩;have:=xI I;omega)
theorem cd.len{n:Int}(a:cd D n d k h vs):vs.length=21:=by
 obtain⟨l,g,m,j,i,a⟩:=a;cases h with
 |leaf v=>obtain⟨o,f,c,rfl,b,e⟩:=a;rfl
 |aU v=>obtain⟨o,f,c,rfl,b,e⟩:=a;rfl
theorem cd.size{n:Int}(b:cd D n d k h vs):h.low.size≤maxLen∧h.high.size≤maxLen:=by
 obtain⟨l,g,m,j,i,b⟩:=b;cases h with
 |leaf v=>obtain⟨o,f,c,rfl,e,a⟩:=b;exact⟨a.low,a.high⟩
 |aU v=>obtain⟨o,f,c,rfl,e,a⟩:=b;exact⟨a.low,a.high⟩
theorem kx{n:Int}(a:cd D n d k h vs)(b:ByteArray)(s:b.size≤maxLen)(w:ad):
  ao aj 154 #[aw vs,b] w fun e z=>e=ap (ah (h.has b))∧Y w z:=by
 have l:=N fun c=>vL a c;have f:=a.size;have m:=N fun c=>ny h.low h.high h.unb b c f.1 f.2 s;have g:=a.len;have i:=(ae.new w vs.toArray 170 rfl).of (us:=vs) J;have p:=(Y.refl w).alloc (X vs 170);have j:=N g;clear a f g;unfold aT.has;generalize h.low=lo at *;generalize h.high=v at *;generalize h.unb=y at *;generalize h.right=x at *;go_enter Tryz.func154,Tryz.ntmps154;go_upto_region 1 with fail
 generalize H w (X vs 170)=u at *;have r: (aj.info? 170).map (·.size)=Z vs.length:=by rw[j.out];kernel_rfl
 have t:=dt;go_wp2_with(first|((with_reducible refine dV (ty:=170) i ?_ ?_ t ?_ ?_ ?_);(focus(exact rfl));(focus(exact⟨_,rfl,rfl⟩));(focus(exact rfl));(focus(exact r)))|(go_at_call 158;(with_reducible refine(l.out _).mono ?_);rintro e c ⟨rfl,q⟩)|(go_at_call 110;(with_reducible refine(m.out _).mono ?_);rintro e A ⟨rfl,o⟩));go_ret;exact⟨rfl,(p.trans q).trans o.aC⟩
theorem mE{n:Int}(q:cd D n d k h vs)(w:ad):
  ao aj 178 #[aw vs] w fun e z=>e=ap (O U (h.size:Int))∧Y w z:=by
 obtain⟨j,f,l,i,g,q⟩:=q;cases h with
 |leaf v=>
  obtain⟨o,a,c,rfl,b,s⟩:=q;have m:=(ae.new w (b5 n ((d.i:Int)+1) (d.g:Int) j k f l i g v o a c).toArray 170 rfl).of (us:=b5 n ((d.i:Int)+1) (d.g:Int) j k f l i g v o a c) J;have u:=(Y.refl w).alloc (X (b5 n ((d.i:Int)+1) (d.g:Int) j k f l i g v o a c) 170);have y:=m.cell 10 rfl;have A:=m.cell 16 rfl;have p:=b.len;have B:=b.dj;have t:=b.dr;unfold maxLen at t;have r:=N p;clear b s p;go_enter Tryz.func178,Tryz.ntmps178;go_upto_region 1 with fail
  generalize H w (X (b5 n ((d.i:Int)+1) (d.g:Int) j k f l i g v o a c) 170)=x at *;go_wp2_with fail;go_ret;refine⟨?_,u⟩;show Ending.returned (O U (a:Int))=ap (O U (v.rows.length:Int));rw[r.out]
 |aU v=>
  obtain⟨o,a,c,rfl,b,s⟩:=q;have m:=(ae.new w (dd n ((d.i:Int)+1) (d.g:Int) j k f l i g v o a c).toArray 170 rfl).of (us:=dd n ((d.i:Int)+1) (d.g:Int) j k f l i g v o a c) J;have u:=(Y.refl w).alloc (X (dd n ((d.i:Int)+1) (d.g:Int) j k f l i g v o a c) 170);have y:=m.cell 10 rfl;have A:=m.cell 16 rfl;have p:=b.len;have B:=b.dj;have t:=b.dr;unfold maxLen at t;have r:=N p;clear b s p;go_enter Tryz.func178,Tryz.ntmps178;go_upto_region 1 with fail
  generalize H w (X (dd n ((d.i:Int)+1) (d.g:Int) j k f l i g v o a c) 170)=x at *;go_wp2_with fail;go_ret;refine⟨?_,u⟩;show Ending.returned (O U (a:Int))=ap (O U (v.ag.length:Int));rw[r.out]
end Go.Proofs.YtbkmjhhpcinppaaGreatDoor
