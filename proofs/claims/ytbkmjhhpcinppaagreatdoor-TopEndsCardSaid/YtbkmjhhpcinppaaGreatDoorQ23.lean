import Derived.Test.YtbkmjhhpcinppaaGreatDoorQ22
namespace Go.Proofs.YtbkmjhhpcinppaaGreatDoor
set_option linter.unusedVariables false
set_option linter.defProp false
set_option linter.unusedSimpArgs false
set_option maxRecDepth 100000
set_option maxHeartbeats 40000000
open Go.BigFrame Go.RowKit Go.WideShapes
open Ending renaming returned→ap
open Go renaming Addr→ai,Calls→ao,Value→ak,World→ad
open Go.Proofs.Tryz renaming prog→aj
open IntKind renaming i64→U
open Obj renaming cells→X
open Option renaming none→V,some→Z
open Value renaming agg→aw,bool→ah,int→O,nilIface→aB,pointer→au,slice→ac,tuple→a0
open World renaming alloc→H,setCells→ba
variable {B0 b a8 bb a3 l bt W aC aL aF I M aE n ag news E no u p B C : Nat} {D bJ : bU} {h : aV} {z aQ bj : az} {bv : Program} {Q : Ending → ad → Prop} {R : ad → Prop} {S m S0 : List Nat} {a1 a2 c page bG : Int} {bf : List ar} {bm br : Array ak} {e : Ending} {f bl : FuncId} {k : ar} {lim : aK} {aN bs : ak} {F aD aM op P T : Option ai} {ax : List Int} {aH : List aA} {aR be : List ak} {w d w0 : ad} {bB : Type}
theorem IJ{h:dK bB}{bytes:Nat}{i S:TypeId}(v:fQ h)(z:jc bv S i aE bytes){w:ad}{m:Array Oper}{rest:List Oper}{o:Oper}{a:Act}{Q:Exit→Act→ad→Prop}(C:o.guard=V)(j x:Operand)
  (D:o.op= .call {callee:= .builtin .append,args:= #[j,x],argTypes:= #[S,S]})
  {base:Nat}(A:base≤w.heap.size){g:Option ai}{n f:Nat}{l:List bB}(G:a.eval j=ac g n f)(E:bi h aE i w base g n f l)
  {F:Option ai}{b k:Nat}{p:List bB}(J:a.eval x=ac F b k)(I:bo h aE (eb w (Value.ownBlock (ac g n f))) F b k p)(u:n+b≤maxLen)(B: (n+b) * bytes≤140737488355328)
  (q: ∀ e c d,bi h aE i d base e (n+b) c (l++p)→w.grownBy d (Value.ownBlock (ac g n f))→(Value.ownBlock (ac e (n+b) c)=Value.ownBlock (ac g n f)∨Value.ownBlock (ac e (n+b) c)=Z w.heap.size)→wpList bv m Q rest (a.put o.dst (ac e (n+b) c)) d):wpList bv m Q (o::rest) a w:=
 rW C fun _ y=>gF v z j x D A G E J I u B fun e c d r s t=>y _ _ (q e c d r s t)
section
variable {done : Bool} {bw : ak}
def Ae (h:aV) (B0:Nat) (S0:List Nat) (w0:ad) (lim:aK) (z:az) (l:Nat) (page a1 a2:Int) (news:Nat) (aN:ak) (k:ar) (P:Option ai) (B I:Nat) (T:Option ai) (C M:Nat) (S:List Nat) (op:Option ai) (u aF:Nat) (ax:List Int) (aD:Option ai) (E aC:Nat) (aH:List aA) (aE:Nat) (done:Bool) (bw:ak) (last:Option (Int→List ar×ar)) (a:Option (Nat×az)) (e:Ending) (d:ad):Prop:=
 match a with
 |some (p,bj)=>e=ap (ah false)∧(match last with
  |none=> ∃ m c b,bI h B0 S0 w0 lim bj l (bE page a1 a2 news aN 0 c (u+1) b V 0 0 k.x P B I T C M aD E aC aE done bw) k P B I T C M m d c (u+1) b (ax++[(p:Int)]) V 0 0 [] aD E aC aH
  |some f=> ∃ m c b F ag W o j g q n i,bI h B0 S0 w0 lim bj l (bE page a1 a2 news aN 1 c (u+1) b F ag W (f p).2.x o j g q n i aD E aC 0 done bw) (f p).2 o j g q n i m d c (u+1) b (ax++[(p:Int)]) F ag W (f p).1 aD E aC aH)
 |none=> ∃ t r,e=ap (ah (gE u E==7))∧cm (ay d S) (.iface t r) 3∧bI h B0 S0 w0 lim z l (bE page a1 a2 news aN (gE u E) op u aF V 0 0 k.x P B I T C M aD E aC aE done (.iface t r)) k P B I T C M S d op u aF ax V 0 0 [] aD E aC aH
def Aj (S:List Nat) (w:ad) (aN:ak) (u news:Nat) (ax:List Int):Option (Int→List ar×ar)→Prop
 |none=>u+1≠news
 |some f=>u+1=news∧∀ p:Int,fA S w aN (ax++[p]) (f p).1 (f p).2∧(f p).1.length=news∧∀ x∈(f p).1,x.x.slot=0∧x.x.gen=0
theorem qD(ab:bI h B0 S0 w0 lim z l (bE page a1 a2 news aN 0 op u aF V 0 0 k.x P B I T C M aD E aC aE done bw) k P B I T C M S w op u aF ax V 0 0 [] aD E aC aH)(aM: ∀ b∈h.l,b < B0)(bH:E≤900)(bJ:u≤900)(bs:news≤4)(last:Option (Int→List ar×ar))(aZ:Aj S w aN u news ax last):
  ao aj 184 #[aa l,aa h.m] w (Ae h B0 S0 w0 lim z l page a1 a2 news aN k P B I T C M S op u aF ax aD E aC aH aE done bw last (eR z)):=by
 have bh:=N (Hq ab.mem);have bF:=ab.box.cell 5 rfl;have r:=N aM;have an:=N ab;have al:=N aZ;clear ab aM aZ;generalize eR z=a at *;go_enter pI,pJ;go_upto_region 9 with fail
 rcases a with _|⟨p,bj⟩
 ·go_wp2_with (first|(go_at_call 194;(with_reducible refine bh.out.mono ?_);rintro e i ⟨v,rfl,az,Q,x⟩;(obtain ⟨t,a9,rfl⟩:=cm.iface az);have j:=an.out.acc r.out Q x J;have bi:=N (uq j.box K K t a9);have aG:=N j;have bl:=N az;clear j az Q x)|(go_at_call 197;(with_reducible refine bi.out.mono ?_);rintro e bK ⟨rfl,br,a4⟩));go_ret;have n:=aG.out.wrote r.out a4 br;exact ⟨t,a9,rfl,bl.out.aL (a4.aL (by intro b s;rw [aO.1 s];exact aG.out.fJ.1) fun _ q=> .inl q),n⟩
 ·go_upto_region 10 with (go_at_call 194;(with_reducible refine bh.out.mono ?_);rintro e i ⟨rfl,Q,x⟩)
  have j:=an.out.acc r.out Q x J;have a5:fq S w S i:=(x.av (L:=h.l) (B0:=B0) (S:=S) fun b s=>(by
   have:b∈h.l:=(by simp only [bd,c0,db] at s;rcases s with rfl|rfl <;> simp);exact ⟨an.out.mem.sub b this,.inl this⟩)).aL
  have aW:=j.s.iq.I fz ((Y.refl i).alloc (X #[O U (p:Int)] 3));have n:=j.aC ((Y.refl i).alloc (X #[O U (p:Int)] 3));have aK:ae (H i (X #[O U (p:Int)] 3)) i.heap.size [O U (p:Int)]:=(ae.new i _ _ rfl).of J;have aP:Value.ownBlock (ac op u aF)≠Z i.heap.size:=fun e=>dk _ (j.s.iq.lt _ e).2;have aL:=n.box.cell 6 rfl;have aY:B0≤(H i (X #[O U (p:Int)] 3)).heap.size:=fE (jB n.fJ.2.1 n.fJ.2.2);have bC:=j.box.cell 6 rfl;have aA:=N a5;clear Q x bh j a5;go_upto_region 12 with (at_builtin;(refine IJ fz oZ rfl _ _ rfl (base:=B0) aY rfl aW rfl (Ey (p:Int) aK.aM _ aP) c4 K ?_);intro g c y ay aq av;have A:=n.qk r.out ay aq av;have bD:=A.box.cell 6 rfl;have bq:=A.box.free 6 J)
  have a6:fq S w (bg g (u+1) c++S) y:=by
   refine aA.out.trans (dD.trans (bX ((Y.refl i).alloc (X #[O U (p:Int)] 3)) S) ?_);exact (((n.s.qk ay aq av).2 []).aL:fq S _ _ y)
  have R:=(A.set r.out 6 (ac g (u+1) c)).of (inl':=bE page a1 a2 news aN 0 g (u+1) c V 0 0 k.x P B I T C M aD E aC aE done bw) rfl;have a7:fq S w (bg g (u+1) c++S) (y.setCell ⟨l,6,V⟩ (ac g (u+1) c)):=a6.trans ((Mod.setCell (S:=[l]) y ⟨l,6,V⟩ (ac g (u+1) c) J).aL (by intro b s;rw [aO.1 s];exact A.fJ.1) fun _ q=> .inl q);clear n A ay aq av bD bq aW aK aP aL aY bC aA a6;show Code.wp _ _ _ _ (y.setCell ⟨l,6,V⟩ (ac g (u+1) c));generalize y.setCell ⟨l,6,V⟩ (ac g (u+1) c)=o at *;have aL:=R.box.cell 6 rfl;have bG:=R.box.cell 3 rfl;have aI:=N R;have bf:=N a7;clear R a7;rcases last with _|f
  ·have bt: ((u:Int)+1==(news:Int))=false:=by rw [ey];have:u+1≠news:=al.out;omega
   go_region_held3 (fun G=>G.cell? ⟨l,6,V⟩=Z (ac g (u+1) c)∧G.cell? ⟨l,3,V⟩=Z (O U (news:Int))) ((first|(have kG:=(Y.refl o);exact b9)|exact b9)) (fail);have D:=N (aI.out.aC (Y.refl o).drew);generalize o.drew=bm at *;have am:=N (gh D.out.box (b:=false) rfl);go_wp2_with (go_at_call 181;(with_reducible refine am.out.mono ?_);rintro e d ⟨rfl,rfl⟩);go_ret;exact ⟨rfl,_,g,c,D.out⟩
  ·obtain ⟨a3,aQ⟩:=al.out;obtain ⟨aR,aT,aU⟩:=aQ (p:Int);have bt: ((u:Int)+1==(news:Int))=true:=by rw [ma];omega
   have bb:=N aR;have bc:=N aT;have be:=N aU;have bk:=N a3;clear aR aT aU aQ a3 al;go_region_held3 (fun G=>G.cell? ⟨l,6,V⟩=Z (ac g (u+1) c)∧G.cell? ⟨l,3,V⟩=Z (O U (news:Int))) ((first|(have kG:=(Y.refl o);exact b9)|exact b9)) (fail);have D:=aI.out.aC (Y.refl o).drew;have a8:=bf.out.trans (bX (Y.refl o).drew (bg g (u+1) c++S));have aV:=N (xU D r.out K (bb.out.aL a8) bc.out be.out bs);clear D a8;generalize o.drew=bm at *;have bp: (if news=0 then (3:Int) else 1)=1:=by rw [aS (by have:=bk.out;omega)]
   rw [bp] at aV;go_wp2_with (first|(go_at_call 180;(with_reducible refine aV.out.mono ?_);rintro e bL ⟨rfl,m,F,ag,W,bA,bv,bn,bB,bx,bo,aX⟩;have aJ:=N aX;have am:=N (gh aJ.out.box (b:=false) rfl);clear aX)|(go_at_call 181;(with_reducible refine am.out.mono ?_);rintro e d ⟨rfl,rfl⟩));go_ret;exact ⟨rfl,m,g,c,F,ag,W,bA,bv,bn,bB,bx,bo,aJ.out⟩
end
section
variable {bA : ad} {n : Int} {k : aA} {am : aT} 
theorem wa(l:cd bA n k aE am be)(f:Bool)(h a b:Int)(d:aY)(p:Option ai)(q g:Nat)(w:ad)(o:aZ w p q g d.ag)(t:dZ d)(c:ByteArray)(s:c.size≤maxLen)(lim:aK)(wr:Bool)(u:dD bA w):
  ao aj 131 #[aw be,aw (cB f h a b d p q g),c,aw (bC lim),wr] w (jN am (nm am aE n f d c lim wr) w):=by
 unfold nm;by_cases i:am.g9=true
 ·rw[a9 i];exact CG l f h a b d p q g w c lim wr i (by cases am with|leaf v=>rfl|aU v=>cases i)
 ·rw[aS i];have i:am.g9=false:=by simpa using i
  by_cases m:wr=true∧am.hB=true
  ·rw[a9 m];obtain⟨rfl,m⟩:=m;exact CI l f h a b d p q g w o t c s lim m u
  ·rw[aS m];have z:wr=false∨am.hB=false:=by
    cases wr
    ·exact .inl rfl
    ·exact .inr (by cases C:am.hB with|false=>rfl|true=>exact absurd ⟨rfl,C⟩ m)
   by_cases j:am.has c=false
   ·rw[a9 j];exact CD l f h a b d p q g w o t c s lim wr i z j u
   ·rw[aS j];have j:am.has c=true:=by simpa using j
    have A: (wr=true→iT am aE n f d lim=V)→ao aj 131 #[aw be,aw (cB f h a b d p q g),c,aw (bC lim),wr] w (jN am (ji am c) w):=fun r=>by
     cases am with
     |leaf v=>exact CA l f h a b d p q g w o t c s lim wr i rfl j rfl r u
     |aU v=>
      have y:v.held=false∨wr=false:=z.symm;unfold ji;dsimp only;cases B:hx v c with
      |none=>exact CL l f h a b d p q g w o t c s lim wr rfl y j r B u
      |some D=>exact CE l f h a b d p q g w o t c s lim wr rfl y j r B u
    cases wr
    ·rw[aS bP];exact A fun e=>by cases e
    ·rw[a9 rfl];have y:am.hB=false:=by rcases z with q|q;cases q;exact q
     cases r:iT am aE n f d lim with
     |some x=>exact CP l f h a b d p q g w o t c s lim i y j r u
     |none=>exact A fun _=>r
theorem CQ(b:aY)(a:ByteArray)(lim:aK)(wr:Bool):nm am aE n false b a lim wr=dX am aE n V a lim wr:=by
 have c:ig am.low am.high am.right false b a wr=kq am V a wr:=by
  unfold ig kq;simp
 have d:iT am aE n false b lim=jx am aE n V lim:=by
  unfold iT jx qJ lQ;cases am <;> simp
 unfold nm dX;rw[c,d];cases jx am aE n V lim <;> rfl
theorem CR(a:aY)(b:ByteArray)(lim:aK)(wr:Bool):nm am aE n true a b lim wr=dX am aE n (Z a) b lim wr:=by
 have c:ig am.low am.high am.right true a b wr=kq am (Z a) b wr:=by
  unfold ig kq;simp
 have d:iT am aE n true a lim=jx am aE n (Z a) lim:=by
  unfold iT jx qJ lQ;cases am <;> simp
 unfold nm dX;rw[c,d];cases jx am aE n (Z a) lim <;> rfl
def zT:aY:=⟨⟨#[]⟩,⟨#[]⟩,false,0,[],false,0,0,⟨#[]⟩⟩
theorem CT(e:cd bA n k aE am be){ab:Option bQ}{aR:List ak}(f:kh bA ab aR)(w:ad)(d:dD bA w)(a:ByteArray)(g:a.size≤maxLen)(lim:aK)(wr:Bool):
  ao aj 131 #[aw be,aw aR,a,aw (bC lim),wr] w (jN am (dX am aE n (ab.map bQ.view) a lim wr) w):=by
 cases ab with
 |none=>
  obtain rfl:aR=cB false 0 0 0 zT V 0 0:=f;have:=wa e false 0 0 0 zT V 0 0 w (bo.nil _ _ _) ⟨bP,bP,bP⟩ a g lim wr d;rw[CQ]at this;exact this
 |some b=>
  obtain⟨o,j,c,rfl,h,i⟩:=f;have:=wa e true b.n ((b.head.i:Int)+1) (b.head.g:Int) b.view o j c w (bo.ex cW h d) i a g lim wr d;rw[CR]at this;exact this
end
theorem gD(w:ad):bk w V 0 0 []:=⟨rfl,aG _,aJ _,fun _=>rfl,⟨0,0,fun q=>absurd q K,fun i a=>absurd a K⟩,fun i a=>absurd a K⟩
theorem x5(f:FuncId)(first a:Array ak)(w:ad): (binOp .eql 251 (.func (.func f) first a) .nilFunc).run aj w= .ok (ah false) w:=by kernel_rfl
section
theorem bI.fresh{a:ad}(n:aX h S w lim z)(d:Y w a)(c:l < a.heap.size)(m:w.heap.size≤l)(o:B0≤w.heap.size)(j: ∀ b∈h.l,b < B0)(i:ae a l (bE page a1 a2 news aN bG V 0 0 V 0 0 (eu 0).x V 0 0 V 0 0 V 0 0 0 false aB)):
  bI h B0 S w lim z l (bE page a1 a2 news aN bG V 0 0 V 0 0 (eu 0).x V 0 0 V 0 0 V 0 0 0 false aB) (eu 0) V 0 0 V 0 0 (l::S) a V 0 0 [] V 0 0 [] V 0 0 []:=by
 have f: ∀ e,bn e B0 S w (l::S) a:=fun e=>(Y.av d).more [l] fun b k=>by rw[aO.1 k];exact .inr ⟨m,c⟩
 refine⟨i,⟨bi.nil _ _ _ _ _,bi.nil _ _ _ _ _,bi.nil _ _ _ _ _,fun g d=>?_,by simp[yc]⟩,⟨gD _,bo.nil _ _ _,⟨bP,bP,bP,bP,bP⟩⟩,n.av (f []) fun b c=>⟨J,j b c⟩,f _⟩;simp only[yc,me,aO]at d;subst d;exact⟨rH,K,c⟩
abbrev cp (page a1 a2:Int) (news:Nat) (aN:ak):List ak:=[O U page,O U a1,O U a2,O U (news:Int),aN]
theorem BE(o:aX h S w lim z)(p: ∀ b∈h.l,b < B0)(t:B0≤w.heap.size)(D:0 < news)(C:news≤4)(f:FuncId)(first a:Array ak):
  ao aj 159 #[aw (cp page a1 a2 news (.func (.func f) first a))] w fun e d=> ∃ l,e=ap (aa l)∧B0≤l∧bI h B0 S w lim z l (bE page a1 a2 news (.func (.func f) first a) 0 V 0 0 V 0 0 (eu 0).x V 0 0 V 0 0 V 0 0 0 false aB) (eu 0) V 0 0 V 0 0 (l::S) d V 0 0 [] V 0 0 [] V 0 0 []:=by
 have q:Y w (H w (X (cp page a1 a2 news (.func (.func f) first a)) 253)):=(Y.refl w).alloc _;have g:ae (H w (X (cp page a1 a2 news (.func (.func f) first a)) 253)) w.heap.size (cp page a1 a2 news (.func (.func f) first a)):=(ae.new w _ _ rfl).of J;have r:=N p;have k:=N o;clear o p;go_enter Tryz.func159,Tryz.ntmps159;go_upto_region 1 with fail
 generalize H w (X (cp page a1 a2 news (.func (.func f) first a)) 253)=c at *;have m:c.cell? ⟨w,3,V⟩=Z (O U (news:Int)):=g.cell 3 rfl;have n:=g.cell 4 rfl;have y:decide ((news:Int) < 0)=false:=J;have A:decide ((news:Int)> 4)=false:=cJ;have B: ((news:Int)==0)=false:=mf;go_upto_region 2 with (with_reducible refine b0 253 (g) kK ?_)
 have j:ae (H c (X (bE page a1 a2 news (.func (.func f) first a) 0 V 0 0 V 0 0 (eu 0).x V 0 0 V 0 0 V 0 0 0 false aB) 296)) c.heap.size (bE page a1 a2 news (.func (.func f) first a) 0 V 0 0 V 0 0 (eu 0).x V 0 0 V 0 0 V 0 0 0 false aB):=(ae.new c _ _ rfl).of J;have i:Y c (H c (X (bE page a1 a2 news (.func (.func f) first a) 0 V 0 0 V 0 0 (eu 0).x V 0 0 V 0 0 V 0 0 0 false aB) 296)):=(Y.refl c).alloc _;show Code.wp _ _ _ _ (H c (X (bE page a1 a2 news (.func (.func f) first a) 0 V 0 0 V 0 0 (eu 0).x V 0 0 V 0 0 V 0 0 0 false aB) 296));have u:=q.le;generalize H c (X (bE page a1 a2 news (.func (.func f) first a) 0 V 0 0 V 0 0 (eu 0).x V 0 0 V 0 0 V 0 0 0 false aB) 296)=x at *;generalize c.heap.size=l at *;have E:=fun v=>x5 f first a v
 have F:=i.I m;have G:=i.I n;have s:=N (bI.fresh k.out (q.trans i) (j.lt J) u t r.out j);clear j i m n g k;go_wp2_with fail;go_ret;exact ⟨l,rfl,K,s.out⟩
theorem BF{y:ar}(A:aX h S w lim z)(B: ∀ b∈h.l,b < B0)(P:B0≤w.heap.size)(f:FuncId)(first a:Array ak)(D:fA S w (.func (.func f) first a) [] [] y):
  ao aj 159 #[aw (cp page a1 a2 0 (.func (.func f) first a))] w fun e d=> ∃ l,e=ap (aa l)∧B0≤l∧∃ m F ag W p n i q o j,bI h B0 S w lim z l (bE page a1 a2 0 (.func (.func f) first a) 3 V 0 0 F ag W y.x p n i q o j V 0 0 0 false aB) y p n i q o j m d V 0 0 [] F ag W [] V 0 0 []:=by
 have G:Y w (H w (X (cp page a1 a2 0 (.func (.func f) first a)) 253)):=(Y.refl w).alloc _;have g:ae (H w (X (cp page a1 a2 0 (.func (.func f) first a)) 253)) w.heap.size (cp page a1 a2 0 (.func (.func f) first a)):=(ae.new w _ _ rfl).of J;have s:=N B;have t:=N A;have I:=N D;clear A B D;go_enter Tryz.func159,Tryz.ntmps159;go_upto_region 1 with fail
 generalize H w (X (cp page a1 a2 0 (.func (.func f) first a)) 253)=c at *;have u:c.cell? ⟨w,3,V⟩=Z (O U 0):=g.cell 3 rfl;have v:=g.cell 4 rfl;go_upto_region 2 with (with_reducible refine b0 253 (g) kK ?_)
 have r:ae (H c (X (bE page a1 a2 0 (.func (.func f) first a) 0 V 0 0 V 0 0 (eu 0).x V 0 0 V 0 0 V 0 0 0 false aB) 296)) c.heap.size (bE page a1 a2 0 (.func (.func f) first a) 0 V 0 0 V 0 0 (eu 0).x V 0 0 V 0 0 V 0 0 0 false aB):=(ae.new c _ _ rfl).of J;have k:Y c (H c (X (bE page a1 a2 0 (.func (.func f) first a) 0 V 0 0 V 0 0 (eu 0).x V 0 0 V 0 0 V 0 0 0 false aB) 296)):=(Y.refl c).alloc _;show Code.wp _ _ _ _ (H c (X (bE page a1 a2 0 (.func (.func f) first a) 0 V 0 0 V 0 0 (eu 0).x V 0 0 V 0 0 V 0 0 0 false aB) 296));have Q:=G.le;generalize H c (X (bE page a1 a2 0 (.func (.func f) first a) 0 V 0 0 V 0 0 (eu 0).x V 0 0 V 0 0 V 0 0 0 false aB) 296)=ab at *;generalize c.heap.size=l at *;have al:=fun T=>x5 f first a T
 have am:=k.I u;have an:=k.I v;have hF:=bI.fresh t.out (G.trans k) (r.lt J) Q P s.out r;have C:=N (xU hF s.out K (I.out.aL (hF.av.aL)) rfl (fun x R=>by cases R) K);have M: (if (0:Nat)=0 then (3:Int) else 1)=3:=rfl;rw [M] at C;clear r k u v g t hF;go_wp2_with (go_at_call 180;(with_reducible refine C.out.mono ?_);rintro e aq ⟨rfl,m,F,ag,W,p,n,i,q,o,j,E⟩;have L:=N E;clear E);go_ret;exact ⟨l,rfl,K,m,F,ag,W,p,n,i,q,o,j,L.out⟩
end
theorem De:dH 160:=fun args a=>fj Tryz.func160 G rfl args a
section
variable {bx : List ak} 
abbrev hr (h:aV) (B0:Nat) (lim:aK) (z:az) (l:Nat) (bx:List ak) (k:ar) (P:Option ai) (B I:Nat) (T:Option ai) (C M:Nat) (S:List Nat) (w:ad) (op:Option ai) (u aF:Nat) (ax:List Int) (aM:Option ai) (no aL:Nat) (bf:List ar) (aD:Option ai) (E aC:Nat) (aH:List aA):Prop:=bI h B0 S w lim z l bx k P B I T C M S w op u aF ax aM no aL bf aD E aC aH
theorem bI.now(a:bI h B0 S0 w0 lim z l bx k P B I T C M S w op u aF ax aM no aL bf aD E aC aH):hr h B0 lim z l bx k P B I T C M S w op u aF ax aM no aL bf aD E aC aH:=⟨a.box,a.s,a.aL,a.mem,bn.refl⟩
theorem bI.under(a:bI h B0 S0 w0 lim z l bx k P B I T C M S w op u aF ax aM no aL bf aD E aC aH){f:List Nat}(c:Mod f w d)(e: ∀ b∈f,b∈S∧b∉h.l∧b < B0):hr h B0 lim z l bx k P B I T C M S d op u aF ax aM no aL bf aD E aC aH:=by
 have g: ∀ b,B0≤b→b∉f:=fun b g q=>by have:=(e b q).2.2;omega
 have i:fq S w S d:=c.aL (fun b q=>(e b q).1) fun _ q=> .inl q;exact⟨c.box (g _ a.fJ.2.1) a.box,a.s.to (fun b n j _=>c.block b (a.mem.old b n) (g b j)) c.size (fun _ q=>q) i,a.aL.ex i,a.mem.step (c.ju fun b q=>(e b q).1) (fun b m q=>(e b q).2.1 m) a.mem.sub,bn.refl⟩
structure gq (h:aV) (B0:Nat) (S:List Nat) (w:ad) (bt l:Nat) (nx bs:ak) (a3 a8 bb:Nat):Prop where
 nx:nx= .func (.func 160) #[] #[aa a3,aa a8,aa bb]
 jR: (ay w S).cell? ⟨a3,0,V⟩=Z (aa l)
 mq: (ay w S).cell? ⟨a8,0,V⟩=Z (aa bt)
 hR: (ay w S).cell? ⟨bb,0,V⟩=Z bs
 e4: ∀ b∈h.l,b < B0
 cH:bt < B0
theorem gq.av{L:List Nat}{c:Nat}{nx:ak}(a:gq h B0 S w bt l nx bs a3 a8 bb)(b:bn L c S w m d):gq h B0 m d bt l nx bs a3 a8 bb:=
 ⟨a.nx,b.aL.cell _ _ _ a.jR,b.aL.cell _ _ _ a.mq,b.aL.cell _ _ _ a.hR,a.e4,a.cH⟩
theorem nT(a:aP h S w lim z bt D F ag W aR)(g:gq h B0 S w bt l D.nx bs a3 a8 bb)(c:ao aj 160 #[aa h.m,aa a3,aa a8,aa bb] w fun e d=> ∃ b,e=ap (ah b)∧Q e d):
  ao aj 10 #[aa bt,aa h.m] w Q:=by
 have f:w.cell? ⟨bt,11,V⟩=Z (.func (.func 160) #[] #[aa a3,aa a8,aa bb]):=by rw[←g.nx];exact a.box.cell 11 rfl
 exact pq (first:= #[]) (cap:= #[aa a3,aa a8,aa bb]) f De c
theorem xv(f:w.cell? a3=Z (aa l))(a:ao aj 161 #[aa l,aa h.m] w fun e d=>e=ap (ah false)∧R d):
  ao aj 160 #[aa h.m,aa a3,aa a8,aa bb] w fun e d=>e=ap (ah false)∧R d:=by
 have b:=N a;clear a;go_enter Tryz.func160,Tryz.ntmps160;go_wp2_with(go_at_call 161;(with_reducible refine b.out.mono ?_);rintro e d ⟨rfl,c⟩);go_ret;exact⟨rfl,c⟩
theorem xx{first cap:Array ak}(u:w.cell? a3=Z (aa l))(n:ao aj 161 #[aa l,aa h.m] w fun e d=>e=ap (ah true)∧R d)
  (p: ∀ d,R d→d.cell? a3=Z (aa l)∧d.cell? bb=Z (.func (.func f) first cap))
  (m: ∀ d,R d→ao aj 162 #[aa l] d fun e a=>e=ap (a0 #[ah true,aB])∧Y d a)(v:dH f)
  (o: ∀ d a,R d→Y d a→ao aj f (first.push (ah true)++cap) a fun e r=> ∃ b,e=ap (ah b)∧Q e r):
  ao aj 160 #[aa h.m,aa a3,aa a8,aa bb] w Q:=by
 have j:=N n;have k:=N p;have i:=N m;have bh:=N o;have z: ∀ (args:Array ak) (g:ad),(callFunc f args).run aj g= .ok (.enter f args) g:=v;clear n p m o;go_enter Tryz.func160,Tryz.ntmps160;go_upto_region 3 with (go_at_call 161;(with_reducible refine j.out.mono ?_);rintro e g ⟨rfl,c⟩)
 obtain ⟨B,y⟩:=k.out _ c;have t:=N c;have s:=N (i.out _ c);clear c j i k u;go_wp2_with (go_at_call 162;(with_reducible refine s.out.mono ?_);rintro e a ⟨rfl,q⟩;have A:=q.I y);refine (bh.out _ _ t.out q).mono ?_;rintro e r ⟨b,rfl,x⟩;go_wp2_with fail;exact x
theorem xw{R:ad→TypeId→ak→Prop}(v:w.cell? a3=Z (aa l))(m:ao aj 161 #[aa l,aa h.m] w fun e d=>e=ap (ah true)∧∃ t a,R d t a)
  (n: ∀ d t a,R d t a→d.cell? a3=Z (aa l)∧d.cell? a8=Z (aa bt))
  (k: ∀ d t a,R d t a→ao aj 162 #[aa l] d fun e c=>e=ap (a0 #[ah false,.iface t a])∧Y d c)
  (hF: ∀ d c t a,R d t a→Y d c→ao aj 102 #[aa bt,.iface t a] c fun e p=> ∃ b,e=ap (ah b)∧Q e p):
  ao aj 160 #[aa h.m,aa a3,aa a8,aa bb] w Q:=by
 have i:=N m;have j:=N n;have g:=N k;have r:=N hF;clear m n k hF;go_enter Tryz.func160,Tryz.ntmps160;go_upto_region 3 with(go_at_call 161;(with_reducible refine i.out.mono ?_);rintro e B ⟨rfl,t,a,f⟩)
 obtain⟨A,y⟩:=j.out _ _ _ f;have u:=N f;have q:=N (g.out _ _ _ f);clear f i g j v;go_wp2_with(first|(go_at_call 162;(with_reducible refine q.out.mono ?_);rintro e c ⟨rfl,o⟩;have z:=o.I y;have s:=N (r.out _ _ _ _ u.out o))|(go_at_call 102;(with_reducible refine s.out.mono ?_);rintro e p ⟨b,rfl,x⟩));exact x
end
section
theorem vP(w:ad)(b cl cx:TypeId)(a v:ak)(be:List ak):
  Y w (((H w (X #[a] b)).alloc (X be cl)).alloc (X #[v] cx))∧ae (((H w (X #[a] b)).alloc (X be cl)).alloc (X #[v] cx)) w.heap.size [a]∧ae (((H w (X #[a] b)).alloc (X be cl)).alloc (X #[v] cx)) (w.heap.size+1) be∧ae (((H w (X #[a] b)).alloc (X be cl)).alloc (X #[v] cx)) (w.heap.size+2) [v]∧w.heap.size+3=(((H w (X #[a] b)).alloc (X be cl)).alloc (X #[v] cx)).heap.size:=
 ⟨(((Y.refl w).alloc _).alloc _).alloc _,((ae.new w _ _ rfl).of J).I (((Y.refl _).alloc _).alloc _),((ae.new (H w _) _ _ dW).of J).I ((Y.refl _).alloc _),(ae.new ((H w _).alloc _) _ _ kT).of J,pU⟩
theorem jm(B:aP h S w lim z bt D F ag W aR){page a1 a2:Int}{news:Nat}(f:FuncId)(first o:Array ak)(bl:FuncId)(br bm:Array ak){R:ad→Nat→List Nat→ad→Prop}
  (E: ∀ c,Y w c→ao aj 159 #[aw (cp page a1 a2 news (.func (.func f) first o))] c fun e a=> ∃ l m,e=ap (aa l)∧R c l m a∧bn h.l c S c m a∧aX h m a lim z∧l < a.heap.size):
  ao aj 133 #[aa bt,aw (cp page a1 a2 news (.func (.func f) first o)),.func (.func bl) br bm] w fun e d=>e=ap (ah false)∧∃ nx c a l m a3 a8 bb,R c l m a∧Mod [bt] a d∧bt < c.heap.size∧aP h m d lim z bt {D with nx:=nx} F ag W aR∧gq h c m d bt l nx (.func (.func bl) br bm) a3 a8 bb∧bD S w m d:=by
 obtain ⟨s,v,y,A,t⟩:=vP w 35 253 255 (aa bt) (.func (.func bl) br bm) (cp page a1 a2 news (.func (.func f) first o));have g:=N B;have Q:=N E;have p:=N t;clear B E t;go_enter Tryz.func133,Tryz.ntmps133;go_upto_region 1 with fail
 generalize ((H w (X #[aa bt] 35)).alloc (X (cp page a1 a2 news (.func (.func f) first o)) 253)).alloc (X #[.func (.func bl) br bm] 255)=c at *;have T:=N (Q.out c s);go_upto_region 2 with (first|(with_reducible refine b0 253 (y) kK ?_)|(go_at_call 159;(with_reducible refine T.out.mono ?_);rintro e a ⟨l,m,rfl,I,i,G,av⟩))
 have P:ae (H a (X #[aa l] 277)) a.heap.size [aa l]:=(ae.new a _ _ rfl).of J;have k:Y a (H a (X #[aa l] 277)):=(Y.refl a).alloc _;have hold:=g.out.mem.old;have aC:=g.out.lt;have az: ∀ b∈m,b∈S∨c.heap.size≤b:=fun b j=>(i.new b j).imp id fun q=>q.1;have M: ∀ u,u < 3→w.heap.size+u∉m:=fun u aD q=>by
  rcases az _ q with aE|aE
  ·have:=hold _ aE;omega
  ·have:=p.out;omega
 have am:=i.box (.inl (fun q=>by have:=hold _ q;omega)) v;have an:=i.box (.inl (fun q=>by have:=hold _ q;omega)) A;have x:=am.I k;have aq:=an.I k;have C:=g.out.av ((Y.av s).trans i) G ⟨g.out.c5,by have:=p.out;omega⟩;have r:=C.aC k;have ab:=N I;have ar:=((Y.av (L:=h.l) (B0:=c.heap.size) (S:=S) s).trans i);have ax:a.heap.size∉m:=fun q=>dk _ (G.old _ q);have ay:a.heap.size≠bt:=fun e=>by have:=C.lt;omega
 show Code.wp _ _ _ _ (H a (X #[aa l] 277));generalize aF:H a (X #[aa l] 277)=aA at *;have aH:=x.cell 0 rfl;have al:=N (iS r 160 #[] #[aa a,aa w,aa (w.heap.size+2)]);clear I v y A av;go_wp2_with (go_at_call 57;(with_reducible refine al.out.mono ?_);rintro e aG ⟨rfl,rfl⟩);go_ret;have n:=Mod.setCell (S:=[bt]) aA ⟨bt,11,V⟩ (.func (.func 160) #[] #[aa a,aa w,aa (w.heap.size+2)]) J;have t:=p.out;refine ⟨rfl,_,c,a,l,m,a.heap.size,w.heap.size,w.heap.size+2,ab.out,(k.mod _).trans n,K,r.next _,⟨rfl,bp.2 ⟨ax,(n.box (by simpa using ay) P).cell 0 rfl⟩,bp.2 ⟨by simpa using M 0 K,(n.box cJ x).cell 0 rfl⟩,bp.2 ⟨M 2 K,(n.box cJ aq).cell 0 rfl⟩,fun b j=>by have:=hold b (g.out.mem.sub b j);omega,K⟩,?_⟩;exact (ar.goes.trans (Y.av k)).trans (n.av fun b j=>by rw [aO.1 j];exact ⟨r.cE,.inr (aJ _)⟩)
end
section
theorem wT{args:Array ak}{b:Bool}(c:ao bv f args w fun e d=>e=ap (ah b)∧R d):ao bv f args w fun e d=> ∃ a,e=ap (ah a)∧(e=ap (ah b)∧R d):=c.mono fun e d q=>⟨b,q.1,q⟩
theorem lV{q:Option aA}{r:aA}(s:aP h S w lim z bt D F ag W aR)(v:hr h B0 lim z l (bE p (a4 q).1 (a4 q).2 0 aN 3 V 0 0 aM no aL k.x P B I T C M V 0 0 0 false aB) k P B I T C M S w V 0 0 [] aM no aL [] V 0 0 [])(c:gq h B0 S w bt l D.nx (.func (.func bl) br bm) a3 a8 bb)(al:bT k)(am:z.ax[p]?=Z (Z q))(A:b2 lim.count z k= .ok r bj)(J:dH bl)
  (ae: ∀ d m,aP h m d lim (b1 bj (p:Int) (Z r)) bt D F ag W aR→bD S w m d→ao aj bl (br.push (ah true)++bm) d fun e u=> ∃ b,e=ap (ah b)∧Q e u):a7 h bt 2 w Q:=by
 obtain⟨N, -⟩:=k4 A;have an:bj.ax[p]?=Z (Z q):=by rw[N];exact am
 have hF:=lK v c.e4 (aJ _) (aJ _) al;rw[A]at hF;have aa:=eV (w:=w) v.box rfl rfl rfl ((hF.mono fun e d q=>(⟨false,q.1,q⟩: ∃ b,e=ap (ah b)∧_)));refine a7.then (nT s c (wT (b:=false) (xv (R:=fun d=> ∃ m i g,bI h B0 S w lim bj l (bE p (a4 q).1 (a4 q).2 0 aN 4 V 0 0 aM no aL k.x P B I T C M i 1 g 0 false aB) k P B I T C M m d V 0 0 [] aM no aL [] i 1 g [r]) ((bp.1 c.jR).2) aa))) fun e d ⟨j,m,i,g,R⟩=>⟨j,?_⟩;have t:=s.av R.av R.mem ⟨s.c5,c.cH⟩;have n:=c.av R.av;have x:=R.now;have L:=qC x c.e4 K (r:=r) rfl an;have ab:=eV x.box rfl rfl rfl (L.mono fun e d q=>(⟨true,q.1,q⟩: ∃ b,e=ap (ah b)∧_));refine a7.one (nT t n ?_);refine xx (f:=bl) (first:=br) (cap:=bm) (R:=fun o=>bI h B0 m d lim (b1 bj (p:Int) (Z r)) l (bE p (a4 q).1 (a4 q).2 0 aN 7 V 0 0 aM no aL k.x P B I T C M i 1 g 0 true aB) k P B I T C M m o V 0 0 [] aM no aL [] i 1 g [r]) ((bp.1 n.jR).2) ab (fun o a=>?_) (fun o a=>nn a.box) J (fun o u a E=>?_)
 ·have y:=n.av a.av;exact⟨(bp.1 y.jR).2,(bp.1 y.hR).2⟩
 ·have G:=(t.av a.av a.mem ⟨t.c5,n.cH⟩).aC E;exact(ae u m G ((R.av.goes.trans a.av.goes).trans E.av)).mono fun e aq ⟨b,j,q⟩=>⟨b,j,b,j,q⟩
theorem lU{p:Int}(g:aP h S w lim z bt D F ag W aR)(j:hr h B0 lim z l (bE p a1 a2 0 aN 3 V 0 0 aM no aL k.x P B I T C M V 0 0 0 false aB) k P B I T C M S w V 0 0 [] aM no aL [] V 0 0 [])(b:gq h B0 S w bt l D.nx bs a3 a8 bb)(v:bT k)(u:b2 lim.count z k= .no c)
  (r: ∀ e d f m,iE h m lim z bt D F ag W aR d c e f→bD S w m d→Q e f):a7 h bt 1 w Q:=by
 have hF:=lK j b.e4 (aJ _) (aJ _) v;rw[u]at hF;have s:=eV (w:=w) (Q:=fun e d=>e=ap (ah true)∧∃ t a,cm (ay d S) (.iface t a) c∧bI h B0 S w lim z l (bE p a1 a2 0 aN 7 V 0 0 aM no aL k.x P B I T C M V 0 0 0 false (.iface t a)) k P B I T C M S d V 0 0 [] aM no aL [] V 0 0 []) j.box rfl rfl rfl (hF.mono fun e d ⟨t,a,B,C,x⟩=>⟨true,B,B,t,a,C,x⟩);refine a7.one (nT g b ?_);refine xw (bt:=bt) (R:=fun d t a=>cm (ay d S) (.iface t a) c∧bI h B0 S w lim z l (bE p a1 a2 0 aN 7 V 0 0 aM no aL k.x P B I T C M V 0 0 0 false (.iface t a)) k P B I T C M S d V 0 0 [] aM no aL [] V 0 0 []) ((bp.1 b.jR).2) s (fun d t a ⟨B,R⟩=>?_) (fun d t a ⟨B,R⟩=>nn R.box) (fun d f t a ⟨B,R⟩ i=>?_)
 ·have n:=b.av R.av;exact⟨(bp.1 n.jR).2,(bp.1 n.mq).2⟩
 ·have o:=(g.av R.av R.mem ⟨g.c5,b.cH⟩).aC i;exact(mv o (.iface t a) c (cm.ex B (bX i S))).mono fun e y q=>⟨false,q.1,false,q.1,r e f y S q (R.av.goes.trans i.av)⟩
end
theorem F6{A X₀ Y Z:List bB}(a:A.length=n)(b:X₀.length=Z.length): (A++(X₀++Y)).take n++Z++(A++(X₀++Y)).drop (n+Z.length)=A++(Z++Y):=by
 rw[rX a,←uS,uM a,uM b,lq]
theorem ae.ph(f:ae w b be){e:Func}{p d:Tmp}{a:TypeId}(j:e.results= #[.tmp d,.cell p a])(tmps:Array ak)(h:tmps.getD p undef=au (Z b)){v:ak}(m:tmps.getD d undef=v)
  {c:TypeDesc}(l:bv.underlying a=Z c)(k:c.isRow=true)(g: (bv.info? a).map (·.size)=Z be.length): (results e tmps).run bv w= .ok (a0 #[v,aw be]) w:=by
 have i:tmps[p]?.getD undef=au (Z b):=by simpa using h
 have n:tmps[d]?.getD undef=v:=by simpa using m
 simp[results,j,i,n,asAddr,kD w b 0 a be c f.aM l k g]
theorem Dg:dH 135:=fun args a=>fj Tryz.func135 G rfl args a
theorem ns:dH 163:=fun args a=>fj Tryz.func163 G rfl args a
section
theorem aP.yZ(a:aP h S w lim z bt D F ag W aR){ab:Option bQ}{va':List ak}(d:kh (ay w S) ab va'):aP h S (ba w bt 12 va') lim z bt {D with ab:=ab} F ag W va':=by
 have e:Mod [bt] w (ba w bt 12 va'):=Mod.setCells J _ _ _;have f:fq S w S (ba w bt 12 va'):=e.aL (by intro b c;rw[aO.1 c];exact a.cE) fun _ q=> .inl q;have g:=a.ab.len;have i:=d.len;have j:=a.bO;refine⟨a.mem.step (e.ju fun b c=>by rw[aO.1 c];exact a.cE) (fun b c q=>a.c5 (by rw[←aO.1 q];exact c)) a.mem.sub,(a.box.part 12 va' z4).of ?_,a.bin.ex fy f,d.ex f,a.bO,a.key,a.cE,a.c5⟩;exact F6 (A:=[_,_,_,_,_,_,_,_,_,_,_,_]) (X₀:=aR) (Y:=D.bO) (Z:=va') rfl (by rw[g,i])
def mh (h:aV) (S:List Nat) (lim:aK) (z:az) (bt:Nat) (D:bU) (F:Option ai) (ag W:Nat) (w:ad) (e:Ending) (d:ad):Prop:=
 e=ap (ah false)∧∃ nx m,aP h m d lim z bt {D with ab:=V,nx:=nx} F ag W g4∧ff h m d bt {D with ab:=V,nx:=nx} 0∧bD S w m d
theorem oC(a:aP h S w lim z bt D F ag W aR):ao aj 60 #[aa bt] w (mh h S lim z bt D F ag W w):=by
 have o:=a.box.fi 12 13 (by have:=a.ab.len;have:=a.bO;simp only[gj,fY,dG];omega);have c:=a.yZ (ab:=V) (va':=g4) rfl;have g:=N (uu c 0);have f:Mod [bt] w (ba w bt 12 g4):=Mod.setCells J _ _ _;have d:bD S w S (ba w bt 12 g4):=f.av fun b n=>by rw[aO.1 n];exact⟨a.cE,.inr (aJ _)⟩
 have i:=N d;clear a c f d;go_enter Tryz.func60,Tryz.ntmps60;go_wp2_with(first|(with_reducible refine hY 97 (o) (g4) ?_)|(go_at_call 81;(with_reducible refine g.out.mono ?_);rintro e p ⟨rfl,nx,m,j,k,l⟩));go_ret;exact⟨rfl,nx,m,j,k,i.out.trans l.goes⟩
theorem Gf(a:aP h S w lim z bt D F ag W aR)(j:w.cell? b=Z (aa bt))(d:Bool):ao aj 135 #[ah d,aa b] w (mh h S lim z bt D F ag W w):=by
 have c:=N (oC a);clear a;go_enter Tryz.func135,Tryz.ntmps135;go_wp2_with(go_at_call 60;(with_reducible refine c.out.mono ?_);rintro e k ⟨rfl,nx,m,f,g,i⟩);go_ret;exact⟨rfl,nx,m,f,g,i⟩
theorem nG{x:fc}{l:Option ai}{i f:Nat}{m:Option ai}{k g:Nat}(q:w.rangeAt b 0 (an x l i f m k g))(B:Option ai)(n c:Nat):ao aj 163 #[ac B n c,aa b] w fun e d=>e=ap (a0 #[ac V 0 0,aW x l i f m k g])∧Y w d∧∃ s,w.heap.size≤s∧Mod [s] w d:=by
 have t:Y w (H w (X al 85)):=(Y.refl w).alloc _;have y:ae (H w (X al 85)) w.heap.size al:=(ae.new w _ _ rfl).of J;have v:=t.range q;clear q;go_enter Tryz.func163,Tryz.ntmps163;go_upto_region 1 with fail
 generalize H w (X al 85)=a at *;refine cZ (fun _=>True) (fun d=>d.rangeAt b 0 (an x l i f m k g)) 2 G ?_;have A:True:=trivial;have hKC:=(Y.refl a).drew.range v;have r:=y.I (Y.refl a).drew;have u:Y w a.drew:=t.trans (Y.refl a).drew;generalize a.drew=C at *;refine' bc 0 5 rfl (cj aq _ _ rfl _ _ rfl _ _ (fun w z=>z.2) cG rfl G) A hKC ?_;refine b4 1 (Z 3) rfl (fun p h=>?_);go_simp;refine a5 h (trivial) (fun _=>hKC) ?_;clear h p;refine j9 (j:=2) (o:={dst:=V,op:= .store 85 (.tmp 4) (.tmp 5),type:=_,pos:=_,after:=_,guard:=V}) rfl G G (fun p h=>?_);refine a6 aq ?_;refine dQ _ _ _ rfl _ _ (an x l i f m k g).toArray rfl rfl r.may G du ?_;simp only [bu];refine bM h (trivial) ?_;clear h p;refine cC G ?_;go_wp2_with fail;refine bH ((r.aR (us:=an x l i f m k g) rfl).ph rfl _ rfl rfl cG rfl G) rfl ?_;exact ⟨rfl,u.setCells (aG _) _ _,w.heap.size,aG _,(u.mod _).trans (Mod.setCells J _ _ _)⟩
end
section
theorem lc(s:dH f){b:Nat}{y:ar}{j:Option ai}{h d:Nat}{k:Option ai}{i g:Nat}(u: ∀ (a:ad) (l:Option ai) (n c:Nat),a.rangeAt b 0 (an y.x j h d k i g)→ao aj f #[ac l n c,aa b] a fun e m=>e=ap (a0 #[ac V 0 0,aW y.x j h d k i g])∧Y a m∧∃ o,a.heap.size≤o∧Mod [o] a m)
  (q: (ay w S).rangeAt b 0 (an y.x j h d k i g))(t:b3 (ay w S) y j h d k i g):fA S w (.func (.func f) #[] #[aa b]) [] [] y:=by
 refine ⟨f,#[],#[aa b],rfl,s,fun r a l n c A p D=>(u a l n c (fun x z v=>(bp.1 (p.cell _ _ _ (q x z v))).2)).mono fun e m ⟨B,C,E⟩=>⟨V,0,0,j,h,d,k,i,g,B,bo.nil _ _ _,t.ex (p.trans (bX C r)),C⟩⟩
theorem nH(n:Int)(k:aA)(y:ar)(h:Option ai)(f a:Nat)(i:Option ai)(g c:Nat)(w:ad):
  ao aj 134 #[O U n,j2 k,aW y.x h f a i g c] w fun e d=> ∃ b,e=ap (aw (cp n ((k.i:Int)+1) (k.g:Int) 0 (.func (.func 163) #[] #[aa b])))∧w.heap.size≤b∧Y w d∧d.rangeAt b 0 (an (nx y k).x h f a i g c):=by
 have x:Y w (((H w (X #[O U ((k.i:Int)+1),(k.g:Int)] 78)).alloc (X (an y.x h f a i g c) 85)).alloc (X [O U 0,O U 0,O U 0,O U 0,.nilFunc].toArray 253)):=(((Y.refl w).alloc _).alloc _).alloc _;have l:ae (((H w (X #[O U ((k.i:Int)+1),(k.g:Int)] 78)).alloc (X (an y.x h f a i g c) 85)).alloc (X [O U 0,O U 0,O U 0,O U 0,.nilFunc].toArray 253)) w.heap.size [O U ((k.i:Int)+1),(k.g:Int)]:=((ae.new w _ _ rfl).of J).I (((Y.refl _).alloc _).alloc _);have m:ae (((H w (X #[O U ((k.i:Int)+1),(k.g:Int)] 78)).alloc (X (an y.x h f a i g c) 85)).alloc (X [O U 0,O U 0,O U 0,O U 0,.nilFunc].toArray 253)) (w.heap.size+1) (an y.x h f a i g c):=((ae.new (H w _) _ _ dW).of J).I ((Y.refl _).alloc _);have r:ae (((H w (X #[O U ((k.i:Int)+1),(k.g:Int)] 78)).alloc (X (an y.x h f a i g c) 85)).alloc (X [O U 0,O U 0,O U 0,O U 0,.nilFunc].toArray 253)) (w.heap.size+2) [O U 0,O U 0,O U 0,O U 0,.nilFunc]:=(ae.new ((H w _).alloc _) _ _ kT).of J;go_enter Tryz.func134,Tryz.ntmps134;go_upto_region 1 with fail
 show Code.wp _ _ _ _ (((H w (X #[O U ((k.i:Int)+1),(k.g:Int)] 78)).alloc (X (an y.x h f a i g c) 85)).alloc (X [O U 0,O U 0,O U 0,O U 0,.nilFunc].toArray 253));generalize ((H w (X #[O U ((k.i:Int)+1),(k.g:Int)] 78)).alloc (X (an y.x h f a i g c) 85)).alloc (X [O U 0,O U 0,O U 0,O U 0,.nilFunc].toArray 253)=j at *;have u:=l.cell 0 rfl;have x1:=l.cell 1 rfl;have t:=m.fi 13 2 J;have v:=(m.part 13 [O U ((k.i:Int)+1),(k.g:Int)] J).of (us:=an (nx y k).x h f a i g c) rfl;have o:Mod [w.heap.size+1] j (ba j (w.heap.size+1) 13 [O U ((k.i:Int)+1),(k.g:Int)]):=Mod.setCells J _ _ _;have q:=o.box J l;have s:=o.box J r;have z:Y w (ba j (w.heap.size+1) 13 [O U ((k.i:Int)+1),(k.g:Int)]):=x.setCells (gl _) _ _;go_upto_region 2 with (with_reducible refine hY 78 (t) ([O U ((k.i:Int)+1),(k.g:Int)]) ?_)
 generalize ba j (w.heap.size+1) 13 [O U ((k.i:Int)+1),(k.g:Int)]=p at *;clear u x1 l m r t o;have u:=q.cell 0 rfl;have x1:=q.cell 1 rfl;go_wp2_with (with_reducible refine bq 253 (s) ((cp n ((k.i:Int)+1) (k.g:Int) 0 (.func (.func 163) #[] #[aa (w.heap.size+1)]))) ?_);refine bH ((s.aR (us:=cp n ((k.i:Int)+1) (k.g:Int) 0 (.func (.func 163) #[] #[aa (w.heap.size+1)])) rfl).e7 rfl _ rfl kK rfl G) rfl ?_;have A:Mod [w.heap.size+2] p (ba p (w.heap.size+2) 0 (cp n ((k.i:Int)+1) (k.g:Int) 0 (.func (.func 163) #[] #[aa (w.heap.size+1)]))):=Mod.setCells J _ _ _;exact ⟨w.heap.size+1,rfl,gl _,z.setCells K _ _,(A.box J v).aM⟩
end
def eh (h:aV) (lim:aK) (bt:Nat) (D:bU) (a:List bK) (wr:Bool) (S:List Nat) (w:ad) (aQ:az) (e:Ending) (d:ad):Prop:=
 e=ap (ah false)∧∃ nx m F ag W,aP h m d lim aQ bt {D with bin:=a,wr:=wr,ab:=V,nx:=nx} F ag W g4∧ff h m d bt {D with bin:=a,wr:=wr,ab:=V,nx:=nx} 0∧bD S w m d
def cS (h:aV) (lim:aK) (bt:Nat) (D:bU) (a:List bK) (S:List Nat) (w:ad) (aQ:az) (bR:ByteArray) (c:Option Int) (e:Ending) (d:ad):Prop:=
 e=ap (ah false)∧∃ bF nx m wr ab F ag W aR,eH (ay d m) bF c∧aP h m d lim aQ bt {D with bin:=a,wr:=wr,ab:=ab,bR:=bR,bF:=bF,nx:=nx} F ag W aR∧sl m d bt {D with bin:=a,wr:=wr,ab:=ab,bR:=bR,bF:=bF,nx:=nx}∧bD S w m d
section
theorem iE.ha(a:iE h m lim z bt D F ag W aR d c e w0)(b:bD S w m d):cS h lim bt D D.bin S w z ⟨#[]⟩ (Z c) e w0:=by
 obtain⟨B,bF,nx,C,f,g,i⟩:=a;exact⟨B,bF,nx,m,D.wr,D.ab,F,ag,W,aR,C,f,g,b.trans i.goes⟩
theorem mh.s(b:mh h m lim z bt D F ag W d e w0)(c:bD S w m d):eh h lim bt D D.bin D.wr S w z e w0:=by
 obtain⟨B,nx,a,C,f,g⟩:=b;exact⟨B,nx,a,F,ag,W,C,f,c.trans g⟩
def qa (h:aV) (lim:aK) (bt:Nat) (D:bU) (S:List Nat) (w:ad) (z:az) (p:Nat) (y:ar) (e:Ending) (d:ad):Prop:=
 e=ap (ah false)∧(∀ r bj k,z.ax[p]?=Z (Z (Z k))→y.x.slot=(a4 (Z k)).1∧y.x.gen=(a4 (Z k)).2→b2 lim.count z y= .ok r bj→a7 h bt 2 d (eh h lim bt D D.bin D.wr S w (b1 bj (p:Int) (Z r))))∧∀ c,b2 lim.count z y= .no c→a7 h bt 1 d (cS h lim bt D D.bin S w z ⟨#[]⟩ (Z c))
def Ai (h:aV) (S:List Nat) (lim:aK) (z:az) (p a1 a2:Int) (aN:ak) (y:ar) (a:ad) (l:Nat) (m:List Nat) (k:ad):Prop:=
 ∃ no g f i d b j e c,bI h a.heap.size S a lim z l (bE p a1 a2 0 aN 3 V 0 0 no g f y.x i d b j e c V 0 0 0 false aB) y i d b j e c m k V 0 0 [] no g f [] V 0 0 []
theorem la(g:aX h S w lim z){y:ar}{p a1 a2:Int}{f:FuncId}{first d:Array ak}(n:fA S w (.func (.func f) first d) [] [] y): ∀ a,Y w a→ao aj 159 #[aw (cp p a1 a2 0 (.func (.func f) first d))] a fun e c=> ∃ l m,e=ap (aa l)∧Ai h S lim z p a1 a2 (.func (.func f) first d) y a l m c∧bn h.l a S a m c∧aX h m c lim z∧l < c.heap.size:=fun a i=>
 (BF (g.I i) (fun b o=>dR (g.old b (g.sub b o)) i.le) (aG _) f first d (n.aL (i.aL fun _ q=> .inl q))).mono fun e c ⟨l,B,C,m,no,u,t,v,r,j,x,s,k,R⟩=>⟨l,m,B,⟨no,u,t,v,r,j,x,s,k,R⟩,R.av,R.mem,R.fJ.2.2⟩
theorem yB(t:aP h S w lim z bt D F ag W aR)(p:Nat)(k:aA)(y:ar)(j:Option ai)(g a:Nat)(o:Option ai)(i f:Nat)(al:b3 (ay w S) y j g a o i f)(ax:bT y):
  ao aj 121 #[aa bt,(p:Int),j2 k,aW y.x j g a o i f] w (qa h lim bt D S w z p (nx y k)):=by
 obtain ⟨az,aG,aH,aJ,bn⟩:Y w (((H w (X #[aa bt] 35)).alloc (X [O U ((k.i:Int)+1),O U (k.g:Int)].toArray 78)).alloc (X (an y.x j g a o i f) 85))∧ae (((H w (X #[aa bt] 35)).alloc (X [O U ((k.i:Int)+1),O U (k.g:Int)].toArray 78)).alloc (X (an y.x j g a o i f) 85)) w.heap.size [aa bt]∧ae (((H w (X #[aa bt] 35)).alloc (X [O U ((k.i:Int)+1),O U (k.g:Int)].toArray 78)).alloc (X (an y.x j g a o i f) 85)) (w.heap.size+1) [O U ((k.i:Int)+1),O U (k.g:Int)]∧ae (((H w (X #[aa bt] 35)).alloc (X [O U ((k.i:Int)+1),O U (k.g:Int)].toArray 78)).alloc (X (an y.x j g a o i f) 85)) (w.heap.size+2) (an y.x j g a o i f)∧w.heap.size+3=(((H w (X #[aa bt] 35)).alloc (X [O U ((k.i:Int)+1),O U (k.g:Int)].toArray 78)).alloc (X (an y.x j g a o i f) 85)).heap.size:=
  ⟨(((Y.refl w).alloc _).alloc _).alloc _,((ae.new w _ _ rfl).of J).I (((Y.refl _).alloc _).alloc _),((ae.new (H w _) _ _ dW).of J).I ((Y.refl _).alloc _),(ae.new ((H w _).alloc _) _ _ kT).of J,pU⟩
 have I:=N t;have aE:=N al;have hold:=t.mem.old;have C:=N ax;clear t al ax;go_enter Tryz.func121,Tryz.ntmps121;go_upto_region 1 with fail
 show Code.wp _ _ _ _ (((H w (X #[aa bt] 35)).alloc (X [O U ((k.i:Int)+1),(k.g:Int)].toArray 78)).alloc (X (an y.x j g a o i f) 85));generalize ((H w (X #[aa bt] 35)).alloc (X [O U ((k.i:Int)+1),(k.g:Int)].toArray 78)).alloc (X (an y.x j g a o i f) 85)=u at *;refine cZ (fun _=>True) (fun d=>d.cell? w=Z (aa bt)∧d.rangeAt (w.heap.size+1) 0 [O U ((k.i:Int)+1),(k.g:Int)]∧d.rangeAt (w.heap.size+2) 0 (an y.x j g a o i f)) 6 G ?_;have A:True:=trivial;have hKC:=And.intro ((Y.refl u).drew.I (aG.cell 0 rfl)) (And.intro ((Y.refl u).drew.range aH.aM) ((Y.refl u).drew.range aJ.aM));refine' bc (v:=aa bt) 0 9 rfl (.inl ⟨aq,?_⟩) A hKC ?_
 ·(intro w am;have bo:=am.2.1;clear am;go_simp)
 refine' aI 1 10 (O U (p:Int)) rfl A hKC ?_;refine' bc 2 11 rfl (cj aq _ _ rfl _ _ rfl _ _ (fun w t=>t.2.2.1) dm rfl G) A hKC ?_;refine' bc 3 12 rfl (cj aq _ _ rfl _ _ rfl _ _ (fun w t=>t.2.2.2) cG rfl G) A hKC ?_;refine' aI 5 14 (.func (.func 135) #[] #[aa w]) rfl A hKC ?_;refine b4 4 (Z 13) rfl (fun x s=>?_);go_simp;go_at_call 134;with_reducible refine (nH p k y j g a o i f u.drew).mono ?_
 rintro e M ⟨b,rfl,aT,B,aQ⟩;have L:Y w M:=(az.trans (Y.refl u).drew).trans B;have a9:=B.I hKC.1;refine a5 s (trivial) (fun _=>And.intro (B.I hKC.1) (And.intro (B.range hKC.2.1) (B.range hKC.2.2))) ?_;clear s x;have R:=I.out.aC L;have aN:fA S M (.func (.func 163) #[] #[aa b]) [] [] (nx y k):=lc ns (fun bB be n c a7=>nG a7 be n c) (fun bd bf a1=>bp.2 ⟨fun q=>by have:=hold b q;have:u.heap.size≤b:=aT;have:=az.le;omega,aQ bd bf a1⟩) ((aE.out.ex (bX L S)).h0 (Z k));refine cg 6 (Z 15) rfl (fun x s=>?_);go_simp;go_at_call 133;with_reducible refine (jm R (page:=(p:Int)) 163 #[] #[aa b] 135 #[] #[aa w] (la R.mem aN)).mono ?_
 rintro e bg ⟨rfl,bw,bk,bC,l,m,a3,a8,bb,aS,a2,aU,T,ab,aC⟩;refine bM s (trivial) ?_;clear s x;refine cg 7 (Z 8) rfl (fun x s=>?_);go_simp;refine bM s (trivial) ?_;clear s x;refine cC G ?_;go_wp2_with fail;go_ret;obtain ⟨no,bv,bs,bx,bq,bl,bA,br,bm,Q⟩:=aS;have P:=Q.under a2 (fun c aV=>by rw [aO.1 aV];exact ⟨(Q.av.sub _ I.out.cE),I.out.c5,aU⟩);have aX: (ay M S).cell? w=Z (aa bt):=bp.2 ⟨fun q=>by have:=hold _ q;omega,a9⟩;have aD:bD S w m bg:=(Y.av L).trans aC;refine ⟨rfl,fun r bj av a6 ⟨aK,aL⟩ K=>?_,fun c K=>?_⟩
 ·obtain rfl:k=av:=by
   cases k;cases av;simp only [nx,h0,a4,aA.mk.injEq] at aK aL ⊢;omega
  refine lV (q:=Z k) T P ab ⟨C.out.rows,C.out.ag⟩ a6 K Dg fun bh aF aM E=>?_;have aY:=(aC.aL.cell _ _ _ aX);have aZ:=E.aL.cell _ _ _ aY;exact (Gf aM (bp.1 aZ).2 true).mono fun e bi q=>⟨false,q.1,q.s (aD.trans E)⟩
 ·exact lU T P ab ⟨C.out.rows,C.out.ag⟩ K fun e bh bi aF q E=>q.ha (aD.trans E)
end
def mF (z:az) (ax:List Int) (aH:List aA):az:=ax.reverse.foldl eC (aH.reverse.foldl e3 z)
section
theorem iN(c:aP h S w lim z bt D F ag W aR)(a:gq h B0 S w bt l D.nx bs a3 a8 bb)(g:ao aj 161 #[aa l,aa h.m] w fun e d=>e=ap (ah false)∧R d)(f: ∀ d,R d→a7 h bt n d Q):a7 h bt (n+1) w Q:=
 a7.then (nT c a (wT (b:=false) (xv (R:=R) ((bp.1 a.jR).2) g))) fun e d q=>⟨q.1,f d q.2⟩
theorem xu(i:aP h S w lim z bt D F ag W aR)(c:gq h B0 S w bt l D.nx (.func (.func bl) br bm) a3 a8 bb)(t:ao aj 161 #[aa l,aa h.m] w fun e d=>e=ap (ah true)∧bI h B0 S w lim aQ l (bE page a1 a2 news aN 7 op u aF aM no aL k.x P B I T C M aD E aC aE true aB) k P B I T C M m d op u aF ax aM no aL bf aD E aC aH)(s:dH bl)
  (v: ∀ d,aP h m d lim aQ bt D F ag W aR→bD S w m d→ao aj bl (br.push (ah true)++bm) d fun e j=> ∃ b,e=ap (ah b)∧Q e j):a7 h bt 1 w Q:=by
 refine a7.one (nT i c ?_);refine xx (f:=bl) (first:=br) (cap:=bm) (R:=fun g=>bI h B0 S w lim aQ l (bE page a1 a2 news aN 7 op u aF aM no aL k.x P B I T C M aD E aC aE true aB) k P B I T C M m g op u aF ax aM no aL bf aD E aC aH) ((bp.1 c.jR).2) t (fun g a=>?_) (fun g a=>nn a.box) s (fun g j a p=>?_)
 ·have o:=c.av a.av;exact⟨(bp.1 o.jR).2,(bp.1 o.hR).2⟩
 ·have r:=(i.av a.av a.mem ⟨i.c5,c.cH⟩).aC p;exact(v j r (a.av.goes.trans p.av)).mono fun e x ⟨b,n,q⟩=>⟨b,n,b,n,q⟩
theorem EC(g:aP h S w lim z bt D F ag W aR)(b:gq h B0 S w bt l D.nx bs a3 a8 bb)(p:ao aj 161 #[aa l,aa h.m] w fun e d=>e=ap (ah true)∧∃ t a,cm (ay d m) (.iface t a) c∧bI h B0 S w lim aQ l (bE page a1 a2 news aN 7 op u aF aM no aL k.x P B I T C M aD E aC aE false (.iface t a)) k P B I T C M m d op u aF ax aM no aL bf aD E aC aH)
  (o: ∀ e d f,iE h m lim aQ bt D F ag W aR d c e f→bD S w m d→Q e f):a7 h bt 1 w Q:=by
 refine a7.one (nT g b ?_);refine xw (bt:=bt) (R:=fun d t a=>cm (ay d m) (.iface t a) c∧bI h B0 S w lim aQ l (bE page a1 a2 news aN 7 op u aF aM no aL k.x P B I T C M aD E aC aE false (.iface t a)) k P B I T C M m d op u aF ax aM no aL bf aD E aC aH) ((bp.1 b.jR).2) p (fun d t a ⟨B,R⟩=>?_) (fun d t a ⟨B,R⟩=>nn R.box) (fun d f t a ⟨B,R⟩ i=>?_)
 ·have j:=b.av R.av;exact⟨(bp.1 j.jR).2,(bp.1 j.mq).2⟩
 ·have n:=(g.av R.av R.mem ⟨g.c5,b.cH⟩).aC i;exact(mv n (.iface t a) c (cm.ex B (bX i m))).mono fun e r q=>⟨false,q.1,false,q.1,o e f r q (R.av.goes.trans i.av)⟩
abbrev k0 (h:aV) (B0:Nat) (lim:aK) (aQ:az) (l:Nat) (page a1 a2:Int) (news:Nat) (aN:ak) (k:ar) (P:Option ai) (B I:Nat) (T:Option ai) (C M:Nat) (op:Option ai) (u aF:Nat) (ax:List Int) (aM:Option ai) (no aL:Nat) (bf:List ar) (aD:Option ai) (E aC:Nat) (aH:List aA) (aE:Nat) (c:Int) (S:List Nat) (w:ad) (e:Ending) (d:ad):Prop:=
 ∃ t a,e=ap (ah (gE u E==7))∧cm (ay d S) (.iface t a) c∧bI h B0 S w lim aQ l (bE page a1 a2 news aN (gE u E) op u aF aM no aL k.x P B I T C M aD E aC aE false (.iface t a)) k P B I T C M S d op u aF ax aM no aL bf aD E aC aH
theorem xH{b:List bB}(e:b.length=n+1): ∃ a,b[n]?=Z a∧b=b.take n++[a]:=by
 have c:n < b.length:=K;refine⟨b[n],cP c,?_⟩;have d:b.drop n=[b[n]]:=by rw[kQ c,rG K]
 rw[←d,jF]
theorem DJ{a:Nat}(b:p≠a): (eC z (p:Int)).ax[a]?=z.ax[a]?:=by
 unfold eC;simp only[kd];rw[ll b]
theorem l1: ∀ (E u:Nat) (aF aC:Nat) (aD op:Option ai) (ax:List Int) (aH:List aA) (S:List Nat) (w:ad) (z aQ:az),E≤900→u≤900→aP h S w lim z bt D F ag W aR→gq h B0 S w bt l D.nx bs a3 a8 bb→(ao aj 161 #[aa l,aa h.m] w (k0 h B0 lim aQ l page a1 a2 news aN k P B I T C M op u aF ax aM no aL bf aD E aC aH aE c S w))→
  ax.length=u→aH.length=E→(∀ r∈aH,∃ y,Live aQ r y)→aH.Nodup→(∀ p∈ax,∃ (ar:Nat) (q:Option aA),p=(ar:Int)∧aQ.ax[ar]?=Z (Z q))→ax.Nodup→bD S0 w0 S w→
  (∀ e d g m,iE h m lim (mF aQ ax aH) bt D F ag W aR d c e g→bD S0 w0 m d→Q e g)→a7 h bt (1+E+u) w Q:=by
 intro E;induction E with
 |zero=>
  intro u;induction u with
  |zero=>
   intro aF aC aD op ax aH S w z aQ _ _ j f L ae am av A ab v N G;obtain rfl:ax=[]:=gH.1 ae;obtain rfl:aH=[]:=gH.1 am;exact EC j f (L.mono fun e d ⟨t,a,B,C,be⟩=>⟨B,t,a,C,be⟩) fun e d g q aZ=>G e d g S q (N.trans aZ)
  |succ u ih=>
   intro aF aC aD op ax aH S w z aQ aX aY j f L ae am av A ab v N G;obtain rfl:aH=[]:=gH.1 am;obtain ⟨p,a4,al⟩:=xH ae;obtain ⟨ar,q,rfl,a5⟩:=ab p (by rw [al];simp);refine iN (n:=1+0+u) (R:=fun d=> ∃ t a,cm (ay d S) (.iface t a) c∧bI h B0 S w lim aQ l (bE page a1 a2 news aN 6 op (u+1) aF aM no aL k.x P B I T C M aD 0 aC aE false (.iface t a)) k P B I T C M S d op (u+1) aF ax aM no aL bf aD 0 aC []) j f (L.mono fun e d ⟨t,a,aI,o,aJ⟩=>⟨aI,t,a,o,aJ⟩) fun aV ⟨t,a,o,R⟩=>?_;have aO:=j.av R.av R.mem ⟨j.c5,f.cH⟩;have aS:=f.av R.av;have aT: ∀ b∈h.l,b < B0:=f.e4;have aU:=Hb R.now aT K a4 a5;refine ih aF aC aD op (ax.take u) [] S aV aQ (eC aQ (ar:Int)) K K aO aS (aU.mono fun e g ⟨s,i⟩=>⟨t,a,s,o.aL i.av.aL,i⟩) lu rfl (fun r a6=>by cases a6) iX (fun x aq=>?_) ?_ (N.trans R.av.goes) fun e d g aG s i=>G e d g aG ?_ i
   ·obtain ⟨bh,bg,rfl,bc⟩:=ab x (by rw [al];simp [aq]);refine ⟨bh,bg,rfl,?_⟩;rw [DJ,bc];rintro rfl;rw [al] at v;exact (kI.1 v).2.2 _ aq _ J rfl
   ·rw [al] at v;exact (kI.1 v).1
   ·have aK:mF aQ ax []=mF (eC aQ (ar:Int)) (ax.take u) []:=by
     conv=>lhs;rw [al]
     simp [mF]
    rw [aK];exact s
 |succ E ih=>
  intro u aF aC aD op ax aH S w z aQ aX aY j f L ae am av A ab v N G;obtain ⟨r,a9,an⟩:=xH am;obtain ⟨y,aW⟩:=av r (by rw [an];simp);rw [show 1+(E+1)+u=(1+E+u)+1 by omega];refine iN (n:=1+E+u) (R:=fun d=> ∃ t a,cm (ay d S) (.iface t a) c∧bI h B0 S w lim aQ l (bE page a1 a2 news aN 5 op u aF aM no aL k.x P B I T C M aD (E+1) aC aE false (.iface t a)) k P B I T C M S d op u aF ax aM no aL bf aD (E+1) aC aH) j f (L.mono fun e d ⟨t,a,aI,o,aJ⟩=>⟨aI,t,a,o,aJ⟩) fun aV ⟨t,a,o,R⟩=>?_;have aO:=j.av R.av R.mem ⟨j.c5,f.cH⟩;have aS:=f.av R.av;have aT: ∀ b∈h.l,b < B0:=f.e4;have aU:=Ha R.now aT K K a9 aW;refine ih u aF aC aD op ax (aH.take E) S aV aQ (e3 aQ r) K K aO aS (aU.mono fun e g ⟨s,i⟩=>⟨t,a,s,o.aL i.av.aL,i⟩) ae lu (fun x aq=>?_) ?_ ab v (N.trans R.av.goes) fun e d g aG s i=>G e d g aG ?_ i
  ·obtain ⟨bi,bd⟩:=av x (by rw [an];simp [aq]);refine ⟨bi,qV aW bd ?_⟩;rintro rfl;rw [an] at A;exact (kI.1 A).2.2 _ aq _ J rfl
  ·rw [an] at A;exact (kI.1 A).1
  ·have aK:mF aQ ax aH=mF (e3 aQ r) ax (aH.take E):=by
    conv=>lhs;rw [an]
    simp [mF]
   rw [aK];exact s
end
end Go.Proofs.YtbkmjhhpcinppaaGreatDoor
