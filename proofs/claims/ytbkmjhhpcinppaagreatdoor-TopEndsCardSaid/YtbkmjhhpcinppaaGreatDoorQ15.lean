import Derived.Test.YtbkmjhhpcinppaaGreatDoorQ14
namespace Go.Proofs.YtbkmjhhpcinppaaGreatDoor
set_option linter.unusedVariables false
set_option linter.defProp false
set_option linter.unusedSimpArgs false
set_option maxRecDepth 100000
set_option maxHeartbeats 40000000
open Go.BigFrame Go.RowKit Go.WideShapes
open Ending renaming returned→ap
open Go renaming Addr→ai,Calls→ao,Value→ak,World→ad
open Go.Proofs.Tryz renaming prog→aj
open IntKind renaming i64→U
open Obj renaming cells→X
open Option renaming none→V,some→Z
open Value renaming agg→aw,bool→ah,int→O,nilIface→aB,pointer→au,slice→ac,string→af,tuple→a0
open World renaming alloc→H,setCells→ba
variable {f : aV} {M : az} {S : List Nat} {a b : Int} {c k n t : Nat} {l v : ak} {lim : aK} {o : Option Int} {d h j g : ad} {z : List ak} {m : Type}
section
def lE (a:jJ):Int×Int:=match a with| .ok r _=>((r.i:Int)+1,(r.g:Int))| .no _=>(0,0)
def nf (a:jJ):Option Int:=match a with| .ok _ _=>V| .no c=>Z c
def ql (a:jJ) (M:az):az:=match a with| .ok _ b=>b| .no _=>M
def sZ (o:Option Int):ak:=match o with|none=>aB|some c=>fR c
theorem AU(l:aX f S d lim M)(y:ar)(j:Option ai)(g a:Nat)(k:Option ai)(i b:Nat)(m:b3 (ay d S) y j g a k i b)(n:bT y):
  ao aj 27 #[aa f.a,aW y.x j g a k i b] d fun e h=>e=ap (a0 #[aw #[O U (lE (b2 lim.count M y)).1,O U (lE (b2 lim.count M y)).2],sZ (nf (b2 lim.count M y))])∧aX f S h lim (ql (b2 lim.count M y) M)∧Mod [f.s] d h:=
 (vx l y j g a k i b m n).mono fun e h q=>by
  revert q;cases b2 lim.count M y with
  |ok r t=>exact id
  |no c=>exact fun ⟨o,p,s⟩=>⟨o,p,s.mod _⟩
theorem A3{cnt:Nat}{y:ar}(d:ad):eH d (sZ (nf (b2 cnt M y))) (nf (b2 cnt M y)):=by
 cases a:b2 cnt M y with
 |ok r b=>rfl
 |no c=>
  rcases mn a with rfl|rfl
  ·exact .code 3 bP
  ·exact .code 5 bP
theorem eH.boxed{b:Nat}(c:eH (ay d (b::S)) v o)(a:List ak):eH (ay (ba d b 0 a) (b::S)) v o:=c.ex ((Mod.setCells (S:=[b]) J a 0 d).jT J)
theorem eH.less{S':List Nat}(a:eH (ay d S) v o)(c: ∀ b∈S',b∈S):eH (ay d S') v o:=a.ex (oX d c)
def r5 (f:aV) (S:List Nat) (lim:aK) (M:az) (d:ad) (a:jJ) (e:Ending) (h:ad):Prop:=
 ∃ v,e=ap (a0 #[aw #[O U (lE a).1,O U (lE a).2],v])∧eH (ay h S) v (nf a)∧aX f S h lim (ql a M)∧Mod [f.m,f.s] d h
def pW (f:aV) (S:List Nat) (lim:aK) (M:az) (d j:ad) (a b:Int) (l:ak) (g h:ak) (e:ad):Prop:=
 ∃ c,g=au (Z ⟨c,0,V⟩)∧h=l∧ae e c [O U a,O U b]∧aX f ((d.heap.size+1)::S) e lim M∧Mod [f.s] j e∧j.heap.size≤c
theorem AR(h:aX f ((d.heap.size+1)::S) g lim M)(c:Mod [f.s] j g)(e:TypeId):
  pW f S lim M d j a b l (au (Z g)) l (H g (X #[O U a,b] e)):=
 ⟨_,rfl,rfl,(ae.new g _ _ rfl).of J,h.I ((Y.refl g).alloc _),c.trans (((Y.refl g).alloc _).mod _),c.size⟩
theorem AS(m:aX f (j.heap.size:: (d.heap.size+1)::S) g lim M)(k: ∀ c∈f.l,c∈(d.heap.size+1)::S)(i:j.heap.size∉f.l)(n:Mod [f.s] j g)(h:ae g j [O U 0,O U 0]):
  pW f S lim M d j a b l (au (Z j)) l (ba g j 0 [O U a,b]):=
 ⟨_,rfl,rfl,h.aR rfl,m.boxed i k _,n.then (Mod.setCells (S:=[j.heap.size]) J _ _ _) (fun c e=>by rw[aO]at e;subst e;exact .inr (aG _)),aG _⟩
theorem AW(A:aX f S d lim M)(y:ar)(r:Option ai)(n k:Nat)(s:Option ai)(o m:Nat)(aD:b3 (ay d S) y r n k s o m)(aJ:bT y):
  ao aj 206 #[aa f.m,aW y.x r n k s o m] d (r5 f S lim M d (b2 lim.count M y)):=by
 have R:Y d ((H d (X (an y.x r n k s o m) 85)).alloc (X #[O U 0,O U 0] 78)):=((Y.refl d).alloc _).alloc _;have aY:ae ((H d (X (an y.x r n k s o m) 85)).alloc (X #[O U 0,O U 0] 78)) d.heap.size (an y.x r n k s o m):=((ae.new d _ _ rfl).of J).I ((Y.refl _).alloc _);have az:ae ((H d (X (an y.x r n k s o m) 85)).alloc (X #[O U 0,O U 0] 78)) (d.heap.size+1) [O U 0,O U 0]:=(ae.new (H d _) _ _ dW).of J;have Q:=N (A.hE (b:=d.heap.size+1) (gl d));have aI:=N (A.hE (aG d));have I:=N A.sub;have aL:=A.more R (b:=d.heap.size+1) K (az.lt J);have bh:=N (jv aL);have aE:b3 (ay ((H d (X (an y.x r n k s o m) 85)).alloc (X #[O U 0,O U 0] 78)) ((d.heap.size+1)::S)) y r n k s o m:=aD.ex (R.aL fun b t=>by
  rcases bd.1 t with rfl|t
  ·exact .inr (gl _)
  ·exact .inl t)
 have aS:=N aE;have aR:=N fun j=>A3 (cnt:=lim.count) (M:=M) (y:=y) j;have al:=N fun g ax (ag:aX f ax g lim M) (a5:b3 (ay g ax) y r n k s o m)=>AU ag y r n k s o m a5 aJ;have aF: ∀ (v:ak) (h:ad),eH (ay h S) v (nf (b2 lim.count M y))∧aX f S h lim (ql (b2 lim.count M y) M)∧Mod [f.m,f.s] d h→r5 f S lim M d (b2 lim.count M y) (ap (a0 #[aw #[O U (lE (b2 lim.count M y)).1,O U (lE (b2 lim.count M y)).2],v])) h:=fun v h q=>⟨v,rfl,q⟩;have aT:=N aF;clear A aL aD aE aF;generalize r5 f S lim M d (b2 lim.count M y)=bA at *;generalize (lE (b2 lim.count M y)).1=w at *;generalize (lE (b2 lim.count M y)).2=x at *;generalize ql (b2 lim.count M y) M=F at *;generalize nf (b2 lim.count M y)=aN at *;generalize sZ aN=l at *;go_enter Tryz.func206,Tryz.ntmps206;go_upto_region 1 with fail
 generalize (H d (X (an y.x r n k s o m) 85)).alloc (X #[O U 0,O U 0] 78)=bB at *;go_upto_region 4 with (go_at_call 32;(with_reducible refine bh.out.mono ?_);rintro e j ⟨rfl,B,C⟩)
 have a2:d.heap.size∉[f.m]:=fun q=>aI.out (by rw [aO.1 q];simp);have a3:d.heap.size+1∉[f.m]:=fun q=>Q.out (by rw [aO.1 q];simp);have bJ:d.heap.size∉[f.s]:=fun q=>aI.out (by rw [aO.1 q];simp);have a4:d.heap.size+1∉[f.s]:=fun q=>Q.out (by rw [aO.1 q];simp);have bI:f.m∉[f.s]:=fun q=>B.ne.q0 (aO.1 q);have i:=C.box a2 aY;have aA:=C.box a3 az;obtain ⟨bE,L⟩:=B.mem;have a7:=L.cell 7 rfl;have am:=N (aS.out.ex (C.jT (fun b t=>by rw [aO] at t;subst t;exact h5 _ (I.out _ J))));have aq:=N B;have aU:=N C;have bK:d.heap.size+1 < j.heap.size:=aA.lt J;have bF:f.m < j.heap.size:=L.lt J;have aM:=N (B.hE (aG j));have a6:j.heap.size∉[f.s]:=fun q=>aM.out (by rw [aO.1 q];simp);have bj:=i.cell 0 rfl;have x1:=i.cell 1 rfl;have bp:=i.cell 2 rfl;have bq:=i.cell 3 rfl;have br:=i.cell 4 rfl;have bs:=i.cell 5 rfl;have bt:=i.cell 6 rfl;have bv:=i.cell 7 rfl;have bw:=i.cell 8 rfl;have bx:=i.cell 9 rfl;have bk:=i.cell 10 rfl;have bl:=i.cell 11 rfl;have bm:=i.cell 12 rfl;have bn:=i.cell 13 rfl;have bo:=i.cell 14 rfl;clear L B C aJ bh;go_cut [6,7] (fun bf bg bi=>pW f S lim F d j w x l bf bg bi)
 case first=>
  go_region_held3 (fun a=>a.cell? d=Z (O U y.x.r.kind)∧a.cell? ⟨d,1,V⟩=Z (af y.x.r.low)∧a.cell? ⟨d,2,V⟩=Z (af y.x.r.high)∧a.cell? ⟨d,3,V⟩=Z (ah y.x.r.unb)∧a.cell? ⟨d,4,V⟩=Z (O U y.x.r.right)∧a.cell? ⟨d,5,V⟩=Z (ac r n k)∧a.cell? ⟨d,6,V⟩=Z (ac s o m)∧a.cell? ⟨d,7,V⟩=Z (af y.x.r.key)∧a.cell? ⟨d,8,V⟩=Z (af y.x.r.val)∧a.cell? ⟨d,9,V⟩=Z (O U y.x.r.page)∧a.cell? ⟨d,10,V⟩=Z (O U y.x.aH)∧a.cell? ⟨d,11,V⟩=Z (O U y.x.bb)∧a.cell? ⟨d,12,V⟩=Z (af y.x.aD)∧a.cell? ⟨d,13,V⟩=Z (O U y.x.slot)∧a.cell? ⟨d,14,V⟩=Z (O U y.x.gen)∧a.cell? ⟨f.m,7,V⟩=Z (aa f.a)) ((first|(have kG:=D;exact ky)|exact ky)) (first|(go_at_call 27;(refine (al.out _ (j.heap.size:: (d.heap.size+1)::S) ?_ ?_).mono ?_;(focus (refine aq.out.more dh (aG _) ?_;show _ < (H j _).heap.size;rw [dL];omega;done));(focus (refine am.out.ex (Y.aL dh (fun b t=>(bd.1 t).elim (fun q=> .inr (hG q.symm)) .inl));done)));rintro e g ⟨rfl,P,D⟩;(have ab:Mod [f.s] j g:=Mod.trans (Y.mod dh _) D);have u:=D.box a6 ((((ae.new j #[O U 0,O U 0] 78 (b:=j.heap.size) rfl).I ((Y.refl _).drew)).of (us:=[O U 0,O U 0]) J));have bb:=u.cell 0 rfl;have a8:=u.free 0 J;have bc:=u.cell 1 rfl;have a9:=u.free 1 J)|(go_at_call 27;(refine (al.out _ ((d.heap.size+1)::S) ?_ ?_).mono ?_;(focus (exact aq.out.I dh));(focus (exact am.out.ex (bX dh _))));rintro e g ⟨rfl,P,D⟩;(have ab:Mod [f.s] j g:=Mod.trans (Y.mod dh _) D)));all_goals (go_wp2_with fail;go_meet;first|(with_reducible exact AR P ab _)|(exact (show pW f S lim F d j w x l (au (Z j)) l (ba g j 0 [O U w,x]) from AS P (fun c E=>h5 _ (I.out c E)) aM.out ab u)))
 case rest=>
  obtain ⟨aC,rfl,rfl,u,aH,W,bG⟩:=hcut;have aZ:=W.box a4 aA;have av:=N aH;have aV:=N W;have aQ:=N fun p be g (ag:aX f ((d.heap.size+1)::S) g lim F)=>Bv p be u7 aN g ((d.heap.size+1)::S) ag.old (aR.out _);have bC:=u.cell 0 rfl;have bD:=u.cell 1 rfl;clear aH W a7 bj x1 bp bq br bs bt bv bw bx bk bl bm bn bo;go_wp2_with fail;go_region_held3 (fun a=>a.cell? aC=Z (O U w)∧a.cell? ⟨aC,1,V⟩=Z (O U x)) ((first|(have kG:=aK;exact b9)|exact b9)) (first|(go_at_call 55;(refine (aQ.out _ _ _ ?_).mono ?_);(focus (exact av.out.I dh));rintro e aP ⟨bL,rfl,a1,aK⟩;(have T:Y wc aP:=Y.trans dh aK);have z:=aZ.I T;have bb:=z.cell 0 rfl;have a8:=z.free 0 J;have bc:=z.cell 1 rfl;have a9:=z.free 1 J));all_goals
   go_wp2_with fail;show bodyPost _ _ _ _ _ (ba aP (d.heap.size+1) 0 [O U w,x]);refine bH ((z.aR (us:=[O U w,x]) rfl).cK rfl _ rfl rfl dm rfl G) rfl ?_;refine aT.out _ _ ⟨(a1.boxed _).less (fun b t=>h5 _ t),(av.out.I T).boxed Q.out I.out _,?_⟩;exact ((((R.mod [f.m,f.s]).trans (aU.out.sub J)).trans (aV.out.sub J)).trans (T.mod _)).then (Mod.setCells (S:=[d.heap.size+1]) J _ _ _) (fun c E=>by rw [aO] at E;subst E;exact .inr (gl _))
end
section
theorem wP(c:aX f S d lim M){r:aA}{y:ar}(t:Live M r y):
  ao aj 182 #[aa f.m,j2 r] d fun e h=>e=ap aB∧aX f S h lim (e3 M r)∧Mod [f.m,f.s] d h:=by
 have n:Y d (H d (X #[O U ((r.i:Int)+1),(r.g:Int)] 78)):=(Y.refl d).alloc _;have A:ae (H d (X #[O U ((r.i:Int)+1),(r.g:Int)] 78)) d.heap.size [O U ((r.i:Int)+1),(r.g:Int)]:=(ae.new d _ _ rfl).of J;have m:=N (c.hE (aG d));have bh:=N (jv (c.I n));clear c;go_enter Tryz.func182,Tryz.ntmps182;go_upto_region 1 with fail
 generalize H d (X #[O U ((r.i:Int)+1),(r.g:Int)] 78)=I at *;go_upto_region 4 with(go_at_call 32;(with_reducible refine bh.out.mono ?_);rintro e j ⟨rfl,a,i⟩)
 have D:d.heap.size∉[f.m]:=fun q=>m.out (by rw[aO.1 q];simp);have P:d.heap.size∉[f.s]:=fun q=>m.out (by rw[aO.1 q];simp);have L:f.m∉[f.s]:=fun q=>a.ne.q0 (aO.1 q);have k:=i.box D A;have R:=k.cell 0 rfl;have x1:=k.cell 1 rfl;obtain⟨K,l⟩:=a.mem;have Q:=l.cell 7 rfl;have x:=N a;have z:=N i;have w:=N fun g (E:aX f S g lim M)=>DD E t;have v:=N fun p F g=>jQ p F g;clear l a i t bh;go_region_held3(fun b=>b.cell? d=Z (O U ((r.i:Int)+1))∧b.cell? ⟨d,1,V⟩=Z (O U (r.g:Int))∧b.cell? ⟨f.m,7,V⟩=Z (aa f.a)) (first|(first|(have kG:=u;exact ky)|exact ky)|(first|(have kG:=o;exact b9)|exact b9)) (first|(go_at_call 192;(refine(w.out _ ?_).mono ?_);(focus(exact x.out.I dh));rintro e g ⟨rfl,B,u⟩;(have C:Mod [f.s] j g:=Mod.trans (Y.mod dh _) u))|(go_at_call 55;(refine(v.out _ _ _).mono ?_);rintro e G ⟨rfl,o⟩;(have s:Y g G:=Y.trans dh o)));all_goals
  go_wp2_with fail;go_ret;exact⟨rfl,B.I s,(((n.mod [f.m,f.s]).trans (z.out.sub J)).trans (C.sub J)).trans (s.mod _)⟩
theorem zg(c:aX f S d lim M){p:Nat}{q:Option aA}(y:M.ax[p]?=Z (Z q))(r:Option aA):
  ao aj 196 #[aa f.m,(p:Int),nJ q,nJ r] d fun e h=>e=ap (a0 #[ah true,aB])∧aX f S h lim (b1 M (p:Int) r)∧Mod [f.m,f.p] d h:=by
 have v:Y d ((H d (X (da q) 78)).alloc (X (da r) 78)):=((Y.refl d).alloc _).alloc _;have F:ae ((H d (X (da q) 78)).alloc (X (da r) 78)) d.heap.size (da q):=((ae.new d _ _ rfl).of J).I ((Y.refl _).alloc _);have G:ae ((H d (X (da q) 78)).alloc (X (da r) 78)) (d.heap.size+1) (da r):=(ae.new (H d _) _ _ dW).of J;have u:=N (c.hE (aG d));have t:=N (c.hE (b:=d.heap.size+1) (gl d));have bh:=N (jv (c.I v));clear c;go_enter Tryz.func196,Tryz.ntmps196;go_upto_region 1 with fail
 generalize (H d (X (da q) 78)).alloc (X (da r) 78)=W at *;go_upto_region 4 with (go_at_call 32;(with_reducible refine bh.out.mono ?_);rintro e j ⟨rfl,i,k⟩)
 have I:d.heap.size∉[f.m]:=fun q=>u.out (by rw [aO.1 q];simp);have K:d.heap.size+1∉[f.m]:=fun q=>t.out (by rw [aO.1 q];simp);have al:d.heap.size∉[f.p]:=fun q=>u.out (by rw [aO.1 q];simp);have am:d.heap.size+1∉[f.p]:=fun q=>t.out (by rw [aO.1 q];simp);have ag:f.m∉[f.p]:=fun q=>i.ne.tB (aO.1 q);have m:=k.box I F;have R:=m.cell 0 rfl;have x1:=m.cell 1 rfl;have n:=k.box K G;have c7:=n.cell 0 rfl;have T:=n.cell 1 rfl;obtain ⟨ab,o⟩:=i.mem;have P:=o.cell 8 rfl;have B:=N i;have D:=N k;have A:=N fun g (L:aX f S g lim M)=>zh L y r;have z:=N fun p Q g=>jQ p Q g;clear o i k y bh;go_region_held3 (fun a=>a.cell? d=Z (O U (a4 q).1)∧a.cell? ⟨d,1,V⟩=Z (O U (a4 q).2)∧a.cell? ⟨d.heap.size+1,0,V⟩=Z (O U (a4 r).1)∧a.cell? ⟨d.heap.size+1,1,V⟩=Z (O U (a4 r).2)∧a.cell? ⟨f.m,8,V⟩=Z (aa f.t)) (first|(first|(have kG:=l;exact ky)|exact ky)) (first|(go_at_call 29;(refine (A.out _ ?_).mono ?_);(focus (exact B.out.I dh));rintro e g ⟨rfl,s,l⟩;(have x:Mod [f.p] j g:=Mod.trans (Y.mod dh _) l)));all_goals
  have C:=N s;have E:=N x;clear s x l R x1 c7 T P;go_wp2_with (go_at_call 55;(refine (z.out _ _ _).mono ?_);rintro e an ⟨rfl,w⟩);go_ret2;exact ⟨rfl,C.out.I w,(((v.mod [f.m,f.p]).trans (D.out.sub J)).trans (E.out.sub J)).trans (w.mod _)⟩
theorem wV(b:aX f S d lim M){p:Nat}{q:Option aA}(o:M.ax[p]?=Z (Z q)):
  ao aj 183 #[aa f.m,(p:Int)] d fun e h=>e=ap aB∧aX f S h lim (eC M (p:Int))∧Mod [f.m,f.p] d h:=by
 have bh:=N (jv b);have w:=N o;clear b o;go_enter Tryz.func183,Tryz.ntmps183;go_wp2_with fail;refine bh.out.mono ?_;rintro e j ⟨rfl,a,l⟩;have t:=N (DK a w.out);obtain⟨n,i⟩:=a.mem;have y:=i.cell 8 rfl;have u:=N l;clear i a l;go_wp2_with fail;refine t.out.mono ?_;rintro e g ⟨rfl,c,m⟩;have s:=N fun p x=>jQ p x g;have r:=N c;have v:=N ((u.out.sub (S':=[f.m,f.p]) J).trans (m.sub J));clear c m;go_wp2_with(go_at_call 55;(with_reducible refine(s.out _ _).mono ?_);rintro e z ⟨rfl,k⟩);go_ret;exact⟨rfl,r.out.I k,v.out.trans (k.mod _)⟩
def AB (f:aV) (S:List Nat) (lim:aK) (d:ad) (a:Option (Nat×az)) (M:az) (e:Ending) (h:ad):Prop:=
 match a with
 |some (p,b)=>e=ap (a0 #[O U (p:Int),aB])∧aX f S h lim b∧Mod [f.m,f.p] d h
 |none=> ∃ v,e=ap (a0 #[O U 0,v])∧cm (ay h S) v 3∧aX f S h lim M∧Mod [f.m,f.p] d h
theorem Hq(q:aX f S d lim M):
  ao aj 194 #[aa f.m] d (AB f S lim d (eR M) M):=by
 have bh:=N (jv q);clear q;go_enter Tryz.func194,Tryz.ntmps194;go_wp2_with fail;refine bh.out.mono ?_;rintro e j ⟨rfl,h,t⟩;have c:=N (zl h);obtain⟨n,s⟩:=h.mem;have C:=s.cell 8 rfl;have m:=N h;have o:=N t;clear s h t;cases a:eR M with
 |none=>
  rw[a]at c;have k:=N a;clear a;go_wp2_with fail;refine c.out.mono ?_;rintro e g ⟨rfl,rfl⟩;have i:=N fun p l=>oG p l _ 3 j S m.out.old (wj _ 3 bP);go_wp2_with(go_at_call 55;(with_reducible refine(i.out _ _).mono ?_);rintro e A ⟨v,rfl,z,b⟩);go_ret2;rw[k.out];exact⟨v,rfl,z,m.out.I b,(o.out.sub J).trans (b.mod _)⟩
 |some x=>
  obtain⟨p,B⟩:=x;rw[a]at c;have k:=N a;clear a;go_wp2_with fail;refine c.out.mono ?_;rintro e g ⟨rfl,r,u⟩;have i:=N fun p l=>jQ p l g;have w:=N r;have y:=N ((o.out.sub (S':=[f.m,f.p]) J).trans (u.sub J));clear r u;go_wp2_with(go_at_call 55;(with_reducible refine(i.out _ _).mono ?_);rintro e A ⟨rfl,b⟩);go_ret2;rw[k.out];exact⟨rfl,w.out.I b,y.out.trans (b.mod _)⟩
theorem D6(i:aX f S d lim M){p:Nat}{q:Option aA}(E:M.ax[p]?=Z (Z q)):
  ao aj 115 #[aa f.m,(p:Int)] d fun e h=>e=ap (a0 #[nJ q,aB])∧aX f S h lim M∧Mod [f.m] d h:=by
 have A:Y d (H d (X #[O U 0,O U 0] 78)):=(Y.refl d).alloc _;have u:ae (H d (X #[O U 0,O U 0] 78)) d.heap.size [O U 0,O U 0]:=(ae.new d _ _ rfl).of J;have y:=N (i.hE (aG d));have Q:=N i.sub;have D:=i.more A (b:=d.heap.size) (aG _) (u.lt J);have bh:=N (jv D);clear i D;go_enter Tryz.func115,Tryz.ntmps115;go_upto_region 1 with fail
 generalize H d (X #[O U 0,O U 0] 78)=ag at *;go_upto_region 4 with (go_at_call 32;(with_reducible refine bh.out.mono ?_);rintro e j ⟨rfl,k,o⟩)
 have R:d.heap.size∉[f.m]:=fun q=>y.out (by rw [aO.1 q];simp);have v:=o.box R u;obtain ⟨an,x⟩:=k.mem;have T:=x.cell 8 rfl;have K:=N k;have L:=N o;have s:=N (xe k E);have I:=N fun p W g=>jQ p W g;clear x k o E bh;go_upto_region 5 with (first|(go_at_call 67;(refine s.out.mono ?_);rintro e g ⟨rfl,l⟩)|(refine dY rfl 78 _ _ rfl _ 0 _ rfl rfl (ae.new _ _ _ rfl).may G G ?_))
 have r:=(ae.new g #[O U 0,O U 0] 78 rfl).aR (us:=da q) rfl;have B:Y g ((H g (X #[O U 0,O U 0] 78)).setCells g 0 (da q)):=((Y.refl g).alloc _).setCells (aG _) _ _;have m:=l.trans B;have aq:d.heap.size < g.heap.size:=(v.I l).lt J;clear l B s T;generalize (H g (X #[O U 0,O U 0] 78)).setCells g 0 (da q)=ab at *;generalize g.heap.size=w at *;have P:=v.I m;have al:=r.cell 0 rfl;have am:=r.cell 1 rfl;go_region_held3 (fun t=>t.cell? w=Z (O U (a4 q).1)∧t.cell? ⟨w,1,V⟩=Z (O U (a4 q).2)) ((first|(have kG:=C;exact b9)|exact b9)) (first|(go_at_call 55;(refine (I.out _ _ _).mono ?_);rintro e F ⟨rfl,C⟩;(have n:Y ab F:=Y.trans dh C);have a:=P.I n;have ax:=a.cell 0 rfl;have ar:=a.free 0 J;have ay:=a.cell 1 rfl;have av:=a.free 1 J));all_goals
  go_wp2_with fail;show bodyPost _ _ _ _ _ (ba F d 0 (da q));refine bH ((a.aR (us:=da q) rfl).cK rfl _ rfl rfl dm rfl G) rfl ?_;exact ⟨rfl,(K.out.I (m.trans n)).boxed y.out Q.out _,(((A.mod [f.m]).trans L.out).trans ((m.trans n).mod _)).then (Mod.setCells (S:=[d.heap.size]) J _ _ _) (fun c z=>by rw [aO] at z;subst z;exact .inr (aG _))⟩
end
theorem Ff{i a:Nat}{c:ak}(h:z.length=k)(d:i < n)(b:z[a]?=Z c): (madeCells z.toArray (n * k)).toList[i * k+a]?=Z c:=by
 have e:a < k:=by have:=(c3.1 b).1;omega
 have f:i * k+a < n * k:=by
  have:=kS k (show i+1≤n from d);rw[jI,n8]at this;omega
 have g: (i * k+a) % k=a:=by rw[pB,Nat.mul_add_mod,Nat.mod_eq_of_lt e]
 unfold madeCells;simp[Array.toList_map,f,h,g,List.getElem!_eq_getElem?_getD,b]
theorem vC{E:m→List ak→Prop}{x:m}(f:z.length=k)(g:E x z)(d:ad)(b:TypeId)(n:Nat):ez k E (H d (X (madeCells z.toArray (n * k)) b)) d.heap.size (List.replicate n x):=by
 have a:=ae.new d (madeCells z.toArray (n * k)) b rfl;refine⟨fun i y h=>?_,?_⟩
 ·obtain⟨c,e⟩:=c3.1 h;rw[List.getElem_replicate]at e;subst e;rw[ln]at c;refine⟨z,f,g,fun l o j=>?_⟩;have:=a.aM (i * k+l) o (Ff f c j);rwa[cv]at this
 ·have:=a.may;rw[uA,size_madeCells]at this;rw[ln];exact this
theorem ez.I{a:m→List ak→Prop}{b:Nat}{c:List m}(e:ez k a d b c)(g:Y d h)(f:b < d.heap.size):ez k a h b c:=e.block (Below.block g b f)
theorem yQ(d:ad):bk d V 0 0 []:=⟨rfl,aG _,aJ _,fun _=>rfl,⟨0,0,fun q=>absurd q K,fun i a=>absurd a K⟩,fun i a=>absurd a K⟩
structure mY (d:ad) (n c:Nat) (b a:Nat):Prop where
 box:ae d b [ac (Z ⟨a,0,V⟩) n n,O U (c:Int)]
 arr: ∀ e:ad,ez 17 (ko e) d a (List.replicate n (0,V))
 lt:b < d.heap.size∧a < d.heap.size
theorem mY.I{e f:Nat}(a:mY d n c e f)(b:Y d h):mY h n c e f:=⟨a.box.I b,fun g=>(a.arr g).I b a.lt.2,by have:=a.lt;have:=b.le;omega⟩
structure m7 (d:ad) (n:Nat) (bt a:Nat):Prop where
 box:ae d bt [ac (Z ⟨a,0,V⟩) n n]
 arr:ez 3 m3 d a (List.replicate n V)
 lt:bt < d.heap.size∧a < d.heap.size
theorem m7.I{e c:Nat}(a:m7 d n e c)(b:Y d h):m7 h n e c:=⟨a.box.I b,a.arr.I b a.lt.2,by have:=a.lt;have:=b.le;omega⟩
structure mZ (d:ad) (t c:Nat) (b a:Nat):Prop where
 box:ae d b [O U 1,O U (c:Int),O U (t:Int),.map (Z a)]
 map:eJ aj 3 d a (fun _=>V)
 lt:b < d.heap.size∧a < d.heap.size
theorem mZ.I{e f:Nat}(a:mZ d t c e f)(b:Y d h):mZ h t c e f:=⟨a.box.I b,a.map.I b,by have:=a.lt;have:=b.le;omega⟩
abbrev mI:List ak:=O U 0::ah false::al
theorem GR: (aj.info? 144).map (fun i=>(i.zero,i.size,i.bytes))=Z (Z (aw mI),17,208):=by kernel_rfl
theorem F2: (aj.info? 147).map (fun i=>(i.zero,i.size,i.bytes))=Z (Z (aw #[ah false,O U 0,O U 0]),3,24):=by kernel_rfl
theorem Fh(f:n≤4096)(d:ad): (Instr.makeSlice 133 (O U (n:Int)) (O U (n:Int))).run aj d= .ok (ac (Z ⟨d,0,V⟩) n n) (H d (X (madeCells mI.toArray (n * 17)) 144)):=by
 obtain⟨i,b,e,c,a⟩:=kO GR;have:=run_make (P:=aj) d 133 144 i _ Tryz.underlying133 b e U U (n:Int) (n:Int) K (mJ _) (by rw[a];omega) K;rw[c]at this;exact this
theorem Fg(f:n≤4096)(d:ad): (Instr.makeSlice 136 (O U (n:Int)) (O U (n:Int))).run aj d= .ok (ac (Z ⟨d,0,V⟩) n n) (H d (X (madeCells ([ah false,O U 0,O U 0]:List ak).toArray (n * 3)) 147)):=by
 obtain⟨i,b,e,c,a⟩:=kO F2;have:=run_make (P:=aj) d 136 147 i _ Tryz.underlying136 b e U U (n:Int) (n:Int) K (mJ _) (by rw[a];omega) K;rw[c]at this;exact this
theorem Fw(m:1≤n∧n≤4096)(s:1≤c∧c≤1099511627776)(d:ad):
  ao aj 24 #[O U (n:Int),(c:Int)] d fun e h=> ∃ f g,e=ap (aa f)∧mY h n c f g∧d.heap.size≤f∧d.heap.size≤g∧f≠g∧Y d h:=by
 have u:decide ((n:Int) < 1)=false:=dz K;have v:decide ((4096:Int) < (n:Int))=false:=dz K;have w:decide ((c:Int) < 1)=false:=dz K;have y:decide ((1099511627776:Int) < (c:Int))=false:=dz K;have B:=Fh (n:=n) m.2 d;have j: ∀ b:ad,ez 17 (ko b) (H d (X (madeCells mI.toArray (n * 17)) 144)) d.heap.size (List.replicate n (0,V)):=fun b=>vC (E:=ko b) (x:=((0:Nat),(none:Option ar))) (z:=mI) (k:=17) rfl rfl d 144 n;have o:=dL d (X (madeCells mI.toArray (n * 17)) 144);have t:=(Y.refl d).alloc (X (madeCells mI.toArray (n * 17)) 144);have p:=N j;have q:=N o;clear j o m s;go_enter Tryz.func24,Tryz.ntmps24;go_upto_region 3 with fail
 go_wp2_with fail;go_ret;generalize H d (X (madeCells mI.toArray (n * 17)) 144)=a at *;have i:ae (H a (X #[ac (Z ⟨d,0,V⟩) n n,(c:Int)] 135)) a.heap.size [ac (Z ⟨d,0,V⟩) n n,(c:Int)]:=(ae.new a _ _ rfl).of J;have l:Y a (H a (X #[ac (Z ⟨d,0,V⟩) n n,(c:Int)] 135)):=(Y.refl a).alloc _;have r:=q.out;have A:=i.lt J;exact ⟨a.heap.size,d.heap.size,by rw [r];rfl,⟨i,fun b=>(p.out b).I l K,K⟩,K,aG _,K,t.trans l⟩
theorem Fz(q:1≤n∧n≤256)(d:ad):
  ao aj 25 #[O U (n:Int)] d fun e h=> ∃ b c,e=ap (aa b)∧m7 h n b c∧d.heap.size≤b∧d.heap.size≤c∧b≠c∧Y d h:=by
 have r:decide ((n:Int) < 1)=false:=dz K;have s:decide ((256:Int) < (n:Int))=false:=dz K;have u:=Fg (n:=n) K d;have g:ez 3 m3 (H d (X (madeCells ([ah false,O U 0,O U 0]:List ak).toArray (n * 3)) 147)) d.heap.size (List.replicate n V):=vC (E:=m3) (x:=V) (z:=[ah false,O U 0,O U 0]) (k:=3) rfl rfl d 147 n;have j:=dL d (X (madeCells ([ah false,O U 0,O U 0]:List ak).toArray (n * 3)) 147);have p:=(Y.refl d).alloc (X (madeCells ([ah false,O U 0,O U 0]:List ak).toArray (n * 3)) 147);have l:=N g;have m:=N j;clear g j q;go_enter Tryz.func25,Tryz.ntmps25;go_upto_region 3 with fail
 go_wp2_with fail;go_ret;generalize H d (X (madeCells ([ah false,O U 0,O U 0]:List ak).toArray (n * 3)) 147)=a at *;have f:ae (H a (X #[ac (Z ⟨d,0,V⟩) n n] 138)) a.heap.size [ac (Z ⟨d,0,V⟩) n n]:=(ae.new a _ _ rfl).of J;have i:Y a (H a (X #[ac (Z ⟨d,0,V⟩) n n] 138)):=(Y.refl a).alloc _;have o:=m.out;have t:=f.lt J;exact ⟨a.heap.size,d.heap.size,by rw [o];rfl,⟨f,l.out.I i K,K⟩,K,aG _,K,p.trans i⟩
theorem Fx(q:1≤t∧t≤64)(o:1≤c∧c≤1099511627776)(d:ad):
  ao aj 26 #[O U (t:Int),(c:Int)] d fun e h=> ∃ b f,e=ap (aa b)∧mZ h t c b f∧d.heap.size≤b∧d.heap.size≤f∧b≠f∧Y d h:=by
 have r:decide ((t:Int) < 1)=false:=dz K;have s:decide ((64:Int) < (t:Int))=false:=dz K;have u:decide ((c:Int) < 1)=false:=dz K;have v:decide ((1099511627776:Int) < (c:Int))=false:=dz K;have x:= @run_makeMap aj;have i:eJ aj 3 (H d (.map #[] 0)) d.heap.size (fun _=>V):=eJ.made d;have k:=dL d (.map #[] 0);have p:=(Y.refl d).alloc (.map #[] 0);have l:=N i;have m:=N k;clear i k q o;go_enter Tryz.func26,Tryz.ntmps26;go_upto_region 3 with fail
 go_wp2_with fail;go_ret;generalize H d (.map #[] 0)=a at *;have g:ae (H a (X #[O U 1,(c:Int),(t:Int),.map (Z d.heap.size)] 141)) a.heap.size [O U 1,(c:Int),(t:Int),.map (Z d.heap.size)]:=(ae.new a _ _ rfl).of J;have j:Y a (H a (X #[O U 1,(c:Int),(t:Int),.map (Z d.heap.size)] 141)):=(Y.refl a).alloc _;have n:=m.out;have w:=g.lt J;exact ⟨a.heap.size,d.heap.size,by rw [n];rfl,⟨g,l.out.I j,K⟩,K,aG _,K,p.trans j⟩
theorem IE{n:Int}(c:a≤n∧n≤b)(d:ad):ao aj 49 #[O U n,a,b] d fun e h=>e=ap (ah true)∧d=h:=by
 have f:decide (a≤n)=true:=eo c.1;have g:decide (n≤b)=true:=eo c.2;clear c;go_enter Tryz.func49,Tryz.ntmps49;go_wp2_with fail;go_ret;exact ⟨rfl,rfl⟩
end Go.Proofs.YtbkmjhhpcinppaaGreatDoor
