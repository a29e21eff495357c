import Derived.Test.YtbkmjhhpcinppaaGreatDoorQ11
namespace Go.Proofs.YtbkmjhhpcinppaaGreatDoor
set_option linter.unusedVariables false
set_option linter.defProp false
set_option linter.unusedSimpArgs false
set_option maxRecDepth 100000
set_option maxHeartbeats 40000000
open Go.BigFrame Go.RowKit Go.WideShapes
open Ending renaming returned→ap
open Go renaming Addr→ai,Calls→ao,Value→ak,World→ad
open Go.Proofs.Tryz renaming prog→aj
open IntKind renaming i64→U
open Obj renaming cells→X
open Option renaming none→V,some→Z
open Value renaming agg→aw,bool→ah,int→O,nilIface→aB,pointer→au,slice→ac,string→af,tuple→a0
open World renaming alloc→H,setCells→ba
variable {f b t : Nat} {d h : ad} {w : List ak}
abbrev wk (e:cw):ak:=aw #[af e.key,O U e.page]
theorem Cl(v:aY)(o:Option ai)(n c:Nat)(a:ByteArray)(d:ad)(s:aZ d o n c v.ag)(ar:dZ v)(S:a.size≤maxLen){e:cw}(h:hx v a=Z e):
  ao aj 157 #[fg v o n c,a] d fun al ay=>al=ap (a0 #[wk e,aB])∧Y d ay:=by
 have x:Y d ((H d (X (bf v o n c) 95)).alloc (X #[af ⟨#[]⟩,O U 0] 174)):=((Y.refl d).alloc _).alloc _;have g:ae ((H d (X (bf v o n c) 95)).alloc (X #[af ⟨#[]⟩,O U 0] 174)) d.heap.size (bf v o n c):=((ae.new d _ _ rfl).of J).I ((Y.refl _).alloc _);have I:ae ((H d (X (bf v o n c) 95)).alloc (X #[af ⟨#[]⟩,O U 0] 174)) (d.heap.size+1) [af ⟨#[]⟩,O U 0]:=(ae.new (H d _) _ _ dW).of J;have w:=N fun m (aq:Y d m)=>ld v o n c a m (aZ.I s aq) S;have B:=N fun m=>qM v o n c a m ar S;obtain ⟨b,aE,aa,Q⟩:=s.get;have T:=s.len;have ab:=pb a v.ag;rw [T] at ab;have aD:=s.dj;have an:=s.dr;unfold maxLen at an;unfold hx at h;have R:gz v a=true:=by
  cases y:gz v a with
  |true=>rfl
  |false=>rw [y,a9 (.inl rfl)] at h;cases h
 have z:cY a v.ag=true→bG a v.ag < n:=fun q=>by
  unfold cY at q;rw [dp,T] at q;exact q.1
 rw [R] at h B;have F:=N aa;have E:=N Q;clear aa Q s R;generalize bG a v.ag=p at *;generalize M: (H d (X (bf v o n c) 95)).alloc (X #[af ⟨#[]⟩,O U 0] 174)=aA at *;generalize aC:d.heap.size=f at *;have l: ∀ t:Nat,(if cY a v.ag=true then p+1 else p)=t→0 < t∧t≤n∧e=bw v.ag (t - 1):=fun t W=>by
  rw [W] at h;have am:t≠0:=fun q=>by rw [a9 (.inr q)] at h;cases h
  rw [aS (fun q=>q.elim (fun r=>by cases r) am)] at h;refine ⟨K,?_,by simpa using h.symm⟩;rw [←W];split
  ·rename_i q;have:=z q;omega
  ·exact ab
 clear h;cases y:cY a v.ag
 ·rw [y] at w l;rw [aS bP] at l;obtain ⟨av,ax,rfl⟩:=l p rfl;have P:=fun m=>re c F.out (k:=(p:Int) - 1) K K m;have L: ((p:Int) - 1).toNat=p - 1:=K;rw [L] at P;obtain ⟨C,D, -⟩:=E.out (p - 1) K;clear l z;go_enter Tryz.func157,Tryz.ntmps157;go_upto_region 1 with fail
  clear M;go_upto_region 6 with (first|(refine e8 rfl 95 _ rfl _ 0 rfl _ _ (g).aM dB rfl G ?_)|(go_at_call 126;refine (w.out _ iB).mono ?_;rintro e m ⟨rfl,i⟩;have g:=g.I i)|(go_at_call 125;refine (B.out _).mono ?_;rintro e az ⟨rfl,j⟩;have g:=g.I j;have u:=(I.I i).I j;have A:=(qy C D).I ((x.trans i).trans j);have ag:=g.cell 4 rfl))
  go_wp2_with (first|(refine e8 rfl 174 _ rfl _ _ rfl _ _ (A).aM mN rfl G ?_)|(refine dY rfl 174 _ _ rfl _ 0 _ rfl rfl (u).may G G ?_));refine bH ((u.aR (us:=[af (bw v.ag (p - 1)).key,O U (bw v.ag (p - 1)).page]) rfl).cK rfl _ rfl rfl mN rfl G) rfl ?_;exact ⟨rfl,((x.trans i).trans j).setCells K _ _⟩
 ·rw [y] at w l z;rw [a9 rfl] at l;obtain ⟨av,ax,rfl⟩:=l (p+1) rfl;rw [rY];have P:=lg c F.out (k:=p) K;have L: ((p:Int)+1) - 1=p:=K;obtain ⟨C,D, -⟩:=E.out p K;clear l z;go_enter Tryz.func157,Tryz.ntmps157;go_upto_region 1 with fail
  clear M;go_upto_region 6 with (first|(refine e8 rfl 95 _ rfl _ 0 rfl _ _ (g).aM dB rfl G ?_)|(go_at_call 126;refine (w.out _ iB).mono ?_;rintro e m ⟨rfl,i⟩;have g:=g.I i)|(go_at_call 125;refine (B.out _).mono ?_;rintro e az ⟨rfl,j⟩;have g:=g.I j;have u:=(I.I i).I j;have A:=(qy C D).I ((x.trans i).trans j);have ag:=g.cell 4 rfl))
  go_wp2_with (first|(refine e8 rfl 174 _ rfl _ _ rfl _ _ (A).aM mN rfl G ?_)|(refine dY rfl 174 _ _ rfl _ 0 _ rfl rfl (u).may G G ?_));refine bH ((u.aR (us:=[af (bw v.ag p).key,O U (bw v.ag p).page]) rfl).cK rfl _ rfl rfl mN rfl G) rfl ?_;exact ⟨rfl,((x.trans i).trans j).setCells K _ _⟩
theorem Dm{x:Nat}(F:ae h b w){o:Option ai}{n c:Nat}{y:List cw}(B:bi fa 2 174 h x o n c y)(z:f≤x)(A:b < x)(D:Y d h)(C:d.heap.size≤b)(a e m p q r s t u v g i j k l:ak)(E:w.length=15):
  ae (g5 h b a e m p q r s t u v g i j k l) b [a,e,m,p,q,r,s,t,u,v,g,i,j,k,l]∧bi fa 2 174 (g5 h b a e m p q r s t u v g i j k l) f o n c y∧Y d (g5 h b a e m p q r s t u v g i j k l):=
 ⟨vM F E _ _ _ _ _ _ _ _ _ _ _ _ _ _ _,(show bi fa 2 174 (ba h b 0 [a,e,m,p,q,r,s,t,u,v,g,i,j,k,l]) x o n c y from g7 A _ 0 B).lower z,wX D C _ _ _ _ _ _ _ _ _ _ _ _ _ _ _⟩
theorem ni(v:aY)(g:Option ai)(n b:Nat)(d:ad)(q:aZ d g n b v.ag)(Q:n≤10000):
  ao aj 144 #[fg v g n b] d fun e x=> ∃ o c,e=ap (aW (bA v).x V 0 0 o v.ag.length c)∧bi fa 2 174 x d o v.ag.length c v.ag∧Y d x:=by
 have k:=dL;have i:ae ((H d (X (bf v g n b) 95)).alloc (X al 85)) d.heap.size (bf v g n b):=((ae.new d _ _ rfl).I ((Y.refl _).alloc _)).of J;have B:ae ((H d (X (bf v g n b) 95)).alloc (X al 85)) (d.heap.size+1) al:=(ae.new (H d _) _ _ (by rw [k])).of J;have t:Y d ((H d (X (bf v g n b) 95)).alloc (X al 85)):=((Y.refl _).alloc _).alloc _;have m: ((H d (X (bf v g n b) 95)).alloc (X al 85)).heap.size=d.heap.size+2:=by rw [k,k]
 go_enter Tryz.func144,Tryz.ntmps144;go_upto_region 1 with fail
 generalize (H d (X (bf v g n b) 95)).alloc (X al 85)=l at *;have A:=N m;clear m k;generalize D:d.heap.size=f at *;have E:=N fun P (L:Y l P)=>aZ.I q (t.trans L);clear q;have cf:=i.cell 0 rfl;have aR:=i.cell 1 rfl;have aS:=i.cell 2 rfl;have aT:=i.cell 3 rfl;have aU:=i.cell 4 rfl;go_cut [] (fun p=> ∃ (o:Option ai) (c:Nat),ae p (f+1) (an (bA v).x V 0 0 o v.ag.length c)∧bi fa 2 174 p f o v.ag.length c v.ag∧Y d p)
 case first=>
  go_region_held3 (fun j=>j.cell? f=Z (af v.low)∧j.cell? ⟨f,1,V⟩=Z (af v.high)∧j.cell? ⟨f,2,V⟩=Z (ah v.unb)∧j.cell? ⟨f,3,V⟩=Z (O U v.right)∧j.cell? ⟨f,4,V⟩=Z (ac g n b))
   ((first|(have kG:=u;exact b9)|exact b9)) (first|(go_at_call 105;(refine Calls.mono (tu (n1:=n) (c1:=b) ?_ (E.out _ ?_) K) ?_;(focus (first|(simp [go_sem,cF];done)|(refine Y.I ch ?_;simp [go_sem,cF];done)));(focus ((exact bz);done)));rintro e h ⟨M,C,rfl,s,u⟩;(have w:Y l h:=Y.trans dh u);have a:=B.I w;have F:=bi.lower s (base2:=l.heap.size) (Y.le dh);clear s;have aC:=(a).cell 0 rfl;have aD:=(a).cell 1 rfl;have aJ:=(a).cell 2 rfl;have aK:=(a).cell 3 rfl;have aL:=(a).cell 4 rfl;have aM:=(a).cell 5 rfl;have aN:=(a).cell 6 rfl;have aO:=(a).cell 7 rfl;have aP:=(a).cell 8 rfl;have aQ:=(a).cell 9 rfl;have aE:=(a).cell 10 rfl;have aF:=(a).cell 11 rfl;have aG:=(a).cell 12 rfl;have aH:=(a).cell 13 rfl;have aI:=(a).cell 14 rfl;have R:=(a).free 0 J;have S:=(a).free 1 J;have am:=(a).free 2 J;have aq:=(a).free 3 J;have ar:=(a).free 4 J;have av:=(a).free 5 J;have ax:=(a).free 6 J;have ay:=(a).free 7 J;have az:=(a).free 8 J;have aA:=(a).free 9 J;have T:=(a).free 10 J;have W:=(a).free 11 J;have aa:=(a).free 12 J;have ab:=(a).free 13 J;have ag:=(a).free 14 J))
  have m:=A.out;all_goals (go_wp2_with fail;go_meet;with_reducible exact ⟨M,C,Dm a F K K (t.trans w) K _ _ _ _ _ _ _ _ _ _ _ _ _ _ _ J⟩)
 case rest=>
  obtain ⟨o,c,y,r,I⟩:=hcut;have z:=N r;clear r;go_wp2_with fail;refine bH (y.e7 rfl _ rfl cG rfl G) rfl ?_;exact ⟨o,c,rfl,by rw [D];exact z.out,I⟩
theorem HH{c:Nat}{S:List ak}(ar:ae h b w)(aq:ae h c S)(az:w.length=15)(ay:S.length=15)(P:b≠c)(an:Y d h)(al:d.heap.size≤b)(am:d.heap.size≤c){o:Option ai}{n Q:Nat}{R:List cw}(ag:bi fa 2 174 h t o n Q R)(av:b < t)(ax:c < t)(a e l m p r s u v x f g i j k y z F G I J K L M N A B C D E:ak):
  ae (g5 (g5 h b a e l m p r s u v x f g i j k) c y z F G I J K L M N A B C D E) b [a,e,l,m,p,r,s,u,v,x,f,g,i,j,k]∧ae (g5 (g5 h b a e l m p r s u v x f g i j k) c y z F G I J K L M N A B C D E) c [y,z,F,G,I,J,K,L,M,N,A,B,C,D,E]∧Y d (g5 (g5 h b a e l m p r s u v x f g i j k) c y z F G I J K L M N A B C D E)∧aZ (g5 (g5 h b a e l m p r s u v x f g i j k) c y z F G I J K L M N A B C D E) o n Q R:=by
 have T:=(ar.aR (us:=[a,e,l,m,p,r,s,u,v,x,f,g,i,j,k]) (by rw[az];rfl)).others P [y,z,F,G,I,J,K,L,M,N,A,B,C,D,E];have W:=(aq.others (fun q=>P q.symm) [a,e,l,m,p,r,s,u,v,x,f,g,i,j,k]).aR (us:=[y,z,F,G,I,J,K,L,M,N,A,B,C,D,E]) (by rw[ay];rfl);have aa:=(an.setCells al [a,e,l,m,p,r,s,u,v,x,f,g,i,j,k] 0).setCells am [y,z,F,G,I,J,K,L,M,N,A,B,C,D,E] 0;have ab:=(g7 ax [y,z,F,G,I,J,K,L,M,N,A,B,C,D,E] 0 (g7 av [a,e,l,m,p,r,s,u,v,x,f,g,i,j,k] 0 ag)).fv cW;exact⟨T,W,aa,ab⟩
section
variable {g : aV} {s : List Nat} {lim : aK} {m : az}
theorem wj(d:ad)(n:Int)(a: (Lit.int U n).wf=true):cm d (.iface 48 (O U n)) n:= .code n a
theorem x6(c:aX g s d lim m):
  ao aj 12 #[aa g.m] d fun e b=>e=ap (O U (m.now:Int))∧aX g s b lim m∧Mod [g.m] d b:=by
 have bh:=N (jv c);clear c;go_enter Tryz.func12,Tryz.ntmps12;go_wp2_with fail;refine bh.out.mono ?_;rintro e o ⟨rfl,a,h⟩;have j:=N (FK a);obtain⟨n,f⟩:=a.mem;have l:=f.cell 9 rfl;have i:=N a;have k:=N h;clear f a h;go_wp2_with(go_at_call 33;(with_reducible refine j.out.mono ?_);rintro e b ⟨rfl,rfl⟩);go_ret;exact⟨rfl,i.out,k.out⟩
def z9 (g:aV) (s:List Nat) (lim:aK) (m:az) (d:ad) (e:Ending) (a:ad):Prop:=
 (m.now=lim.count∧∃ v,e=ap (a0 #[O U (m.now:Int),v])∧cm (ay a s) v 5∧aX g s a lim m∧Mod [g.m,g.c] d a)∨
 (m.now < lim.count∧e=ap (a0 #[O U ((m.now:Int)+1),aB])∧aX g s a lim {m with now:=m.now+1}∧Mod [g.m,g.c] d a)
theorem sN(r:aX g s d lim m):
  ao aj 53 #[aa g.m] d (z9 g s lim m d):=by
 have bh:=N (jv r);clear r;go_enter Tryz.func53,Tryz.ntmps53;go_wp2_with fail;refine bh.out.mono ?_;rintro e B ⟨rfl,l,u⟩;have x:=N (BY l);obtain⟨n,t⟩:=l.mem;have A:=t.cell 9 rfl;have q:=N u;clear t l u;go_wp2_with fail;refine x.out.mono ?_;rintro e w (⟨f,rfl,a,c⟩|⟨f,rfl,a,c⟩)
 ·have j:=N fun p o=>oG p o _ 5 w s a.old (wj _ 5 bP);have i:=N a;have y:=N f;have k:=N ((q.out.sub (S':=[g.m,g.c]) J).trans (c.sub J));clear a c f;go_wp2_with(go_at_call 55;(with_reducible refine(j.out _ _).mono ?_);rintro e h ⟨v,rfl,z,b⟩);go_ret2;exact .inl ⟨y.out,v,rfl,z,i.out.I b,k.out.trans (b.mod _)⟩
 ·have j:=N fun p o=>jQ p o w;have i:=N a;have k:=N ((q.out.sub (S':=[g.m,g.c]) J).trans (c.sub J));clear a c;go_wp2_with(go_at_call 55;(with_reducible refine(j.out _ _).mono ?_);rintro e h ⟨rfl,b⟩);go_ret2;exact .inr ⟨f,rfl,i.out.I b,k.out.trans (b.mod _)⟩
theorem C8(c:aX g s d lim m)(j:m.ins=V)(n:Nat)(x:1≤n)(a:n≤m.now):
  ao aj 59 #[aa g.m,O U 0,(n:Int)] d fun e o=>e=ap aB∧aX g s o lim {m with ins:=Z n}∧Mod [g.m,g.i] d o:=by
 have bh:=N (jv c);have u:=N j;clear c j;go_enter Tryz.func59,Tryz.ntmps59;go_wp2_with fail;refine bh.out.mono ?_;rintro e B ⟨rfl,b,k⟩;have t:=N (C7 b u.out n x a);obtain⟨n,f⟩:=b.mem;have A:=f.cell 9 rfl;have v:=N k;clear f b k;go_wp2_with fail;refine t.out.mono ?_;rintro e z ⟨rfl,a,l⟩;have r:=N fun p y=>jQ p y z;have q:=N a;have w:=N ((v.out.sub (S':=[g.m,g.i]) J).trans (l.sub J));clear a l;go_wp2_with(go_at_call 55;(with_reducible refine(r.out _ _).mono ?_);rintro e h ⟨rfl,i⟩);go_ret;exact⟨rfl,q.out.I i,w.out.trans (i.mod _)⟩
theorem EX(b:aX g s d lim m)(j:m.ins.isSome=true):
  ao aj 128 #[aa g.m,O U 0] d fun e o=>e=ap aB∧aX g s o lim {m with ins:=V}∧Mod [g.m,g.i] d o:=by
 have bh:=N (jv b);have u:=N j;clear b j;go_enter Tryz.func128,Tryz.ntmps128;go_wp2_with fail;refine bh.out.mono ?_;rintro e A ⟨rfl,a,k⟩;have t:=N (EW a u.out);obtain⟨n,f⟩:=a.mem;have z:=f.cell 9 rfl;have v:=N k;clear f a k;go_wp2_with fail;refine t.out.mono ?_;rintro e y ⟨rfl,c,l⟩;have r:=N fun p x=>jQ p x y;have q:=N c;have w:=N ((v.out.sub (S':=[g.m,g.i]) J).trans (l.sub J));clear c l;go_wp2_with(go_at_call 55;(with_reducible refine(r.out _ _).mono ?_);rintro e h ⟨rfl,i⟩);go_ret;exact⟨rfl,q.out.I i,w.out.trans (i.mod _)⟩
end
abbrev jy:List ak:=[af ⟨#[]⟩,af ⟨#[]⟩,ah false,O U 0,ac V 0 0,ah false,O U 0,O U 0,af ⟨#[]⟩]
def eI (b:Nat) (o:Option ai):Prop:=∀ a,o=Z a→b≤a.block
theorem eI.le{b c:Nat}{o:Option ai}(d:eI b o)(f:c≤b):eI c o:=fun a e=>bZ f (d a e)
theorem bi.from{f:Type}{g:dK f}{m:Nat}{h:TypeId}{c:Option ai}{n i:Nat}{o:List f}(j:bi g m h d t c n i o):eI t c:=by
 obtain⟨y,z,s,u,⟨v,k⟩,w⟩:=j;intro a b;rcases k with⟨e, -⟩|⟨r,p,q,e,l,x,rest⟩
 ·simp only[iA]at e;rw[e.1]at b;cases b
 ·simp only[iA]at e;rw[e.1]at b;cases b;exact l
def iI (d:ad) (b:Option ai) (v:aY) (e:Ending) (a:ad):Prop:=∃ o c,e=ap (a0 #[fg v o v.ag.length c,ah true])∧aZ a o v.ag.length c v.ag∧Y d a∧(o=b∨eI d.heap.size o)
structure lC (a d:ad) (f:Nat) (b c:List ak):Prop where
 v:ae a f b
 x:ae a (f+1) c
 z:ae a (f+1+1) jy
 aC:Y d a
 eq:d.heap.size=f
theorem lC.I{c e:ad}{g h:List ak}(a:lC c d f g h)(b:Y c e):lC e d f g h:=⟨a.v.I b,a.x.I b,a.z.I b,a.aC.trans b,a.eq⟩
theorem rn(d:ad)(a b:Array ak)(c e f:TypeId):lC (((H d (X a c)).alloc (X b e)).alloc (X jy f)) d d a.toList b.toList:=
 ⟨((ae.new d _ _ rfl).I ((Y.refl _).alloc _)).I ((Y.refl _).alloc _),(ae.new (H d _) _ _ dW).I ((Y.refl _).alloc _),(ae.new ((H d _).alloc _) _ _ kT).of J,(((Y.refl d).alloc _).alloc _).alloc _,rfl⟩
theorem Ig(v:aY)(y:ar)(o:Option ai)(n c:Nat)(av:Option ai)(ab T:Nat)(ax:Option ai)(al W:Nat)(d:ad)(D:aZ d o n c v.ag)(bV:n≤5000)(bE:dZ v)(aN:ht y.x)(a8:y.x.r.kind=8)(aL:v.held=false)(aR:cY y.x.r.key v.ag=false)(aS:gz v y.x.r.key=true):
  ao aj 107 #[fg v o n c,aW y.x av ab T ax al W] d (iI d o {v with ag:=v.ag.take (bG y.x.r.key v.ag)++[⟨y.x.r.key,y.x.r.page⟩]++v.ag.drop (bG y.x.r.key v.ag)}):=by
 have aX: ∀ (q:List cw) (e:Ending) (A:ad),(∃ am c,e=ap (a0 #[aw #[af v.low,af v.high,ah v.unb,O U v.right,ac am q.length c,ah false,O U v.aH,O U v.bb,af v.aD],ah true])∧aZ A am q.length c q∧Y d A∧(am=o∨eI d am))→iI d o {v with ag:=q} e A:=fun q e A ⟨o,c,bl,bm,bn⟩=>⟨o,c,by rw[bl,←aL],bm,bn⟩;have bh:=N (aX (v.ag.take (bG y.x.r.key v.ag)++[⟨y.x.r.key,y.x.r.page⟩]++v.ag.drop (bG y.x.r.key v.ag)));generalize iI d o {v with ag:=v.ag.take (bG y.x.r.key v.ag)++[⟨y.x.r.key,y.x.r.page⟩]++v.ag.drop (bG y.x.r.key v.ag)}=bR at *;have aV:=N fun w (Q:Y d w)=>ld v o n c y.x.r.key w (aZ.I D Q) aN.key;have aD:=N fun w=>qM v o n c y.x.r.key w bE aN.key;rw[aR]at aV;rw[aS]at aD;have bx:=D.len;have bU:=D.dj;have aM:=pb y.x.r.key v.ag;rw[bx]at aM;have a9: (v.ag.take (bG y.x.r.key v.ag)++[(⟨y.x.r.key,y.x.r.page⟩:cw)]++v.ag.drop (bG y.x.r.key v.ag)).length=n+1:=by
  rw[dG,dG,fm,hl,uC];omega
 generalize bG y.x.r.key v.ag=p at *;have bt:=N fun w (Q:Y d w)=>(aZ.I D Q).head (k:=p) aM;have bD:=N fun w (Q:Y d w)=>(aZ.I D Q).tail (k:=p) aM;have bW:=rf o n c p K;have bX:=tY o n c p K;have a1:=rn d (bf v o n c).toArray (an y.x av ab T ax al W).toArray 95 85 95;have bv:=aN.key;have bj:=N a8;have aC:=N aL;have aQ:=N a9;clear D aR aS aX a8 aL a9;go_enter Tryz.func107,rP;go_upto_region 1 with fail
 generalize((H d (X (bf v o n c) 95)).alloc (X (an y.x av ab T ax al W) 85)).alloc (X jy 95)=bk at *;generalize bT:d.heap.size=f at *;have F:lC bk d f (bf v o n c) (an y.x av ab T ax al W):=by simpa using a1
 clear a1;have az:=F.x.cell 7 rfl;have aK:=F.aC;go_upto_region 3 with(first|(with_reducible refine b0 95 (F.v) dB ?_)|(go_at_call 126;refine(aV.out _ iB).mono ?_;rintro e w ⟨rfl,a3⟩))
 have a:=F.I a3;have bd:=a.x.cell 0 rfl;rw[bj.out]at bd;have cf:=a.v.cell 0 rfl;have bI:=a.v.cell 1 rfl;have bJ:=a.v.cell 2 rfl;have bK:=a.v.cell 3 rfl;have aP:=a.v.cell 4 rfl;have bb:=a.v.cell 5 rfl;have bL:=a.v.cell 6 rfl;have bN:=a.v.cell 7 rfl;have bO:=a.v.cell 8 rfl;have bF:fg v o n c=aw #[af v.low,af v.high,ah v.unb,O U v.right,ac o n c,ah false,O U v.aH,O U v.bb,af v.aD]:=by rw[←aC.out]
 rw[bF]at aD;rw[aC.out]at bb;have az:=a.x.cell 7 rfl;have aK:=a.aC;clear F a3;go_upto_region 6 with(first|(with_reducible refine b0 95 (a.v) dB ?_)|(go_at_call 125;refine(aD.out _).mono ?_;rintro e ay ⟨rfl,a4⟩))
 have r:=a.I a4;have aP:=r.v.cell 4 rfl;have az:=r.x.cell 7 rfl;have be:=r.x.cell 9 rfl;have aK:=r.aC;have bA:=r.v.lt J;have bB:=r.z.lt J;clear a a4 cf bI bJ bK bb bL bN bO bd;refine cZ (fun _=>True) (fun A=>A.cell? ⟨f,4,V⟩=Z (ac o n c)∧A.cell? ⟨f+1,7,V⟩=Z (af y.x.r.key)∧A.cell? ⟨f+1,9,V⟩=Z (O U y.x.r.page)) 17 G ?_;have g:True:=trivial;have M:=(Y.refl ay).drew;have hKC:=And.intro (M.I aP) (And.intro (M.I az) (M.I be));clear aP az be;generalize ay.drew=x at *;refine' aI 0 34 (au (Z ⟨f,4,V⟩)) rfl g hKC ?_;refine' bc (v:=ac o n c) 1 35 rfl (.inl ⟨aq,?_⟩) g hKC ?_
 ·(intro d t;have aO:=t.2.1;clear t;go_simp)
 refine' aI 2 36 (O U (p:Int)) rfl g hKC ?_;refine' aI 3 37 (ac o p c) rfl g hKC ?_;refine' aI 4 38 (au (Z ⟨f+1,7,V⟩)) rfl g hKC ?_;refine' bc (v:=af y.x.r.key) 5 39 rfl (.inl ⟨aq,?_⟩) g hKC ?_
 ·(intro d t;have aO:=t.2.2.1;clear t;go_simp)
 refine' aI 6 40 (au (Z ⟨f+1,9,V⟩)) rfl g hKC ?_;refine' bc (v:=O U y.x.r.page) 7 41 rfl (.inl ⟨aq,?_⟩) g hKC ?_
 ·(intro d t;have aO:=t.2.2.2;clear t;go_simp)
 refine' aI 8 42 (aw #[af y.x.r.key,y.x.r.page]) rfl g hKC ?_;refine' aI 10 44 (au (Z ⟨f,4,V⟩)) rfl g hKC ?_;refine' bc (v:=ac o n c) 11 45 rfl (.inl ⟨aq,?_⟩) g hKC ?_
 ·(intro d t;have aO:=t.2.1;clear t;go_simp)
 refine' aI 12 46 (O U (p:Int)) rfl g hKC ?_;refine' aI 13 47 (ac (en o p c) (n - p) (c - p)) rfl g hKC ?_;refine b4 9 (Z 43) rfl (fun B s=>?_);go_simp;have P:Y x (H x (X #[af y.x.r.key,y.x.r.page] 174)):=(Y.refl x).alloc _;have I:ae (H x (X #[af y.x.r.key,y.x.r.page] 174)) x.heap.size [af y.x.r.key,y.x.r.page]:=(ae.new x _ _ rfl).of J;have z:=And.intro (P.I hKC.1) (And.intro (P.I hKC.2.1) (P.I hKC.2.2));refine a5 s (trivial) (fun _=>z) ?_;clear s B;have hKC:=z;have a6:=M.trans P;generalize H x (X #[af y.x.r.key,y.x.r.page] 174)=C at *;generalize x.heap.size=S at *;refine b4 14 (Z 48) rfl (fun B s=>?_);go_simp;have E:Y C (H C (X #[ac o p c,ac (Z ⟨S,0,V⟩) 1 1,ac (en o p c) (n - p) (c - p)] 81)):=(Y.refl C).alloc _;have R:ae (H C (X #[ac o p c,ac (Z ⟨S,0,V⟩) 1 1,ac (en o p c) (n - p) (c - p)] 81)) C.heap.size [ac o p c,ac (Z ⟨S,0,V⟩) 1 1,ac (en o p c) (n - p) (c - p)]:=(ae.new C _ _ rfl).of J;have I:=I.I E;have z:=And.intro (E.I hKC.1) (And.intro (E.I hKC.2.1) (E.I hKC.2.2));refine a5 s (trivial) (fun _=>z) ?_;clear s B;have hKC:=z;have aH:=a6.trans E;generalize H C (X #[ac o p c,ac (Z ⟨S,0,V⟩) 1 1,ac (en o p c) (n - p) (c - p)] 81)=bS at *;refine b4 15 (Z 49) rfl (fun B s=>?_);go_simp;go_at_call 105;have aJ:=aK.trans aH;refine(ER (R.cell 0 rfl) (R.cell 1 rfl) (R.cell 2 rfl) (bt.out _ aJ) K (C6 (aG _) bP (I.cell 0 rfl) (I.cell 1 rfl) bv) K (bD.out _ aJ) K).mono ?_;rintro e h ⟨m,l,rfl,aT,L⟩;have z:=And.intro (L.I hKC.1) (And.intro (L.I hKC.2.1) (L.I hKC.2.2));have aa:=aH.trans L;have aA:=N (bi.lower aT (base2:=ay.heap.size) aH.le);have bo:=(r.I aa).v.free 4 J;clear aT P E M a6 aJ I R L;refine a5 s (trivial) (fun _=>z) ?_;clear s B;have hKC:=z;refine' aI 16 50 (au (Z ⟨f,4,V⟩)) rfl g hKC ?_;refine cg 17 (V) rfl (fun B s=>?_);go_simp;refine bM s (trivial) ?_;clear s B;refine cC G ?_;have bw: (v.ag.take p++[(⟨y.x.r.key,y.x.r.page⟩:cw)]++v.ag.drop p).length=n+1:=aQ.out;have aE:=jh (b:=f) (i:=4) (u:=ac m (v.ag.take p++[(⟨y.x.r.key,y.x.r.page⟩:cw)]++v.ag.drop p).length l) aA.out bA;have a7:=(r.aC.trans aa).setCell (p:=⟨f,4,V⟩) (by show d.heap.size≤f;omega) (ac m (v.ag.take p++[(⟨y.x.r.key,y.x.r.page⟩:cw)]++v.ag.drop p).length l);have a2:=((r.I aa).v.set 4 (ac m (v.ag.take p++[(⟨y.x.r.key,y.x.r.page⟩:cw)]++v.ag.drop p).length l)).of (us:=[af v.low,v.high,v.unb,v.right,ac m (v.ag.take p++[(⟨y.x.r.key,y.x.r.page⟩:cw)]++v.ag.drop p).length l,v.held,v.aH,v.bb,v.aD]) rfl;have aF:=(r.I aa).z.other (b':=f) (j:=4) K (ac m (v.ag.take p++[(⟨y.x.r.key,y.x.r.page⟩:cw)]++v.ag.drop p).length l);rw[bw]at aE a7 a2 aF;have bC:p+(n - p+1)=n+1:=K;have aU:=g7 (b:=f+1+1) bB [af v.low,v.high,v.unb,v.right,ac m (n+1) l,v.held,v.aH,v.bb,v.aD] 0 aE;have bp:=aU.fv cW;have bg:=N (aA.out.from.le (show d.heap.size≤ay.heap.size from r.aC.le));clear bo aE aU aA;go_upto_region 21 with fail
 rw[bC];generalize h.setCell ⟨f,4,V⟩ (ac m (n+1) l)=bQ at *;go_wp2_with(first|(with_reducible refine b0 95 (a2) dB ?_)|(with_reducible refine bq 95 (aF) ([af v.low,v.high,v.unb,v.right,ac m (n+1) l,v.held,v.aH,v.bb,v.aD]) ?_));refine bH ((aF.aR (us:=[af v.low,v.high,v.unb,v.right,ac m (n+1) l,v.held,v.aH,v.bb,v.aD]) rfl).cK rfl _ rfl rfl dB rfl G) rfl ?_;refine bh.out _ _ ?_;rw[aQ.out];have bs:=aC.out;have br:aZ (ba bQ (f+1+1) 0 [af v.low,v.high,v.unb,v.right,ac m (n+1) l,v.held,v.aH,v.bb,v.aD]) m (n+1) l (v.ag.take p++[(⟨y.x.r.key,y.x.r.page⟩:cw)]++v.ag.drop p):=bp;exact⟨m,l,by rw[bs];rfl,br,a7.setCells K _ _,.inr (bg.out.le K)⟩
theorem GS(v:aY)(o:Option ai)(n c:Nat)(d:ad)(l:aZ d o n c v.ag)(aX:dZ v)(aW:lA v):
  ao aj 106 #[fg v o n c] d fun e a5=>e=ap (ah true)∧Y d a5:=by
 have i:ae (H d (X (bf v o n c) 95)) d.heap.size (bf v o n c):=(ae.new d _ _ rfl).of J;have m:=(Y.refl d).alloc (X (bf v o n c) 95);obtain ⟨b,an,E,A⟩:=l.get;have D:=l.len;have a9:=l.dj;have aU:=l.dr;unfold maxLen at aU;obtain ⟨aq,ar,u,w⟩:=aW;have ab:0 < n:=by rw [←D];exact rF.2 aq
 obtain ⟨g, -, -⟩:=A 0 ab;rw [ar] at g;have P:=N E;have M:=N A;have aE:=N D;have aH:=N w;have aM:=N fun (al:ByteArray) (T:al.size≤maxLen) a=>qM v o n c al a aX T;have aN: ∀ a,(Instr.indexAt 81 (ac o n c) (O U 0)).run aj a= .ok (au (Z ⟨b,an,V⟩)) a:=fun a=>by have:=lg c E (k:=0) ab a;rw [jG,gI] at this;exact this
 rw [jG,gI] at g;have bd: ((n:Int)==0)=false:=cJ;clear l E A aq ar w D;go_enter Tryz.func106,Tryz.ntmps106;go_upto_region 1 with fail
 generalize (H d (X (bf v o n c) 95))=r at *;have g:=m.I g;have cf:=i.cell 0 rfl;have q:=i.cell 1 rfl;have j:=i.cell 2 rfl;have x:=i.cell 4 rfl;go_cut [27] (fun a4 y=>a4=ah false∧Y r y)
 case first=>
  cases F:v.unb with
  |false=>
   rw [F] at j;go_big_quiet (fail);go_wp2;go_meet;exact ⟨rfl,(Y.refl r).drewN _⟩
  |true=>
   rw [F] at j;have aS:=u F;rw [aS] at q;go_big_quiet (fail);go_wp2;go_meet;exact ⟨rfl,(Y.refl r).drewN _⟩
 case rest=>
  obtain ⟨rfl,B⟩:=hcut;have aC:=i.I B;have x:=aC.cell 4 rfl;clear cf q j g aN u;go_upto_region 4 with fail
  go_loopw [31] (fun I wr=> ∃ k:Nat,k≤n∧I=O U k∧Y r wr) (fun I _=>n - (intOf I).toNat)
  case atStart=>exact ⟨0,aJ _,rfl,B⟩
  case round=>
   obtain ⟨k,T,rfl,t⟩:=hrel;by_cases aa:k < n
   ·obtain ⟨g,ag,W⟩:=M.out k aa;have L:=(qy g ag).I (m.trans t);have aO:=lg c P.out aa;have g:=t.I (m.I g);go_upto_region 5 with fail
    go_cut [3,4] (fun u w y=> ∃ s:Nat,u=O U k∧w=au (Z s)∧ae y s [af (bw v.ag k).key,O U (bw v.ag k).page]∧Y wr y)
    case first=>
     go_wp2_with (first|(refine e8 rfl 174 _ rfl _ _ rfl _ _ (L).aM mN rfl G ?_)|(refine dY rfl 174 _ _ rfl _ 0 _ rfl rfl (ae.new _ _ _ rfl).may G G ?_));go_meet;exact ⟨wr.heap.size,rfl,rfl,(ae.new wr _ _ rfl).aR rfl,((Y.refl _).alloc _).setCells (aG _) _ _⟩
    case rest=>
     obtain ⟨s,rfl,rfl,aD,aR⟩:=hcut;have p:=t.trans aR;have h:=i.I p;have cf:=h.cell 0 rfl;have q:=h.cell 1 rfl;have j:=h.cell 2 rfl;have av:=h.cell 3 rfl;have x:=h.cell 4 rfl;have ax:=h.cell 5 rfl;have ay:=h.cell 6 rfl;have az:=h.cell 7 rfl;have aA:=h.cell 8 rfl;have Q:=aD.cell 0 rfl;obtain ⟨a1,a2⟩:=aH.out k (by have:=aE.out;omega);have z:=N fun a=>aM.out (bw v.ag k).key W a;rw [a1] at z;clear aO L g ag;go_upto_region 6 with fail
     rcases gm k with aK|aT
     ·subst aK;have cT:decide ((0:Int) < 0)=false:=bP;have cf:=e1.cell cf;have q:=e1.cell q;have j:=e1.cell j;have av:=e1.cell av;have x:=e1.cell x;have ax:=e1.cell ax;have ay:=e1.cell ay;have az:=e1.cell az;have aA:=e1.cell aA;have Q:=e1.cell Q;refine nZ G G ?_;repeat (go_big_quiet_step ((go_at_call 125;(with_reducible exact m9 (z.out _)))))
      refine oh ?_;rintro _ ⟨⟨a,B⟩,rfl⟩;go_wp2_with fail;go_roundw
      case rel=>exact ⟨1,K,e9,p.trans ch⟩
      case measure=>simp [intOf];omega
     ·have cT:decide ((0:Int) < (k:Int))=true:=by simp;omega
      obtain ⟨am, -,aV⟩:=M.out (k - 1) K;have am:=p.I (m.I am);have aP:=fun a=>re c P.out (k:=(k:Int) - 1) K K a;have aI: ((k:Int) - 1).toNat=k - 1:=K;rw [aI] at aP;have a8:IntKind.i64.wrap ((k:Int) - 1)=(k:Int) - 1:=e0 _ K;have bc:=a2 aT;have bb:decide (0≤a3.cmp (aF (bw v.ag (k - 1)).key) (aF (bw v.ag k).key))=false:=dz K;have aL:=N fun a=>gO (bw v.ag (k - 1)).key (bw v.ag k).key a aV W;go_region_held3 (fun f=>f.cell? d=Z (af v.low)∧f.cell? ⟨d,1,V⟩=Z (af v.high)∧f.cell? ⟨d,2,V⟩=Z (ah v.unb)∧f.cell? ⟨d,3,V⟩=Z (O U v.right)∧f.cell? ⟨d,4,V⟩=Z (ac o n c)∧f.cell? ⟨d,5,V⟩=Z (ah v.held)∧f.cell? ⟨d,6,V⟩=Z (O U v.aH)∧f.cell? ⟨d,7,V⟩=Z (O U v.bb)∧f.cell? ⟨d,8,V⟩=Z (af v.aD)∧f.cell? s=Z (af (bw v.ag k).key)∧f.cell? ⟨b,an+(k - 1) * 2,V⟩=Z (af (bw v.ag (k - 1)).key)) (first|(first|(have kG:=R;exact b9)|exact b9)|(first|(have kG:=S;exact b9)|exact b9)|(first|(have kG:=(Y.refl wc);exact b9)|exact b9)) (first|(go_at_call 125;refine (z.out _).mono ?_;rintro e a6 ⟨rfl,R⟩;(have C:Y wc a6:=Y.trans dh R))|(go_at_call 93;refine (aL.out _).mono ?_;rintro e a7 ⟨rfl,aQ⟩;have S:=aQ.aC;(have C:Y wc a7:=Y.trans dh S)));all_goals
       go_wp2_with fail;go_roundw
       case rel=>exact ⟨k+1,K,e9,by first|exact p.trans C|exact (p.trans C).drew⟩
       case measure=>simp [intOf];omega
   ·obtain rfl:k=n:=by omega
    go_wp2_with fail;go_ret;exact ⟨rfl,m.trans t⟩
abbrev dP:List ak:=[af ⟨#[]⟩,af ⟨#[]⟩,ah false,O U 0,ac V 0 0,ah false,O U 0,O U 0,af ⟨#[]⟩]
theorem w8(v:aY)(o:Option ai)(n c:Nat)(d:ad)(t:aZ d o n c v.ag)(am:v.held=false)(bS:n / 2≠0):
  ao aj 188 #[fg v o n c] d fun e I=> ∃ aq M ar P,e=ap (a0 #[fg (cI v v.right) aq (n / 2) M,fg (bN v) ar (n - n / 2) P,aB])∧aZ I aq (n / 2) M (cI v v.right).ag∧aZ I ar (n - n / 2) P (bN v).ag∧Y d I:=by
 obtain ⟨low,high,unb,right,ag,held,aH,bb,aD⟩:=v;dsimp only at t am;subst am;unfold cI bN;dsimp only;have u:=dL;have s:ae (((H d (X (bf ⟨low,high,unb,right,ag,false,aH,bb,aD⟩ o n c) 95)).alloc (X dP 95)).alloc (X dP 95)) d.heap.size (bf ⟨low,high,unb,right,ag,false,aH,bb,aD⟩ o n c):=(((ae.new d _ _ rfl).of J).I ((Y.refl _).alloc _)).I ((Y.refl _).alloc _);have aE:ae (((H d (X (bf ⟨low,high,unb,right,ag,false,aH,bb,aD⟩ o n c) 95)).alloc (X dP 95)).alloc (X dP 95)) (d.heap.size+1) dP:=((ae.new (H d _) _ _ (by rw [u])).of J).I ((Y.refl _).alloc _);have aA:ae (((H d (X (bf ⟨low,high,unb,right,ag,false,aH,bb,aD⟩ o n c) 95)).alloc (X dP 95)).alloc (X dP 95)) (d.heap.size+2) dP:=(ae.new ((H d _).alloc _) _ _ (by rw [u,u])).of J;have aa:Y d (((H d (X (bf ⟨low,high,unb,right,ag,false,aH,bb,aD⟩ o n c) 95)).alloc (X dP 95)).alloc (X dP 95)):=(((Y.refl d).alloc _).alloc _).alloc _;have E: (((H d (X (bf ⟨low,high,unb,right,ag,false,aH,bb,aD⟩ o n c) 95)).alloc (X dP 95)).alloc (X dP 95)).heap.size=d.heap.size+3:=by rw [u,u,u]
 have aK:=N (aZ.I t aa);have aL:=N t;have C:=t.len;have bU:=t.dj;have aO:=t.dr;unfold maxLen at aO;clear t;generalize D:n / 2=p at *;have aQ: (n:Int) / 2=(p:Int):=K;have bW:wrap64 ((n:Int) / 2)=(p:Int):=by rw [aQ];unfold wrap64;omega
 go_enter Tryz.func188,Tryz.ntmps188;go_upto_region 1 with fail
 generalize ((H d (X (bf ⟨low,high,unb,right,ag,false,aH,bb,aD⟩ o n c) 95)).alloc (X dP 95)).alloc (X dP 95)=r at *;have az:=N E;clear E u;generalize bT:d.heap.size=f at *;have F:=s.cell 4 rfl;have a2:=s.cell 5 rfl;have bV: ((p:Int)==0)=false:=cJ;go_upto_region 2 with fail
 go_upto_region 6 with fail
 go_show;have cf:=s.cell 0 rfl;have aW:=s.cell 1 rfl;have aX:=s.cell 2 rfl;have a1:=s.cell 3 rfl;have a3:=s.cell 6 rfl;have a4:=s.cell 7 rfl;have a5:=s.cell 8 rfl;go_cut [6,7] (fun aU aV L=> ∃ h l:Nat,aU=au (Z h)∧aV=au (Z l)∧h≠l∧r.heap.size≤h∧r.heap.size≤l∧ae L h (bf ⟨low,high,unb,right,ag,false,aH,bb,aD⟩ o n c)∧ae L l (bf ⟨low,high,unb,right,ag,false,aH,bb,aD⟩ o n c)∧Y r L)
 case first=>
  go_region_held3 (fun a=>a.cell? f=Z (af low)∧a.cell? ⟨f,1,V⟩=Z (af high)∧a.cell? ⟨f,2,V⟩=Z (ah unb)∧a.cell? ⟨f,3,V⟩=Z (O U right)∧a.cell? ⟨f,4,V⟩=Z (ac o n c)∧a.cell? ⟨f,5,V⟩=Z (ah false)∧a.cell? ⟨f,6,V⟩=Z (O U aH)∧a.cell? ⟨f,7,V⟩=Z (O U bb)∧a.cell? ⟨f,8,V⟩=Z (af aD)) ((first|(have kG:=(Y.refl r);exact b9)|exact b9)) (fail)
  ·have x:ae ((H r (X #[af low,high,unb,right,ac o n c,false,aH,bb,aD] 95)).alloc (X #[af low,high,unb,right,ac o n c,false,aH,bb,aD] 95)).drew r (bf ⟨low,high,unb,right,ag,false,aH,bb,aD⟩ o n c):=(((ae.new r _ _ rfl).I ((Y.refl _).alloc _)).I ((Y.refl _).drew)).of J;have y:ae ((H r (X #[af low,high,unb,right,ac o n c,false,aH,bb,aD] 95)).alloc (X #[af low,high,unb,right,ac o n c,false,aH,bb,aD] 95)).drew (r.heap.size+1) (bf ⟨low,high,unb,right,ag,false,aH,bb,aD⟩ o n c):=((ae.new (H r _) _ _ dW).I ((Y.refl _).drew)).of J;go_wp2_with fail;go_meet;exact ⟨_,_,rfl,rfl,K,K,K,x,y,(((Y.refl r).alloc _).alloc _).drew⟩
  ·have x:ae ((H r (X #[af low,high,unb,right,ac o n c,false,aH,bb,aD] 95)).alloc (X #[af low,high,unb,right,ac o n c,false,aH,bb,aD] 95)).drew r (bf ⟨low,high,unb,right,ag,false,aH,bb,aD⟩ o n c):=(((ae.new r _ _ rfl).I ((Y.refl _).alloc _)).I ((Y.refl _).drew)).of J;have y:ae ((H r (X #[af low,high,unb,right,ac o n c,false,aH,bb,aD] 95)).alloc (X #[af low,high,unb,right,ac o n c,false,aH,bb,aD] 95)).drew (r.heap.size+1) (bf ⟨low,high,unb,right,ag,false,aH,bb,aD⟩ o n c):=((ae.new (H r _) _ _ dW).I ((Y.refl _).drew)).of J;go_wp2_with fail;go_meet;exact ⟨_,_,rfl,rfl,K,K,K,y,x,(((Y.refl r).alloc _).alloc _).drew⟩
 case rest=>
  obtain ⟨h,l,rfl,rfl,w,B,an,g,i,ab⟩:=hcut;have E:=az.out;have F:=(s.I ab).cell 4 rfl;have aS:=g.cell 4 rfl;have aI:=g.free 4 J;have aT:=i.cell 4 rfl;have aJ:=i.free 4 J;have fU:=rf o n c p K;have bY:=tY o n c p K;have z:=(((ab.setCell (p:=⟨h,4,V⟩) B (ac o p c)).setCell (p:=⟨l,4,V⟩) an (ac (en o p c) (n - p) (c - p))).drew);have g:=(((g.set 4 (ac o p c)).other (b':=l) (j:=4) (fun e=>w e.symm) (ac (en o p c) (n - p) (c - p))).I ((Y.refl _).drew)).of (us:=[af low,high,unb,right,ac o p c,false,aH,bb,aD]) rfl;have i:=(((i.other (b':=h) (j:=4) w (ac o p c)).set 4 (ac (en o p c) (n - p) (c - p))).I ((Y.refl _).drew)).of (us:=[af low,high,unb,right,ac (en o p c) (n - p) (c - p),false,aH,bb,aD]) rfl;clear cf aW aX a1 a2 a3 a4 a5;go_upto_region 7 with fail
  go_region_held3 (fun a=>a.cell? ⟨f,4,V⟩=Z (ac o n c)) ((first|(have kG:=(Y.refl wc);exact b9)|exact b9)) (fail);generalize ((wc.setCell ⟨h,4,V⟩ (ac o p c)).setCell ⟨l,4,V⟩ (ac (en o p c) (n - p) (c - p))).drew=a6 at *;have S:=aZ.I aK.out z;obtain ⟨b,bX,aP,W⟩:=S.get;have aR:=(W p K).1;have aM:=lg c aP (k:=p) K;have F:=(s.I z).cell 4 rfl;have av:=i.cell 0 rfl;have aG:=i.free 0 J;have ax:=g.cell 1 rfl;have ay:=g.cell 2 rfl;have Q:=g.free 1 J;have R:=g.free 2 J;clear S W aS aI aT aJ;go_upto_region 9 with fail
  have aN:=z.setCell (p:=⟨l,0,V⟩) an (af (bw ag p).key);have g:=g.other (b':=l) (j:=0) (fun e=>w e.symm) (af (bw ag p).key);have i:=(i.set 0 (af (bw ag p).key)).of (us:=[af (bw ag p).key,high,unb,right,ac (en o p c) (n - p) (c - p),false,aH,bb,aD]) rfl;generalize a6.setCell ⟨l,0,V⟩ (af (bw ag p).key)=a7 at *;have av:=i.cell 0 rfl;have ax:=g.cell 1 rfl;have ay:=g.cell 2 rfl;have Q:=g.free 1 J;have R:=g.free 2 J;go_upto_region 10 with fail
  have A:=(aN.setCell (p:=⟨h,1,V⟩) B (af (bw ag p).key)).setCell (p:=⟨h,2,V⟩) B (ah false);have g:=((g.set 1 (af (bw ag p).key)).set 2 (ah false)).of (us:=[af low,af (bw ag p).key,false,right,ac o p c,false,aH,bb,aD]) rfl;have i:=(i.other (b':=h) (j:=1) w (af (bw ag p).key)).other (b':=h) (j:=2) w (ah false);generalize (a7.setCell ⟨h,1,V⟩ (af (bw ag p).key)).setCell ⟨h,2,V⟩ (ah false)=a8 at *;clear av ax ay Q R aG aR aM F;have a9:=g.cell 0 rfl;have bc:=g.cell 1 rfl;have bd:=g.cell 2 rfl;have be:=g.cell 3 rfl;have bg:=g.cell 4 rfl;have bh:=g.cell 5 rfl;have bi:=g.cell 6 rfl;have bj:=g.cell 7 rfl;have bk:=g.cell 8 rfl;have bl:=i.cell 0 rfl;have bm:=i.cell 1 rfl;have bn:=i.cell 2 rfl;have bo:=i.cell 3 rfl;have bp:=i.cell 4 rfl;have bq:=i.cell 5 rfl;have br:=i.cell 6 rfl;have bs:=i.cell 7 rfl;have bt:=i.cell 8 rfl;have q:=aE.I A;have m:=aA.I A;have b7:=q.cell 0 rfl;have b8:=q.cell 1 rfl;have cb:=q.cell 2 rfl;have cc:=q.cell 3 rfl;have cd:=q.cell 4 rfl;have ce:=q.cell 5 rfl;have cg:=q.cell 6 rfl;have ch:=q.cell 7 rfl;have ci:=q.cell 8 rfl;have bI:=q.free 0 J;have bJ:=q.free 1 J;have bK:=q.free 2 J;have bL:=q.free 3 J;have bM:=q.free 4 J;have bO:=q.free 5 J;have bP:=q.free 6 J;have bQ:=q.free 7 J;have bR:=q.free 8 J;have c7:=m.cell 0 rfl;have bZ:=m.cell 1 rfl;have b0:=m.cell 2 rfl;have b1:=m.cell 3 rfl;have b2:=m.cell 4 rfl;have b3:=m.cell 5 rfl;have b4:=m.cell 6 rfl;have b5:=m.cell 7 rfl;have b6:=m.cell 8 rfl;have bv:=m.free 0 J;have bx:=m.free 1 J;have bA:=m.free 2 J;have bB:=m.free 3 J;have bC:=m.free 4 J;have bD:=m.free 5 J;have bE:=m.free 6 J;have bF:=m.free 7 J;have bG:=m.free 8 J;go_region_held3 (fun a=>a.cell? h=Z (af low)∧a.cell? ⟨h,1,V⟩=Z (af (bw ag p).key)∧a.cell? ⟨h,2,V⟩=Z (ah false)∧a.cell? ⟨h,3,V⟩=Z (O U right)∧a.cell? ⟨h,4,V⟩=Z (ac o p c)∧a.cell? ⟨h,5,V⟩=Z (ah false)∧a.cell? ⟨h,6,V⟩=Z (O U aH)∧a.cell? ⟨h,7,V⟩=Z (O U bb)∧a.cell? ⟨h,8,V⟩=Z (af aD)∧a.cell? l=Z (af (bw ag p).key)∧a.cell? ⟨l,1,V⟩=Z (af high)∧a.cell? ⟨l,2,V⟩=Z (ah unb)∧a.cell? ⟨l,3,V⟩=Z (O U right)∧a.cell? ⟨l,4,V⟩=Z (ac (en o p c) (n - p) (c - p))∧a.cell? ⟨l,5,V⟩=Z (ah false)∧a.cell? ⟨l,6,V⟩=Z (O U aH)∧a.cell? ⟨l,7,V⟩=Z (O U bb)∧a.cell? ⟨l,8,V⟩=Z (af aD)) ((first|(have kG:=(Y.refl a8);exact b9)|exact b9)) (fail);have aF:=(((q.aR (us:=[af low,af (bw ag p).key,false,right,ac o p c,false,aH,bb,aD]) rfl).others (b':=f+1+1) K [af (bw ag p).key,high,unb,right,ac (en o p c) (n - p) (c - p),false,aH,bb,aD]).I ((Y.refl _).drew));have aC:=(((m.others (b':=f+1) K [af low,af (bw ag p).key,false,right,ac o p c,false,aH,bb,aD]).aR (us:=[af (bw ag p).key,high,unb,right,ac (en o p c) (n - p) (c - p),false,aH,bb,aD]) rfl).I ((Y.refl _).drew));have al:=(((aa.trans A).setCells (b:=f+1) K [af low,af (bw ag p).key,false,right,ac o p c,false,aH,bb,aD] 0).setCells (b:=f+1+1) K [af (bw ag p).key,high,unb,right,ac (en o p c) (n - p) (c - p),false,aH,bb,aD] 0).drew;go_wp2_with fail;refine bH (ae.nK aF aC rfl _ rfl rfl rfl dB rfl G G) rfl ?_;have T:=aZ.I aL.out al;refine ⟨o,c,en o p c,c - p,?_,?_,?_,al⟩
  ·rw [C,D];rfl
  ·rw [C,D];exact T.head K
  ·rw [C,D];exact T.tail K
theorem xo: ∀ {i:Nat} {l:List cw} {p:Int},i+1 < l.length→(∀ g,g < i→(bw l (g+1)).page≠p)→(bw l (i+1)).page=p→gR l p=Z ((bw l i).page,(bw l (i+1)).key)
 |0,a::b::l,p,c,d,f=>by
  have e:b.page=p:=f;unfold gR;rw[a9 e];rfl
 |i+1,a::b::l,p,c,d,f=>by
  have e:b.page≠p:=d 0 K;unfold gR;rw[aS e];exact xo (l:=b::l) (by simpa using c) (fun g h=>d (g+1) K) f
 |i,[],p,c,d,f=>by simp at c
 |i,[a],p,c,d,f=>by simp at c
theorem xq: ∀ {l:List cw} {p:Int},(∀ d,d+1 < l.length→(bw l (d+1)).page≠p)→gR l p=V
 |[],p,c=>rfl
 |[a],p,c=>rfl
 |a::b::l,p,c=>by
  have e:b.page≠p:=c 0 J;unfold gR;rw[aS e];exact xq (l:=b::l) fun d f=>c (d+1) (by simp at f ⊢;omega)
abbrev xb (page left:Int) (a:ByteArray):ak:=aw #[O U page,O U left,af a]
abbrev fl:List ak:=[O U 0,O U 0,af ⟨#[]⟩]
def Ag (d:ad) (p:Int) (r:Option (Int×ByteArray)) (e:Ending) (a:ad):Prop:=
 match r with
 |some q=>e=ap (a0 #[xb p q.1 q.2,aB])∧Y d a
 |none=>e=ap (a0 #[xb 0 0 ⟨#[]⟩,fR 6])∧Y d a
theorem Es(v:aY)(o:Option ai)(n c:Nat)(p:Int)(d:ad)(j:aZ d o n c v.ag):
  ao aj 179 #[fg v o n c,p] d (Ag d p (gR v.ag p)):=by
 have m:Y d ((H d (X (bf v o n c) 95)).alloc (X fl 83)):=((Y.refl d).alloc _).alloc _;have T:ae ((H d (X (bf v o n c) 95)).alloc (X fl 83)) d.heap.size (bf v o n c):=((ae.new d _ _ rfl).of J).I ((Y.refl _).alloc _);have M:ae ((H d (X (bf v o n c) 95)).alloc (X fl 83)) (d.heap.size+1) fl:=(ae.new (H d _) _ _ dW).of J;obtain ⟨b,aP,R,P⟩:=j.get;have Q:=j.len;have aM:=j.dj;have aA:=j.dr;unfold maxLen at aA;have C:=N R;have B:=N P;have L:=N Q;have z:=N fun (i:Nat)=>xo (i:=i) (l:=v.ag) (p:=p);have A:=N (xq (l:=v.ag) (p:=p));clear R P j Q;generalize gR v.ag p=aW at *;go_enter Tryz.func179,Tryz.ntmps179;go_upto_region 1 with fail
 generalize an: (H d (X (bf v o n c) 95)).alloc (X fl 83)=aa at *;clear an;generalize aK:d.heap.size=f at *;have ag:=T.cell 4 rfl;go_step3;go_wp2_with fail;go_step3;go_upto_region 3 with fail
 go_loopw [6,12] (fun aC F wr=> ∃ k:Nat,k≤n∧F=O U k∧aC=O U 0∧Y aa wr∧Hid (∀ a,a+1 < k→(bw v.ag (a+1)).page≠p)) (fun _ F _=>n - (intOf F).toNat)
 case atStart=>exact ⟨0,aJ _,rfl,rfl,Y.refl _,N fun a r=>K⟩
 case round=>
  obtain ⟨k,aN,rfl,rfl,x,s⟩:=hrel;by_cases y:k < n
  ·obtain ⟨t,u, -⟩:=B.out k y;have I:=(qy t u).I (m.trans x);have aq:=lg c C.out y;clear t u;go_upto_region 4 with fail
   go_cut [7,8] (fun aD aE S=> ∃ E:Nat,aD=O U k∧aE=au (Z E)∧ae S E [af (bw v.ag k).key,O U (bw v.ag k).page]∧Y wr S)
   case first=>
    go_wp2_with (first|(refine e8 rfl 174 _ rfl _ _ rfl _ _ (I).aM mN rfl G ?_)|(refine dY rfl 174 _ _ rfl _ 0 _ rfl rfl (ae.new _ _ _ rfl).may G G ?_));go_meet;exact ⟨wr.heap.size,rfl,rfl,(ae.new wr _ _ rfl).aR rfl,((Y.refl _).alloc _).setCells (aG _) _ _⟩
   case rest=>
    obtain ⟨E,rfl,rfl,W,ay⟩:=hcut;have aI:=W.cell 1 rfl;have g:=x.trans ay;clear aq I;rcases gm k with am|aO
    ·subst am;have av:decide ((0:Int) < 0)=false:=bP;go_wp2_with fail;go_roundw
     case rel=>exact ⟨1,K,e9,rfl,g,N fun a r=>K⟩
     case measure=>simp [intOf];omega
    ·have av:decide ((0:Int) < (k:Int))=true:=by simp;omega
     by_cases w: (bw v.ag k).page=p
     ·have ax:decide ((bw v.ag k).page=p)=true:=eo w;have h:=z.out (k - 1) (by rw [L.out];omega) (fun a r=>s.out a K) (by rw [show k - 1+1=k by omega];exact w);rw [show k - 1+1=k by omega] at h;have D:=N h;obtain ⟨t, -, -⟩:=B.out k y;obtain ⟨-,u, -⟩:=B.out (k - 1) K;have t:=g.I (m.I t);have u:=g.I (m.I u);have aH:=g.I ag;have aL:=lg c C.out y;have ar:=fun aF=>re c C.out (k:=(k:Int) - 1) K K aF;have al: ((k:Int) - 1).toNat=k - 1:=K;rw [al] at ar;have e:=M.I g;have aT:=e.cell 0 rfl;have aU:=e.cell 1 rfl;have aV:=e.cell 2 rfl;have aQ:=e.free 0 J;have aR:=e.free 1 J;have aS:=e.free 2 J;clear h s z A;go_wp2_with fail;go_region;all_goals
       go_wp2_with fail;rw [Exit.noGoto_ret];have ab:=((((e.set 0 (O U p)).set 1 (O U (bw v.ag (k - 1)).page)).set 2 (af (bw v.ag k).key)).I ((Y.refl _).drew)).of (us:=[O U p,O U (bw v.ag (k - 1)).page,af (bw v.ag k).key]) rfl;have az:=(((((m.trans g).setCell (p:=⟨f+1,0,V⟩) (by show d.heap.size≤f+1;omega) (O U p)).setCell (p:=⟨f+1,1,V⟩) (by show d.heap.size≤f+1;omega) (O U (bw v.ag (k - 1)).page)).setCell (p:=⟨f+1,2,V⟩) (by show d.heap.size≤f+1;omega) (af (bw v.ag k).key)).drew);refine bH (ab.cK rfl _ rfl rfl od rfl G) rfl ?_;rw [D.out];exact ⟨rfl,az⟩
     ·have ax:decide ((bw v.ag k).page=p)=false:=dz w;go_wp2_with fail;refine ⟨⟨k+1,K,e9,rfl,g,N fun a r=>?_⟩,by simp [intOf];omega⟩;rcases dC (a+1) k with q|q
      ·exact s.out a q
      ·rw [show a+1=k by omega];exact w
  ·obtain rfl:k=n:=by omega
   have h:=A.out fun a r=>s.out a (by rw [←L.out];exact r);have D:=N h;have e:=M.I x;clear h s z A;go_wp2_with (refine dY rfl 83 _ _ rfl _ 0 _ rfl rfl (e).may G G ?_);rw [Exit.noGoto_ret];refine bH ((e.aR (us:=fl) rfl).cK rfl _ rfl rfl od rfl G) rfl ?_;rw [D.out];exact ⟨rfl,(m.trans x).setCells K _ _⟩
theorem Ih(v:aY)(y:ar)(o:Option ai)(n c:Nat)(L:Option ai)(n1 c1:Nat)(M:Option ai)(F C:Nat)(d:ad)(t:aZ d o n c v.ag)(be:n≤5000)(bj:dZ v)(a2:ht y.x)(ay:y.x.r.kind=9)(S:v.held=false)(B:cY y.x.r.key v.ag=true)(a8:bG y.x.r.key v.ag≠0):
  ao aj 107 #[fg v o n c,aW y.x L n1 c1 M F C] d (iI d o {v with ag:=v.ag.take (bG y.x.r.key v.ag),high:=y.x.r.key,unb:=false,right:=y.x.r.page}):=by
 have aq: ∀ (q:List cw) (e:Ending) (z:ad),(∃ I c,e=ap (a0 #[aw #[af v.low,af y.x.r.key,ah false,O U y.x.r.page,ac I q.length c,ah false,O U v.aH,O U v.bb,af v.aD],ah true])∧aZ z I q.length c q∧Y d z∧(I=o∨eI d I))→iI d o {v with ag:=q,high:=y.x.r.key,unb:=false,right:=y.x.r.page} e z:=fun q e z ⟨o,c,aJ,aK,aL⟩=>⟨o,c,by rw [aJ,←S],aK,aL⟩;have bh:=N (aq (v.ag.take (bG y.x.r.key v.ag)));generalize iI d o {v with ag:=v.ag.take (bG y.x.r.key v.ag),high:=y.x.r.key,unb:=false,right:=y.x.r.page}=a7 at *;have am:=N fun r (T:Y d r)=>ld v o n c y.x.r.key r (aZ.I t T) a2.key;rw [B] at am;have bg:bG y.x.r.key v.ag < n:=by
  unfold cY at B;rw [dp,t.len] at B;exact B.1
 have bd:=t.len;have bc:=t.dj;have az: (v.ag.take (bG y.x.r.key v.ag)).length=bG y.x.r.key v.ag:=lu;generalize bG y.x.r.key v.ag=p at *;have aU:=N fun r (T:Y d r)=>(aZ.I t T).head (k:=p) K;have bk:=rf o n c p K;have bb: ((p:Int)==0)=false:=cJ;have av:=rn d (bf v o n c).toArray (an y.x L n1 c1 M F C).toArray 95 85 95;have aH:=N ay;have aa:=N S;have W:=N az;clear t aq ay S B az;go_enter Tryz.func107,rP;go_upto_region 1 with fail
 generalize ((H d (X (bf v o n c) 95)).alloc (X (an y.x L n1 c1 M F C) 85)).alloc (X jy 95)=aI at *;generalize a9:d.heap.size=f at *;have A:lC aI d f (bf v o n c) (an y.x L n1 c1 M F C):=by simpa using av
 clear av;have aF:=A.x.cell 7 rfl;have aT:=A.aC;go_upto_region 3 with (first|(with_reducible refine b0 95 (A.v) dB ?_)|(go_at_call 126;refine (am.out _ iB).mono ?_;rintro e r ⟨rfl,ax⟩))
 have a:=A.I ax;have aE:=a.x.cell 0 rfl;rw [aH.out] at aE;have aC:=a.v.cell 5 rfl;rw [aa.out] at aC;have aT:=a.aC;clear A ax;have aA:=a.v.cell 4 rfl;have E:=a.v.lt J;have aX:=a.z.lt J;go_upto_region 11 with (go_at_call 105;(refine Calls.mono (tu (n1:=p) (c1:=c) ?_ (aU.out _ ?_) K) ?_;(focus (first|(simp [go_sem,cF];done)|(refine Y.I ch ?_;simp [go_sem,cF];done)));(focus ((exact bz);done)));rintro e h ⟨m,g,rfl,ae,aS⟩;(have w:Y r h:=Y.trans dh aS);have aA:=(a.I w).v.cell 4 rfl;have aP:=(a.I w).v.free 4 J;have P:=N (bi.lower ae (base2:=r.heap.size) (Y.le dh));clear ae)
 have aV: (v.ag.take p).length=p:=W.out;have Q:=jh (b:=f) (i:=4) (u:=ac m (v.ag.take p).length g) P.out E;have x:=(a.aC.trans w).setCell (p:=⟨f,4,V⟩) (by show d.heap.size≤f;omega) (ac m (v.ag.take p).length g);have l:=((a.I w).v.set 4 (ac m (v.ag.take p).length g)).of (us:=[af v.low,v.high,v.unb,v.right,ac m (v.ag.take p).length g,v.held,v.aH,v.bb,v.aD]) rfl;have R:=(a.I w).x.other (b':=f) (j:=4) K (ac m (v.ag.take p).length g);have s:=(a.I w).z.other (b':=f) (j:=4) K (ac m (v.ag.take p).length g);rw [aV] at Q x l s R;have a1:min p n=p:=K;have al:=jh (b:=f) (i:=3) (u:=O U y.x.r.page) (jh (b:=f) (i:=2) (u:=ah false) (jh (b:=f) (i:=1) (u:=af y.x.r.key) Q E) E) E;have D:=fun (z:ad)=>(Y.refl z).drew;have aR:=(g7 (b:=f+1+1) aX [af v.low,y.x.r.key,false,y.x.r.page,ac m p g,v.held,v.aH,v.bb,v.aD] 0 (bi.I cW al (D _))).fv cW;have aG:=N (P.out.from.le (show d.heap.size≤r.heap.size from a.aC.le));clear P Q al aE aC aA aP;rw [a1];generalize h.setCell ⟨f,4,V⟩ (ac m p g)=aD at *;have aF:=R.cell 7 rfl;have a6:=R.cell 9 rfl;have a3:=l.cell 1 rfl;have a4:=l.cell 2 rfl;have a5:=l.cell 3 rfl;have aM:=l.free 1 J;have aN:=l.free 2 J;have aO:=l.free 3 J;have l:=(((l.set 1 (af y.x.r.key)).set 2 (ah false)).set 3 (O U y.x.r.page)).of (us:=[af v.low,y.x.r.key,false,y.x.r.page,ac m p g,v.held,v.aH,v.bb,v.aD]) rfl;have s:=((s.other (b':=f) (j:=1) K (af y.x.r.key)).other (b':=f) (j:=2) K (ah false)).other (b':=f) (j:=3) K (O U y.x.r.page);have x:=((x.setCell (p:=⟨f,1,V⟩) (by show d.heap.size≤f;omega) (af y.x.r.key)).setCell (p:=⟨f,2,V⟩) (by show d.heap.size≤f;omega) (ah false)).setCell (p:=⟨f,3,V⟩) (by show d.heap.size≤f;omega) (O U y.x.r.page);go_region_held3 (fun ab=>ab.cell? ⟨f+1,7,V⟩=Z (af y.x.r.key)∧ab.cell? ⟨f+1,9,V⟩=Z (O U y.x.r.page)) ((first|(have kG:=(Y.refl aD);exact b9)|exact b9)) (fail);go_upto_region 21 with fail
 have l:=l.I (D _);have s:=s.I (D _);have x:=x.trans (D _);generalize (((aD.setCell ⟨f,1,V⟩ (af y.x.r.key)).setCell ⟨f,2,V⟩ (ah false)).setCell ⟨f,3,V⟩ (O U y.x.r.page)).drew=bl at *;clear aF a6 a3 a4 a5 aM aN aO;go_wp2_with (first|(with_reducible refine b0 95 (l) dB ?_)|(with_reducible refine bq 95 (s) ([af v.low,y.x.r.key,false,y.x.r.page,ac m p g,v.held,v.aH,v.bb,v.aD]) ?_));refine bH ((s.aR (us:=[af v.low,y.x.r.key,false,y.x.r.page,ac m p g,v.held,v.aH,v.bb,v.aD]) rfl).cK rfl _ rfl rfl dB rfl G) rfl ?_;refine bh.out _ _ ?_;rw [W.out];have aQ:=aa.out;exact ⟨m,g,by rw [aQ];rfl,aR,x.setCells K _ _,.inr (aG.out.le K)⟩
end Go.Proofs.YtbkmjhhpcinppaaGreatDoor
