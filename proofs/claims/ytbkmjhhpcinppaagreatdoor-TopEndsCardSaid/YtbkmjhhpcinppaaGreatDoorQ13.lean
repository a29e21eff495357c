import Derived.Test.YtbkmjhhpcinppaaGreatDoorQ12
namespace Go.Proofs.YtbkmjhhpcinppaaGreatDoor
set_option linter.unusedVariables false
set_option linter.defProp false
set_option linter.unusedSimpArgs false
set_option maxRecDepth 100000
set_option maxHeartbeats 40000000
open Ending renaming returned→ap
open Go renaming Addr→ai,Calls→ao,Value→ak,World→ad
open Go.Proofs.Tryz renaming prog→aj
open IntKind renaming i64→U
open Obj renaming cells→X
open Option renaming none→V,some→Z
open Value renaming agg→aw,bool→ah,int→O,nilIface→aB,pointer→au,slice→ac,string→af,tuple→a0
open World renaming alloc→H,setCells→ba
variable {B t d g : ad} {S : List Nat} {A c1 h z n n1 m : Nat} {f : List cw} {s l w : Option ai} {y : ar}
section
open Go.BigFrame Go.RowKit Go.WideShapes
theorem Ic(v:aY)(y:ar)(o:Option ai)(n c:Nat)(s:Option ai)(n1 c1:Nat)(l:Option ai)(m h:Nat)(d:ad)(q:aZ d o n c v.ag)(bc:n≤5000)(bd:dZ v)(az:ht y.x)(ax:y.x.r.kind=10)(av:v.held=false)(x:cY y.x.aD v.ag=true)(a5:bG y.x.aD v.ag≠0)(R: (bw v.ag (bG y.x.aD v.ag)).page=y.x.aH)(S: (bw v.ag (bG y.x.aD v.ag - 1)).page=y.x.bb):
  ao aj 107 #[fg v o n c,aW y.x s n1 c1 l m h] d (iI d o {v with held:=true,aH:=y.x.aH,bb:=y.x.bb,aD:=y.x.aD}):=by
 have aa: ∀ (e:Ending) (D:ad),(∃ B c,e=ap (a0 #[aw #[v.low,v.high,v.unb,v.right,ac B v.ag.length c,true,y.x.aH,y.x.bb,y.x.aD],true])∧aZ D B v.ag.length c v.ag∧Y d D∧(B=o∨eI d B))→iI d o {v with held:=true,aH:=y.x.aH,bb:=y.x.bb,aD:=y.x.aD} e D:=fun e D ⟨o,c,F,aJ,aK⟩=>⟨o,c,F,aJ,aK⟩;have bh:=N aa;generalize iI d o {v with held:=true,aH:=y.x.aH,bb:=y.x.bb,aD:=y.x.aD}=a4 at *;have aR:=N fun r (P:Y d r)=>ld v o n c y.x.r.key r (aZ.I q P) az.key;have W:=N fun r (P:Y d r)=>ld v o n c y.x.aD r (aZ.I q P) az.aD;rw[x]at W;have ay:bG y.x.aD v.ag < n:=by
  unfold cY at x;rw[dp,q.len]at x;exact x.1
 have aU:=q.len;have a9:=q.dj;have aV:=q.dr;unfold maxLen at aV;generalize bG y.x.aD v.ag=p at *;generalize bG y.x.r.key v.ag=bg at *;have aP:=N q;obtain⟨b,be,M,I⟩:=q.get;obtain⟨-,z, -⟩:=I p ay;obtain⟨-,A, -⟩:=I (p - 1) K;have aQ:=lg c M ay;have T:=fun r=>re c M (k:=(p:Int) - 1) K K r;have F: ((p:Int) - 1).toNat=p - 1:=K;rw[F]at T;rw[R]at z;rw[S]at A;have a7: ((p:Int)==0)=false:=cJ;have a8:IntKind.i64.wrap ((p:Int) - 1)=(p:Int) - 1:=e0 _ K;have ab:=rn d (bf v o n c).toArray (an y.x s n1 c1 l m h).toArray 95 85 95;have aI:=N ax;have aG:=N av;clear q aa ax av M I x R S;go_enter Tryz.func107,rP;go_upto_region 1 with fail
 generalize((H d (X (bf v o n c) 95)).alloc (X (an y.x s n1 c1 l m h) 85)).alloc (X jy 95)=t at *;generalize a6:d.heap.size=a at *;have w:lC t d a (bf v o n c) (an y.x s n1 c1 l m h):=by simpa using ab
 clear ab;have bj:=w.x.cell 7 rfl;have am:=w.aC;go_upto_region 3 with(first|(with_reducible refine b0 95 (w.v) dB ?_)|(go_at_call 126;refine(aR.out _ iB).mono ?_;rintro e r ⟨rfl,ag⟩))
 have u:=w.I ag;have aC:=u.x.cell 0 rfl;rw[aI.out]at aC;have C:=u.v.cell 5 rfl;rw[aG.out]at C;have am:=u.aC;clear w ag;have Q:=u.x.cell 12 rfl;go_upto_region 14 with(first|(with_reducible refine b0 95 (u.v) dB ?_)|(go_at_call 126;refine(W.out _ iB).mono ?_;rintro e aA ⟨rfl,al⟩))
 have i:=u.I al;have z:=i.aC.I z;have A:=i.aC.I A;have aX:=i.v.cell 4 rfl;have aE:=i.x.cell 10 rfl;have aF:=i.x.cell 11 rfl;have Q:=i.x.cell 12 rfl;have am:=i.aC;clear u al aC C;go_big_quiet(fail);have f:=i.I ((Y.refl aA).drewN nq);generalize aA.drewN nq=g at *;clear i z A aX aQ T;go_upto_region 16 with fail
 have aE:=f.x.cell 10 rfl;have aF:=f.x.cell 11 rfl;have Q:=f.x.cell 12 rfl;have C:=f.v.cell 5 rfl;have a1:=f.v.cell 6 rfl;have a2:=f.v.cell 7 rfl;have a3:=f.v.cell 8 rfl;have aL:=f.v.free 5 J;have aM:=f.v.free 6 J;have aN:=f.v.free 7 J;have aO:=f.v.free 8 J;go_region_held3(fun E=>E.cell? ⟨a+1,10,V⟩=Z (O U y.x.aH)∧E.cell? ⟨a+1,11,V⟩=Z (O U y.x.bb)∧E.cell? ⟨a+1,12,V⟩=Z (af y.x.aD)) ((first|(have kG:=(Y.refl g);exact b9)|exact b9)) (fail);have L:=(Y.refl ((((g.setCell ⟨a,5,V⟩ (ah true)).setCell ⟨a,6,V⟩ (O U y.x.aH)).setCell ⟨a,7,V⟩ (O U y.x.bb)).setCell ⟨a,8,V⟩ (af y.x.aD))).drew;have aS:=(((((f.v.set 5 (ah true)).set 6 (O U y.x.aH)).set 7 (O U y.x.bb)).set 8 (af y.x.aD)).I L).of (us:=[af v.low,v.high,v.unb,v.right,ac o n c,true,y.x.aH,y.x.bb,y.x.aD]) rfl;have ae:=((((f.z.other (b':=a) (j:=5) K (ah true)).other (b':=a) (j:=6) K (O U y.x.aH)).other (b':=a) (j:=7) K (O U y.x.bb)).other (b':=a) (j:=8) K (af y.x.aD)).I L;have aT:=((((f.aC.setCell (p:=⟨a,5,V⟩) (by show d.heap.size≤a;omega) (ah true)).setCell (p:=⟨a,6,V⟩) (by show d.heap.size≤a;omega) (O U y.x.aH)).setCell (p:=⟨a,7,V⟩) (by show d.heap.size≤a;omega) (O U y.x.bb)).setCell (p:=⟨a,8,V⟩) (by show d.heap.size≤a;omega) (af y.x.aD)).trans L;go_upto_region 21 with fail
 generalize((((g.setCell ⟨a,5,V⟩ (ah true)).setCell ⟨a,6,V⟩ (O U y.x.aH)).setCell ⟨a,7,V⟩ (O U y.x.bb)).setCell ⟨a,8,V⟩ (af y.x.aD)).drew=bi at *;clear C a1 a2 a3 aL aM aN aO aE aF Q;go_wp2_with(first|(with_reducible refine b0 95 (aS) dB ?_)|(with_reducible refine bq 95 (ae) ([af v.low,v.high,v.unb,v.right,ac o n c,true,y.x.aH,y.x.bb,y.x.aD]) ?_));refine bH ((ae.aR (us:=[af v.low,v.high,v.unb,v.right,ac o n c,true,y.x.aH,y.x.bb,y.x.aD]) rfl).cK rfl _ rfl rfl dB rfl G) rfl ?_;refine bh.out _ _ ?_;have aq:=aT.setCells (b:=a+1+1) K [af v.low,v.high,v.unb,v.right,ac o n c,true,y.x.aH,y.x.bb,y.x.aD] 0;rw[aU];exact⟨o,c,rfl,aZ.I aP.out aq,aq,.inl rfl⟩
theorem Ie(v:aY)(y:ar)(o:Option ai)(n c:Nat)(s:Option ai)(n1 c1:Nat)(l:Option ai)(m h:Nat)(d:ad)(E:aZ d o n c v.ag)(bN:n≤5000)(bt:dZ v)(bv:ht y.x)(aR:y.x.r.kind=11)(aQ:v.held=true)(bg:bG v.aD v.ag < v.ag.length):
  ao aj 107 #[fg v o n c,aW y.x s n1 c1 l m h] d (iI d o {v with ag:=v.ag.take (bG v.aD v.ag)++v.ag.drop (bG v.aD v.ag+1),held:=false,aH:=0,bb:=0,aD:=b8}):=by
 have aM: ∀ (q:List cw) (e:Ending) (I:ad),(∃ aa c,e=ap (a0 #[aw #[v.low,v.high,v.unb,v.right,ac aa q.length c,false,O U 0,O U 0,af ⟨#[]⟩],true])∧aZ I aa q.length c q∧Y d I∧(aa=o∨eI d aa))→iI d o {v with ag:=q,held:=false,aH:=0,bb:=0,aD:=b8} e I:=fun q e I ⟨o,c,a3,a4,a6⟩=>⟨o,c,a3,a4,a6⟩;have bh:=N (aM (v.ag.take (bG v.aD v.ag)++v.ag.drop (bG v.aD v.ag+1)));generalize iI d o {v with ag:=v.ag.take (bG v.aD v.ag)++v.ag.drop (bG v.aD v.ag+1),held:=false,aH:=0,bb:=0,aD:=b8}=bE at *;have bl:=N fun A (F:Y d A)=>ld v o n c y.x.r.key A (aZ.I E F) bv.key;have bk:=N fun A (F:Y d A)=>ld v o n c v.aD A (aZ.I E F) bt.aD;have bo:=E.len;have bL:=E.dj;rw[bo]at bg;have aS: (v.ag.take (bG v.aD v.ag)++v.ag.drop (bG v.aD v.ag+1)).length=n - 1:=by
  rw[dG,fm,hl];omega
 generalize bG v.aD v.ag=p at *;generalize bG y.x.r.key v.ag=bO at *;have bm:=N fun A (F:Y d A)=>(aZ.I E F).head (k:=p) K;have bs:=N fun A (F:Y d A)=>(aZ.I E F).tail (k:=p+1) K;have bP:=rf o n c p K;have bx:=tY o n c (p+1) K;have bA: ((p+1:Nat):Int)=(p:Int)+1:=K;rw[bA]at bx;have bK:wrap64 ((p:Int)+1)=(p:Int)+1:=by unfold wrap64;omega
 have bJ:IntKind.i64.wrap ((p:Int)+1)=(p:Int)+1:=e0 _ K;have aN:=rn d (bf v o n c).toArray (an y.x s n1 c1 l m h).toArray 95 85 95;have a2:=N aR;have a1:=N aQ;have aJ:=N aS;clear E aM aR aQ aS;go_enter Tryz.func107,rP;go_upto_region 1 with fail
 generalize((H d (X (bf v o n c) 95)).alloc (X (an y.x s n1 c1 l m h) 85)).alloc (X jy 95)=t at *;generalize bI:d.heap.size=a at *;have M:lC t d a (bf v o n c) (an y.x s n1 c1 l m h):=by simpa using aN
 clear aN;have aV:=M.x.cell 7 rfl;have aF:=M.aC;go_upto_region 3 with(first|(with_reducible refine b0 95 (M.v) dB ?_)|(go_at_call 126;refine(bl.out _ iB).mono ?_;rintro e A ⟨rfl,aO⟩))
 have C:=M.I aO;have aU:=C.x.cell 0 rfl;rw[a2.out]at aU;have ab:=C.v.cell 5 rfl;rw[a1.out]at ab;have aF:=C.aC;clear M aO;have aG:=C.v.cell 8 rfl;go_upto_region 19 with(first|(with_reducible refine b0 95 (C.v) dB ?_)|(go_at_call 126;refine(bk.out _ iB).mono ?_;rintro e al ⟨rfl,aP⟩))
 have x:=C.I aP;have aV:=x.x.cell 7 rfl;have aT:=x.v.cell 4 rfl;have aF:=x.aC;have S:=x.v.lt J;have bp:=x.z.lt J;clear C aP ab aG aU;refine cZ (fun _=>True) (fun I=>I.cell? ⟨a,4,V⟩=Z (ac o n c)) 12 G ?_;have z:True:=trivial;have az:=(Y.refl al).drew;have hKC:=az.I aT;clear aT aV;generalize al.drew=D at *;refine' aI 0 150 (au (Z ⟨a,4,V⟩)) rfl z hKC ?_;refine' bc (v:=ac o n c) 1 151 rfl (.inl ⟨aq,?_⟩) z hKC ?_
 ·(intro d Q;have bw:=Q.2;clear Q;go_simp)
 refine' aI 2 152 (O U (p:Int)) rfl z hKC ?_;refine' aI 3 153 (ac o p c) rfl z hKC ?_;refine' aI 4 154 (au (Z ⟨a,4,V⟩)) rfl z hKC ?_;refine' bc (v:=ac o n c) 5 155 rfl (.inl ⟨aq,?_⟩) z hKC ?_
 ·(intro d Q;have bw:=Q.2;clear Q;go_simp)
 refine' aI 6 156 (O U (p:Int)) rfl z hKC ?_;refine' aI 7 157 (O U ((p:Int)+1)) rfl z hKC ?_;refine' aI 8 158 (ac (en o (p+1) c) (n - (p+1)) (c - (p+1))) rfl z hKC ?_;refine b4 9 (Z 159) rfl (fun L B=>?_);go_simp;have aE:Y D (H D (X #[ac o p c,ac (en o (p+1) c) (n - (p+1)) (c - (p+1))] 81)):=(Y.refl D).alloc _;have av:ae (H D (X #[ac o p c,ac (en o (p+1) c) (n - (p+1)) (c - (p+1))] 81)) D.heap.size [ac o p c,ac (en o (p+1) c) (n - (p+1)) (c - (p+1))]:=(ae.new D _ _ rfl).of J;have P:=aE.I hKC;refine a5 B (trivial) (fun _=>P) ?_;clear B L;have hKC:=P;have aA:=az.trans aE;generalize H D (X #[ac o p c,ac (en o (p+1) c) (n - (p+1)) (c - (p+1))] 81)=bF at *;refine b4 10 (Z 160) rfl (fun L B=>?_);go_simp;go_at_call 105;have aC:=aF.trans aA;refine(EQ (av.cell 0 rfl) (av.cell 1 rfl) (bm.out _ aC) K (bs.out _ aC) K).mono ?_;rintro e g ⟨w,r,rfl,aK,ay⟩;have P:=ay.I hKC;have T:=aA.trans ay;have am:=N (bi.lower aK (base2:=al.heap.size) aA.le);have a7:=(x.I T).v.free 4 J;clear aK aE az aC av ay;refine a5 B (trivial) (fun _=>P) ?_;clear B L;have hKC:=P;refine' aI 11 161 (au (Z ⟨a,4,V⟩)) rfl z hKC ?_;refine cg 12 (V) rfl (fun L B=>?_);go_simp;refine bM B (trivial) ?_;clear B L;refine cC G ?_;have bn: (v.ag.take p++v.ag.drop (p+1)).length=n - 1:=aJ.out;have ax:=jh (b:=a) (i:=4) (u:=ac w (v.ag.take p++v.ag.drop (p+1)).length r) am.out S;have W:=(x.aC.trans T).setCell (p:=⟨a,4,V⟩) (by show d.heap.size≤a;omega) (ac w (v.ag.take p++v.ag.drop (p+1)).length r);have f:=((x.I T).v.set 4 (ac w (v.ag.take p++v.ag.drop (p+1)).length r)).of (us:=[af v.low,v.high,v.unb,v.right,ac w (v.ag.take p++v.ag.drop (p+1)).length r,v.held,v.aH,v.bb,v.aD]) rfl;have R:=(x.I T).z.other (b':=a) (j:=4) K (ac w (v.ag.take p++v.ag.drop (p+1)).length r);rw[bn]at ax W f R;have br:min p n+(n - (p+1))=n - 1:=K;have aL:=jh (b:=a) (i:=8) (u:=af ⟨#[]⟩) (jh (b:=a) (i:=7) (u:=O U 0) (jh (b:=a) (i:=6) (u:=O U 0) (jh (b:=a) (i:=5) (u:=ah false) ax S) S) S) S;have bj:=(g7 (b:=a+1+1) bp [af v.low,v.high,v.unb,v.right,ac w (n - 1) r,false,O U 0,O U 0,af ⟨#[]⟩] 0 aL).fv cW;have aX:=N (am.out.from.le (show d.heap.size≤al.heap.size from x.aC.le));clear a7 ax aL am;go_upto_region 20 with fail
 rw[br];generalize g.setCell ⟨a,4,V⟩ (ac w (n - 1) r)=bD at *;have ab:=f.cell 5 rfl;have bB:=f.cell 6 rfl;have bC:=f.cell 7 rfl;have aG:=f.cell 8 rfl;have a8:=f.free 5 J;have a9:=f.free 6 J;have bd:=f.free 7 J;have be:=f.free 8 J;have f:=((((f.set 5 (ah false)).set 6 (O U 0)).set 7 (O U 0)).set 8 (af ⟨#[]⟩)).of (us:=[af v.low,v.high,v.unb,v.right,ac w (n - 1) r,false,O U 0,O U 0,af ⟨#[]⟩]) rfl;have R:=(((R.other (b':=a) (j:=5) K (ah false)).other (b':=a) (j:=6) K (O U 0)).other (b':=a) (j:=7) K (O U 0)).other (b':=a) (j:=8) K (af ⟨#[]⟩);have W:=(((W.setCell (p:=⟨a,5,V⟩) (by show d.heap.size≤a;omega) (ah false)).setCell (p:=⟨a,6,V⟩) (by show d.heap.size≤a;omega) (O U 0)).setCell (p:=⟨a,7,V⟩) (by show d.heap.size≤a;omega) (O U 0)).setCell (p:=⟨a,8,V⟩) (by show d.heap.size≤a;omega) (af ⟨#[]⟩);go_upto_region 21 with fail
 generalize(((bD.setCell ⟨a,5,V⟩ (ah false)).setCell ⟨a,6,V⟩ (O U 0)).setCell ⟨a,7,V⟩ (O U 0)).setCell ⟨a,8,V⟩ (af ⟨#[]⟩)=bQ at *;clear ab bB bC aG a8 a9 bd be;go_wp2_with(first|(with_reducible refine b0 95 (f) dB ?_)|(with_reducible refine bq 95 (R) ([af v.low,v.high,v.unb,v.right,ac w (n - 1) r,false,O U 0,O U 0,af ⟨#[]⟩]) ?_));refine bH ((R.aR (us:=[af v.low,v.high,v.unb,v.right,ac w (n - 1) r,false,O U 0,O U 0,af ⟨#[]⟩]) rfl).cK rfl _ rfl rfl dB rfl G) rfl ?_;refine bh.out _ _ ?_;rw[aJ.out];exact⟨w,r,rfl,bj,W.setCells K _ _,.inr (aX.out.le K)⟩
theorem G2(v:aY)(page:Int)(o:Option ai)(n c:Nat)(d:ad)(C:aZ d o n c v.ag)(R:v.held=false)(a5:n / 2≠0)(cg:n≤10000):
  ao aj 171 #[fg v o n c,page] d fun e S=> ∃ l m h,e=ap (a0 #[aW (jn (bw v.ag (v.ag.length / 2)).key page).x V 0 0 V 0 0,aW (bA (bN v)).x V 0 0 l m h,aB])∧aZ S l m h (bN v).ag∧eI d l∧Y d S:=by
 have u:=dL;have W:ae (((H d (X (bf v o n c) 95)).alloc (X al 85)).alloc (X al 85)) d.heap.size (bf v o n c):=(((ae.new d _ _ rfl).of J).I ((Y.refl _).alloc _)).I ((Y.refl _).alloc _);have am:ae (((H d (X (bf v o n c) 95)).alloc (X al 85)).alloc (X al 85)) (d.heap.size+1) al:=((ae.new (H d _) _ _ (by rw [u])).of J).I ((Y.refl _).alloc _);have ab:ae (((H d (X (bf v o n c) 95)).alloc (X al 85)).alloc (X al 85)) (d.heap.size+2) al:=(ae.new ((H d _).alloc _) _ _ (by rw [u,u])).of J;have F:Y d (((H d (X (bf v o n c) 95)).alloc (X al 85)).alloc (X al 85)):=(((Y.refl d).alloc _).alloc _).alloc _;have L: (((H d (X (bf v o n c) 95)).alloc (X al 85)).alloc (X al 85)).heap.size=d.heap.size+3:=by rw [u,u,u]
 have P:=N (w8 v o n c _ (aZ.I C F) R a5);have ce:=C.len;clear C R;go_enter Tryz.func171,Tryz.ntmps171;go_upto_region 1 with fail
 generalize ((H d (X (bf v o n c) 95)).alloc (X al 85)).alloc (X al 85)=t at *;have aa:=N L;clear L u;generalize cb:d.heap.size=w at *;go_cut [8,9,10] (fun bh bj ch q=> ∃ (i:Nat) (l:Option ai) (h:Nat),bh=au (Z i)∧bj=aB∧ae q i (bf (bN v) l (n - n / 2) h)∧aZ q l (n - n / 2) h (bN v).ag∧Y t q∧t.heap.size≤i)
 case first=>
  go_wp2_with (first|(with_reducible refine b0 95 (W) dB ?_)|(go_at_call 188;(refine P.out.mono ?_);rintro e g ⟨s,c1,l,h,rfl,a6,x,y⟩;have T:ae ((H g (X dP 95)).alloc (X dP 95)) g.heap.size dP:=((ae.new g _ _ rfl).I ((Y.refl _).alloc _)).of J;have M:ae ((H g (X dP 95)).alloc (X dP 95)) (g.heap.size+1) dP:=(ae.new (H g _) _ _ dW).of J;have B:=N x;clear a6 x)|(with_reducible refine bq 95 (T) ((bf (cI v v.right) s (n / 2) c1)) ?_)|(with_reducible refine bq 95 ((M.others K _)) ((bf (bN v) l (n - n / 2) h)) ?_));go_meet;have bd:=y.le;refine ⟨g.heap.size+1,l,h,rfl,rfl,(M.others K _).aR rfl,aZ.I B.out ((((Y.refl g).alloc _).alloc _|>.setCells (aG _) _ _).setCells K _ _),(((y.alloc _).alloc _).setCells bd _ _).setCells K _ _,K⟩
 case rest=>
  obtain ⟨i,l,h,rfl,rfl,j,x,z,cc⟩:=hcut;have L:=aa.out;have bc:=x.len;have B:=N fun bC (be:Y wc bC)=>aZ.I x be;clear x P;have cf:=j.cell 0 rfl;have bo:=j.cell 1 rfl;have bp:=j.cell 2 rfl;have br:=j.cell 3 rfl;have bs:=j.cell 4 rfl;have bt:=j.cell 5 rfl;have bv:=j.cell 6 rfl;have bx:=j.cell 7 rfl;have bB:=j.cell 8 rfl;go_upto_region 4 with fail
  go_cut [6] (fun bg q=>bg=aB∧∃ p A r,ae q (w+1) (an (jn (bN v).low page).x V 0 0 V 0 0)∧ae q (w+1+1) (an (bA (bN v)).x V 0 0 p A r)∧Y d q∧aZ q p A r (bN v).ag∧eI w p)
  case first=>
   go_region_held3 (fun k=>k.cell? i=Z (af (bN v).low)∧k.cell? ⟨i,1,V⟩=Z (af (bN v).high)∧k.cell? ⟨i,2,V⟩=Z (ah (bN v).unb)∧k.cell? ⟨i,3,V⟩=Z (O U (bN v).right)∧k.cell? ⟨i,4,V⟩=Z (ac l (n - n / 2) h)∧k.cell? ⟨i,5,V⟩=Z (ah (bN v).held)∧k.cell? ⟨i,6,V⟩=Z (O U (bN v).aH)∧k.cell? ⟨i,7,V⟩=Z (O U (bN v).bb)∧k.cell? ⟨i,8,V⟩=Z (af (bN v).aD))
   ((first|(have kG:=y;exact b9)|exact b9)) (first|(go_at_call 144;(refine Calls.mono (ni (bN v) l (n - n / 2) h _ (B.out _ iB) K) ?_);rintro e g ⟨p,r,rfl,Q,y⟩;(have I:Y wc g:=Y.trans dh y);have f:=am.I (z.trans I);have a:=ab.I (z.trans I);have D:=bi.lower Q (base2:=wc.heap.size) (Y.le dh);clear Q;have bT:=(f).cell 0 rfl;have bU:=(f).cell 1 rfl;have b1:=(f).cell 2 rfl;have b2:=(f).cell 3 rfl;have b3:=(f).cell 4 rfl;have b4:=(f).cell 5 rfl;have b5:=(f).cell 6 rfl;have b6:=(f).cell 7 rfl;have b7:=(f).cell 8 rfl;have b8:=(f).cell 9 rfl;have bV:=(f).cell 10 rfl;have bW:=(f).cell 11 rfl;have bX:=(f).cell 12 rfl;have bY:=(f).cell 13 rfl;have bZ:=(f).cell 14 rfl;have aM:=(f).free 0 J;have aN:=(f).free 1 J;have aT:=(f).free 2 J;have aU:=(f).free 3 J;have aV:=(f).free 4 J;have aX:=(f).free 5 J;have a1:=(f).free 6 J;have a2:=(f).free 7 J;have a3:=(f).free 8 J;have a4:=(f).free 9 J;have aO:=(f).free 10 J;have aP:=(f).free 11 J;have aQ:=(f).free 12 J;have aR:=(f).free 13 J;have aS:=(f).free 14 J;have c7:=(a).cell 0 rfl;have bD:=(a).cell 1 rfl;have bK:=(a).cell 2 rfl;have bL:=(a).cell 3 rfl;have bM:=(a).cell 4 rfl;have bO:=(a).cell 5 rfl;have bP:=(a).cell 6 rfl;have bQ:=(a).cell 7 rfl;have bR:=(a).cell 8 rfl;have bS:=(a).cell 9 rfl;have bE:=(a).cell 10 rfl;have bF:=(a).cell 11 rfl;have bG:=(a).cell 12 rfl;have bI:=(a).cell 13 rfl;have bJ:=(a).cell 14 rfl;have ar:=(a).free 0 J;have av:=(a).free 1 J;have aD:=(a).free 2 J;have aE:=(a).free 3 J;have aF:=(a).free 4 J;have aH:=(a).free 5 J;have aI:=(a).free 6 J;have aJ:=(a).free 7 J;have aK:=(a).free 8 J;have aL:=(a).free 9 J;have ax:=(a).free 10 J;have ay:=(a).free 11 J;have az:=(a).free 12 J;have aA:=(a).free 13 J;have aC:=(a).free 14 J));clear bT bU b1 b2 b3 b4 b5 b6 b7 b8 bV bW bX bY bZ aM aN aT aU aV aX a1 a2 a3 a4 aO aP aQ aR aS c7 bD bK bL bM bO bP bQ bR bS bE bF bG bI bJ ar av aD aE aF aH aI aJ aK aL ax ay az aA aC cf bo bp br bs bt bv bx bB;have cd:=z.le;have a9:=F.trans (z.trans I);go_wp2_with fail;go_meet;have E:eI w p:=D.from.le (by have:=F.le;omega);rw [bc] at D;have a8:=HH (b:=w+1) (c:=w+1+1) f a rfl rfl K a9 K K D K K (O U 9) (af ⟨#[]⟩) (af ⟨#[]⟩) (ah false) (O U 0) (ac V 0 0) (ac V 0 0) (af (bN v).low) (af ⟨#[]⟩) (O U page) (O U 0) (O U 0) (af ⟨#[]⟩) (O U 0) (O U 0) (O U (bA (bN v)).x.r.kind) (af (bA (bN v)).x.r.low) (af (bA (bN v)).x.r.high) (ah (bA (bN v)).x.r.unb) (O U (bA (bN v)).x.r.right) (ac V 0 0) (ac p (n - n / 2) r) (af (bA (bN v)).x.r.key) (af (bA (bN v)).x.r.val) (O U (bA (bN v)).x.r.page) (O U (bA (bN v)).x.aH) (O U (bA (bN v)).x.bb) (af (bA (bN v)).x.aD) (O U (bA (bN v)).x.slot) (O U (bA (bN v)).x.gen);obtain ⟨bk,bl,bm,bn⟩:=a8;exact ⟨rfl,p,n - n / 2,r,bk,bl,bm,bn,E⟩
  case rest=>
   obtain ⟨rfl,p,A,r,aq,ag,bb,a7,E⟩:=hcut;go_wp2_with fail;refine bH (ae.nK aq ag rfl _ rfl rfl rfl cG rfl G G) rfl ?_;exact ⟨p,A,r,rfl,a7,E.le K,bb⟩
def sh (v:aY):Prop:=v.held=true→bG v.aD v.ag < v.ag.length
theorem Il(v:aY)(y:ar)(o:Option ai)(n c:Nat)(s:Option ai)(n1 c1:Nat)(l:Option ai)(m h:Nat)(d:ad)(p:aZ d o n c v.ag)(r:n≤5000)(e:dZ v)(j:ht y.x)(u:sh v){k:aY}(a:hh v y=Z k):
  ao aj 107 #[fg v o n c,aW y.x s n1 c1 l m h] d (iI d o k)∧dZ k∧sh k∧k.ag.length≤v.ag.length+1:=by
 have w:=pb y.x.r.key v.ag;have x:=pb v.aD v.ag;unfold hh at a;split at a
 ·rename_i b;split at a
  ·cases a
  ·rename_i f;cases a;have g:cY y.x.r.key v.ag=false:=by
    cases i:cY y.x.r.key v.ag with
    |false=>rfl
    |true=>exact absurd (.inl i) f
   have t:gz v y.x.r.key=true:=by
    cases i:gz v y.x.r.key with
    |true=>rfl
    |false=>exact absurd (.inr i) f
   refine⟨Ig v y o n c s n1 c1 l m h d p r e j b.1 b.2 g t,⟨e.low,e.high,e.aD⟩,fun q=>?_,?_⟩
   ·have q:v.held=true:=q;rw[b.2]at q;cases q
   ·show(v.ag.take _++[_]++v.ag.drop _).length≤_;rw[dG,dG,fm,hl,uC];omega
 ·split at a
  ·rename_i b;split at a
   ·cases a
   ·rename_i f;cases a;have g:cY y.x.r.key v.ag=true:=by
     cases i:cY y.x.r.key v.ag with
     |true=>rfl
     |false=>exact absurd (.inl i) f
    refine⟨Ih v y o n c s n1 c1 l m h d p r e j b.1 b.2 g (fun q=>f (.inr q)),⟨e.low,j.key,e.aD⟩,fun q=>?_,?_⟩
    ·have q:v.held=true:=q;rw[b.2]at q;cases q
    ·show(v.ag.take _).length≤_;rw[fm];omega
  ·split at a
   ·rename_i b;split at a
    ·cases a
    ·rename_i f;cases a;have g:cY y.x.aD v.ag=true:=by
      cases i:cY y.x.aD v.ag with
      |true=>rfl
      |false=>exact absurd (.inl i) f
     refine⟨Ic v y o n c s n1 c1 l m h d p r e j b.1 b.2 g (fun q=>f (.inr (.inl q))) (zX fun q=>f (.inr (.inr (.inl q)))) (zX fun q=>f (.inr (.inr (.inr q)))),⟨e.low,e.high,j.aD⟩,fun q=>?_,gl _⟩;show bG y.x.aD v.ag < v.ag.length;unfold cY at g;rw[dp]at g;exact g.1
   ·split at a
    ·rename_i b;cases a;refine⟨Ie v y o n c s n1 c1 l m h d p r e j b.1 b.2 (u b.2),⟨e.low,e.high,by show(0:Nat)≤maxLen;omega⟩,fun q=>(by cases q),?_⟩;show(v.ag.take _++v.ag.drop _).length≤_;rw[dG,fm,hl];omega
    ·cases a
end
section
def jY (f:List ar) (b:ar) (a:Nat):Option aY:=oQ (f.dropLast.drop a) (hO b)
theorem xC(f:List ar)(b:ar){a:Nat}(c:f.length≤a+1):jY f b a=Z (hO b):=by
 unfold jY;rw[rG cJ];rfl
theorem xD(f:List ar)(b:ar){a:Nat}{y:ar}(c:f[a]?=Z y)(h:a+1 < f.length):jY f b a=(jY f b (a+1)).bind fun v=>hh v y:=by
 unfold jY;have e:a < f.dropLast.length:=cJ;rw[kQ e,wI];have:f.dropLast[a]=y:=by
  rw[List.getElem_dropLast];obtain⟨g,d⟩:=c3.1 c;exact d
 rw[this]
theorem EK(f:List ar)(b:ar){v:aY}(e:jY f b 0=Z v): ∀ a,∃ d,jY f b a=Z d:=by
 intro a;induction a with
 |zero=>exact⟨v,e⟩
 |succ a ih=>
  obtain⟨d,c⟩:=ih;by_cases g:a+1 < f.length
  ·have i:f[a]?=Z f[a]:=cP K;rw[xD f b i g]at c;cases h:jY f b (a+1)with
   |none=>rw[h]at c;cases c
   |some j=>exact⟨j,rfl⟩
  ·exact⟨hO b,xC f b K⟩
structure Ac (f:List ar) (a:ar) (v:aY):Prop where
 kinds: ∀ (i:Nat) (y:ar),f[i]?=Z y→7≤y.x.r.kind∧y.x.r.kind≤11
 last:f[f.length - 1]?=Z a
 kind:a.x.r.kind=7
 sound:lA (hO a)
 vE:jY f a 0=Z v
 ne:0 < f.length
theorem Dt{f:List ar}{v:aY}(c:foldI f=Z v): ∃ j,Ac f j v:=by
 unfold foldI at c;split at c
 ·rename_i h;cases d:f.getLast? with
  |none=>rw[d]at c;cases c
  |some b=>
   rw[d]at c;dsimp only at c;split at c
   ·rename_i e;refine⟨b,fun i y g=>h y (iV g),by rw[←uB];exact d,e.1,e.2,c,?_⟩;cases f with
    |nil=>cases d
    |cons a f=>simp
   ·cases c
 ·cases c
end
section
open Go.BigFrame Go.RowKit Go.WideShapes
theorem aZ.qI(l:aZ d w n z f){S:List Nat}(t: ∀ a,w=Z a→a.block∉S):aZ (ay d S) w n z f:=by
 obtain ⟨m,o,p,r,b,A,c,s⟩:=l;refine ⟨m,o,p,r,b,A,fun q=>⟨(c q).1,by rw [jj];exact (c q).2⟩,fun i x e=>?_⟩;obtain ⟨C,g,h,j,k⟩:=s i x e;have D:i < n:=by have:=(c3.1 e).1;omega
 have u:b∉S:=t _ (c K).1;exact ⟨C,g,h,j,fun y B v=>bp.2 ⟨u,k y B v⟩⟩
theorem aZ.mod{b:ad}(c:aZ d w n z f){S:List Nat}(g:Mod S d b)(e: ∀ a,w=Z a→a.block∉S):aZ b w n z f:=
 bo.gP cW (bo.ex cW (c.qI e) g.ex)
def Ad (d:ad) (v:aY) (e:Ending) (a:ad):Prop:=∃ o n c,e=ap (a0 #[fg v o n c,aB])∧aZ a o n c v.ag∧eI d.heap.size o∧dZ v∧Y d a
structure sb (t:ad) (b:Nat) (f:List ar) (e:ar) (i:Int) (wr:ad) (v:aY) (o:Option ai) (d c:Nat):Prop where
 at':jY f e (i+1).toNat=Z v
 box:ae wr b (bf v o d c)
 ag:aZ wr o d c v.ag
 tb:eI t.heap.size o
 oH: ∀ a,o=Z a→a.block≠b
 size:dZ v
 held:sh v
 oP:v.ag.length≤1000+(f.length - (i+1).toNat)
 aC:Y t wr
abbrev qs (a:ad) (b:Nat) (c d e f g h i j k:ak):ad:=((((((((a.setCell ⟨b,0,V⟩ c).setCell ⟨b,1,V⟩ d).setCell ⟨b,2,V⟩ e).setCell ⟨b,3,V⟩ f).setCell ⟨b,4,V⟩ g).setCell ⟨b,5,V⟩ h).setCell ⟨b,6,V⟩ i).setCell ⟨b,7,V⟩ j).setCell ⟨b,8,V⟩ k
theorem bi.DH{h:Type}{i:dK h}{m:Nat}{j:TypeId}{f:List h}(k:bi i m j d A w n z f): ∀ a,w=Z a→a.block < d.heap.size:=by
 obtain⟨x,y,r,s,⟨t,l⟩,u⟩:=k;intro a b;rcases l with⟨e, -⟩|⟨c,o,p,e,v,g,rest⟩
 ·simp only[iA]at e;rw[e.1]at b;cases b
 ·simp only[iA]at e;rw[e.1]at b;cases b;show c < _;rcases dC c d with q|q
  ·exact q
  ·rw[hj q]at g;cases g
theorem y2(d:ad)(a b:Obj): ((H d a).alloc b).drew.heap.size=d.heap.size+2:=by show((H d a).alloc b).heap.size=_;rw[dL,dL]
theorem Dy{o:Option ai}{c:Nat}(e:bi fa 2 174 g A o n c f)(h:Y t g)(j:t.heap.size≤A)(d:TypeId)(b:List ak):
  ae (H g (X b d)) g.heap.size b∧aZ (H g (X b d)) o n c f∧eI t o∧(∀ a,o=Z a→a.block≠g.heap.size)∧Y t (H g (X b d))∧t.heap.size≤g.heap.size:=
 ⟨(ae.new g b.toArray d rfl).of J,aZ.I (e.fv cW) ((Y.refl _).alloc _),e.from.le j,fun a i=>Nat.ne_of_lt (e.DH a i),h.alloc _,h.le⟩
theorem wL{b:Nat}{v:List ak}(w:ae g b v)(y:v.length=9){o:Option ai}{n c:Nat}{f:List cw}(q:bi fa 2 174 g A o n c f)(z:b < A)(x:Y t g)(s:t.heap.size≤b)(d e h i j k l m p:ak):
  ae (qs g b d e h i j k l m p) b [d,e,h,i,j,k,l,m,p]∧aZ (qs g b d e h i j k l m p) o n c f∧eI t o∧(∀ a,o=Z a→a.block≠b)∧Y t (qs g b d e h i j k l m p)∧t.heap.size≤b:=
 have u: ∀ a,o=Z a→a.block≠b:=fun a r=>by have:=q.from a r;omega
 ⟨show ae (ba g b 0 [d,e,h,i,j,k,l,m,p]) b _ from w.aR (by rw[y];rfl),show aZ (ba g b 0 [d,e,h,i,j,k,l,m,p]) o n c f from aZ.mod (q.fv cW) (Mod.setCells (S:=[b]) J _ _ _) (fun a r=>by rw[aO];exact u a r),q.from.le K,u,show Y t (ba g b 0 [d,e,h,i,j,k,l,m,p])from x.setCells s _ _,s⟩
theorem Dx(w:Option ai)(n z:Nat)(f:List ar)(v:aY)(d:ad)(av:fr d w n z f)(c9:n≤1000)(bW: ∀ y∈f,y.ag.length≤1000)(bN:foldI f=Z v):
  ao aj 85 #[ac w n z] d (Ad d v):=by
 obtain ⟨p,hF⟩:=Dt bN;have am:=N hF;have aq:=N av.len;have b7:=N bW;have c5:=av.dj;have ck:=av.dr;unfold maxLen at ck;have da:0 < n:=by rw [←av.len];exact hF.ne
 obtain ⟨b,D,bU,bM⟩:=av.get;have aL:=N bU;have aK:=N bM;clear bW av bU bM bN hF;have bs:ae (H d (X jy 95)) d.heap.size jy:=(ae.new d _ _ rfl).of J;have aH:=(Y.refl d).alloc (X jy 95);go_enter Tryz.func85,Tryz.ntmps85;go_upto_region 2 with fail
 generalize H d (X jy 95)=t at *;have cw:d.heap.size < t.heap.size:=bs.lt J;go_loopw [13] (fun bk wr=> ∃ k:Nat,k≤n∧bk=O U k∧Y t wr) (fun bk _=>n - (intOf bk).toNat)
 case atStart=>exact ⟨0,aJ _,rfl,Y.refl _⟩
 case round=>
  obtain ⟨k,c8,rfl,aF⟩:=hrel;by_cases ct:k < n
  ·have Q:f[k]?=Z (f[k]'(by have:=aq.out;omega)):=cP _;generalize (f[k]'(by have:=aq.out;omega))=y at Q;obtain ⟨s,n1,c1,l,m,h,T⟩:=aK.out k y Q;have r:=T.I (aH.trans aF);have ax:=nO z aL.out ct;obtain ⟨M,c3⟩:=am.out.kinds k y Q;clear Q T;go_upto_region 3 with fail
   go_cut [5] (fun cO R=> ∃ aM:Nat,cO=au (Z aM)∧ae R aM (an y.x s n1 c1 l m h)∧Y wr R)
   case first=>
    go_wp2_with (first|(refine e8 rfl 85 _ rfl _ _ rfl _ _ (r).aM cG rfl G ?_)|(refine dY rfl 85 _ _ rfl _ 0 _ rfl rfl (ae.new _ _ _ rfl).may G G ?_));go_meet;exact ⟨wr.heap.size,rfl,(ae.new wr _ _ rfl).aR rfl,((Y.refl _).alloc _).setCells (aG _) _ _⟩
   case rest=>
    obtain ⟨aM,rfl,cg,cn⟩:=hcut;have db:=cg.cell 0 rfl;have cp:=aF.trans cn;clear ax;go_wp2_with fail;go_roundw
    case rel=>exact ⟨k+1,K,e9,cp⟩
    case measure=>simp [intOf];omega
  ·obtain rfl:k=n:=by omega
   have aV:f[k - 1]?=Z p:=by rw [←aq.out];exact am.out.last
   obtain ⟨s,n1,c1,l,m,h,T⟩:=aK.out (k - 1) p aV;have r:=T.I (aH.trans aF);have ax:=fun E=>pj z aL.out (k:=(k:Int) - 1) K K E;have bA: ((k:Int) - 1).toNat=k - 1:=K;rw [bA] at ax;have cc:=N aV;have bx:wr.cell? ⟨b,D+(k - 1) * 15,V⟩=Z (O U p.x.r.kind):=r.cell 0 rfl;rw [am.out.kind] at bx;clear aV T bA;go_upto_region 10 with fail
   go_cut [7] (fun cQ R=> ∃ P:Nat,cQ=au (Z P)∧ae R P (an p.x s n1 c1 l m h)∧Y wr R)
   case first=>
    go_wp2_with (first|(refine e8 rfl 85 _ rfl _ _ rfl _ _ (r).aM cG rfl G ?_)|(refine dY rfl 85 _ _ rfl _ 0 _ rfl rfl (ae.new _ _ _ rfl).may G G ?_));go_meet;exact ⟨wr.heap.size,rfl,(ae.new wr _ _ rfl).aR rfl,((Y.refl _).alloc _).setCells (aG _) _ _⟩
   case rest=>
    obtain ⟨P,rfl,aa,aR⟩:=hcut;have ab:=aF.trans aR;have aD:=r.I aR;have bI:=N fun E (ag:Y wc E)=>aZ.I aD.ag ag;have aS:=aD.ag.len;have bV:p.ag.length≤1000:=b7.out _ (iV cc.out);have b6:=N bV;rw [aS] at bV;have b5:=N aS;have bw:=N aD.size;have ci:P < wc.heap.size:=aa.lt J;have bm:=aa.cell 1 rfl;have bn:=aa.cell 2 rfl;have bo:=aa.cell 3 rfl;have bp:=aa.cell 4 rfl;have br:=aa.cell 6 rfl;clear bx ax aS r aD;go_upto_region 11 with fail
    go_cut [8] (fun cS R=> ∃ (C:Nat) (o:Option ai) (c:Nat),cS=au (Z C)∧ae R C [af p.x.r.low,p.x.r.high,p.x.r.unb,p.x.r.right,ac o m c,false,O U 0,O U 0,af ⟨#[]⟩]∧aZ R o m c p.ag∧eI t o∧(∀ a,o=Z a→a.block≠C)∧Y t R∧t.heap.size≤C)
    case first=>
     have bF:=b5.out;go_region_held3 (fun aA=>aA.cell? ⟨P,1,V⟩=Z (af p.x.r.low)∧aA.cell? ⟨P,2,V⟩=Z (af p.x.r.high)∧aA.cell? ⟨P,3,V⟩=Z (ah p.x.r.unb)∧aA.cell? ⟨P,4,V⟩=Z (O U p.x.r.right)∧aA.cell? ⟨P,6,V⟩=Z (ac l m h))
      ((first|(have kG:=az;exact b9)|exact b9)) (first|(go_at_call 105;(refine Calls.mono (tu (n1:=m) (c1:=h) ?_ (bI.out _ ?_) K) ?_;(focus (first|(simp [go_sem,cF];done)|(refine Y.I ch ?_;simp [go_sem,cF];done)));(focus ((exact bz);done)));rintro e g ⟨B,I,rfl,aP,az⟩;(have L:Y wc g:=Y.trans dh az);(have bG:=bi.lower aP (base2:=wc.heap.size) (Y.le dh));have bm:=L.I bm;have bn:=L.I bn;have bo:=L.I bo;have bp:=L.I bp;have br:=L.I br;(try (first|(have j:=(((ae.new wc jy.toArray 95 (b:=wc.heap.size) rfl).I ((Y.refl _).alloc (X #[ac l m h] 81))).I ((Y.refl _).drew)).I az;have aE:=bi.lower aP (base2:=wc.heap.size+2) (hG (y2 _ _ _).symm);have a8:=j.cell 0 rfl;have aW:=j.free 0 J;have a9:=j.cell 1 rfl;have aX:=j.free 1 J;have bb:=j.cell 2 rfl;have a1:=j.free 2 J;have bc:=j.cell 3 rfl;have a2:=j.free 3 J;have bd:=j.cell 4 rfl;have a3:=j.free 4 J;have be:=j.cell 5 rfl;have a4:=j.free 5 J;have bg:=j.cell 6 rfl;have a5:=j.free 6 J;have bh:=j.cell 7 rfl;have a6:=j.free 7 J;have bj:=j.cell 8 rfl;have a7:=j.free 8 J)|(have j:=((ae.new (H wc (X #[ac l m h] 81)) jy.toArray 95 (b:=wc.heap.size+1) dW).I ((Y.refl _).drew)).I az;have aE:=bi.lower aP (base2:=wc.heap.size+2) (hG (y2 _ _ _).symm);have a8:=j.cell 0 rfl;have aW:=j.free 0 J;have a9:=j.cell 1 rfl;have aX:=j.free 1 J;have bb:=j.cell 2 rfl;have a1:=j.free 2 J;have bc:=j.cell 3 rfl;have a2:=j.free 3 J;have bd:=j.cell 4 rfl;have a3:=j.free 4 J;have be:=j.cell 5 rfl;have a4:=j.free 5 J;have bg:=j.cell 6 rfl;have a5:=j.free 6 J;have bh:=j.cell 7 rfl;have a6:=j.free 7 J;have bj:=j.cell 8 rfl;have a7:=j.free 8 J)))))
     all_goals (rw [bF] at bG;(try rw [bF] at aE);go_wp2_with fail;go_meet;first|(with_reducible exact ⟨wc.heap.size,B,I,rfl,wL j rfl aE (Nat.lt_succ_of_lt (oc _)) (ab.trans L) ab.le _ _ _ _ _ _ _ _ _⟩)|(with_reducible exact ⟨wc.heap.size+1,B,I,rfl,wL j rfl aE (oc _) (ab.trans L) (bZ ab.le (gl _)) _ _ _ _ _ _ _ _ _⟩)|(with_reducible exact ⟨g.heap.size,B,I,rfl,Dy bG (ab.trans L) ab.le _ _⟩))
    case rest=>
     obtain ⟨C,o,c,rfl,j,aN,bO,aC,bP,cj⟩:=hcut;clear bm bn bo bp br aa ci bI;have bE:aZ wc o m c (hO p).ag:=aN;have bJ:=am.out.sound;have aU:dZ (hO p):=⟨bw.out.low,bw.out.high,by show (0:Nat)≤maxLen;omega⟩;have bK:=N fun E (ag:Y wc E)=>GS (hO p) o m c E (aZ.I bE ag) aU bJ;have bv:=N aN;clear bJ aN bE;go_upto_region 12 with fail
     go_wp2_with (first|(with_reducible refine b0 95 (j) dB ?_)|(go_at_call 106;refine (bK.out _ iB).mono ?_;rintro e c2 ⟨rfl,aI⟩));have b2:Hid (sb t C f p ((k:Int) - 1 - 1) c2 (hO p) o m c):=N ⟨xC f p (by rw [aq.out];omega),j.I aI,aZ.I bv.out aI,bO,aC,aU,fun q=>(by cases q),by
      have M:=b6.out;show p.ag.length≤_;omega,bP.trans aI⟩
     clear j bv bO aC aU bK bP aR ab aI;go_loopw [9] (fun bl wr=> ∃ (i:Int) (v:aY) (o:Option ai) (W c:Nat),bl=O U i∧ -1≤i∧i≤(k:Int) - 1 - 1∧Hid (sb t C f p i wr v o W c)) (fun bl _=>(intOf bl+1).toNat)
     case atStart=>exact ⟨_,_,_,_,_,rfl,K,mJ _,b2⟩
     case round=>
      obtain ⟨i,al,o,W,c,rfl,c6,c7,u⟩:=hrel;by_cases co:0≤i
      ·have cr:i.toNat+1 < f.length:=by have:=aq.out;omega
       have Q:f[i.toNat]?=Z (f[i.toNat]'K):=cP _;generalize (f[i.toNat]'K)=y at Q;obtain ⟨s,n1,c1,l,m,h,T⟩:=aK.out i.toNat y Q;have r:=T.I (aH.trans u.out.aC);have ax:=fun E=>pj z aL.out co K E;have bY:jY f p i.toNat=hh al y:=by
        rw [xD f p Q cr];have M:=u.out.at';rw [show (i+1).toNat=i.toNat+1 by omega] at M;rw [M];rfl
       obtain ⟨x,aT⟩:=EK f p am.out.vE i.toNat;have b1:hh al y=Z x:=by rw [←bY,aT]
       have cu:W≤5000:=by have M:=u.out.oP;have bB:=u.out.ag.len;have bC:=aq.out;omega
       have aQ:=fun E (ag:Y wr E)=>Il al y o W c s n1 c1 l m h E (aZ.I u.out.ag ag) cu u.out.size r.size u.out.held b1;obtain ⟨-,bX,bR,cs⟩:=aQ wr (Y.refl _);have bL:=N fun E (ag:Y wr E)=>(aQ E ag).1;have cb:=N aT;have b8:=N bX;have b4:=N bR;have F:=u.out.box;have bQ:=u.out.aC;have c4:C < wr.heap.size:=F.lt J;have fC:wr.cell? ⟨b,D+i.toNat * 15,V⟩=Z (O U y.x.r.kind):=r.cell 0 rfl;have cx:wr.cell? ⟨b,D+i.toNat * 15+1,V⟩=Z (af y.x.r.low):=r.cell 1 rfl;have cD:wr.cell? ⟨b,D+i.toNat * 15+2,V⟩=Z (af y.x.r.high):=r.cell 2 rfl;have cE:wr.cell? ⟨b,D+i.toNat * 15+3,V⟩=Z (ah y.x.r.unb):=r.cell 3 rfl;have cI:wr.cell? ⟨b,D+i.toNat * 15+4,V⟩=Z (O U y.x.r.right):=r.cell 4 rfl;have cJ:wr.cell? ⟨b,D+i.toNat * 15+5,V⟩=Z (ac s n1 c1):=r.cell 5 rfl;have cK:wr.cell? ⟨b,D+i.toNat * 15+6,V⟩=Z (ac l m h):=r.cell 6 rfl;have cL:wr.cell? ⟨b,D+i.toNat * 15+7,V⟩=Z (af y.x.r.key):=r.cell 7 rfl;have cM:wr.cell? ⟨b,D+i.toNat * 15+8,V⟩=Z (af y.x.r.val):=r.cell 8 rfl;have cN:wr.cell? ⟨b,D+i.toNat * 15+9,V⟩=Z (O U y.x.r.page):=r.cell 9 rfl;have cy:wr.cell? ⟨b,D+i.toNat * 15+10,V⟩=Z (O U y.x.aH):=r.cell 10 rfl;have cz:wr.cell? ⟨b,D+i.toNat * 15+11,V⟩=Z (O U y.x.bb):=r.cell 11 rfl;have cA:wr.cell? ⟨b,D+i.toNat * 15+12,V⟩=Z (af y.x.aD):=r.cell 12 rfl;have cB:wr.cell? ⟨b,D+i.toNat * 15+13,V⟩=Z (O U y.x.slot):=r.cell 13 rfl;have cC:wr.cell? ⟨b,D+i.toNat * 15+14,V⟩=Z (O U y.x.gen):=r.cell 14 rfl;have cf:=F.cell 0 rfl;have cT:=F.cell 1 rfl;have cU:=F.cell 2 rfl;have cV:=F.cell 3 rfl;have cW:=F.cell 4 rfl;have cX:=F.cell 5 rfl;have cY:=F.cell 6 rfl;have cZ:=F.cell 7 rfl;have c0:=F.cell 8 rfl;have bT:Hid (∀ (g:ad) (B:Option ai) (I:Nat),ae g C (bf al o W c)→aZ g B x.ag.length I x.ag→Y wr g→(B=o∨eI wr B)→sb t C f p (i - 1) (qs g C (af x.low) (af x.high) (ah x.unb) (O U x.right) (ac B x.ag.length I) (ah x.held) (O U x.aH) (O U x.bb) (af x.aD)) x B x.ag.length I):=N fun g B I M bB bC bD=>by
        have aC: ∀ a,B=Z a→a.block≠C:=fun a ay=>by
         rcases bD with q|q
         ·exact u.out.oH a (by rw [←q];exact ay)
         ·have:=q a ay;omega
        refine ⟨by rw [show (i - 1+1).toNat=i.toNat by omega];exact cb.out,show ae (ba g C 0 (bf x B x.ag.length I)) C _ from M.aR rfl,show aZ (ba g C 0 (bf x B x.ag.length I)) _ _ _ _ from aZ.mod bB (Mod.setCells (S:=[C]) J _ _ _) (fun a ay=>by rw [aO];exact aC a ay),?_,aC,b8.out,b4.out,?_,show Y t (ba g C 0 (bf x B x.ag.length I)) from (bQ.trans bC).setCells cj _ _⟩
        ·rcases bD with q|q
         ·rw [q];exact u.out.tb
         ·exact q.le bQ.le
        ·have cd:=u.out.oP;rw [show (i - 1+1).toNat=i.toNat by omega];rw [show (i+1).toNat=i.toNat+1 by omega] at cd;omega
       clear Q bY T r aQ bX bR cs aT b1;go_upto_region 18 with fail
       go_region_with (first|(go_at_call 107;(with_reducible refine (bL.out _ ?_).mono ?_);(focus ((exact bz);done));rintro e g ⟨B,I,rfl,ce,az,cl⟩;(have L:Y wr g:=Y.trans dh az);(have cm:B=o∨eI wr B:=cl.imp id (fun q=>q.le (Y.le dh)));have A:=F.I L;have a8:=A.cell 0 rfl;have aW:=A.free 0 J;have a9:=A.cell 1 rfl;have aX:=A.free 1 J;have bb:=A.cell 2 rfl;have a1:=A.free 2 J;have bc:=A.cell 3 rfl;have a2:=A.free 3 J;have bd:=A.cell 4 rfl;have a3:=A.free 4 J;have be:=A.cell 5 rfl;have a4:=A.free 5 J;have bg:=A.cell 6 rfl;have a5:=A.free 6 J;have bh:=A.cell 7 rfl;have a6:=A.free 7 J;have bj:=A.cell 8 rfl;have a7:=A.free 8 J));all_goals
        have b3:=N (bT.out g B I A ce L cm);clear fC cx cD cE cI cJ cK cL cM cN cy cz cA cB cC cf cT cU cV cW cX cY cZ c0 a8 a9 bb bc bd be bg bh bj aW aX a1 a2 a3 a4 a5 a6 a7 ax bL bT;go_wp2_with fail;go_roundw
        case rel=>exact ⟨_,_,_,_,_,rfl,K,K,b3⟩
        case measure=>simp [intOf];omega
      ·have bS: (i+1).toNat=0:=by omega
       have cv:al=v:=by
        have M:=u.out.at';rw [bS,am.out.vE] at M;exact (fo M).symm
       subst cv;have bt:=bs.I u.out.aC;have F:=u.out.box;clear bS;go_wp2_with (first|(with_reducible refine b0 95 (F) dB ?_)|(with_reducible refine bq 95 (bt) ((bf al o W c)) ?_));refine bH ((bt.aR (us:=bf al o W c) rfl).cK rfl _ rfl rfl dB rfl G) rfl ?_;exact ⟨o,W,c,rfl,aZ.mod u.out.ag (Mod.setCells (S:=[d.heap.size]) J _ _ _) (fun a ay=>by rw [aO];have:=u.out.tb a ay;omega),u.out.tb.le (fE cw),u.out.size,(aH.trans u.out.aC).setCells (aG _) _ _⟩
end
section
open Go.RowKit
theorem bk.qI{f:List aN}(j:bk d w n z f){S:List Nat}(r: ∀ a,w=Z a→a.block∉S):bk (ay d S) w n z f:=by
 obtain ⟨k,l,m,o,⟨b,s,c,e⟩,p⟩:=j;exact ⟨k,l,m,o,⟨b,s,fun q=>⟨(c q).1,by rw [jj];exact (c q).2⟩,fun i h=>by
  have g:b∉S:=r _ (c K).1;exact ⟨bp.2 ⟨g,(e i h).1⟩,bp.2 ⟨g,(e i h).2⟩⟩⟩,p⟩
theorem br.from{f:List aN}(c:br d A w n z f):eI A w:=by
 intro a b;rcases c.own.2 with⟨e, -⟩|⟨j,h,i,e,g,k,rest⟩
 ·simp only[iA]at e;rw[e.1]at b;cases b
 ·simp only[iA]at e;rw[e.1]at b;cases b;exact g
theorem bk.aL{f:List aN}(c:bk d w n z f)(h:eI A w){S:List Nat}(e: ∀ b∈S,b < A):bk (ay d S) w n z f:=
 c.qI fun a g i=>by have:=h a g;have:=e _ i;omega
theorem aZ.aL(c:aZ d w n z f)(h:eI A w){S:List Nat}(e: ∀ b∈S,b < A):aZ (ay d S) w n z f:=
 c.qI fun a g i=>by have:=h a g;have:=e _ i;omega
theorem br.aL{f:List aN}(a:br d A w n z f){S:List Nat}(c: ∀ b∈S,b < A):bk (ay d S) w n z f:=a.rows.aL a.from c
theorem p8.aL(a:bi fa 2 174 d A w n z f){S:List Nat}(c: ∀ b∈S,b < A):aZ (ay d S) w n z f:=aZ.aL (a.fv cW) a.from c
theorem bk.gP{f:List aN}(a:bk (ay d S) w n z f):bk d w n z f:=a.ex (dv d S)
structure b3 (B:ad) (y:ar) (s:Option ai) (n1 c1:Nat) (l:Option ai) (m h:Nat):Prop where
 rows:bk B s n1 c1 y.x.r.rows
 ag:aZ B l m h y.ag
 size:ht y.x
theorem b3.ex{b:ad}(a:b3 B y s n1 c1 l m h)(c:dD B b):b3 b y s n1 c1 l m h:=⟨a.rows.ex c,a.ag.ex cW c,a.size⟩
theorem b3.up(a:b3 (ay d S) y s n1 c1 l m h):b3 d y s n1 c1 l m h:=a.ex (dv d S)
theorem b3.h0(a:b3 B y s n1 c1 l m h)(r:Option aA):b3 B (h0 y r) s n1 c1 l m h:=⟨a.rows,a.ag,⟨a.size.low,a.size.high,a.size.key,a.size.val,a.size.aD⟩⟩
theorem er.C2{b o:Nat}{g v:ak}{c:List ak}(e:d.rangeAt b o (g::v::c)):d.rangeAt b (o+2) c:=fun a x f=>by
 have:=e (a+2) x f;rwa[show o+(a+2)=o+2+a by omega]at this
end
end Go.Proofs.YtbkmjhhpcinppaaGreatDoor
