import Derived.Test.YtbkmjhhpcinppaaGreatDoorQ13
namespace Go.Proofs.YtbkmjhhpcinppaaGreatDoor
set_option linter.unusedVariables false
set_option linter.defProp false
set_option linter.unusedSimpArgs false
set_option maxRecDepth 100000
set_option maxHeartbeats 40000000
open Go.BigFrame Go.RowKit Go.WideShapes
open Ending renaming returned→ap
open Go renaming Addr→ai,Calls→ao,Value→ak,World→ad
open Go.Proofs.Tryz renaming prog→aj
open IntKind renaming i64→U
open Obj renaming cells→X
open Option renaming none→V,some→Z
open Value renaming agg→aw,bool→ah,int→O,nilIface→aB,pointer→au,slice→ac,string→af,tuple→a0
open World renaming alloc→H,setCells→ba
variable {f : aV} {M : az} {S : List Nat} {b c1 c2 cnt k n1 n2 : Nat} {lim : aK} {o1 o2 : Option ai} {s : List (Nat × Option ar)} {d h l : ad} {x : Nat × Option ar} {y : ar}
abbrev eX (v:aY) (left right:Int):aY:={v with ag:=[⟨v.low,left⟩,⟨(bN v).low,right⟩]}
theorem DS(v:aY)(left right:Int)(o:Option ai)(n c:Nat)(d:ad)(aJ:aZ d o n c v.ag)(bX:dZ v)(bl:v.held=false)(bF:n / 2≠0)(b9:n≤10000):
  ao aj 173 #[fg v o n c,left,right] d fun e ag=> ∃ o1 n1 c1 o2 n2 c2 a2 bo a8,e=ap (a0 #[aW (bA (cI v right)).x V 0 0 o1 n1 c1,aW (bA (bN v)).x V 0 0 o2 n2 c2,aW (bA (eX v left right)).x V 0 0 a2 bo a8,aB])∧aZ ag o1 n1 c1 (cI v right).ag∧aZ ag o2 n2 c2 (bN v).ag∧aZ ag a2 bo a8 (eX v left right).ag∧eI d o1∧eI d o2∧eI d a2∧Y d ag:=by
 have Q:=dL;obtain ⟨W,ab⟩: ∃ W,W=(((H d (X (bf v o n c) 95)).alloc (X al 85)).alloc (X al 85)).alloc (X al 85):=⟨_,rfl⟩;have aF:ae W d (bf v o n c):=by rw [ab];exact ((((ae.new d _ _ rfl).I ((Y.refl _).alloc _)).I ((Y.refl _).alloc _)).I ((Y.refl _).alloc _)).of J
 have bt:ae W (d.heap.size+1) al:=by rw [ab];exact (((ae.new (H d _) _ _ (by rw [Q])).I ((Y.refl _).alloc _)).I ((Y.refl _).alloc _)).of J
 have bv:ae W (d.heap.size+1+1) al:=by rw [ab];exact ((ae.new ((H d _).alloc _) _ _ (by rw [Q,Q])).I ((Y.refl _).alloc _)).of J
 have bx:ae W (d.heap.size+1+1+1) al:=by rw [ab];exact (ae.new (((H d _).alloc _).alloc _) _ _ (by rw [Q,Q,Q])).of J
 have bh:Y d W:=by rw [ab];exact (((((Y.refl _).alloc _).alloc _).alloc _).alloc _)
 have aX:W.heap.size=d.heap.size+4:=by rw [ab,Q,Q,Q,Q]
 have a5:=N (w8 v o n c W (aZ.I aJ bh) bl bF);have bV:=aJ.len;have bW:=bX.low;have bT: (bN v).low.size≤maxLen:=by
  obtain ⟨b,cb, -,bM⟩:=aJ.get;show (bw v.ag (v.ag.length / 2)).key.size≤maxLen;rw [bV];exact (bM (n / 2) K).2.2
 clear aJ bl;go_enter Tryz.func173,Tryz.ntmps173;go_upto_region 1 with fail
 rw [←ab];clear ab;have bs:=N aX;generalize b7:d.heap.size=g at *;have aX:=bs.out;go_upto_region 2 with (first|(with_reducible refine b0 95 (aF) dB ?_)|(go_at_call 188;(refine a5.out.mono ?_);rintro e l ⟨o1,c1,o2,c2,rfl,bd,be,aD⟩;have aO:ae ((H l (X dP 95)).alloc (X dP 95)) l.heap.size dP:=((ae.new l _ _ rfl).I ((Y.refl _).alloc _)).of J;have aP:ae ((H l (X dP 95)).alloc (X dP 95)) (l.heap.size+1) dP:=(ae.new (H l _) _ _ dW).of J)|(with_reducible refine bq 95 (aO) ((bf (cI v v.right) o1 (n / 2) c1)) ?_)|(with_reducible refine bq 95 ((aP.others (b':=l.heap.size) K (bf (cI v v.right) o1 (n / 2) c1))) ((bf (bN v) o2 (n - n / 2) c2)) ?_))
 have r:=(aO.aR (us:=bf (cI v v.right) o1 (n / 2) c1) rfl).others (b':=l.heap.size+1) K (bf (bN v) o2 (n - n / 2) c2);have s:=(aP.others (b':=l.heap.size) K (bf (cI v v.right) o1 (n / 2) c1)).aR (us:=bf (bN v) o2 (n - n / 2) c2) rfl;have bj:=(((aD.alloc (X dP 95)).alloc (X dP 95)).setCells aD.le (bf (cI v v.right) o1 (n / 2) c1) 0).setCells (b:=l.heap.size+1) (by have:=aD.le;omega) (bf (bN v) o2 (n - n / 2) c2) 0;have aS:=((((Y.refl l).alloc (X dP 95)).alloc (X dP 95)).setCells (aG _) (bf (cI v v.right) o1 (n / 2) c1) 0).setCells (b:=l.heap.size+1) K (bf (bN v) o2 (n - n / 2) c2) 0;have bK:=aD.le;have a3:Hid (∀ aE,aZ (_) o1 (n / 2) c1 (cI v right).ag):=N fun aE:ak=>aZ.I bd (aS.setCell (p:=⟨l,3,V⟩) (aG _) aE);have a4:Hid (∀ aE,aZ (_) o2 (n - n / 2) c2 (bN v).ag):=N fun aE:ak=>aZ.I be (aS.setCell (p:=⟨l,3,V⟩) (aG _) aE);clear aO aP a5 aD Q bd be aS;generalize (((H l (X dP 95)).alloc (X dP 95)).setCells l 0 (bf (cI v v.right) o1 (n / 2) c1)).setCells (l.heap.size+1) 0 (bf (bN v) o2 (n - n / 2) c2)=bp at *;generalize l.heap.size=aa at *;have bB:=r.cell 3 rfl;have bC:=r.free 3 J;go_upto_region 5 with fail
 have r:ae (bp.setCell ⟨aa,3,V⟩ (O U right)) aa (bf (cI v right) o1 (n / 2) c1):=r.set 3 (O U right);have s:=s.other (b':=aa) (j:=3) K (O U right);have av:=bj.setCell (p:=⟨aa,3,V⟩) bK (O U right);have aA:=a3.out (O U right);have aC:=a4.out (O U right);clear bB bC bj a3 a4;generalize bp.setCell ⟨aa,3,V⟩ (O U right)=x at r s av aA aC ⊢;have az:=aF.I av;have aR:ae (H x (X dP 95)) x.heap.size dP:=(ae.new x _ _ rfl).of J;go_upto_region 6 with (first|(with_reducible refine b0 95 (az) dB ?_)|(with_reducible refine bq 95 (aR) ((bf v o n c)) ?_))
 have bE:aa+1 < x.heap.size:=s.lt J;have ax:Y x ((H x (X dP 95)).setCells x 0 (bf v o n c)):=((Y.refl x).alloc _).setCells (aG _) _ _;have T:=aR.aR (us:=bf v o n c) rfl;have r:=r.I ax;have s:=s.I ax;have bL:W.heap.size≤x.heap.size:=av.le;clear aR az;generalize (H x (X dP 95)).setCells x 0 (bf v o n c)=m at r s T ax ⊢;obtain ⟨t,aI⟩: ∃ t,t=x.heap.size:=⟨_,rfl⟩;rw [←aI] at T bE bL ⊢;have az:=aF.I (av.trans ax);have cf:=az.cell 0 rfl;have u0:=s.cell 0 rfl;have b3:=T.cell 4 rfl;have bD:=T.free 4 J;have b8:=T.lt J;have q:=(ax.setCell (p:=⟨t,4,V⟩) (by show x.heap.size≤t;omega) (ac (Z ⟨m,0,V⟩) 2 2)).alloc (X #[af v.low,left,af (bN v).low,right] 174);have bn: (m.setCell ⟨t,4,V⟩ (ac (Z ⟨m,0,V⟩) 2 2)).heap.size=m.heap.size:=uZ;have aK:=(Y.refl (m.setCell ⟨t,4,V⟩ (ac (Z ⟨m,0,V⟩) 2 2))).alloc (X #[af v.low,left,af (bN v).low,right] 174);have r:=(r.other (b':=t) (j:=4) K (ac (Z ⟨m,0,V⟩) 2 2)).I aK;have s:=(s.other (b':=t) (j:=4) K (ac (Z ⟨m,0,V⟩) 2 2)).I aK;have br:=N aI;have bR:=N av;clear av aI;go_upto_region 7 with fail
 have aI:=br.out;have T:ae _ t (bf (eX v left right) (Z ⟨m,0,V⟩) 2 2):=(T.set 4 (ac (Z ⟨m,0,V⟩) 2 2)).I aK;have aQ:ae ((m.setCell ⟨t,4,V⟩ (ac (Z ⟨m,0,V⟩) 2 2)).alloc (X #[af v.low,left,af (bN v).low,right] 174)) m.heap.size [af v.low,left,af (bN v).low,right]:=(ae.new _ _ _ bn.symm).of J;clear b3 bD cf u0 az aK bn;generalize (m.setCell ⟨t,4,V⟩ (ac (Z ⟨m,0,V⟩) 2 2)).alloc (X #[af v.low,left,af (bN v).low,right] 174)=R at r s T aQ q ⊢;generalize m.heap.size=aH at *;have aM:=q.drew;have aA:=aZ.I aA aM;have aC:=aZ.I aC aM;have bG:R.drew.rangeAt aa 0 (bf (cI v right) o1 (n / 2) c1):=(r.I ((Y.refl R).drew)).aM;have bI:R.drew.rangeAt (aa+1) 0 (bf (bN v) o2 (n - n / 2) c2):=(s.I ((Y.refl R).drew)).aM;have bJ:R.drew.rangeAt t 0 (bf (eX v left right) (Z ⟨aH,0,V⟩) 2 2):=(T.I ((Y.refl R).drew)).aM;have a7:=aQ.I ((Y.refl R).drew);have bg:aZ R.drew (Z ⟨aH,0,V⟩) 2 2 (eX v left right).ag:=wA a7 bW bT;have bk:=bR.out.trans aM;have aN:=bk.le;rw [aX] at aN;have a9:=N (ni (cI v right) o1 (n / 2) c1 R.drew aA K);have bb:=N fun h (aV:Y R.drew h)=>ni (bN v) o2 (n - n / 2) c2 h (aZ.I aC aV) K;have bc:=N fun h (aV:Y R.drew h)=>ni (eX v left right) (Z ⟨aH,0,V⟩) 2 2 h (aZ.I bg aV) K;have a1:=dB;have aU: (aj.info? 95).map (·.size)=Z 9:=G;have aT: (aj.info? 85).map (·.size)=Z 15:=G;clear aA aC bg r s T aQ a7 q aM ax aF;refine gG (S:=fun ag=>ag.rangeAt aa 0 (bf (cI v right) o1 (n / 2) c1)∧ag.rangeAt (aa+1) 0 (bf (bN v) o2 (n - n / 2) c2)∧ag.rangeAt t 0 (bf (eX v left right) (Z ⟨aH,0,V⟩) 2 2)) G ⟨bG,bI,bJ⟩ (fun a=>?_);refine' fX (i:=0) (oi:={dst:=Z 39,op:= .load 95 (.tmp 10),type:=_,pos:=_,after:=_,guard:=V}) (v:=_) rfl G G G (fun _ _ _ M=>M) (cj aq _ _ rfl _ _ rfl _ _ (fun d M=>M.1) a1 rfl aU) a ?_;simp only [bu];refine' fX (i:=2) (oi:={dst:=Z 41,op:= .load 95 (.tmp 11),type:=_,pos:=_,after:=_,guard:=V}) (v:=_) rfl G G G (fun _ _ _ M=>M) (cj aq _ _ rfl _ _ rfl _ _ (fun d M=>M.2.1) a1 rfl aU) a ?_;simp only [bu];refine' fX (i:=4) (oi:={dst:=Z 43,op:= .load 95 (.tmp 13),type:=_,pos:=_,after:=_,guard:=V}) (v:=_) rfl G G G (fun _ _ _ M=>M) (cj aq _ _ rfl _ _ rfl _ _ (fun d M=>M.2.2) a1 rfl aU) a ?_;simp only [bu];refine cL (rs:=[1]) G J ?_;refine cy (o:={dst:=Z 40,op:= .call {callee:= .value (.func 144),args:= #[.tmp 39],argTypes:= #[95]},type:=_,pos:=_,after:=_,guard:=V}) rfl (fun f k=>?_) cM;go_simp;(go_at_call 144;(with_reducible refine (a9.out).mono ?_);rintro e cc ⟨z,F,rfl,u,am⟩);go_wp2_with fail;refine k.out _ _ ⟨am.range a.1,am.range a.2.1,am.range a.2.2⟩ (fun a=>?_);clear k f a9;refine cL (rs:=[3]) G J ?_;refine cy (o:={dst:=Z 42,op:= .call {callee:= .value (.func 144),args:= #[.tmp 41],argTypes:= #[95]},type:=_,pos:=_,after:=_,guard:=V}) rfl (fun f k=>?_) cM;go_simp;(go_at_call 144;(with_reducible refine (bb.out _ am).mono ?_);rintro e cd ⟨A,I,rfl,w,ar⟩);go_wp2_with fail;refine k.out _ _ ⟨ar.range a.1,ar.range a.2.1,ar.range a.2.2⟩ (fun a=>?_);clear k f bb;refine cL (rs:=[5]) G J ?_;refine cy (o:={dst:=Z 44,op:= .call {callee:= .value (.func 144),args:= #[.tmp 43],argTypes:= #[95]},type:=_,pos:=_,after:=_,guard:=V}) rfl (fun f k=>?_) cM;go_simp;(go_at_call 144;(with_reducible refine (bc.out _ (am.trans ar)).mono ?_);rintro e b4 ⟨B,L,rfl,P,ay⟩);go_wp2_with fail;refine k.out _ _ ⟨ay.range a.1,ay.range a.2.1,ay.range a.2.2⟩ (fun a=>?_);clear k f bc;have bS:=(am.trans ar).trans ay;have u:=bi.I cW u (ar.trans ay);have w:=bi.I cW w ay;have aL:=bk.trans bS;have C:=bt.I aL;have D:=bv.I aL;have E:=bx.I aL;have q:=bh.trans aL;have bm:=am.le;have bU:=ar.le;have bO:eI (g+4) z:=u.from.le aN;have bP:eI (g+4) A:=w.from.le (bZ aN bm);have bQ:eI (g+4) B:=P.from.le (bZ aN (bZ bm bU));have bY: (an (bA (cI v right)).x V 0 0 z (cI v right).ag.length F).toArray.all (·.oneCell')=true:=du;have b1: (an (bA (bN v)).x V 0 0 A (bN v).ag.length I).toArray.all (·.oneCell')=true:=du;have b2: (an (bA (eX v left right)).x V 0 0 B (eX v left right).ag.length L).toArray.all (·.oneCell')=true:=du;refine cL (rs:=[6]) G J ?_;refine cy (o:={dst:=V,op:= .store 85 (.tmp 6) (.tmp 40),type:=_,pos:=_,after:=_,guard:=V}) rfl (fun f k=>?_) cM;refine a6 aq ?_;refine dQ _ _ _ rfl _ _ (an (bA (cI v right)).x V 0 0 z (cI v right).ag.length F).toArray rfl rfl C.may aT bY ?_;simp only [bu];refine k.out _ _ ⟨eg a.1 _ _ _ (.inl K),eg a.2.1 _ _ _ (.inl K),eg a.2.2 _ _ _ (.inl K)⟩ (fun a=>?_);clear k f;have C:=C.aR (us:=(an (bA (cI v right)).x V 0 0 z (cI v right).ag.length F)) rfl;have D:=D.others (b':=g+1) K (an (bA (cI v right)).x V 0 0 z (cI v right).ag.length F);have E:=E.others (b':=g+1) K (an (bA (cI v right)).x V 0 0 z (cI v right).ag.length F);have u:=g7 (b:=g+1) K (an (bA (cI v right)).x V 0 0 z (cI v right).ag.length F) 0 u;have w:=g7 (b:=g+1) K (an (bA (cI v right)).x V 0 0 z (cI v right).ag.length F) 0 w;have P:=g7 (b:=g+1) K (an (bA (cI v right)).x V 0 0 z (cI v right).ag.length F) 0 P;have q:=q.setCells (b:=g+1) K (an (bA (cI v right)).x V 0 0 z (cI v right).ag.length F) 0;generalize (b4).setCells (g+1) 0 (an (bA (cI v right)).x V 0 0 z (cI v right).ag.length F)=b5 at a q C D E u w P ⊢;refine cL (rs:=[7]) G J ?_;refine cy (o:={dst:=V,op:= .store 85 (.tmp 7) (.tmp 42),type:=_,pos:=_,after:=_,guard:=V}) rfl (fun f k=>?_) cM;refine a6 aq ?_;refine dQ _ _ _ rfl _ _ (an (bA (bN v)).x V 0 0 A (bN v).ag.length I).toArray rfl rfl D.may aT b1 ?_;simp only [bu];refine k.out _ _ ⟨eg a.1 _ _ _ (.inl K),eg a.2.1 _ _ _ (.inl K),eg a.2.2 _ _ _ (.inl K)⟩ (fun a=>?_);clear k f;have C:=C.others (b':=g+1+1) K (an (bA (bN v)).x V 0 0 A (bN v).ag.length I);have D:=D.aR (us:=(an (bA (bN v)).x V 0 0 A (bN v).ag.length I)) rfl;have E:=E.others (b':=g+1+1) K (an (bA (bN v)).x V 0 0 A (bN v).ag.length I);have u:=g7 (b:=g+1+1) K (an (bA (bN v)).x V 0 0 A (bN v).ag.length I) 0 u;have w:=g7 (b:=g+1+1) K (an (bA (bN v)).x V 0 0 A (bN v).ag.length I) 0 w;have P:=g7 (b:=g+1+1) K (an (bA (bN v)).x V 0 0 A (bN v).ag.length I) 0 P;have q:=q.setCells (b:=g+1+1) K (an (bA (bN v)).x V 0 0 A (bN v).ag.length I) 0;generalize (b5).setCells (g+1+1) 0 (an (bA (bN v)).x V 0 0 A (bN v).ag.length I)=b6 at a q C D E u w P ⊢;refine cL (rs:=[8]) G J ?_;refine cy (o:={dst:=V,op:= .store 85 (.tmp 8) (.tmp 44),type:=_,pos:=_,after:=_,guard:=V}) rfl (fun f k=>?_) cM;refine a6 aq ?_;refine dQ _ _ _ rfl _ _ (an (bA (eX v left right)).x V 0 0 B (eX v left right).ag.length L).toArray rfl rfl E.may aT b2 ?_;simp only [bu];refine k.out _ _ ⟨eg a.1 _ _ _ (.inl K),eg a.2.1 _ _ _ (.inl K),eg a.2.2 _ _ _ (.inl K)⟩ (fun a=>?_);clear k f;have C:=C.others (b':=g+1+1+1) K (an (bA (eX v left right)).x V 0 0 B (eX v left right).ag.length L);have D:=D.others (b':=g+1+1+1) K (an (bA (eX v left right)).x V 0 0 B (eX v left right).ag.length L);have E:=E.aR (us:=(an (bA (eX v left right)).x V 0 0 B (eX v left right).ag.length L)) rfl;have u:=g7 (b:=g+1+1+1) K (an (bA (eX v left right)).x V 0 0 B (eX v left right).ag.length L) 0 u;have w:=g7 (b:=g+1+1+1) K (an (bA (eX v left right)).x V 0 0 B (eX v left right).ag.length L) 0 w;have P:=g7 (b:=g+1+1+1) K (an (bA (eX v left right)).x V 0 0 B (eX v left right).ag.length L) 0 P;have q:=q.setCells (b:=g+1+1+1) K (an (bA (eX v left right)).x V 0 0 B (eX v left right).ag.length L) 0;generalize (b6).setCells (g+1+1+1) 0 (an (bA (eX v left right)).x V 0 0 B (eX v left right).ag.length L)=ce at a q C D E u w P ⊢;refine cL (rs:=[9]) G J ?_;refine cy rfl (fun f k=>?_) cM;go_simp;refine k.out _ _ a (fun a=>?_);clear k f;refine fx G ?_ _;go_wp2_with fail;refine bH (ae.rb (y:=aB) C D E rfl _ rfl rfl rfl rfl cG rfl G G G) rfl ?_;exact ⟨z,_,F,A,_,I,B,_,L,rfl,u.fv cW,w.fv cW,P.fv cW,bO.le K,bP.le K,bQ.le K,q⟩
section
abbrev j2 (r:aA):ak:=aw #[O U ((r.i:Int)+1),O U (r.g:Int)]
theorem yW(b n c:Nat){k:Nat}(a:k < n)(d:ad):
  (Instr.indexAt 133 (ac (Z ⟨b,0,V⟩) n c) (O U (k:Int))).run aj d= .ok (au (Z ⟨b,k * 17,V⟩)) d:=by
 go_simp
theorem aX.ub(a:aX f S d lim M){r:aA}{y:ar}(b:Live M r y):r.i < lim.aQ∧r.g≤lim.count∧∃ o1 n1 c1 o2 n2 c2,d.rangeAt f.s (r.i * 17) (O U (r.g:Int)::ah true::an y.x o1 n1 c1 o2 n2 c2)∧b3 (ay d S) y o1 n1 c1 o2 n2 c2:=by
 obtain ⟨k,j,h,i⟩:=a.aQ.at' r.i _ b;obtain ⟨o1,n1,c1,o2,n2,c2,rfl,c,e,g⟩:=h;exact ⟨by rw [←a.ls];exact (c3.1 b).1,a.lL _ (iV b),o1,n1,c1,o2,n2,c2,i,c,e,g⟩
theorem vF(a:aX f S d lim M){r:aA}{y:ar}(k:Live M r y):
  ao aj 86 #[aa f.a,j2 r] d fun e o=>e=ap (a0 #[au (Z ⟨f.s,r.i * 17,V⟩),aB])∧Y d o:=by
 obtain ⟨m,z,o1,n1,c1,o2,n2,c2,h, -⟩:=a.ub k;have s:=a.lim.aQ;obtain ⟨c,v,j⟩:=a.ic;have b:=(Y.refl d).alloc (X #[O U ((r.i:Int)+1),(r.g:Int)] 78);have g:=(ae.new d #[O U ((r.i:Int)+1),(r.g:Int)] 78 rfl);have i:=j.I b;have q:=i.cell 0 rfl;have B:=g.cell 0 rfl;have x1:=g.cell 1 rfl;have n:=b.I (h 0 _ rfl);have A:=b.I (h 1 _ rfl);rw [gI] at n;have t:=yW f.s lim.aQ c m;have u:IntKind.i64.wrap ((r.i:Int)+1 - 1)=(r.i:Int):=by rw [Int.add_sub_cancel];exact e0 _ K
 have w:decide ((r.i:Int)+1 < 1)=false:=cJ;have x:decide ((lim.aQ:Int) < (r.i:Int)+1)=false:=cJ;clear a k j i h g;go_enter Tryz.func86,Tryz.ntmps86;go_upto_region 1 with fail
 generalize l:H d (X #[O U ((r.i:Int)+1),(r.g:Int)] 78)=p at *;clear l;go_big_quiet (fail);go_wp2_with fail;go_big_quiet (fail);go_wp2_with fail;go_big_quiet (fail);go_wp2_with fail;go_ret2;exact ⟨rfl,b.trans (bz)⟩
def An (S:List Nat) (d:ad) (y:ar) (e:Ending) (a:ad):Prop:=∃ o1 n1 c1 o2 n2 c2,e=ap (a0 #[aW y.x o1 n1 c1 o2 n2 c2,aB])∧b3 (ay a S) y o1 n1 c1 o2 n2 c2∧Y d a
theorem xQ(c:aX f S d lim M){r:aA}{y:ar}(A:Live M r y)(v:bT y):
  ao aj 68 #[aa f.a,j2 r] d (An S d y):=by
 obtain ⟨aq,am,o1,n1,c1,o2,n2,c2,t,a⟩:=c.ub A;have w:Y d ((H d (X #[O U ((r.i:Int)+1),(r.g:Int)] 78)).alloc (X al 85)):=((Y.refl d).alloc _).alloc _;have L:ae ((H d (X #[O U ((r.i:Int)+1),(r.g:Int)] 78)).alloc (X al 85)) d.heap.size [O U ((r.i:Int)+1),(r.g:Int)]:=((ae.new d _ _ rfl).of J).I ((Y.refl _).alloc _);have P:ae ((H d (X #[O U ((r.i:Int)+1),(r.g:Int)] 78)).alloc (X al 85)) (d.heap.size+1) al:=(ae.new (H d _) _ _ dW).of J;have Q:=N (vF (c.I w) A);have R:=N fun h (g:Y d h)=>sQ y o1 n1 c1 o2 n2 c2 h (a.up.rows.I g) (aZ.I a.up.ag g) (by have:=a.rows.len;have:=v.rows;omega) (by have:=a.ag.len;have:=v.ag;omega);have u: ∀ h,Y d h→er h f.s (r.i * 17+2) (an y.x o1 n1 c1 o2 n2 c2):=fun h g=>⟨g.range (er.C2 t)⟩;have D:=N u;have F:=N a.size;have E:=N c.old;clear c t a u;go_enter Tryz.func68,Tryz.ntmps68;go_upto_region 1 with fail
 generalize (H d (X #[O U ((r.i:Int)+1),(r.g:Int)] 78)).alloc (X al 85)=ag at *;go_upto_region 2 with (first|(with_reducible refine b0 78 (L) dm ?_)|(go_at_call 86;(with_reducible refine Q.out.mono ?_);rintro e h ⟨rfl,x⟩))
 have n:=w.trans x;have I:=D.out _ n;have q:=P.I x;go_upto_region 4 with fail
 go_wp2_with (first|(refine e8 rfl 85 _ rfl _ _ rfl _ _ (I).aM cG rfl G ?_)|(go_at_call 50;(with_reducible refine (R.out _ ?_).mono ?_);(focus ((exact bz);done));rintro e l ⟨i,o,k,j,p,m,rfl,T,W,z⟩;have s:=q.I z)|(with_reducible refine bq 85 (s) ((an y.x i o k j p m)) ?_));refine bH ((s.aR (us:=an y.x i o k j p m) rfl).cK rfl _ rfl rfl cG rfl G) rfl ?_;have B:d.heap.size+1 < h.heap.size:=q.lt J;have C: ∀ b∈S,b < h.heap.size:=fun b ab=>dR (E.out b ab) n.le;refine ⟨i,o,k,j,p,m,rfl,⟨(T.nR B _ 0).aL C,p8.aL (g7 B _ 0 W) C,F.out⟩,(n.trans z).setCells K _ _⟩
theorem DD(a:aX f S d lim M){r:aA}{y:ar}(k:Live M r y):
  ao aj 192 #[aa f.a,j2 r] d fun e s=>e=ap aB∧aX f S s lim (e3 M r)∧Mod [f.s] d s:=by
 obtain⟨D,B,o1,n1,c1,o2,n2,c2,g,A⟩:=a.ub k;have o:Y d (H d (X #[O U ((r.i:Int)+1),(r.g:Int)] 78)):=(Y.refl d).alloc _;have w:ae (H d (X #[O U ((r.i:Int)+1),(r.g:Int)] 78)) d.heap.size [O U ((r.i:Int)+1),(r.g:Int)]:=(ae.new d _ _ rfl).of J;have i:=N (vF (a.I o) k);have j:r.i < M.aQ.length:=by rw[a.ls];exact D
 have hF: ∀ h,Y d h→h.cell? ⟨f.s,r.i * 17+1,V⟩=Z (ah true)∧h.frozen? ⟨f.s,r.i * 17+1,V⟩=false∧(h.setCell ⟨f.s,r.i * 17+1,V⟩ (ah false)).there f.s (r.i * 17+2) 15∧aX f S ((h.setCell ⟨f.s,r.i * 17+1,V⟩ (ah false)).setCells f.s (r.i * 17+2) al) lim (e3 M r)∧Mod [f.s] h ((h.setCell ⟨f.s,r.i * 17+1,V⟩ (ah false)).setCells f.s (r.i * 17+2) al):=fun h m=>by
  have c:=a.I m;have l:Mod [f.s] h (ba h f.s (r.i * 17+1) (ah false::al)):=Mod.setCells J _ _ _;have z:ba h f.s (r.i * 17+1) (ah false::al)=(h.setCell ⟨f.s,r.i * 17+1,V⟩ (ah false)).setCells f.s (r.i * 17+2) al:=by rw[World.setCells]
  rw[←z];have E:h.there f.s (r.i * 17+1) 1:=c.aQ.there j K;have F:h.there f.s (r.i * 17+2) 15:=c.aQ.there j K;refine⟨m.I (g 1 _ rfl),(E 0 K).2,rC F f.s (r.i * 17+1) [ah false],c.y5 B l ?_,l⟩;have i:=c.aQ.part k (vs:=O U (r.g:Int)::ah true::an y.x o1 n1 c1 o2 n2 c2) rfl (m.range g) 1 (ah false::al) J (r.g,V) rfl;exact i.imp fun x vs q=>q.ex (l.jT (fun b n=>by rw[aO]at n;subst n;exact a.sub _ J))
 have t:=N hF;clear a g A hF j;go_enter Tryz.func192,Tryz.ntmps192;go_upto_region 1 with fail
 generalize H d (X #[O U ((r.i:Int)+1),(r.g:Int)] 78)=I at *;go_upto_region 2 with(first|(with_reducible refine b0 78 (w) dm ?_)|(go_at_call 86;(with_reducible refine i.out.mono ?_);rintro e h ⟨rfl,C⟩))
 have p:=o.trans C;obtain⟨u1,u2,u3,u4,u5⟩:=t.out _ p;have v:=N u4;have u:=N u5;clear u4 u5;go_wp2_with(refine dY rfl 85 _ _ rfl _ _ _ rfl rfl u3 G G ?_);go_ret;exact⟨rfl,v.out,(p.mod _).trans u.out⟩
end
section
def z5 (f:aV) (S:List Nat) (lim:aK) (d:ad) (a:jJ) (M:az) (e:Ending) (b:ad):Prop:=
 match a with
 | .ok r g=>e=ap (a0 #[j2 r,aB])∧aX f S b lim g∧Mod [f.s] d b
 | .no c=>e=ap (a0 #[aw #[O U 0,O U 0],fR c])∧aX f S b lim M∧Y d b
def j8 (s:List (Nat×Option ar)) (k:Nat):Int:=if(s.take k).any (fun x=>x.2.isNone)=true then 5 else 3
theorem IF(a:s[k]?=Z x)(c:x.2.isSome=true):j8 s (k+1)=j8 s k:=by
 obtain⟨b,rfl⟩:=c3.1 a;unfold j8;rw[om b,List.any_append];have e: [s[k]].any (fun x=>x.2.isNone)=false:=by
  obtain⟨y,d⟩:=pC.1 c;simp[d]
 rw[e,Bool.or_false]
theorem IG(a:s[k]?=Z x)(c:x.2=V):j8 s (k+1)=5:=by
 obtain⟨b,rfl⟩:=c3.1 a;unfold j8;rw[om b,List.any_append];have e: [s[k]].any (fun x=>x.2.isNone)=true:=by simp[c]
 rw[e,Bool.or_true,a9 rfl]
theorem AV{g:Nat}(b:M.aQ[k]?=Z (g,V))(f:g≠cnt)(j: ∀ a,a < k→∀ x,M.aQ[a]?=Z x→jV cnt x=false):
  b2 cnt M y= .ok ⟨k,g+1⟩ {M with aQ:=M.aQ.set k (g+1,Z y)}:=by
 obtain ⟨i,d⟩:=c3.1 b;have e:M.aQ.findIdx? (jV cnt)=Z k:=by
  rw [rJ];refine ⟨i,by rw [d];unfold jV;simp [f],fun a h=>?_⟩;have:=j a h _ (cP K);simp [this]
 have c:M.aQ.getD k (0,V)=(g,V):=by rw [h2,b];rfl
 unfold b2;rw [e];dsimp only;rw [c]
theorem AX(d: ∀ a,a < M.aQ.length→∀ x,M.aQ[a]?=Z x→jV cnt x=false):b2 cnt M y= .no (j8 M.aQ M.aQ.length):=by
 have c:M.aQ.findIdx? (jV cnt)=none:=by
  rw [zY];intro x e;obtain ⟨a,b,rfl⟩:=pA.1 e;exact d a b _ (cP b)
 unfold b2;rw [c];dsimp only;unfold j8;rw [mS]
theorem aX.AY(a:aX f S d lim M){k g:Nat}{y:ar}(l:M.aQ[k]?=Z (g,V))(j:g+1≤lim.count){o1:Option ai}{n1 c1:Nat}{o2:Option ai}{n2 c2:Nat}(c:b3 (ay d S) y o1 n1 c1 o2 n2 c2):
  aX f S (ba d f.s (k * 17) (O U ((g:Int)+1)::ah true::an y.x o1 n1 c1 o2 n2 c2)) lim {M with aQ:=M.aQ.set k (g+1,Z y)}∧Mod [f.s] d (ba d f.s (k * 17) (O U ((g:Int)+1)::ah true::an y.x o1 n1 c1 o2 n2 c2)):=by
 have e:Mod [f.s] d (ba d f.s (k * 17) (O U ((g:Int)+1)::ah true::an y.x o1 n1 c1 o2 n2 c2)):=Mod.setCells J _ _ _;refine⟨a.y5 j e ?_,e⟩;have i:=a.aQ.set l (O U ((g:Int)+1)::ah true::an y.x o1 n1 c1 o2 n2 c2) rfl (g+1,Z y) ⟨o1,n1,c1,o2,n2,c2,J,c.rows,c.ag,c.size⟩;exact i.imp fun x m q=>q.ex (e.jT (fun b h=>by rw[aO]at h;subst h;exact a.sub _ J))
theorem aX.more{e:ad}(g:aX f S d lim M)(j:Y d e){b:Nat}(h:d.heap.size≤b)(i:b < e.heap.size):aX f (b::S) e lim M:=g.step (X₀:=[]) ⟨j.mod _,(fun _ q=>(by cases q)),fun c a=>by
 rcases bd.1 a with rfl|a
 ·exact .inr ⟨h,i⟩
 ·exact .inl a⟩ (fun _ _ q=>(by cases q)) (fun c a=>h5 _ (g.sub c a))
theorem aX.boxed(e:aX f (b::S) d lim M)(h:b∉f.l)(g: ∀ c∈f.l,c∈S)(i:List ak):aX f S (ba d b 0 i) lim M:=
 e.step (X₀:=[b]) ⟨Mod.setCells J _ _ _,(fun c q=>by rw[aO]at q;subst q;simp),fun c a=> .inl (h5 _ a)⟩ (fun c a q=>by rw[aO]at q;subst q;exact h a) g
theorem vx(z:aX f S d lim M)(y:ar)(o1:Option ai)(n1 c1:Nat)(o2:Option ai)(n2 c2:Nat)(be:b3 (ay d S) y o1 n1 c1 o2 n2 c2)(bh:bT y):
  ao aj 27 #[aa f.a,aW y.x o1 n1 c1 o2 n2 c2] d (z5 f S lim d (b2 lim.count M y) M):=by
 have P:Y d ((H d (X (an y.x o1 n1 c1 o2 n2 c2) 85)).alloc (X #[O U 0,O U 0] 78)):=((Y.refl d).alloc _).alloc _;have a7:ae ((H d (X (an y.x o1 n1 c1 o2 n2 c2) 85)).alloc (X #[O U 0,O U 0] 78)) d.heap.size (an y.x o1 n1 c1 o2 n2 c2):=((ae.new d _ _ rfl).of J).I ((Y.refl _).alloc _);have aT:ae ((H d (X (an y.x o1 n1 c1 o2 n2 c2) 85)).alloc (X #[O U 0,O U 0] 78)) (d.heap.size+1) [O U 0,O U 0]:=(ae.new (H d _) _ _ dW).of J;obtain ⟨c,am,a9⟩:=z.ic;have bP:=z.lim.aQ;have bR:=z.lim.count.2;have az:=N z.ls;have bx:=N (AX (cnt:=lim.count) (M:=M) (y:=y));have bA:=N fun (k g:Nat)=>AV (cnt:=lim.count) (M:=M) (y:=y) (k:=k) (g:=g);have ed:=N a7;have aR:=N aT;have aY:=N (show d.heap.size+1∉f.l from fun q=>by have:=z.old _ (z.sub _ q);omega);have bn:d.heap.size≠f.s:=by have:=z.old f.s (z.sub _ J);omega
 have bo:d.heap.size+1≠f.s:=by have:=z.old f.s (z.sub _ J);omega
 have aV:=N z.sub;have F:=N (z.more P (b:=d.heap.size+1) K (aT.lt J));have ab:=N be;have a5:=N bh;have aU:=a9.I P;clear z be bh a7 aT a9;generalize b2 lim.count M y=bO at *;go_enter Tryz.func27,Tryz.ntmps27;go_upto_region 1 with fail
 generalize (H d (X (an y.x o1 n1 c1 o2 n2 c2) 85)).alloc (X #[O U 0,O U 0] 78)=ag at *;have a8:=aU.cell 0 rfl;go_upto_region 5 with fail
 have bs:=N aU;clear aU a8;go_loopw [6,19] (fun bI a2 wr=> ∃ k:Nat,k≤lim.aQ∧a2=O U k∧bI=fR (j8 M.aQ k)∧Y ag wr∧Hid (∀ j,j < k→∀ x,M.aQ[j]?=Z x→jV lim.count x=false)) (fun _ a2 _=>lim.aQ - (intOf a2).toNat)
 case atStart=>exact ⟨0,aJ _,rfl,rfl,Y.refl _,N fun j av=>K⟩
 case round=>
  obtain ⟨k,bU,rfl,rfl,D,aP⟩:=hrel;have bj:=P.trans D;by_cases aN:k < lim.aQ
  ·have bQ:=yW f.s lim.aQ c aN;have bb:=bs.out.I D;have a8:=bb.cell 0 rfl;have a:=bb.cell 1 rfl;have aM:=F.out.I D;have bC:k < M.aQ.length:=by rw [az.out];exact aN
   have R:M.aQ[k]?=Z M.aQ[k]:=cP bC;obtain ⟨a3,bY,aK,W⟩:=aM.aQ.at' k _ R;generalize M.aQ[k]=x at R aK;obtain ⟨g,bG⟩:=x;cases bG with
   |some bZ=>
    obtain ⟨bW,s,n,bX,t,p,rfl, -, -, -⟩:=aK;have bp:=W 0 _ rfl;have br:=W 1 _ rfl;have B:=N R;clear W aM R;go_wp2_with fail;go_roundw
    case rel=>exact ⟨k+1,K,e9,by rw [IF B.out rfl],D,N fun j av a4 T=>by
     rcases dC j k with q|q
     ·exact aP.out j q a4 T
     ·obtain rfl:j=k:=by omega
      rw [B.out] at T;cases T;rfl⟩
    case measure=>simp [intOf];omega
   |none=>
    have bE:a3=O U (g:Int)::ah false::al:=aK;subst bE;have bp:=W 0 _ rfl;have br:=W 1 _ rfl;rw [gI] at bp;have B:=N R;by_cases aH:g=lim.count
    ·have bB: ((g:Int)==(lim.count:Int))=true:=by rw [aH];simp
     have bt:=N aH;clear W aM R aH aK;go_wp2_with fail;go_big_quiet (fail);go_wp2_with fail;go_roundw
     case rel=>exact ⟨k+1,K,e9,by rw [IG B.out rfl],D.trans (bz),N fun j av a4 T=>by
      rcases dC j k with q|q
      ·exact aP.out j q a4 T
      ·obtain rfl:j=k:=by omega
       rw [B.out] at T;cases T;unfold jV;simp [bt.out]⟩
     case measure=>simp [intOf];omega
    ·have bB: ((g:Int)==(lim.count:Int))=false:=by rw [ey];omega
     have aL:=N (bA.out k g B.out aH aP.out);have bS:g≤lim.count:=F.out.lL _ (iV B.out);clear R;go_upto_region 9 with fail
     go_big_quiet (fail);go_wp2_with fail;have bi:Y ag (wr.drewN nq):=D.trans (bz);have bc:=N fun h (E:Y ag h)=>sQ y o1 n1 c1 o2 n2 c2 h (ab.out.up.rows.I (P.trans E)) (aZ.I ab.out.up.ag (P.trans E)) (by have:=ab.out.rows.len;have:=a5.out.rows;omega) (by have:=ab.out.ag.len;have:=a5.out.ag;omega);have bg:Hid (∀ h,Y ag h→∀ j aQ,(O U (g:Int)::ah false::al:List ak)[j]?=Z aQ→h.cell? ⟨f.s,k * 17+j,V⟩=Z aQ∧h.frozen? ⟨f.s,k * 17+j,V⟩=false):=N fun h E j aQ bl=>by
      have bk:=F.out.I E;obtain ⟨a3,b0,bM,bN⟩:=bk.aQ.at' k _ B.out;have bF:a3=O U (g:Int)::ah false::al:=bM;subst bF;have av:=(c3.1 bl).1;exact ⟨bN j aQ bl,(bk.aQ.there (j:=0) (m:=17) (by rw [az.out];exact aN) (aG _) j av).2⟩
     have bd:=N fun h (E:Y ag h) a s n u t p (bD:b3 (ay h ((d.heap.size+1)::S)) y a s n u t p)=>(F.out.I E).AY B.out (y:=y) (o1:=a) (n1:=s) (c1:=n) (o2:=u) (n2:=t) (c2:=p) K bD;have bv:=ed.out.I bi;have hold:=N F.out.old;have bf:=N fun h (E:Y ag h)=>(F.out.I E).aQ.there (i:=k) (j:=0) (m:=17) (by rw [az.out];exact aN) (aG _);clear W aM aK bj br aH;generalize wr.drewN nq=bL at *;refine gG (S:=fun bJ=>bJ.rangeAt d 0 (an y.x o1 n1 c1 o2 n2 c2)) G (bv.I (Y.refl bL).drew).aM (fun r=>?_);refine' bV 0 42 (au (Z ⟨f.s,k * 17,V⟩)) rfl r ?_;refine' bV 1 43 (au (Z ⟨f.s,k * 17,V⟩)) rfl r ?_;refine' bV 2 44 (au (Z ⟨f.s,k * 17,V⟩)) rfl r ?_;refine' bV 3 45 (au (Z ⟨f.s,k * 17,V⟩)) rfl r ?_;refine' dA 6 48 rfl (cj aq _ _ rfl _ _ rfl _ _ (fun d z=>z) cG rfl G) r ?_;have w:=bi.drew;have bm:IntKind.i64.wrap ((g:Int)+1)=(g:Int)+1:=e0 _ K;refine cL (rs:=[4,7]) G J ?_;refine cy (o:=⟨Z 46,_,_,_,_,_⟩) rfl (fun aA v=>?_) (cy (o:=⟨Z 49,_,_,_,_,_⟩) rfl (fun f v=>?_) cM)
     ·have a1:=(bg.out _ w 0 _ rfl).1;rw [gI] at a1;refine a6 aq ?_;go_simp;refine v.out _ _ r (fun r=>?_);clear v aA;(try simp only [bu]);refine' bV 5 47 (O U ((g:Int)+1)) rfl r ?_;refine cL (rs:=[7]) G J ?_;refine cy (o:=⟨Z 49,_,_,_,_,_⟩) rfl (fun f v=>?_) cM;refine a6 aq ?_;go_simp;(go_at_call 50;(with_reducible refine (bc.out _ w).mono ?_);rintro e l ⟨a,s,n,u,t,p,rfl,aC,aD,A⟩);have aE:b3 (ay l ((d.heap.size+1)::S)) y a s n u t p:=⟨aC.aL (fun b L=>dR (hold.out b L) w.le),p8.aL aD (fun b L=>dR (hold.out b L) w.le),ab.out.size⟩;have I:=N (bd.out l (w.trans A) a s n u t p aE);have Q:=bf.out l (w.trans A);have aI: (O U ((g:Int)+1)::ah true::an y.x a s n u t p).toArray.all (·.oneCell')=true:=du;clear aC aD aE;refine fT v (A.range r) (fun r=>?_);clear v f;refine' bV 8 50 (aw (O U ((g:Int)+1)::ah true::an y.x a s n u t p)) rfl r ?_;refine' bV 9 51 (au (Z ⟨f.s,k * 17,V⟩)) rfl r ?_;refine cL (rs:=[10]) G J ?_;refine cy (o:={dst:=V,op:= .store 144 (.tmp 51) (.tmp 50),type:=_,pos:=_,after:=_,guard:=V}) rfl (fun aA v=>?_) cM;refine a6 aq ?_;refine dQ _ _ _ rfl _ _ (O U ((g:Int)+1)::ah true::an y.x a s n u t p).toArray rfl rfl Q G aI ?_;simp only [bu];refine v.out _ _ (eg r _ _ _ (.inl bn)) (fun r=>?_);clear v aA;refine fx G ?_ _;clear bm;have aF:Mod [f.s] d (ba l f.s (k * 17) (O U ((g:Int)+1)::ah true::an y.x a s n u t p)):=((P.trans (w.trans A)).mod _).trans I.out.2;have bw: (ba l f.s (k * 17) (O U ((g:Int)+1)::ah true::an y.x a s n u t p)).cell? ⟨f.s,k * 17,V⟩=Z (O U ((g:Int)+1)):=by
       have:=rB l f.s (k * 17) (O U ((g:Int)+1)::ah true::an y.x a s n u t p) Q 0 _ rfl;rwa [gI] at this
      have C:ae (ba l f.s (k * 17) (O U ((g:Int)+1)::ah true::an y.x a s n u t p)) (d.heap.size+1) [O U 0,O U 0]:=(Mod.setCells (S:=[f.s]) J _ _ l).box (fun q=>bo (aO.1 q)) (aR.out.I (w.trans A));have ax:=N I.out.1;have aS:=N aF;clear I Q aI r aF;generalize ba l f.s (k * 17) (O U ((g:Int)+1)::ah true::an y.x a s n u t p)=bK at *;go_wp2_with (with_reducible refine bq 78 (C) ([O U ((k:Int)+1),O U ((g:Int)+1)]) ?_);refine bH ((C.aR (us:=[O U ((k:Int)+1),O U ((g:Int)+1)]) rfl).cK rfl _ rfl rfl dm rfl G) rfl ?_;rw [aL.out];exact ⟨rfl,ax.out.boxed aY.out aV.out _,aS.out.then (Mod.setCells (S:=[d.heap.size+1]) J _ _ _) (fun c am=>by rw [aO] at am;subst am;exact .inr (gl _))⟩
     ·refine a6 aq ?_;go_simp;(go_at_call 50;(with_reducible refine (bc.out _ w).mono ?_);rintro e l ⟨a,s,n,u,t,p,rfl,aC,aD,A⟩);have aE:b3 (ay l ((d.heap.size+1)::S)) y a s n u t p:=⟨aC.aL (fun b L=>dR (hold.out b L) w.le),p8.aL aD (fun b L=>dR (hold.out b L) w.le),ab.out.size⟩;have I:=N (bd.out l (w.trans A) a s n u t p aE);have Q:=bf.out l (w.trans A);have aI: (O U ((g:Int)+1)::ah true::an y.x a s n u t p).toArray.all (·.oneCell')=true:=du;clear aC aD aE;refine fT v (A.range r) (fun r=>?_);clear v f;refine cL (rs:=[4]) G J ?_;refine cy (o:=⟨Z 46,_,_,_,_,_⟩) rfl (fun f v=>?_) cM;refine a6 aq ?_;have a1:=(bg.out l (w.trans A) 0 _ rfl).1;rw [gI] at a1;go_simp;refine v.out _ _ r (fun r=>?_);clear v f;(try simp only [bu]);refine' bV 5 47 (O U ((g:Int)+1)) rfl r ?_;refine' bV 8 50 (aw (O U ((g:Int)+1)::ah true::an y.x a s n u t p)) rfl r ?_;refine' bV 9 51 (au (Z ⟨f.s,k * 17,V⟩)) rfl r ?_;refine cL (rs:=[10]) G J ?_;refine cy (o:={dst:=V,op:= .store 144 (.tmp 51) (.tmp 50),type:=_,pos:=_,after:=_,guard:=V}) rfl (fun aA v=>?_) cM;refine a6 aq ?_;refine dQ _ _ _ rfl _ _ (O U ((g:Int)+1)::ah true::an y.x a s n u t p).toArray rfl rfl Q G aI ?_;simp only [bu];refine v.out _ _ (eg r _ _ _ (.inl bn)) (fun r=>?_);clear v aA;refine fx G ?_ _;clear bm;have aF:Mod [f.s] d (ba l f.s (k * 17) (O U ((g:Int)+1)::ah true::an y.x a s n u t p)):=((P.trans (w.trans A)).mod _).trans I.out.2;have bw: (ba l f.s (k * 17) (O U ((g:Int)+1)::ah true::an y.x a s n u t p)).cell? ⟨f.s,k * 17,V⟩=Z (O U ((g:Int)+1)):=by
       have:=rB l f.s (k * 17) (O U ((g:Int)+1)::ah true::an y.x a s n u t p) Q 0 _ rfl;rwa [gI] at this
      have C:ae (ba l f.s (k * 17) (O U ((g:Int)+1)::ah true::an y.x a s n u t p)) (d.heap.size+1) [O U 0,O U 0]:=(Mod.setCells (S:=[f.s]) J _ _ l).box (fun q=>bo (aO.1 q)) (aR.out.I (w.trans A));have ax:=N I.out.1;have aS:=N aF;clear I Q aI r aF;generalize ba l f.s (k * 17) (O U ((g:Int)+1)::ah true::an y.x a s n u t p)=bK at *;go_wp2_with (with_reducible refine bq 78 (C) ([O U ((k:Int)+1),O U ((g:Int)+1)]) ?_);refine bH ((C.aR (us:=[O U ((k:Int)+1),O U ((g:Int)+1)]) rfl).cK rfl _ rfl rfl dm rfl G) rfl ?_;rw [aL.out];exact ⟨rfl,ax.out.boxed aY.out aV.out _,aS.out.then (Mod.setCells (S:=[d.heap.size+1]) J _ _ _) (fun c am=>by rw [aO] at am;subst am;exact .inr (gl _))⟩
  ·obtain rfl:k=lim.aQ:=by omega
   have aL:=N (bx.out fun j av=>aP.out j (by rw [←az.out];exact av));have C:=aR.out.I D;have ax:=N (F.out.I D);go_wp2_with (with_reducible refine bq 78 (C) ([O U 0,O U 0]) ?_);refine bH ((C.aR (us:=[O U 0,O U 0]) rfl).cK rfl _ rfl rfl dm rfl G) rfl ?_;rw [aL.out,az.out];exact ⟨rfl,ax.out.boxed aY.out aV.out _,bj.setCells (gl _) _ _⟩
end
section
abbrev nJ (q:Option aA):ak:=aw #[O U (a4 q).1,O U (a4 q).2]
abbrev da (q:Option aA):List ak:=[O U (a4 q).1,O U (a4 q).2]
theorem tV(b n c:Nat){k:Nat}(a:k < n)(d:ad):
  (Instr.indexAt 136 (ac (Z ⟨b,0,V⟩) n c) (O U (k:Int))).run aj d= .ok (au (Z ⟨b,k * 3,V⟩)) d:=by
 go_simp
theorem aX.q9(a:aX f S d lim M){p:Nat}{q:Option aA}(b:M.ax[p]?=Z (Z q)):p < lim.ax∧d.rangeAt f.p (p * 3) [ah true,O U (a4 q).1,O U (a4 q).2]:=by
 obtain⟨h,i,c,e⟩:=a.ax.at' p _ b;have g:h=[ah true,O U (a4 q).1,O U (a4 q).2]:=c;subst g;exact⟨by rw[←a.fB];exact(c3.1 b).1,e⟩
theorem sI(a:aX f S d lim M){p:Nat}{q:Option aA}(h:M.ax[p]?=Z (Z q)):
  ao aj 51 #[aa f.t,(p:Int)] d fun e l=>e=ap (a0 #[au (Z ⟨f.p,p * 3,V⟩),aB])∧d=l:=by
 obtain ⟨j,b⟩:=a.q9 h;obtain ⟨c,o,g⟩:=a.h1;have m:=g.cell 0 rfl;have i:er d f.p (p * 3) [ah true,O U (a4 q).1,O U (a4 q).2]:=⟨b⟩;have k:=b 0 _ rfl;rw [gI] at k;have n:=tV f.p lim.ax c j;have r:decide (lim.ax≤p)=false:=cJ;clear a h g b;generalize (a4 q).1=s at *;generalize (a4 q).2=t at *;go_enter Tryz.func51,Tryz.ntmps51;go_wp2_with (refine e8 rfl 147 _ rfl _ _ rfl _ _ (i).aM Tryz.underlying147 rfl G ?_);go_ret2;exact ⟨rfl,rfl⟩
theorem xe(a:aX f S d lim M){p:Nat}{q:Option aA}(c:M.ax[p]?=Z (Z q)):
  ao aj 67 #[aa f.t,(p:Int)] d fun e o=>e=ap (a0 #[nJ q,aB])∧Y d o:=by
 obtain ⟨s,j⟩:=a.q9 c;have b:Y d (H d (X #[O U 0,O U 0] 78)):=(Y.refl d).alloc _;have i:ae (H d (X #[O U 0,O U 0] 78)) d.heap.size [O U 0,O U 0]:=(ae.new d _ _ rfl).of J;have l:=N (sI (a.I b) c);have k:er (H d (X #[O U 0,O U 0] 78)) f.p (p * 3+1) (da q):=⟨fun g n m=>by
  have:=b.range j (g+1) n (by simpa using m);rwa [show p * 3+(g+1)=p * 3+1+g by omega] at this⟩
 clear a c j;go_enter Tryz.func67,Tryz.ntmps67;go_upto_region 1 with fail
 generalize H d (X #[O U 0,O U 0] 78)=r at *;go_wp2_with (first|(refine e8 rfl 78 _ rfl _ _ rfl _ _ (k).aM dm rfl G ?_)|(with_reducible refine bq 78 (i) ((da q)) ?_)|(go_at_call 51;(with_reducible refine l.out.mono ?_);rintro e h ⟨rfl,rfl⟩));refine bH ((i.aR (us:=da q) rfl).cK rfl _ rfl rfl dm rfl G) rfl ?_;exact ⟨rfl,b.setCells (aG _) _ _⟩
theorem DK(a:aX f S d lim M){p:Nat}{q:Option aA}(b:M.ax[p]?=Z (Z q)):
  ao aj 193 #[aa f.t,(p:Int)] d fun e i=>e=ap aB∧aX f S i lim (eC M (p:Int))∧Mod [f.p] d i:=by
 obtain⟨o,m⟩:=a.q9 b;have n:=N (sI a b);have r:p < M.ax.length:=by rw[a.fB];exact o
 have s:d.there f.p (p * 3) 3:=a.ax.there (j:=0) r (aG _);have c:Mod [f.p] d (ba d f.p (p * 3) [ah false,O U 0,O U 0]):=Mod.setCells J _ _ _;have g:aX f S (ba d f.p (p * 3) [ah false,O U 0,O U 0]) lim (eC M (p:Int)):=a.tI c (a.ax.set b _ rfl V rfl);have k:=N g;have l:=N c;clear a b m g c;go_enter Tryz.func193,Tryz.ntmps193;go_wp2_with(first|(refine dY rfl 147 _ _ rfl _ _ _ rfl rfl s G G ?_)|(go_at_call 51;(with_reducible refine n.out.mono ?_);rintro e h ⟨rfl,rfl⟩));go_ret;exact⟨rfl,k.out,l.out⟩
end
section
theorem zh(c:aX f S d lim M){p:Nat}{q:Option aA}(i:M.ax[p]?=Z (Z q))(r:Option aA):
  ao aj 29 #[aa f.t,(p:Int),nJ q,nJ r] d fun e A=>e=ap (a0 #[ah true,aB])∧aX f S A lim (b1 M (p:Int) r)∧Mod [f.p] d A:=by
 obtain ⟨E,l⟩:=c.q9 i;have g:Y d ((H d (X (da q) 78)).alloc (X (da r) 78)):=((Y.refl d).alloc _).alloc _;have n:ae ((H d (X (da q) 78)).alloc (X (da r) 78)) d.heap.size (da q):=((ae.new d _ _ rfl).of J).I ((Y.refl _).alloc _);have o:ae ((H d (X (da q) 78)).alloc (X (da r) 78)) (d.heap.size+1) (da r):=(ae.new (H d _) _ _ dW).of J;have b:=c.I g;have t:=N (sI b i);have u:=N fun h (j:Y d h)=>(⟨fun m L F=>by
  have:=j.range l (m+1) L (by simpa using F);rwa [show p * 3+(m+1)=p * 3+1+m by omega] at this⟩:er h f.p (p * 3+1) (da q))
 have w:p < M.ax.length:=by rw [c.fB];exact E
 have v:=N fun h (j:Y d h)=>(show h.there f.p (p * 3+1) 2∧aX f S (ba h f.p (p * 3+1) (da r)) lim (b1 M (p:Int) r)∧Mod [f.p] h (ba h f.p (p * 3+1) (da r)) from by
  have b:=c.I j;have x:Mod [f.p] h (ba h f.p (p * 3+1) (da r)):=Mod.setCells J _ _ _;exact ⟨b.ax.there w K,b.tI x (b.ax.part i (vs:=[ah true,O U (a4 q).1,O U (a4 q).2]) rfl (j.range l) 1 (da r) J (Z r) rfl),x⟩)
 clear c i l b w;go_enter Tryz.func29,Tryz.ntmps29;go_upto_region 1 with fail
 generalize (H d (X (da q) 78)).alloc (X (da r) 78)=a at *;go_upto_region 4 with (go_at_call 51;(with_reducible refine t.out.mono ?_);rintro e h ⟨rfl,rfl⟩)
 have k:=u.out a g;have fC:a.cell? ⟨f.p,p * 3+1,V⟩=Z (O U (a4 q).1):=k.aM 0 _ rfl;have I:a.cell? ⟨f.p,p * 3+1+1,V⟩=Z (O U (a4 q).2):=k.aM 1 _ rfl;have Q:=n.cell 0 rfl;have x1:=n.cell 1 rfl;have s:=o.I ((Y.refl a).drew);go_big_quiet (fail);have s:=o.I ((Y.refl a).drewN nq);obtain ⟨P,y,z⟩:=v.out (a.drewN nq) (g.trans (bz));have D:Y d (a.drewN nq):=g.trans (bz);have B:=N y;have C:=N ((D.mod [f.p]).trans z);clear y z fC I Q x1 k t u v;generalize a.drewN nq=R at *;go_wp2_with (first|(with_reducible refine b0 78 (s) dm ?_)|(refine dY rfl 78 _ _ rfl _ _ _ rfl rfl P G G ?_));go_ret2;exact ⟨rfl,B.out,C.out⟩
def AD (f:aV) (S:List Nat) (lim:aK) (d:ad) (a:Option (Nat×az)) (M:az) (e:Ending) (b:ad):Prop:=
 match a with
 |some (p,c)=>e=ap (a0 #[O U (p:Int),aB])∧aX f S b lim c∧Mod [f.p] d b
 |none=>e=ap (a0 #[O U 0,fR 3])∧d=b
theorem Ho(b:M.ax[k]?=Z V)(g: ∀ a,a < k→∀ x,M.ax[a]?=Z x→x.isSome=true):eR M=Z (k,{M with ax:=M.ax.set k (Z V)}):=by
 obtain ⟨f,c⟩:=c3.1 b;have d:M.ax.findIdx? (fun q=>q.isNone)=Z k:=by
  rw [rJ];refine ⟨f,by rw [c];rfl,fun a e=>?_⟩;have:=g a e _ (cP K);rw [Bool.not_eq_true];exact zZ.2 this
 unfold eR;rw [d]
theorem Hr(d: ∀ a,a < M.ax.length→∀ x,M.ax[a]?=Z x→x.isSome=true):eR M=none:=by
 have c:M.ax.findIdx? (fun q=>q.isNone)=none:=by
  rw [zY];intro x e;obtain ⟨a,b,rfl⟩:=pA.1 e;have:=d a b _ (cP b);exact zZ.2 this
 unfold eR;rw [c]
theorem zl(b:aX f S d lim M):
  ao aj 28 #[aa f.t] d (AD f S lim d (eR M) M):=by
 obtain⟨c,R,u⟩:=b.h1;have P:=b.lim.ax;have L:=u.cell 0 rfl;have t:=N b.fB;have C:=N (Hr (M:=M));have D:=N fun (k:Nat)=>Ho (M:=M) (k:=k);have g:=N b;clear b u;generalize eR M=I at *;go_enter Tryz.func28,Tryz.ntmps28;go_upto_region 4 with fail
 go_loop[13] (fun s=> ∃ k:Nat,k≤lim.ax∧s=O U k∧Hid (∀ j,j < k→∀ x,M.ax[j]?=Z x→x.isSome=true)) (fun s=>lim.ax - (intOf s).toNat)
 case atStart=>exact⟨0,aJ _,rfl,N fun j l=>K⟩
 case round=>
  obtain⟨k,T,rfl,n⟩:=hrel;by_cases w:k < lim.ax
  ·have Q:=tV f.p lim.ax c w;have v:k < M.ax.length:=by rw[t.out];exact w
   have a:M.ax[k]?=Z M.ax[k]:=cP v;obtain⟨y,W,e,h⟩:=g.out.ax.at' k _ a;generalize M.ax[k]=x at a e;cases x with
   |some q=>
    have o:y=[ah true,O U (a4 q).1,O U (a4 q).2]:=e;subst o;have r:=h 0 _ rfl;rw[gI]at r;have B:=N a;clear h a e;go_wp2_with fail;go_round
    case rel=>exact⟨k+1,K,e9,N fun j l F p=>by
     rcases dC j k with q|q
     ·exact n.out j q F p
     ·obtain rfl:j=k:=by omega
      rw[B.out]at p;cases p;rfl⟩
    case measure=>simp[intOf];omega
   |none=>
    have o:y=[ah false,O U 0,O U 0]:=e;subst o;have r:=h 0 _ rfl;rw[gI]at r;have i:=N (D.out k a n.out);have E:d.there f.p (k * 3) 3:=g.out.ax.there (j:=0) v (aG _);have m:Mod [f.p] d (ba d f.p (k * 3) [ah true,O U 0,O U 0]):=Mod.setCells J _ _ _;have z:=N (g.out.tI m (g.out.ax.set a [ah true,O U 0,O U 0] rfl (Z V) rfl));have A:=N m;clear h a e m;go_wp2_with(refine dY rfl 147 _ _ rfl _ _ _ rfl rfl E G G ?_);go_ret2;rw[i.out];exact⟨rfl,z.out,A.out⟩
  ·obtain rfl:k=lim.ax:=by omega
   have i:=N (C.out fun j l=>n.out j (by rw[←t.out];exact l));go_wp2_with fail;go_ret2;rw[i.out];exact⟨rfl,rfl⟩
end
section
theorem aX.hE(a:aX f S d lim M){b:Nat}(c:d.heap.size≤b):b∉f.l:=fun q=>by have:=a.old _ (a.sub _ q);omega
theorem b3.boxed(c:b3 (ay d (b::S)) y o1 n1 c1 o2 n2 c2)(a:List ak):b3 (ay (ba d b 0 a) (b::S)) y o1 n1 c1 o2 n2 c2:=
 c.ex ((Mod.setCells (S:=[b]) J a 0 d).jT J)
theorem b3.less{S':List Nat}(a:b3 (ay d S) y o1 n1 c1 o2 n2 c2)(c: ∀ b∈S',b∈S):b3 (ay d S') y o1 n1 c1 o2 n2 c2:=a.ex (oX d c)
def Am (f:aV) (S:List Nat) (lim:aK) (M:az) (d:ad) (y:ar) (e:Ending) (a:ad):Prop:=∃ o1 n1 c1 o2 n2 c2,e=ap (a0 #[aW y.x o1 n1 c1 o2 n2 c2,aB])∧b3 (ay a S) y o1 n1 c1 o2 n2 c2∧aX f S a lim M∧Mod [f.m] d a
def p2 (f:aV) (S:List Nat) (lim:aK) (M:az) (d h:ad) (y:ar) (c e:ak) (a:ad):Prop:=
 ∃ b o1 n1 c1 o2 n2 c2,c=au (Z ⟨b,0,V⟩)∧e=aB∧ae a b (an y.x o1 n1 c1 o2 n2 c2)∧b3 (ay a ((d.heap.size+1)::S)) y o1 n1 c1 o2 n2 c2∧aX f ((d.heap.size+1)::S) a lim M∧Y h a∧h.heap.size≤b
theorem EU(e:aX f ((d.heap.size+1)::S) h lim M)(a:Y h l)(c:b3 (ay l ((d.heap.size+1)::S)) y o1 n1 c1 o2 n2 c2)(b:TypeId):
  p2 f S lim M d h y (au (Z l)) aB (H l (X (an y.x o1 n1 c1 o2 n2 c2) b)):=
 ⟨_,o1,n1,c1,o2,n2,c2,rfl,rfl,(ae.new l _ _ rfl).of J,c.ex (bX ((Y.refl l).alloc _) _),e.I (a.alloc _),a.alloc _,a.le⟩
theorem EV(a:aX f ((d.heap.size+1)::S) h lim M)(g:Y h l)(i:b3 (ay l (h.heap.size:: (d.heap.size+1)::S)) y o1 n1 c1 o2 n2 c2)(e:ae l h al):
  p2 f S lim M d h y (au (Z h)) aB (ba l h 0 (an y.x o1 n1 c1 o2 n2 c2)):=
 ⟨_,o1,n1,c1,o2,n2,c2,rfl,rfl,e.aR rfl,(i.boxed _).less (fun b c=>h5 _ c),(a.more g (aG _) (e.lt J)).boxed (a.hE (aG _)) (fun b c=>a.sub b c) _,g.setCells (aG _) _ _,aG _⟩
theorem xR(k:aX f S d lim M){r:aA}{y:ar}(T:Live M r y)(P:bT y):
  ao aj 117 #[aa f.m,j2 r] d (Am f S lim M d y):=by
 have Q:Y d ((H d (X #[O U ((r.i:Int)+1),(r.g:Int)] 78)).alloc (X al 85)):=((Y.refl d).alloc _).alloc _;have ay:ae ((H d (X #[O U ((r.i:Int)+1),(r.g:Int)] 78)).alloc (X al 85)) d.heap.size [O U ((r.i:Int)+1),(r.g:Int)]:=((ae.new d _ _ rfl).of J).I ((Y.refl _).alloc _);have C:ae ((H d (X #[O U ((r.i:Int)+1),(r.g:Int)] 78)).alloc (X al 85)) (d.heap.size+1) al:=(ae.new (H d _) _ _ dW).of J;have I:=N (k.hE (b:=d.heap.size+1) (gl d));have aE:=N (k.hE (aG d));have aC:=N k.sub;have W:=k.more Q (b:=d.heap.size+1) K (C.lt J);have bh:=N (jv W);clear k W;go_enter Tryz.func117,Tryz.ntmps117;go_upto_region 1 with fail
 generalize (H d (X #[O U ((r.i:Int)+1),(r.g:Int)] 78)).alloc (X al 85)=bn at *;go_upto_region 4 with (go_at_call 32;(with_reducible refine bh.out.mono ?_);rintro e h ⟨rfl,x,t⟩)
 have aF:d.heap.size∉[f.m]:=fun q=>aE.out (by rw [aO.1 q];simp);have aH:d.heap.size+1∉[f.m]:=fun q=>I.out (by rw [aO.1 q];simp);have u:=t.box aF ay;have D:=t.box aH C;have bm:=u.cell 0 rfl;have x1:=u.cell 1 rfl;obtain ⟨bG,v⟩:=x.mem;have aJ:=v.cell 7 rfl;have B:=N fun l ax (aI:aX f ax l lim M)=>xQ aI T P;have n:=N x;have av:=N t;have bK:d.heap.size+1 < h.heap.size:=D.lt J;have bI:f.m < h.heap.size:=v.lt J;clear v x t T P bh;go_cut [6,7] (fun bj bk bl=>p2 f S lim M d h y bj bk bl)
 case first=>
  go_region_held3 (fun i=>i.cell? d=Z (O U ((r.i:Int)+1))∧i.cell? ⟨d,1,V⟩=Z (O U (r.g:Int))∧i.cell? ⟨f.m,7,V⟩=Z (aa f.a)) ((first|(have kG:=m;exact b9)|exact b9)) (first|(go_at_call 68;(refine (B.out _ (h.heap.size:: (d.heap.size+1)::S) ?_).mono ?_;(focus (refine n.out.more dh (aG _) ?_;show _ < (H h _).heap.size;rw [dL];omega;done)));rintro e l ⟨o1,n1,c1,o2,n2,c2,rfl,w,m⟩;(have A:Y h l:=Y.trans dh m);have a:=(((ae.new h al.toArray 85 (b:=h.heap.size) rfl).I ((Y.refl _).drew)).of (us:=al) J).I m;have a2:=a.cell 0 rfl;have aK:=a.free 0 J;have a3:=a.cell 1 rfl;have aL:=a.free 1 J;have a9:=a.cell 2 rfl;have aS:=a.free 2 J;have bb:=a.cell 3 rfl;have aT:=a.free 3 J;have bc:=a.cell 4 rfl;have aU:=a.free 4 J;have bd:=a.cell 5 rfl;have aV:=a.free 5 J;have be:=a.cell 6 rfl;have aW:=a.free 6 J;have bf:=a.cell 7 rfl;have aY:=a.free 7 J;have bg:=a.cell 8 rfl;have aZ:=a.free 8 J;have bi:=a.cell 9 rfl;have a1:=a.free 9 J;have a4:=a.cell 10 rfl;have aM:=a.free 10 J;have a5:=a.cell 11 rfl;have aN:=a.free 11 J;have a6:=a.cell 12 rfl;have aP:=a.free 12 J;have a7:=a.cell 13 rfl;have aQ:=a.free 13 J;have a8:=a.cell 14 rfl;have aR:=a.free 14 J)|(go_at_call 68;(refine (B.out _ ((d.heap.size+1)::S) ?_).mono ?_;(focus (exact n.out.I dh)));rintro e l ⟨o1,n1,c1,o2,n2,c2,rfl,w,m⟩;(have A:Y h l:=Y.trans dh m)));all_goals (go_wp2_with fail;go_meet;first|(with_reducible exact EU n.out A w _)|(exact (show p2 f S lim M d h y (au (Z h)) aB (ba l h 0 (an y.x o1 n1 c1 o2 n2 c2)) from EV n.out A w a)))
 case rest=>
  obtain ⟨j,o1,n1,c1,o2,n2,c2,rfl,rfl,a,E,F,z,bJ⟩:=hcut;have az:=D.I z;have bm:=(u.I z).cell 0 rfl;have am:=N E;have aq:=N F;have ag:=N fun p s l=>jQ p s l;have bo:=a.cell 0 rfl;have bp:=a.cell 1 rfl;have bq:=a.cell 2 rfl;have br:=a.cell 3 rfl;have bs:=a.cell 4 rfl;have bt:=a.cell 5 rfl;have bv:=a.cell 6 rfl;have bw:=a.cell 7 rfl;have bx:=a.cell 8 rfl;have bA:=a.cell 9 rfl;have bB:=a.cell 10 rfl;have bC:=a.cell 11 rfl;have bD:=a.cell 12 rfl;have bE:=a.cell 13 rfl;have bF:=a.cell 14 rfl;clear E F aJ;go_wp2_with fail;go_region_held3 (fun i=>i.cell? j=Z (O U y.x.r.kind)∧i.cell? ⟨j,1,V⟩=Z (af y.x.r.low)∧i.cell? ⟨j,2,V⟩=Z (af y.x.r.high)∧i.cell? ⟨j,3,V⟩=Z (ah y.x.r.unb)∧i.cell? ⟨j,4,V⟩=Z (O U y.x.r.right)∧i.cell? ⟨j,5,V⟩=Z (ac o1 n1 c1)∧i.cell? ⟨j,6,V⟩=Z (ac o2 n2 c2)∧i.cell? ⟨j,7,V⟩=Z (af y.x.r.key)∧i.cell? ⟨j,8,V⟩=Z (af y.x.r.val)∧i.cell? ⟨j,9,V⟩=Z (O U y.x.r.page)∧i.cell? ⟨j,10,V⟩=Z (O U y.x.aH)∧i.cell? ⟨j,11,V⟩=Z (O U y.x.bb)∧i.cell? ⟨j,12,V⟩=Z (af y.x.aD)∧i.cell? ⟨j,13,V⟩=Z (O U y.x.slot)∧i.cell? ⟨j,14,V⟩=Z (O U y.x.gen)∧i.cell? d=Z (O U ((r.i:Int)+1))) ((first|(have kG:=R;exact b9)|exact b9)) (first|(go_at_call 55;(refine (ag.out _ _ _).mono ?_);rintro e ab ⟨rfl,R⟩;(have o:Y wc ab:=Y.trans dh R);have g:=az.I o;have a2:=g.cell 0 rfl;have aK:=g.free 0 J;have a3:=g.cell 1 rfl;have aL:=g.free 1 J;have a9:=g.cell 2 rfl;have aS:=g.free 2 J;have bb:=g.cell 3 rfl;have aT:=g.free 3 J;have bc:=g.cell 4 rfl;have aU:=g.free 4 J;have bd:=g.cell 5 rfl;have aV:=g.free 5 J;have be:=g.cell 6 rfl;have aW:=g.free 6 J;have bf:=g.cell 7 rfl;have aY:=g.free 7 J;have bg:=g.cell 8 rfl;have aZ:=g.free 8 J;have bi:=g.cell 9 rfl;have a1:=g.free 9 J;have a4:=g.cell 10 rfl;have aM:=g.free 10 J;have a5:=g.cell 11 rfl;have aN:=g.free 11 J;have a6:=g.cell 12 rfl;have aP:=g.free 12 J;have a7:=g.cell 13 rfl;have aQ:=g.free 13 J;have a8:=g.cell 14 rfl;have aR:=g.free 14 J));go_wp2_with fail;show bodyPost _ _ _ _ _ (ba ab (d.heap.size+1) 0 (an y.x o1 n1 c1 o2 n2 c2));refine bH ((g.aR (us:=an y.x o1 n1 c1 o2 n2 c2) rfl).cK rfl _ rfl rfl cG rfl G) rfl ?_;exact ⟨o1,n1,c1,o2,n2,c2,rfl,((am.out.ex (bX o _)).boxed _).less (fun b aD=>h5 _ aD),(aq.out.I o).boxed I.out aC.out _,(((Q.mod [f.m]).trans av.out).trans ((z.trans o).mod _)).then (Mod.setCells (S:=[d.heap.size+1]) J _ _ _) (fun c L=>by rw [aO] at L;subst L;exact .inr (gl _))⟩
end
end Go.Proofs.YtbkmjhhpcinppaaGreatDoor
