import Derived.Test.YtbkmjhhpcinppaaGreatDoorQ20
namespace Go.Proofs.YtbkmjhhpcinppaaGreatDoor
set_option linter.unusedVariables false
set_option linter.defProp false
set_option linter.unusedSimpArgs false
set_option maxRecDepth 100000
set_option maxHeartbeats 40000000
open Go.BigFrame Go.RowKit Go.WideShapes
open Ending renaming returned→ap
open Go renaming Addr→ai,Calls→ao,Value→ak,World→ad
open Go.Proofs.Tryz renaming prog→aj
open IntKind renaming i64→U
open Obj renaming cells→X
open Option renaming none→V,some→Z
open Value renaming agg→aw,bool→ah,int→O,nilIface→aB,pointer→au,slice→ac,string→af,tuple→a0
open World renaming alloc→H
variable {A a1 aR F aQ bt P z E T W k B aE u j p C D : Nat} {aL w l aN : ad} {s : aV} {S : az} {Q R : Ending → ad → Prop} {am aM : List Nat} {av ax m n page : Int} {aJ : List ar} {done : Bool} {aC aD : ak} {I y : ar} {lim : aK} {d : aT} {al M op ab ag : Option ai} {aF : List Int} {r : aA} {aH : List aA} {h : List ak}
section
theorem nt(m:bI s A aM aN lim S F (bE page av ax aE aD 1 op j E al B P I.x ab C T ag D W M u z k done aC) I ab C T ag D W am w op j E aF al B P aJ M u z aH)(aP: ∀ b∈s.l,b < A)(be:u≤1000)(bB:j≤1000)(bO:B≤1000)(aR:aJ[k]?=Z y)(bb:bT y):
  ao aj 184 #[aa F,aa s.m] w (vg s A aM aN lim S F page av ax aE aD (if k+1=B then 2 else 1) I ab C T ag D W am op j E aF al B P aJ M u z aH (if k+1=B then 0 else k+1) k done aC (b2 lim.count S y)):=by
 have bA:aJ.length=B:=m.s.bm.len;have bx:k < B:=by have:=(c3.1 aR).1;omega
 obtain ⟨g,h,rfl,bK,bN,⟨bn,bl,a1,bo,bm,a2,rfl,a7⟩,bh⟩:=m.s.bm.at (kY _) aR;have aT:=N fun L (bg:Y w L)=>yz (m.aC bg) aP be y bn bl a1 bo bm a2 (a7.ex (bX bg am)) bb;have bG:=m.box.cell 5 rfl;have a4:=m.box.cell 7 rfl;have a3:=m.box.cell 24 rfl;have bL: ∀ L,(Instr.indexAt 114 (ac (Z ⟨g,0,V⟩) B P) (O U (k:Int))).run aj L= .ok (au (Z ⟨g,k * 15,V⟩)) L:=fun L=>by
  have:=nO P (oa:=Z ⟨g,0,V⟩) (n:=B) (b:=g) (off:=0) (fun _=>rfl) bx L;rwa [cv] at this
 have ay:=N aP;have aQ:IntKind.i64.wrap ((k:Int)+1)=(k:Int)+1:=e0 _ K;have bk:wrap64 ((k:Int)+1)=(k:Int)+1:=(uK _).symm.trans aQ;clear m aP aR a7 bA bb;generalize b2 lim.count S y=a at *;generalize bi: (if k+1=B then (2:Int) else 1)=bQ;generalize a8: (if k+1=B then 0 else k+1)=bP;have aY:=N bi;have aX:=N a8;clear bi a8;go_enter pI,pJ;go_upto_region 15 with fail
 refine cZ (fun _=>True) (fun l=>l.cell? ⟨F,7,V⟩=Z (ac (Z ⟨g,0,V⟩) B P)∧l.cell? ⟨F,24,V⟩=Z (O U (k:Int))∧l.rangeAt g (k * 15) (an y.x bn bl a1 bo bm a2)) 12 G ?_;have d:True:=trivial;have hKC:=And.intro ((Y.refl w).drew.I a4) (And.intro ((Y.refl w).drew.I a3) ((Y.refl w).drew.range bh));refine' aI 0 80 (aa F) rfl d hKC ?_;refine' aI 1 81 (aa s.m) rfl d hKC ?_;refine' aI 2 82 (aa F) rfl d hKC ?_;refine' aI 3 83 (aa F) rfl d hKC ?_;refine' aI 4 84 (au (Z ⟨F,7,V⟩)) rfl d hKC ?_;refine' bc (v:=ac (Z ⟨g,0,V⟩) B P) 5 85 rfl (.inl ⟨aq,?_⟩) d hKC ?_
 ·(intro w ar;have bC:=ar.2.1;clear ar;go_simp)
 refine' aI 6 86 (aa F) rfl d hKC ?_;refine' aI 7 87 (aa F) rfl d hKC ?_;refine' aI 8 88 (au (Z ⟨F,24,V⟩)) rfl d hKC ?_;refine' bc (v:=O U (k:Int)) 9 89 rfl (.inl ⟨aq,?_⟩) d hKC ?_
 ·(intro w ar;have bC:=ar.2.2.1;clear ar;go_simp)
 refine' aI 10 90 (au (Z ⟨g,k * 15,V⟩)) rfl d hKC ?_;refine' bc 11 91 rfl (cj aq _ _ rfl _ _ rfl _ _ (fun w m=>m.2.2.2) cG rfl G) d hKC ?_;refine cg 12 (Z 92) rfl (fun p i=>?_);go_simp;go_at_call 195;with_reducible refine (aT.out _ (Y.refl w).drew).mono ?_
 clear aT hKC a4 a3 bh;intro e bD bf;cases a with
 |ok r bF=>
  obtain ⟨rfl,aW,aG,az,o⟩:=bf;refine bM i (trivial) ?_;clear i p;refine cg 13 (Z 5) rfl (fun p i=>?_);go_simp;refine bM i (trivial) ?_;clear i p;refine cC G ?_;have aL:=o.box.cell 24 rfl;have a5:=o.box.free 24 J;have a6:=o.box.cell 7 rfl;have R:=o.set ay.out 24 (O U ((k:Int)+1));clear o;go_upto_region 18 with fail
  clear aL a5 a6;generalize bD.setCell ⟨F,24,V⟩ (O U ((k:Int)+1))=x at *;have a6:=R.box.cell 7 rfl;have aL:=R.box.cell 24 rfl;have aV:=N R;by_cases aA:k+1=B
  ·have bw: ((k:Int)+1==(B:Int))=true:=by rw [ma];omega
   have Q:=N aA;clear aA aQ bk R;go_region_held3 (fun ae=>ae.cell? ⟨F,24,V⟩=Z (O U ((k:Int)+1))∧ae.cell? ⟨F,7,V⟩=Z (ac (Z ⟨g,0,V⟩) B P)) ((first|(have kG:=(Y.refl x);exact b9)|exact b9)) (fail);have f:=aV.out.aC (Y.refl x).drew;generalize x.drew=bs at *;have bJ:=f.box.cell 5 rfl;have bH:=f.box.free 5 J;have aL:=f.box.cell 24 rfl;have a5:=f.box.free 24 J;have aZ:=N (((f.set ay.out 5 (O U 2)).set ay.out 24 (O U 0)).of (inl':=bE page av ax aE aD 2 op j E (Z ⟨g,0,V⟩) B P I.x ab C T ag D W aG (u+1) az 0 done aC) rfl);have aK:=N (gh aZ.out.box (b:=false) rfl);clear f;go_wp2_with (go_at_call 181;(with_reducible refine aK.out.mono ?_);rintro e l ⟨rfl,rfl⟩);go_ret;rw [←aY.out,←aX.out,a9 Q.out,a9 Q.out];exact ⟨rfl,aW,aG,az,aZ.out⟩
  ·have bw: ((k:Int)+1==(B:Int))=false:=by rw [ey];omega
   have Q:=N aA;clear aA aQ bk R;go_region_held3 (fun ae=>ae.cell? ⟨F,24,V⟩=Z (O U ((k:Int)+1))∧ae.cell? ⟨F,7,V⟩=Z (ac (Z ⟨g,0,V⟩) B P)) ((first|(have kG:=(Y.refl x);exact b9)|exact b9)) (fail);have f:=N ((aV.out.aC (Y.refl x).drew).of (inl':=bE page av ax aE aD 1 op j E (Z ⟨g,0,V⟩) B P I.x ab C T ag D W aG (u+1) az (k+1) done aC) aq);generalize x.drew=bs at *;have aK:=N (gh f.out.box (b:=false) rfl);go_wp2_with (go_at_call 181;(with_reducible refine aK.out.mono ?_);rintro e l ⟨rfl,rfl⟩);go_ret;rw [←aY.out,←aX.out,aS Q.out,aS Q.out];exact ⟨rfl,aW,aG,az,f.out⟩
 |no c=>
  obtain ⟨t,bp,rfl,bj,o⟩:=bf;refine bM i (trivial) ?_;clear i p;refine cg 13 (Z 5) rfl (fun p i=>?_);go_simp;refine bM i (trivial) ?_;clear i p;refine cC G ?_;have bq:=N (uq o.box be bB t bp);have aU:=N o;have br:=N bj;clear o bj;go_wp2_with (go_at_call 197;(with_reducible refine bq.out.mono ?_);rintro e bR ⟨rfl,bt,bd⟩);all_goals
   go_ret;have f:=aU.out.wrote ay.out bd bt;exact ⟨t,bp,rfl,br.out.aL (bd.aL (by intro b bv;rw [aO.1 bv];exact aU.out.fJ.1) fun _ q=> .inl q),f⟩
end
section
variable {aP : Int} 
theorem bI.ix(a:bI s A aM aN lim S F (bE page av ax aE aD aP op j E al B P I.x ab C T ag D W M u z k done aC) I ab C T ag D W am w op j E aF al B P aJ M u z aH){m:Nat}(b:m≤u):bI s A aM aN lim S F (bE page av ax aE aD aP op j E al B P I.x ab C T ag D W M u z k done aC) I ab C T ag D W am w op j E aF al B P aJ M m z (aH.take m):=
 ⟨a.box,⟨a.s.iq,a.s.bm,by rw[List.map_take];exact a.s.ir.take b,by rw[q4 M m z u z];exact a.s.ft,by rw[q4 M m z u z];exact a.s.nd⟩,a.aL,a.mem,a.av⟩
theorem bI.Hm(a:bI s A aM aN lim S F (bE page av ax aE aD aP op j E al B P I.x ab C T ag D W M u z k done aC) I ab C T ag D W am w op j E aF al B P aJ M u z aH){m:Nat}(b:m≤j):bI s A aM aN lim S F (bE page av ax aE aD aP op j E al B P I.x ab C T ag D W M u z k done aC) I ab C T ag D W am w op m E (aF.take m) al B P aJ M u z aH:=
 ⟨a.box,⟨a.s.iq.take b,a.s.bm,a.s.ir,by rw[q4 op m E j E];exact a.s.ft,by rw[q4 op m E j E];exact a.s.nd⟩,a.aL,a.mem,a.av⟩
theorem hE{b:Nat}{a:List Nat}(d: ∀ b∈s.l,b < A)(f:A≤b)(e: ∀ c∈a,c∈s.l):b∉a:=fun q=>by have:=d b (e b q);omega
theorem tc(c:bI s A aM aN lim S F (bE page av ax aE aD 2 op j E al B P I.x ab C T ag D W M u z k done aC) I ab C T ag D W am w op j E aF al B P aJ M u z aH)(t: ∀ b∈s.l,b < A)(br:u≤1000)(bs:j≤1000)(ay:aH[k]?=Z r)(ar:aF[k]?=Z (p:Int))(aR:S.ax[p]?=Z (Z V)):
  ao aj 184 #[aa F,aa s.m] w fun e l=>e=ap (ah false)∧bI s A aM aN lim (b1 S (p:Int) (Z r)) F (bE page av ax aE aD (if k+1=j then 3 else 2) op j E al B P I.x ab C T ag D W M u z (k+1) done aC) I ab C T ag D W am l op j E aF al B P aJ M u z aH:=by
 have bf:aH.length=u:=by rw [←c.s.ir.len,fM]
 have bg:aF.length=j:=c.s.iq.len;have bc:k < u:=by have:=(c3.1 ay).1;omega
 have be:k < j:=by have:=(c3.1 ar).1;omega
 obtain ⟨g,h,rfl,a8,bp,m,az⟩:=c.s.ir.at fb (i:=k) (x:=dE r) (by rw [mW,ay];rfl);have m:h=[O U ((r.i:Int)+1),(r.g:Int)]:=m;subst m;obtain ⟨a,h,rfl,bb,bq,m,aT⟩:=c.s.iq.at fz ar;have m:h=[O U (p:Int)]:=m;subst m;have a3:w.cell? ⟨g,k * 2,V⟩=Z (O U ((r.i:Int)+1)):=az 0 _ rfl;have a4:=az 1 _ rfl;have a5:w.cell? ⟨a,k,V⟩=Z (O U (p:Int)):=by have:=aT 0 _ rfl;simpa using this
 have a1:=c.box.cell 5 rfl;have a2:=c.box.cell 6 rfl;have aY:=c.box.cell 23 rfl;have aZ:=c.box.cell 24 rfl;have bk:F∉[s.m,s.p]:=hE t c.fJ.2.1 J;have bl:g∉[s.m,s.p]:=hE t (c.s.ft g (by simp only [bd,cu];exact .inr (.inr (.inr a8)))).2.1 J;have bm:a∉[s.m,s.p]:=hE t (c.s.ft a (by simp only [bd,cu];exact .inr (.inl bb))).2.1 J;have aA:IntKind.i64.wrap ((k:Int)+1)=(k:Int)+1:=e0 _ K;have aV:wrap64 ((k:Int)+1)=(k:Int)+1:=(uK _).symm.trans aA;have bn: ∀ o,(Instr.indexAt 115 (ac (Z ⟨g,0,V⟩) u z) (O U (k:Int))).run aj o= .ok (au (Z ⟨g,k * 2,V⟩)) o:=fun o=>by
  have:=tW z (oa:=Z ⟨g,0,V⟩) (n:=u) (b:=g) (off:=0) (fun _=>rfl) bc o;rwa [cv] at this
 have bo: ∀ o,(Instr.indexAt 62 (ac (Z ⟨a,0,V⟩) j E) (O U (k:Int))).run aj o= .ok (au (Z ⟨a,k,V⟩)) o:=fun o=>by
  have:=yU E (oa:=Z ⟨a,0,V⟩) (n:=j) (b:=a) (off:=0) (fun _=>rfl) be o;rwa [cv] at this
 have aI:=N fun G (m:aX s am G lim S)=>zg m aR (Z r);have L:=N t;have R:=N c;generalize aU: (if k+1=j then (3:Int) else 2)=bt;have aK:=N aU;clear c t aR az aT ay ar bf bg aU;go_enter pI,pJ;go_upto_region 21 with fail
 go_region_held3 (fun f=>f.cell? ⟨F,6,V⟩=Z (ac (Z ⟨a,0,V⟩) j E)∧f.cell? ⟨F,24,V⟩=Z (O U (k:Int))∧f.cell? ⟨F,23,V⟩=Z (ac (Z ⟨g,0,V⟩) u z)∧f.cell? ⟨g,k * 2,V⟩=Z (O U ((r.i:Int)+1))∧f.cell? ⟨g,k * 2+1,V⟩=Z (O U (r.g:Int))∧f.cell? ⟨a,k,V⟩=Z (O U (p:Int))) (first|(first|(have kG:=an;exact ky)|exact ky)) (first|(go_at_call 196;(refine (aI.out _ ?_).mono ?_);(focus (exact R.out.mem.I dh));rintro e G ⟨rfl,aP,an⟩;(have aQ:Mod [s.m,s.p] w G:=Mod.trans (Y.mod dh _) an)));all_goals
  have v:=R.out.acc L.out aP aQ J;have aO:=v.box.cell 24 rfl;have a6:=v.box.free 24 J;clear aP an aQ R aI a1 a2 aY aZ a3 a4 a5;go_upto_region 24 with fail
  have d:=(v.set L.out 24 (O U ((k:Int)+1))).of (inl':=bE page av ax aE aD 2 (Z ⟨a,0,V⟩) j E al B P I.x ab C T ag D W (Z ⟨g,0,V⟩) u z (k+1) done aC) aq;clear v aO a6;generalize G.setCell ⟨F,24,V⟩ (O U ((k:Int)+1))=q at *;have aO:q.cell? ⟨F,24,V⟩=Z (O U ((k:Int)+1)):=d.box.cell 24 rfl;have bj:=d.box.cell 6 rfl;have aG:=N d;clear d;by_cases y:k+1=j
  ·have a7: ((k:Int)+1==(j:Int))=true:=by rw [ma];omega
   have ae:=N y;clear y aA aV;go_region_held3 (fun f=>f.cell? ⟨F,24,V⟩=Z (O U ((k:Int)+1))∧f.cell? ⟨F,6,V⟩=Z (ac (Z ⟨a,0,V⟩) j E)) ((first|(have kG:=(Y.refl q);exact b9)|exact b9)) (fail);have d:=aG.out.aC (Y.refl q).drew;generalize q.drew=aW at *;have bi:=d.box.cell 5 rfl;have bh:=d.box.free 5 J;have aL:=N ((d.set L.out 5 (O U 3)).of (inl':=bE page av ax aE aD 3 (Z ⟨a,0,V⟩) j E al B P I.x ab C T ag D W (Z ⟨g,0,V⟩) u z (k+1) done aC) rfl);have Q:=N (gh aL.out.box (b:=false) rfl);clear d;go_wp2_with (go_at_call 181;(with_reducible refine Q.out.mono ?_);rintro e l ⟨rfl,rfl⟩);go_ret;rw [←aK.out,a9 ae.out];exact ⟨rfl,aL.out⟩
  ·have a7: ((k:Int)+1==(j:Int))=false:=by rw [ey];omega
   have ae:=N y;clear y aA aV;go_region_held3 (fun f=>f.cell? ⟨F,24,V⟩=Z (O U ((k:Int)+1))∧f.cell? ⟨F,6,V⟩=Z (ac (Z ⟨a,0,V⟩) j E)) ((first|(have kG:=(Y.refl q);exact b9)|exact b9)) (fail);have d:=N (aG.out.aC (Y.refl q).drew);generalize q.drew=aW at *;have Q:=N (gh d.out.box (b:=false) rfl);go_wp2_with (go_at_call 181;(with_reducible refine Q.out.mono ?_);rintro e l ⟨rfl,rfl⟩);go_ret;rw [←aK.out,aS ae.out];exact ⟨rfl,d.out⟩
theorem eV(a:ae w F (bE page av ax aE aD aP op j E al B P I.x ab C T ag D W M u z k done aC))(m: (aP==5)=false)(n: (aP==6)=false)(c: (aP==7)=false){Q:Ending→ad→Prop}(d:ao aj 184 #[aa F,aa s.m] w fun e l=> ∃ b,e=ap (ah b)∧Q e l):
  ao aj 161 #[aa F,aa s.m] w Q:=by
 have f:=N (gh a (b:=false) c);have i:=a.cell 5 rfl;have g:=N d;clear a d c;go_enter Tryz.func161,Tryz.ntmps161;go_wp2_with(first|(go_at_call 181;(with_reducible refine f.out.mono ?_);rintro e l ⟨rfl,rfl⟩)|(go_at_call 184;(with_reducible refine g.out.mono ?_);rintro e l ⟨b,rfl,h⟩));exact h
theorem Ha(c:bI s A aM aN lim S F (bE page av ax aE aD 5 op j E al B P I.x ab C T ag D W M (u+1) z k done aC) I ab C T ag D W am w op j E aF al B P aJ M (u+1) z aH)(az: ∀ b∈s.l,b < A)(a4:u≤1000)(a5:j≤1000)(aI:aH[u]?=Z r)(p:Live S r y):
  ao aj 161 #[aa F,aa s.m] w fun e l=>e=ap (ah (gE j u==7))∧bI s A aM aN lim (e3 S r) F (bE page av ax aE aD (gE j u) op j E al B P I.x ab C T ag D W M u z k done aC) I ab C T ag D W am l op j E aF al B P aJ M u z (aH.take u):=by
 obtain⟨g,h,rfl,a2,a3,o,ae⟩:=c.s.ir.at fb (i:=u) (x:=dE r) (by rw[mW,aI];rfl);have o:h=[O U ((r.i:Int)+1),(r.g:Int)]:=o;subst o;have a1:=(c.s.ir.fv fb).dj;have aQ:w.cell? ⟨g,u * 2,V⟩=Z (O U ((r.i:Int)+1)):=ae 0 _ rfl;have aR:=ae 1 _ rfl;have aP:=c.box.cell 5 rfl;have aO:=c.box.cell 23 rfl;have a8:IntKind.i64.wrap (((u+1:Nat):Int) - 1)=(u:Int):=by rw[e0 _ K];omega
 have aV: ∀ v,(Instr.indexAt 115 (ac (Z ⟨g,0,V⟩) (u+1) z) (O U (u:Int))).run aj v= .ok (au (Z ⟨g,u * 2,V⟩)) v:=fun v=>by
  have:=tW z (oa:=Z ⟨g,0,V⟩) (n:=u+1) (b:=g) (off:=0) (fun _=>rfl) (oc u) v;rwa[cv]at this
 have aq:=N fun an (o:aX s am an lim S)=>wP o p;have q:=N az;have G:=N c;have a:=N (gh c.box (b:=false) rfl);clear c az ae aI p;go_enter Tryz.func161,Tryz.ntmps161;go_upto_region 7 with(go_at_call 181;(with_reducible refine a.out.mono ?_);rintro e l ⟨rfl,rfl⟩)
 have a6: (0:Int)≤(u:Int):=K;have a7: (u:Int)≤(z:Int):=K;go_upto_region 8 with(go_at_call 182;(refine(aq.out _ G.out.mem).mono ?_);rintro e an ⟨rfl,aA,aG⟩)
 have t:=G.out.acc q.out aA aG J;have d:=((t.ix (m:=u) (gl _)).set q.out 23 (ac (Z ⟨g,0,V⟩) u z)).of (inl':=bE page av ax aE aD 5 op j E al B P I.x ab C T ag D W (Z ⟨g,0,V⟩) u z k done aC) rfl;have aU:=t.box.cell 23 rfl;have aT:=t.box.free 23 J;clear t aA aG G aq aP aO aQ aR aV a;go_upto_region 9 with fail
 clear aU aT;generalize an.setCell ⟨F,23,V⟩ (ac (Z ⟨g,0,V⟩) u z)=aL at *;have L:=N d;rcases gm u with aK|aK
 ·subst aK;have R:=d.box.cell 5 rfl;have ay:=d.box.free 5 J;clear d;go_upto_region 15 with fail
  have f:=(L.out.set q.out 5 (O U 6)).of (inl':=bE page av ax aE aD 6 op j E al B P I.x ab C T ag D W (Z ⟨g,0,V⟩) 0 z k done aC) rfl;clear R ay;generalize aL.setCell ⟨F,5,V⟩ (O U 6)=aY at *;have R:=f.box.cell 5 rfl;have ay:=f.box.free 5 J;have aZ:=f.box.cell 6 rfl;have Q:=N f;clear f;rcases gm j with p|p
  ·subst p;have ar:=N ((Q.out.set q.out 5 (O U 7)).of (inl':=bE page av ax aE aD 7 op 0 E al B P I.x ab C T ag D W (Z ⟨g,0,V⟩) 0 z k done aC) rfl);have a:=N (gh ar.out.box (b:=true) rfl);go_wp2_with(go_at_call 181;(with_reducible refine a.out.mono ?_);rintro e l ⟨rfl,rfl⟩);go_ret;exact⟨rfl,ar.out⟩
  ·have aW: ((j:Int)==0)=false:=by rw[ey];omega
   have a:=N (gh Q.out.box (b:=false) rfl);go_wp2_with(go_at_call 181;(with_reducible refine a.out.mono ?_);rintro e l ⟨rfl,rfl⟩);go_ret;rw[show gE j 0=6 by unfold gE;rw[a9 rfl,aS K]];exact⟨rfl,Q.out⟩
 ·have aW: ((u:Int)==0)=false:=by rw[ey];omega
  have R:=d.box.cell 5 rfl;clear d;have a:=N (gh L.out.box (b:=false) rfl);go_wp2_with(go_at_call 181;(with_reducible refine a.out.mono ?_);rintro e l ⟨rfl,rfl⟩);go_ret;rw[show gE j u=5 by unfold gE;rw[aS K]];exact⟨rfl,L.out⟩
def qE (j:Nat):Int:=if j=0 then 7 else 6
theorem Hb{q:Option aA}(a:bI s A aM aN lim S F (bE page av ax aE aD 6 op (j+1) E al B P I.x ab C T ag D W M u z k done aC) I ab C T ag D W am w op (j+1) E aF al B P aJ M u z aH)(Q: ∀ b∈s.l,b < A)(aW:j≤1000)(aq:aF[j]?=Z (p:Int))(an:S.ax[p]?=Z (Z q)):
  ao aj 161 #[aa F,aa s.m] w fun e l=>e=ap (ah (qE j==7))∧bI s A aM aN lim (eC S (p:Int)) F (bE page av ax aE aD (qE j) op j E al B P I.x ab C T ag D W M u z k done aC) I ab C T ag D W am l op j E (aF.take j) al B P aJ M u z aH:=by
 obtain⟨g,h,rfl,aT,aU,f,ar⟩:=a.s.iq.at fz aq;have f:h=[O U (p:Int)]:=f;subst f;have aR:=(a.s.iq.fv fz).dj;have aI:w.cell? ⟨g,j,V⟩=Z (O U (p:Int)):=by have:=ar 0 _ rfl;simpa using this
 have az:=a.box.cell 5 rfl;have aG:=a.box.cell 6 rfl;have a1:IntKind.i64.wrap (((j+1:Nat):Int) - 1)=(j:Int):=by rw[e0 _ K];omega
 have aL: ∀ o,(Instr.indexAt 62 (ac (Z ⟨g,0,V⟩) (j+1) E) (O U (j:Int))).run aj o= .ok (au (Z ⟨g,j,V⟩)) o:=fun o=>by
  have:=yU E (oa:=Z ⟨g,0,V⟩) (n:=j+1) (b:=g) (off:=0) (fun _=>rfl) (oc j) o;rwa[cv]at this
 have y:=N fun x (f:aX s am x lim S)=>wV f an;have r:=N Q;have t:=N a;have c:=N (gh a.box (b:=false) rfl);clear a Q ar aq an;go_enter Tryz.func161,Tryz.ntmps161;go_upto_region 13 with(go_at_call 181;(with_reducible refine c.out.mono ?_);rintro e l ⟨rfl,rfl⟩)
 have aY: (0:Int)≤(j:Int):=K;have aZ: (j:Int)≤(E:Int):=K;go_upto_region 14 with(go_at_call 183;(refine(y.out _ t.out.mem).mono ?_);rintro e x ⟨rfl,R,ae⟩)
 have i:=t.out.acc r.out R ae J;have d:=((i.Hm (m:=j) (gl _)).set r.out 6 (ac (Z ⟨g,0,V⟩) j E)).of (inl':=bE page av ax aE aD 6 (Z ⟨g,0,V⟩) j E al B P I.x ab C T ag D W M u z k done aC) rfl;have L:=i.box.cell 6 rfl;have aK:=i.box.free 6 J;clear i R ae t y az aG aI aL c;go_upto_region 15 with fail
 clear L aK;generalize x.setCell ⟨F,6,V⟩ (ac (Z ⟨g,0,V⟩) j E)=aO at *;have aQ:=d.box.cell 5 rfl;have aP:=d.box.free 5 J;have L:=d.box.cell 6 rfl;have v:=N d;clear d;rcases gm j with ay|ay
 ·subst ay;have G:=N ((v.out.set r.out 5 (O U 7)).of (inl':=bE page av ax aE aD 7 (Z ⟨g,0,V⟩) 0 E al B P I.x ab C T ag D W M u z k done aC) rfl);have c:=N (gh G.out.box (b:=true) rfl);go_wp2_with(go_at_call 181;(with_reducible refine c.out.mono ?_);rintro e l ⟨rfl,rfl⟩);go_ret;exact⟨rfl,G.out⟩
 ·have aV: ((j:Int)==0)=false:=by rw[ey];omega
  have c:=N (gh v.out.box (b:=false) rfl);go_wp2_with(go_at_call 181;(with_reducible refine c.out.mono ?_);rintro e l ⟨rfl,rfl⟩);go_ret;rw[show qE j=6 by unfold qE;rw[aS K]];exact⟨rfl,v.out⟩
end
section
variable {I : aA} 
theorem px(l:cd aL n I k d h)(o:Bool)(j a b:Int)(c:aY)(p:Option ai)(q g:Nat)(w:ad)(m:aZ w p q g c.ag)(lim:aK):
  ao aj 156 #[aw h,aw (cB o j a b c p q g),aw (bC lim)] w (k3 d (iT d k n o c lim) w):=by
 unfold iT;by_cases i:lim.chain < k
 ·rw[a9 i];exact HR l o j a b c p q g w m lim i
 ·rw[aS i];by_cases f:lim.rows < d.size
  ·by_cases s:n=0
   ·rw[a9 ⟨f,s⟩];exact HL l o j a b c p q g w m lim i f s
   ·rw[aS (fun e=>s e.2),a9 f];exact HQ l o j a b c p q g w m lim i f s
  ·rw[aS (fun e=>f e.1),aS f];cases d with
   |aU v=>exact HO l o j a b c p q g w m lim i f rfl
   |leaf v=>
    unfold qJ;dsimp only;rcases gm v.rows.length with r|r
    ·cases o
     ·rw[aS (fun e=>by cases e.1)];exact HP l false j a b c p q g w m lim i f rfl r rfl
     ·cases t:c.held
      ·rw[a9 ⟨rfl,r,rfl⟩];exact HN l true j a b c p q g w m lim i f rfl r rfl t
      ·rw[aS (fun e=>by cases e.2.2)];exact HM l true j a b c p q g w m lim i f rfl r rfl t
    ·rw[aS (fun e=>by have:=e.2.1;omega)];exact HK l o j a b c p q g w m lim i f rfl r
theorem iu(d:aT)(a:dI): (fS d a).length=7:=by cases a <;> rfl
theorem pa(d:aT)(a:dI): (fS d a).all (·.oneCell')=true:=by cases a <;> rfl
theorem cd.mo(a:cd aL n I k d h):h[11]?=Z (ah d.g9)∧h[17]?=Z (ah d.hB)∧h[18]?=Z (O U (ea d).1)∧h[19]?=Z (O U (ea d).2.1)∧h[20]?=Z (af (ea d).2.2):=by
 obtain⟨g,f,M,u,z,a⟩:=a;cases d with
 |leaf v=>obtain⟨o,m,c,rfl,b,e⟩:=a;exact⟨rfl,rfl,rfl,rfl,rfl⟩
 |aU v=>obtain⟨o,m,c,rfl,b,e⟩:=a;exact⟨rfl,rfl,rfl,rfl,rfl⟩
def nm (d:aT) (k:Nat) (n:Int) (b:Bool) (c:aY) (a:ByteArray) (lim:aK) (wr:Bool):dI:=
 if d.g9=true then .again
 else if wr=true∧d.hB=true then .gQ
 else if d.has a=false then ig d.low d.high d.right b c a wr
 else if wr=true then(match iT d k n b c lim with|some x=>x|none=>ji d a)
 else ji d a
theorem CG(f:cd aL n I k d h)(g:Bool)(c a b:Int)(i:aY)(p:Option ai)(q e:Nat)(w:ad)(t:ByteArray)(lim:aK)(wr:Bool)(l:d.g9=true)(r:d.eO=true):
  ao aj 131 #[aw h,aw (cB g c a b i p q e),t,aw (bC lim),wr] w (jN d .again w):=by
 obtain⟨z,⟨D,y,C⟩,o⟩:=f.at;obtain⟨m,B, -⟩:=f.mo;obtain⟨s,A,u,v,j⟩:=hQ w 170 97 23 239 h (cB g c a b i p q e) (bC lim);rw[l]at m;rw[r]at o;clear f l r;go_enter mP,mQ;go_upto_region 1 with fail
 generalize(((H w (X h 170)).alloc (X (cB g c a b i p q e) 97)).alloc (X (bC lim) 23)).alloc (X bx 239)=x at *;have F:=A.cell 5 o;have E:=A.cell 11 m;go_wp2_with(with_reducible refine bq 239 (j) ((bs 3 0 ⟨#[]⟩ 0 0 0 ⟨#[]⟩)) ?_);refine bH ((j.aR (us:=bs 3 0 ⟨#[]⟩ 0 0 0 ⟨#[]⟩) rfl).e7 rfl _ rfl eG rfl G) rfl ?_;exact⟨rfl,s.setCells K _ _⟩
theorem CI(c:cd aL n I k d h)(j:Bool)(i a b:Int)(e:aY)(p:Option ai)(q g:Nat)(w:ad)(m:aZ w p q g e.ag)(E:dZ e)(l:ByteArray)(x:l.size≤maxLen)(lim:aK)(s:d.hB=true)(ab:dD aL w):
  ao aj 131 #[aw h,aw (cB j i a b e p q g),l,aw (bC lim),true] w (jN d .gQ w):=by
 obtain⟨T,⟨ae,S,aa⟩,u⟩:=c.at;obtain⟨W,t,y,z,B⟩:=c.mo;obtain⟨C,A,F,J,r⟩:=hQ w 170 97 23 239 h (cB j i a b e p q g) (bC lim);have M:=N fun f=>kx c l x f;have L:=N fun f (o:Y w f)=>oJ c j i a b e p q g f (aZ.I m o) E l x true;have P:=N fun f (o:Y w f)=>px c j i a b e p q g f (aZ.I m o) lim;have Q:=N c;rw[s]at t;have D:d.eO=false:=by cases d with|leaf v=>cases s|aU v=>rfl
 rw[D]at u;clear c m;go_enter mP,mQ;go_upto_region 1 with fail
 generalize(((H w (X h 170)).alloc (X (cB j i a b e p q g) 97)).alloc (X (bC lim) 23)).alloc (X bx 239)=R at *;have aq:=A.cell 5 u;have ag:=A.cell 17 t;have al:=A.cell 18 y;have am:=A.cell 19 z;have an:=A.cell 20 B;go_wp2_with(with_reducible refine bq 239 (r) ((bs 5 0 ⟨#[]⟩ 0 (ea d).1 (ea d).2.1 (ea d).2.2)) ?_);refine bH ((r.aR (us:=bs 5 0 ⟨#[]⟩ 0 (ea d).1 (ea d).2.1 (ea d).2.2) rfl).e7 rfl _ rfl eG rfl G) rfl ?_;exact⟨rfl,(C).setCells K _ _⟩
theorem CD(l:cd aL n I k d h)(i:Bool)(s a b:Int)(f:aY)(p:Option ai)(q r:Nat)(w:ad)(G:aZ w p q r f.ag)(ag:dZ f)(g:ByteArray)(M:g.size≤maxLen)(lim:aK)(wr:Bool)(R:d.g9=false)(B:wr=false∨d.hB=false)(F:d.has g=false)(aA:dD aL w):
  ao aj 131 #[aw h,aw (cB i s a b f p q r),g,aw (bC lim),wr] w (jN d (ig d.low d.high d.right i f g wr) w):=by
 obtain ⟨ar,⟨aC,aq,az⟩,T⟩:=l.at;obtain ⟨J,S,av,ax,ay⟩:=l.mo;obtain ⟨t,A,C,am,D⟩:=hQ w 170 97 23 239 h (cB i s a b f p q r) (bC lim);have z:=N fun m=>kx l g M m;have E:=N fun m (ae:Y w m)=>oJ l i s a b f p q r m (aZ.I G ae) ag g M wr;have Q:=N l.len;rw [R] at J;rw [F] at z;generalize ab:d.eO=P at *;generalize W:d.hB=L at *;clear ab W F;clear l G;go_enter mP,mQ;go_upto_region 1 with fail
 generalize (((H w (X h 170)).alloc (X (cB i s a b f p q r) 97)).alloc (X (bC lim) 23)).alloc (X bx 239)=an at *;have u: (aj.info? 170).map (·.size)=Z h.length:=by rw [Q.out];kernel_rfl
 have v:=dt;have aF:=A.cell 5 T;have aD:=A.cell 11 J;have aE:=A.cell 17 S;cases wr
 ·clear B;cases L <;> cases P;all_goals
   go_wp2_with (first|((with_reducible refine dV (ty:=170) A ?_ ?_ v ?_ ?_ ?_);(focus (exact rfl));(focus (exact ⟨_,rfl,rfl⟩));(focus (exact rfl));(focus (exact u)))|(go_at_call 154;(with_reducible refine (z.out _).mono ?_);rintro e m ⟨rfl,c⟩;have x:=A.I c;have y:=C.I c)|((with_reducible refine dV (ty:=170) x ?_ ?_ v ?_ ?_ ?_);(focus (exact rfl));(focus (exact ⟨_,rfl,rfl⟩));(focus (exact rfl));(focus (exact u)))|(with_reducible refine b0 97 (y) mR ?_)|(go_at_call 155;(with_reducible refine (E.out _ (t.trans c)).mono ?_);rintro e al ⟨rfl,j⟩;have o:=D.I (c.trans j);have aa:=(c.trans j).le)|((with_reducible refine ka (ty:=239) o (fS d (ig d.low d.high d.right i f g false)) ?_ ?_ ?_ ?_ ?_ ?_);(focus (exact rfl));(focus (exact ⟨_,_,rfl,rfl,rfl⟩));(focus (exact iu _ _));(focus (rw [iu];kernel_rfl));(focus (exact pa _ _))));refine bH ((o.aR (us:=fS d (ig d.low d.high d.right i f g false)) (iu _ _)).e7 rfl _ rfl eG rfl r2) rfl ?_;exact ⟨rfl,((t.trans c).trans j).setCells K _ _⟩
 ·obtain rfl:L=false:=by rcases B with q|q;cases q;exact q
  clear B;cases P;all_goals
   go_wp2_with (first|((with_reducible refine dV (ty:=170) A ?_ ?_ v ?_ ?_ ?_);(focus (exact rfl));(focus (exact ⟨_,rfl,rfl⟩));(focus (exact rfl));(focus (exact u)))|(go_at_call 154;(with_reducible refine (z.out _).mono ?_);rintro e m ⟨rfl,c⟩;have x:=A.I c;have y:=C.I c)|((with_reducible refine dV (ty:=170) x ?_ ?_ v ?_ ?_ ?_);(focus (exact rfl));(focus (exact ⟨_,rfl,rfl⟩));(focus (exact rfl));(focus (exact u)))|(with_reducible refine b0 97 (y) mR ?_)|(go_at_call 155;(with_reducible refine (E.out _ (t.trans c)).mono ?_);rintro e al ⟨rfl,j⟩;have o:=D.I (c.trans j);have aa:=(c.trans j).le)|((with_reducible refine ka (ty:=239) o (fS d (ig d.low d.high d.right i f g true)) ?_ ?_ ?_ ?_ ?_ ?_);(focus (exact rfl));(focus (exact ⟨_,_,rfl,rfl,rfl⟩));(focus (exact iu _ _));(focus (rw [iu];kernel_rfl));(focus (exact pa _ _))));refine bH ((o.aR (us:=fS d (ig d.low d.high d.right i f g true)) (iu _ _)).e7 rfl _ rfl eG rfl r2) rfl ?_;exact ⟨rfl,((t.trans c).trans j).setCells K _ _⟩
theorem CP(g:cd aL n I k d h)(l:Bool)(o a b:Int)(f:aY)(p:Option ai)(q j:Nat)(w:ad)(M:aZ w p q j f.ag)(aN:dZ f)(r:ByteArray)(ar:r.size≤maxLen)(lim:aK)(F:d.g9=false)(G:d.hB=false)(L:d.has r=true){x:dI}(P:iT d k n l f lim=Z x)(aO:dD aL w):
  ao aj 131 #[aw h,aw (cB l o a b f p q j),r,aw (bC lim),true] w (jN d x w):=by
 obtain ⟨aF,⟨aP,aE,aM⟩,am⟩:=g.at;obtain ⟨Q,R,aH,aI,aJ⟩:=g.mo;obtain ⟨S,A,v,z,ab⟩:=hQ w 170 97 23 239 h (cB l o a b f p q j) (bC lim);have D:=N fun m=>kx g r ar m;have E:=N fun m (ax:Y w m)=>px g l o a b f p q j m (aZ.I M ax) lim;have al:=N g.len;rw [F] at Q;rw [L] at D;rw [G] at R;generalize av:d.eO=az at *;clear L F G;rw [P] at E;clear av P;clear g M;go_enter mP,mQ;go_upto_region 1 with fail
 generalize (((H w (X h 170)).alloc (X (cB l o a b f p q j) 97)).alloc (X (bC lim) 23)).alloc (X bx 239)=aA at *;have W: (aj.info? 170).map (·.size)=Z h.length:=by rw [al.out];kernel_rfl
 have aa:=dt;have aS:=A.cell 5 am;have aQ:=A.cell 11 Q;have aR:=A.cell 17 R;cases az;all_goals
  go_upto_region 9 with (first|((with_reducible refine dV (ty:=170) A ?_ ?_ aa ?_ ?_ ?_);(focus (exact rfl));(focus (exact ⟨_,rfl,rfl⟩));(focus (exact rfl));(focus (exact W)))|(go_at_call 154;(with_reducible refine (D.out _).mono ?_);rintro e m ⟨rfl,i⟩;have u:=A.I i;have y:=v.I i;have B:=z.I i)|((with_reducible refine dV (ty:=170) u ?_ ?_ aa ?_ ?_ ?_);(focus (exact rfl));(focus (exact ⟨_,rfl,rfl⟩));(focus (exact rfl));(focus (exact W)))|(with_reducible refine b0 97 (y) mR ?_)|(with_reducible refine b0 23 (B) fO ?_)|(go_at_call 156;(with_reducible refine (E.out _ (S.trans i)).mono ?_);rintro e c ⟨rfl,T⟩;have s:ae (H c (X bx 239)) c.heap.size bx:=(ae.new c _ _ rfl).of J)|((with_reducible refine ka (ty:=239) s (fS d x) ?_ ?_ ?_ ?_ ?_ ?_);(focus (exact rfl));(focus (exact ⟨_,_,rfl,rfl,rfl⟩));(focus (exact iu _ _));(focus (rw [iu];kernel_rfl));(focus (exact pa _ _))))
  have ag:ae ((H c (X bx 239)).setCells c 0 (fS d x)) c.heap.size (fS d x):=s.aR (iu _ _);have t:Y c ((H c (X bx 239)).setCells c 0 (fS d x)):=((Y.refl c).alloc _).setCells (aG _) _ _;have C:=ab.I ((i.trans T).trans t);have an:=((S.trans i).trans T).trans t;have aq: (aj.info? 239).map (·.size)=Z (fS d x).length:=r2;have ay:=eG;clear s t u y B A v z;show Code.wp _ _ _ _ ((H c (X bx 239)).setCells c 0 (fS d x));generalize (H c (X bx 239)).setCells c 0 (fS d x)=aC at *;generalize c.heap.size=aD at *;go_wp2_with (first|((with_reducible refine dV (ty:=239) ag ?_ ?_ ay ?_ ?_ ?_);(focus (exact rfl));(focus (exact ⟨_,rfl,rfl⟩));(focus (exact rfl));(focus (exact aq)))|((with_reducible refine ka (ty:=239) C (fS d x) ?_ ?_ ?_ ?_ ?_ ?_);(focus (exact rfl));(focus (exact ⟨_,_,rfl,rfl,rfl⟩));(focus (exact iu _ _));(focus (rw [iu];kernel_rfl));(focus (exact pa _ _))));refine bH ((C.aR (us:=fS d x) (iu _ _)).e7 rfl _ rfl eG rfl r2) rfl ?_;exact ⟨rfl,an.setCells K _ _⟩
theorem CA(i:cd aL n I k d h)(m:Bool)(r a b:Int)(g:aY)(p:Option ai)(q l:Nat)(w:ad)(u:aZ w p q l g.ag)(az:dZ g)(s:ByteArray)(W:s.size≤maxLen)(lim:aK)(wr:Bool)(M:d.g9=false)(P:d.hB=false)(Q:d.has s=true)(ax:d.eO=true)(R:wr=true→iT d k n m g lim=V)(aO:dD aL w):
  ao aj 131 #[aw h,aw (cB m r a b g p q l),s,aw (bC lim),wr] w (jN d .act w):=by
 obtain ⟨aF,⟨aQ,aE,aM⟩,v⟩:=i.at;obtain ⟨S,ar,aH,aI,aJ⟩:=i.mo;obtain ⟨x,A,ab,al,E⟩:=hQ w 170 97 23 239 h (cB m r a b g p q l) (bC lim);have t:=N fun f=>kx i s W f;have aC:=N fun f (C:Y w f)=>oJ i m r a b g p q l f (aZ.I u C) az s W wr;have F:=N fun f (C:Y w f)=>px i m r a b g p q l f (aZ.I u C) lim;have an:=N i.len;rw [M] at S;rw [Q] at t;rw [P] at ar;generalize aN:d.eO=aP at *;clear Q M P;subst ax;clear i u;go_enter mP,mQ;go_upto_region 1 with fail
 generalize (((H w (X h 170)).alloc (X (cB m r a b g p q l) 97)).alloc (X (bC lim) 23)).alloc (X bx 239)=aD at *;have B: (aj.info? 170).map (·.size)=Z h.length:=by rw [an.out];kernel_rfl
 have D:=dt;have aS:=A.cell 5 v;have aR:=A.cell 11 S;cases wr
 ·go_wp2_with (first|((with_reducible refine dV (ty:=170) A ?_ ?_ D ?_ ?_ ?_);(focus (exact rfl));(focus (exact ⟨_,rfl,rfl⟩));(focus (exact rfl));(focus (exact B)))|(go_at_call 154;(with_reducible refine (t.out _).mono ?_);rintro e f ⟨rfl,c⟩;have o:=E.I c;have aA:=(A.I c).cell 5 v;have ay:=c.le)|(with_reducible refine bq 239 (o) ((bs 10 0 ⟨#[]⟩ 0 0 0 ⟨#[]⟩)) ?_));refine bH ((o.aR (us:=bs 10 0 ⟨#[]⟩ 0 0 0 ⟨#[]⟩) rfl).e7 rfl _ rfl eG rfl G) rfl ?_;exact ⟨rfl,(x.trans c).setCells K _ _⟩
 ·rw [R rfl] at F;clear R;go_wp2_with (first|((with_reducible refine dV (ty:=170) A ?_ ?_ D ?_ ?_ ?_);(focus (exact rfl));(focus (exact ⟨_,rfl,rfl⟩));(focus (exact rfl));(focus (exact B)))|(go_at_call 154;(with_reducible refine (t.out _).mono ?_);rintro e f ⟨rfl,c⟩;have aa:=A.I c;have ag:=ab.I c;have am:=al.I c)|((with_reducible refine dV (ty:=170) aa ?_ ?_ D ?_ ?_ ?_);(focus (exact rfl));(focus (exact ⟨_,rfl,rfl⟩));(focus (exact rfl));(focus (exact B)))|(with_reducible refine b0 97 (ag) mR ?_)|(with_reducible refine b0 23 (am) fO ?_)|(go_at_call 156;(with_reducible refine (F.out _ (x.trans c)).mono ?_);rintro e j ⟨⟨L,rfl⟩,av⟩;have aq:ae (H j (X bx 239)) j.heap.size bx:=(ae.new j _ _ rfl).of J;have y:=c.trans av;have z:Y j ((H j (X bx 239)).setCells j 0 (bs L 0 ⟨#[]⟩ 0 0 0 ⟨#[]⟩)):=((Y.refl j).alloc _).setCells (aG _) _ _;have o:=E.I (y.trans z);have aA:=(A.I (y.trans z)).cell 5 v;have T:=y.trans z;have ay:=T.le)|(with_reducible refine bq 239 (aq) ((bs L 0 ⟨#[]⟩ 0 0 0 ⟨#[]⟩)) ?_)|(with_reducible refine bq 239 (o) ((bs 10 0 ⟨#[]⟩ 0 0 0 ⟨#[]⟩)) ?_));refine bH ((o.aR (us:=bs 10 0 ⟨#[]⟩ 0 0 0 ⟨#[]⟩) rfl).e7 rfl _ rfl eG rfl G) rfl ?_;exact ⟨rfl,(x.trans T).setCells K _ _⟩
end
section
variable {L : cn}
theorem sP(b:aX s am w lim S)(a:dS lim S L):ao aj 40 #[aa s.m,L.n] w (vc w L.ek L.refs):=by
 have e: ((L.n.toNat:Nat):Int)=L.n:=by have:=a.hU;omega
 have:=Cj b a.head a.gw a.fit a.len;rw[e]at this;exact this
theorem pf(b:aX s am w lim S)(a:dS lim S L):L.ek.length≤1000:=by
 rw[a.gw.len];have:=a.len;have:=b.lim.aQ;omega
theorem ss.facts{f g:Int}(b:ss aL n f g k d h):h.length=21∧h.all (·.oneCell')=true∧h[5]?=Z (ah d.eO)∧∀ v,d= .aU v→∃ o m c,h[16]?=Z (ac o m c)∧aZ aL o m c v.ag:=by
 obtain⟨j,i,M,u,z,a⟩:=b;cases d with
 |leaf v=>obtain⟨o,m,c,rfl, -⟩:=a;exact⟨rfl,rfl,rfl,fun v q=>by cases q⟩
 |aU v=>
  obtain⟨o,m,c,rfl,e, -⟩:=a;exact⟨rfl,rfl,rfl,fun v q=>by cases q;exact⟨o,m,c,rfl,e⟩⟩
theorem we(f:jL lim S n k m): ∃ L,dS lim S L∧L.n=n∧((∃ v,L.nd= .leaf v∧m=L.n)∨∃ v e d c,L.nd= .aU v∧v.ag=e::d∧k=c+1∧jL lim S e.page c m):=by
 cases f with
 |leaf a b=>exact⟨_,a,rfl,.inl ⟨_,b,rfl⟩⟩
 |aU a b g h=>exact⟨_,a,rfl,.inr ⟨_,_,_,_,b,g,rfl,h⟩⟩
def Ak (s:aV) (lim:aK) (S:az) (m:Int) (w:ad) (a:Act) (l:ad):Prop:=
 ∃ (n:Int) (left k:Nat) (u1 u2 u3 u6 u7 u8 u9 u10 u11 u12 u13 u14 u15 u16 u17 u18 u19 u20 u21 u22 u23 u24 u25 u26 u27 u28 u29 u30 u31 u32 u33 u34 u35 u36 u37 u38 u39 u40 u41 u42 u43 u44 u45 u46 u47 u48 u49:ak),jL lim S n k m∧k≤left∧left≤1000∧Y w l∧a={tmps:= #[aa s.m,u1,u2,u3,O U n,O U (left:Int),u6,u7,u8,u9,u10,u11,u12,u13,u14,u15,u16,u17,u18,u19,u20,u21,u22,u23,u24,u25,u26,u27,u28,u29,u30,u31,u32,u33,u34,u35,u36,u37,u38,u39,u40,u41,u42,u43,u44,u45,u46,u47,u48,u49],defers:=[]}
theorem E3(P:aX s am w lim S)(Q:jL lim S 0 k m)(aM:k≤eY S):
  ao aj 38 #[aa s.m] w fun e l=>e=ap (a0 #[O U m,aB])∧Y w l:=by
 have aN:eY S≤1000:=by
  have aU:eY S≤S.ax.length:=kg _ _;rw [P.fB] at aU;have:=P.lim.ax;omega
 have aO:=N (yn P);have G:=N P;clear P;generalize eY S=aP at *;go_enter Tryz.func38,Tryz.ntmps38;go_wp2_with fail;refine wp_scope_jumps 0 (Ak s lim S m w) (fun aL _=>(intOf (aL.tmps.getD 5 undef)).toNat) rfl ?_ ?_
 ·go_upto_region 3 with (go_at_call 39;(with_reducible refine aO.out.mono ?_);rintro e a4 ⟨a5,c,rfl,B⟩)
  go_step3;obtain ⟨left,bb⟩: ∃ left,left=aP:=⟨_,rfl⟩;rw [←bb] at aM aN;rw [←bb];clear bb;obtain ⟨L,b,T,ag⟩:=we Q;have bW:=N (sP (G.out.I B) b);have u:=N fun f r g M z (aA:fr f r L.ek.length g L.ek) (aC:bo fG 2 f M L.ek.length z (L.refs.map dE))=>of_int L.n 0 0 r L.ek.length g L.ek M L.ek.length z (L.refs.map dE) L.nd f aA aC (pf G.out b) (pf G.out b) b.fit b.nd;rw [T] at bW u;have y:=N ag;clear ag Q b;go_upto_region 4 with (go_at_call 40;(with_reducible refine bW.out.mono ?_);rintro e f ⟨r,g,M,z,rfl,W,ab,j⟩)
  have j:=B.trans j;have az:=N (u.out f r g M z W ab);clear W ab u bW B;go_upto_region 7 with (first|(go_at_call 65;(with_reducible refine az.out.mono ?_);rintro e a ⟨h,rfl,R,an⟩;obtain ⟨F,aJ,aI,av⟩:=(R [] J).facts;have aE: (aj.info? 170).map (·.size)=Z h.length:=(by rw [F];kernel_rfl);have A:ae (H a (X cr 170)) a.heap.size cr:=(ae.new a _ _ rfl).of J)|((with_reducible refine ka (ty:=170) A h ?_ ?_ ?_ ?_ ?_ ?_);(focus (exact rfl));(focus (exact ⟨_,_,rfl,rfl,rfl⟩));(focus (exact F));(focus (exact aE));(focus (exact aJ))))
  have t:ae ((H a (X cr 170)).setCells a 0 h) a.heap.size h:=A.aR (by rw [F];rfl);have E:Y a ((H a (X cr 170)).setCells a 0 h):=((Y.refl a).alloc _).setCells (aG _) _ _;have al:=(j.trans an).trans E;have x:=N fun v (q:L.nd= .aU v)=>(show ∃ o m c,h[16]?=Z (ac o m c)∧aZ ((H a (X cr 170)).setCells a 0 h) o m c v.ag by
   obtain ⟨o,m,c,C,D⟩:=av v q;exact ⟨o,m,c,C,D.ex cW (bX E [])⟩)
  clear A R av j an E;(try simp only [Act.put]);show Code.wp _ _ _ _ ((H a (X cr 170)).setCells a 0 h);generalize (H a (X cr 170)).setCells a 0 h=ay at *;generalize a.heap.size=I at *;have d:=t.cell 5 aI;rcases y.out with ⟨v,p,aq⟩|⟨v,e,aT,aY,p,aD,aV,aH⟩
  ·rw [p] at d;have d:ay.cell? ⟨I,5,V⟩=Z (ah true):=d;rw [T] at aq;subst aq;clear y x;go_wp2_with fail;(try simp only [Exit.jump]);go_ret2;exact ⟨rfl,al⟩
  ·rw [p] at d;have d:ay.cell? ⟨I,5,V⟩=Z (ah false):=d;obtain ⟨o,aK,aS,ar,i⟩:=x.out _ p;rw [aD] at i;obtain ⟨aQ,a2,C,D⟩:=i.cells;have aF:0 < aK:=by have:=i.len;simp at this;omega
   obtain ⟨rfl, -⟩:=C aF;obtain ⟨a3, -, -,⟨rfl, -⟩,ax⟩:=D 0 _ rfl;have a1:=ax 1 _ rfl;have aR:=t.cell 16 ar;have aW:IntKind.i64.wrap ((left:Int) - 1)=((left - 1:Nat):Int):=by
    have: (left:Int) - 1=((left - 1:Nat):Int):=K;rw [this];exact e0 _ K
   clear C D ax i t y x ar;go_wp2_with fail;go_step3;refine ⟨rfl,⟨_,left - 1,_,_,_,_,_,_,_,_,_,_,_,_,_,_,_,_,_,_,_,_,_,_,_,_,_,_,_,_,_,_,_,_,_,_,_,_,_,_,_,_,_,_,_,_,_,_,_,_,aH,K,K,al,rfl⟩⟩
 ·rintro aL a4 ⟨n,left,k,u1,u2,u3,u6,u7,u8,u9,u10,u11,u12,u13,u14,u15,u16,u17,u18,u19,u20,u21,u22,u23,u24,u25,u26,u27,u28,u29,u30,u31,u32,u33,u34,u35,u36,u37,u38,u39,u40,u41,u42,u43,u44,u45,u46,u47,u48,u49,Q,aM,aN,B,rfl⟩;obtain ⟨L,b,T,ag⟩:=we Q;have bW:=N (sP (G.out.I B) b);have u:=N fun f r g M z (aA:fr f r L.ek.length g L.ek) (aC:bo fG 2 f M L.ek.length z (L.refs.map dE))=>of_int L.n 0 0 r L.ek.length g L.ek M L.ek.length z (L.refs.map dE) L.nd f aA aC (pf G.out b) (pf G.out b) b.fit b.nd;rw [T] at bW u;have y:=N ag;clear ag Q b;go_upto_region 4 with (go_at_call 40;(with_reducible refine bW.out.mono ?_);rintro e f ⟨r,g,M,z,rfl,W,ab,j⟩)
  have j:=B.trans j;have az:=N (u.out f r g M z W ab);clear W ab u bW B;go_upto_region 7 with (first|(go_at_call 65;(with_reducible refine az.out.mono ?_);rintro e a ⟨h,rfl,R,an⟩;obtain ⟨F,aJ,aI,av⟩:=(R [] J).facts;have aE: (aj.info? 170).map (·.size)=Z h.length:=(by rw [F];kernel_rfl);have A:ae (H a (X cr 170)) a.heap.size cr:=(ae.new a _ _ rfl).of J)|((with_reducible refine ka (ty:=170) A h ?_ ?_ ?_ ?_ ?_ ?_);(focus (exact rfl));(focus (exact ⟨_,_,rfl,rfl,rfl⟩));(focus (exact F));(focus (exact aE));(focus (exact aJ))))
  have t:ae ((H a (X cr 170)).setCells a 0 h) a.heap.size h:=A.aR (by rw [F];rfl);have E:Y a ((H a (X cr 170)).setCells a 0 h):=((Y.refl a).alloc _).setCells (aG _) _ _;have al:=(j.trans an).trans E;have x:=N fun v (q:L.nd= .aU v)=>(show ∃ o m c,h[16]?=Z (ac o m c)∧aZ ((H a (X cr 170)).setCells a 0 h) o m c v.ag by
   obtain ⟨o,m,c,C,D⟩:=av v q;exact ⟨o,m,c,C,D.ex cW (bX E [])⟩)
  clear A R av j an E;(try simp only [Act.put]);show Code.wp _ _ _ _ ((H a (X cr 170)).setCells a 0 h);generalize (H a (X cr 170)).setCells a 0 h=ay at *;generalize a.heap.size=I at *;have d:=t.cell 5 aI;rcases y.out with ⟨v,p,aq⟩|⟨v,e,aT,aY,p,aD,aV,aH⟩
  ·rw [p] at d;have d:ay.cell? ⟨I,5,V⟩=Z (ah true):=d;rw [T] at aq;subst aq;clear y x;go_wp2_with fail;(try simp only [Exit.jump]);go_ret2;exact ⟨rfl,al⟩
  ·rw [p] at d;have d:ay.cell? ⟨I,5,V⟩=Z (ah false):=d;obtain ⟨o,aK,aS,ar,i⟩:=x.out _ p;rw [aD] at i;obtain ⟨aQ,a2,C,D⟩:=i.cells;have aF:0 < aK:=by have:=i.len;simp at this;omega
   obtain ⟨rfl, -⟩:=C aF;obtain ⟨a3, -, -,⟨rfl, -⟩,ax⟩:=D 0 _ rfl;have a1:=ax 1 _ rfl;have aR:=t.cell 16 ar;have aW:IntKind.i64.wrap ((left:Int) - 1)=((left - 1:Nat):Int):=by
    have: (left:Int) - 1=((left - 1:Nat):Int):=K;rw [this];exact e0 _ K
   clear C D ax i t y x ar;go_wp2_with fail;go_step3;refine ⟨rfl,⟨_,left - 1,_,_,_,_,_,_,_,_,_,_,_,_,_,_,_,_,_,_,_,_,_,_,_,_,_,_,_,_,_,_,_,_,_,_,_,_,_,_,_,_,_,_,_,_,_,_,_,_,aH,K,K,al,rfl⟩,?_⟩;simp [intOf];omega
end
def a7 (s:aV) (bt:Nat):Nat→ad→(Ending→ad→Prop)→Prop
 |0,_,_=>False
 |n+1,w,Q=>ao aj 10 #[aa bt,aa s.m] w fun e l=>Q e l∨(e=ap (ah false)∧a7 s bt n l Q)
theorem a7.mono{s:aV}{bt:Nat}: ∀ {n:Nat} {w:ad} {Q a:Ending→ad→Prop},a7 s bt n w Q→(∀ e l,Q e l→a e l)→a7 s bt n w a
 |0,_,_,_,b,_=>b
 |n+1,w,Q,a,b,c=>Calls.mono b fun e l q=>q.imp (c e l) fun ⟨C,D⟩=>⟨C,a7.mono D c⟩
theorem a7.more{s:aV}{bt:Nat}: ∀ {n m:Nat} {w:ad} {Q:Ending→ad→Prop},a7 s bt n w Q→n≤m→a7 s bt m w Q
 |0,_,_,_,a,_=>a.elim
 |n+1,0,_,_,_,b=>absurd b K
 |n+1,m+1,w,Q,a,b=>Calls.mono a fun e l q=>q.imp id fun ⟨C,D⟩=>⟨C,a7.more D K⟩
theorem a7.trans{s:aV}{bt:Nat}: ∀ {n m:Nat} {w:ad} {Q a:Ending→ad→Prop},a7 s bt n w Q→(∀ e l,Q e l→e=ap (ah false)∧a7 s bt m l a)→a7 s bt (n+m) w a
 |0,_,_,_,_,b,_=>b.elim
 |n+1,m,w,Q,a,b,c=>by
  rw[show n+1+m=(n+m)+1 by omega];refine Calls.mono b fun e l q=> .inr ?_;rcases q with q|⟨C,D⟩
  ·obtain⟨d,f⟩:=c e l q;exact⟨d,f.more K⟩
  ·exact⟨C,a7.trans D c⟩
theorem a7.one(a:ao aj 10 #[aa bt,aa s.m] w Q):a7 s bt 1 w Q:=Calls.mono a fun e l q=> .inl q
theorem a7.then{n:Nat}(a:ao aj 10 #[aa bt,aa s.m] w R)(b: ∀ e l,R e l→e=ap (ah false)∧a7 s bt n l Q):a7 s bt (n+1) w Q:=Calls.mono a fun e l q=> .inr (b e l q)
theorem fj{L:Program}{f:FuncId}{a:Func}{c:Code}(e:L.funcs[f]?=Z a)(g: (a.name== "runtime.NumGoroutine")=false)(d:a.body=Z c)(args:Array ak)(w:ad): (callFunc f args).run L w= .ok (.enter f args) w:=by
 have b:a.name≠ "runtime.NumGoroutine" :=by simpa using g
 simp[callFunc,e,b,d]
theorem Dl:dH 99:=fun args a=>fj Tryz.func99 G rfl args a
section
variable {aW : List Nat} {a4 : az} {a2 a3 : bU} {a6 : List ak}
theorem zJ{R:ad→Prop}(d:w.cell? aR=Z (aa aQ))(a:ao aj 100 #[aa aQ,aa s.m] w fun e l=>e=ap (ah false)∧R l):
  ao aj 99 #[aa s.m,aa aR,aa a1] w fun e l=>e=ap (ah false)∧R l:=by
 have b:=N a;clear a;go_enter Tryz.func99,Tryz.ntmps99;go_wp2_with(go_at_call 100;(with_reducible refine b.out.mono ?_);rintro e l ⟨rfl,c⟩);go_ret;exact⟨rfl,c⟩
theorem Iz{I:aA}(ax:w.cell? aR=Z (aa aQ))(g:ao aj 100 #[aa aQ,aa s.m] w fun e l=>e=ap (ah true)∧R e l)
  (o: ∀ e l,R e l→l.cell? aR=Z (aa aQ)∧l.cell? a1=Z (aa bt))
  (K: ∀ e l,R e l→ao aj 101 #[aa aQ] l (ox l n I k d))
  (F: ∀ e l f,R e l→Y l f→ao aj 104 #[aa s.m] f fun e z=>e=ap (aw (bC lim))∧Y f z)
  (E: ∀ e l f h,R e l→Y l f→(∀ am:List Nat,(∀ b∈am,b < l.heap.size)→cd (ay f am) n I k d h)→ao aj 103 #[aa bt,aw h,aw (bC lim)] f fun e z=> ∃ b,e=ap (ah b)∧Q e z):
  ao aj 99 #[aa s.m,aa aR,aa a1] w Q:=by
 have C:=N g;have D:=N o;have A:=N K;have al:=N F;have ag:=N E;clear g o K F E;go_enter Tryz.func99,Tryz.ntmps99;go_upto_region 3 with (go_at_call 100;(with_reducible refine C.out.mono ?_);rintro e aH ⟨rfl,m⟩)
 obtain ⟨aF,W⟩:=D.out _ _ m;have B:=N m;have an:=N (A.out _ _ m);clear m C A D ax;go_upto_region 4 with (first|(go_at_call 101;(with_reducible refine an.out.mono ?_);rintro e a ⟨h,rfl,j,M⟩;have y:=(j [] J).len;have aD:=(j [] J).q6;have r:ae (H a (X cr 170)) a.heap.size cr:=(ae.new a _ _ rfl).of J;have T: (aj.info? 170).map (·.size)=Z h.length:=(by rw [y];kernel_rfl))|((with_reducible refine ka (ty:=170) r h ?_ ?_ ?_ ?_ ?_ ?_);(focus (exact rfl));(focus (exact ⟨_,_,rfl,rfl,rfl⟩));(focus (exact y));(focus (exact T));(focus (exact aD))))
 have ab:ae ((H a (X cr 170)).setCells a 0 h) a.heap.size h:=r.aR (by rw [y];rfl);have x:Y a ((H a (X cr 170)).setCells a 0 h):=((Y.refl a).alloc _).setCells (aG _) _ _;have ar:=N fun (am:List Nat) (g: ∀ b∈am,b < aH.heap.size)=>cd.ex (j am g) (bX x am);have P:=M.trans x;have aE:=P.I W;clear r M x aF W j;show Code.wp _ _ _ _ ((H a (X cr 170)).setCells a 0 h);generalize (H a (X cr 170)).setCells a 0 h=q at *;generalize a.heap.size=av at *;go_upto_region 6 with fail
 refine cZ (fun _=>True) (fun l=>l.cell? a1=Z (aa bt)∧l.rangeAt av 0 h) 4 G ?_;have u:True:=trivial;have hKC:=And.intro ((Y.refl q).drew.I aE) ((Y.refl q).drew.range ab.aM);refine' bc (v:=aa bt) 0 21 rfl (.inl ⟨aq,?_⟩) u hKC ?_
 ·(intro w L;have aJ:=L.2.1;clear L;go_simp)
 refine' l3 (k:=1) (ok:=⟨Z 22,_,_,_,_,_⟩) (v:=_) rfl G G G G G (fun _ _ _ t=>t) (fun _ aC o=>And.intro aC o) (cj aq _ _ rfl _ _ rfl _ _ (fun w t=>t.2.2) dt rfl T) u hKC ?_;(try simp only [bu]);refine' aI 2 23 (aa s.m) rfl u hKC ?_;refine b4 3 (Z 24) rfl (fun i c=>?_);go_simp;go_at_call 104;have S:=(P.trans (Y.refl q).drew);with_reducible refine (al.out _ _ _ B.out S).mono ?_
 rintro e aK ⟨rfl,p⟩;refine a5 c (trivial) (fun _=>And.intro (p.I hKC.1) (p.range hKC.2)) ?_;clear c i;refine cg 4 (Z 25) rfl (fun i c=>?_);go_simp;go_at_call 103;with_reducible refine (ag.out _ _ _ h B.out (S.trans p) (fun am g=>cd.ex (ar.out am g) (bX ((Y.refl q).drew.trans p) am))).mono ?_
 rintro e aL ⟨b,rfl,az⟩;refine bM c (trivial) ?_;clear c i;refine cg 5 (Z 4) rfl (fun i c=>?_);go_simp;refine bM c (trivial) ?_;clear c i;refine cC G ?_;go_wp2_with fail;exact az
end
end Go.Proofs.YtbkmjhhpcinppaaGreatDoor
