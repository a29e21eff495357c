import Derived.Test.YtbkmjhhpcinppaaGreatDoorQ16
namespace Go.Proofs.YtbkmjhhpcinppaaGreatDoor
set_option linter.unusedVariables false
set_option linter.defProp false
set_option linter.unusedSimpArgs false
set_option maxRecDepth 100000
set_option maxHeartbeats 40000000
open Ending renaming returned→ap
open Go renaming Addr→ai,Calls→ao,Value→ak,World→ad
open Go.Proofs.Tryz renaming prog→aj
open IntKind renaming i64→U
open Obj renaming cells→X
open Option renaming none→V,some→Z
open Value renaming agg→aw,bool→ah,int→O,nilIface→aB,pointer→au,slice→ac,string→af,tuple→a0
open World renaming alloc→H,setCells→ba
variable {B0 b base M bt cap k n : Nat} {B aM d h : ad} {j : aV} {L S S' : List Nat} {I : az} {ab : Option bQ} {f : FuncId} {first : Array ak} {hd : aA} {lim : aK} {w : Option ai} {A m : List ak}
section
open Go.BigFrame Go.RowKit Go.WideShapes
structure ml (lim:aK):Prop where
 aQ:4≤lim.aQ∧lim.aQ≤200
 ax:3≤lim.ax∧lim.ax≤40
 cO:1≤lim.cO∧lim.cO≤8
 rows:2≤lim.rows∧lim.rows≤64
 chain:2≤lim.chain∧lim.chain≤64
 count:8≤lim.count∧lim.count≤1099511627776
theorem ml.ok(a:ml lim):p4 lim:=⟨a.aQ.2,a.ax.2,a.cO,a.rows,a.chain.2,a.count⟩
theorem Fk(g:ml lim)(d:ad):ao aj 23 #[aw (bC lim)] d fun e h=>e=ap (ah true)∧Y d h:=by
 have C:Y d (H d (X (bC lim) 23)):=(Y.refl d).alloc _;have f:ae (H d (X (bC lim) 23)) d.heap.size (bC lim):=(ae.new d _ _ rfl).of J;have c7:=f.cell 0 rfl;have D:=f.cell 1 rfl;have E:=f.cell 2 rfl;have F:=f.cell 3 rfl;have G:=f.cell 4 rfl;have I:=f.cell 5 rfl;obtain⟨u,l,y,z,A,B⟩:=g;have c:=N fun (n a b:Int) (g:a≤n∧n≤b) q=>IE g q;have i: (4:Int)≤(lim.aQ:Int)∧(lim.aQ:Int)≤4096:=K;have j: (3:Int)≤(lim.ax:Int)∧(lim.ax:Int)≤256:=K;have k: (1:Int)≤(lim.cO:Int)∧(lim.cO:Int)≤64:=K;have m: (2:Int)≤(lim.rows:Int)∧(lim.rows:Int)≤64:=K;have o: (2:Int)≤(lim.chain:Int)∧(lim.chain:Int)≤64:=K;have p: (8:Int)≤(lim.count:Int)∧(lim.count:Int)≤1099511627776:=K;have r:=N (c.out _ _ _ i);have s:=N (c.out _ _ _ j);have t:=N (c.out _ _ _ k);have v:=N (c.out _ _ _ m);have w:=N (c.out _ _ _ o);have x:=N (c.out _ _ _ p);clear f u l y z A B i j k m o p c;go_enter Tryz.func23,Tryz.ntmps23;go_wp2_with(go_at_call 49;(with_reducible refine Calls.mono (by first|exact r.out _|exact s.out _|exact t.out _|exact v.out _|exact w.out _|exact x.out _) ?_);rintro e q ⟨rfl,rfl⟩);go_ret;exact⟨rfl,C⟩
structure sn (j:aV) (d:ad) (lim:aK):Prop where
 box:ae d j.m (nE lim j 0)
 ic:mY d lim.aQ lim.count j.a j.s
 h1:m7 d lim.ax j.t j.p
 fK:mZ d lim.cO lim.count j.c j.i
 nd:j.l.Nodup
theorem sn.mem(a:sn j d lim)(f:ml lim):aX j j.l d lim (fh lim):=by
 refine⟨fun b c=>c,fun b c=>?_,a.nd,⟨0,a.box⟩,⟨_,aG _,a.ic.box⟩,a.ic.arr _,⟨_,aG _,a.h1.box⟩,a.h1.arr,a.fK.box,?_,?_,?_,fun m g=>?_,⟨aG _,by have:=f.count;show 1≤lim.count;omega⟩,f.ok⟩
 ·have u:=a.box.lt J;have l:=a.ic.lt;have h:=a.h1.lt;have i:=a.fK.lt;simp only[aV.l,bd,c0,db]at c;omega
 ·have e:hD (fh lim).ins=fun _=>none:=by
   funext k;show(if k=0 then _ else V)=V;split <;> rfl
  rw[e];exact a.fK.map
 ·show(List.replicate lim.aQ _).length=_;rw[ln]
 ·show(List.replicate lim.ax _).length=_;rw[ln]
 ·rw[List.eq_of_mem_replicate g];exact aJ _
def vm (base:Nat) (lim:aK) (d:ad) (c:ak) (a:ad):Prop:=∃ j:aV,c=aa j.m∧sn j a lim∧(∀ b∈j.l,base≤b)∧Y d a
theorem Fy{a:ad}{c h g e f:Nat}(k:mY a lim.aQ lim.count c h)(m:m7 a lim.ax bt g)(l:mZ a lim.cO lim.count e f)(o:Y d a)(u:base≤c∧base≤h∧base≤bt∧base≤g∧base≤e∧base≤f)(r:base≤a.heap.size)(p: [c,h,bt,g,e,f].Nodup)(j:TypeId):
  vm base lim d (aa a) (H a (X (nE lim ⟨a.heap.size,c,h,bt,g,e,f⟩ 0) j)):=by
 have i:=(Y.refl a).alloc (X (nE lim ⟨a.heap.size,c,h,bt,g,e,f⟩ 0) j);refine⟨⟨a.heap.size,c,h,bt,g,e,f⟩,rfl,⟨(ae.new a _ _ rfl).of J,k.I i,m.I i,l.I i,?_⟩,fun b n=>?_,o.trans i⟩
 ·have:=k.lt;have:=m.lt;have:=l.lt;refine fN.2 ⟨fun q=>?_,p⟩;simp only[bd,c0,db]at q;omega
 ·simp only[aV.l,bd,c0,db]at n;omega
theorem FH{a c d e f:Nat}(g:a≠b∧a≠c∧a≠d∧a≠e∧a≠f∧b≠c∧b≠d∧b≠e∧b≠f∧c≠d∧c≠e∧c≠f∧d≠e∧d≠f∧e≠f): [a,b,c,d,e,f].Nodup:=by
 simp only[fN,bd,c0,db,not_or,not_false_iff,iX,and_true];omega
theorem xV(s:ml lim)(d:ad):ao aj 7 #[aw (bC lim)] d fun e h=> ∃ j:aV,e=ap (a0 #[aa j.m,aB])∧aX j j.l h lim (j0 lim)∧(∀ b∈j.l,d.heap.size≤b)∧Y d h:=by
 have aU:Y d (H d (X (bC lim) 23)):=(Y.refl d).alloc _;have C:ae (H d (X (bC lim) 23)) d.heap.size (bC lim):=(ae.new d _ _ rfl).of J;have aF:=N fun l=>Fk s l;have bd:=N fun l=>Fw (n:=lim.aQ) (c:=lim.count) (by have:=s.aQ;omega) (by have:=s.count;omega) l;have bh:=N fun l=>Fz (n:=lim.ax) (by have:=s.ax;omega) l;have bW:=N fun l=>Fx (t:=lim.cO) (c:=lim.count) (by have:=s.cO;omega) (by have:=s.count;omega) l;have x:=N s;clear s;go_enter Tryz.func7,Tryz.ntmps7;go_upto_region 1 with fail
 show Code.wp _ _ _ _ (H d (X (bC lim) 23));generalize bp:H d (X (bC lim) 23)=b2 at *;clear bp;have br:=C.lt J;go_upto_region 3 with (first|(with_reducible refine b0 23 (C) fO ?_)|(go_at_call 23;(with_reducible refine (aF.out _).mono ?_);rintro e l ⟨rfl,E⟩))
 have aK:=C.I E;have a3:=aU.trans E;have bv:=E.le;clear C aU E aF;go_cut [4] (fun bV bY=>vm d lim d bV bY)
 case first=>
  refine cZ (fun _=>True) (fun h=>h.rangeAt d 0 (bC lim)) 15 G ?_;have a:True:=trivial;have m:=(Y.refl l).drew;have hKC:=m.range aK.aM;have bw:=a3.trans m;have b5:d.heap.size < l.drew.heap.size:=by have:=m.le;omega
  clear aK a3 bv br m;generalize l.drew=bi at *;refine' bc 0 14 rfl (cj aq _ _ rfl _ _ rfl _ _ (fun d S=>S.2) fO rfl G) a hKC ?_;refine' aI 1 15 (au (Z d)) rfl a hKC ?_;refine' bc (v:=O U (lim.aQ:Int)) 2 16 rfl (.inl ⟨aq,?_⟩) a hKC ?_
  ·(intro d f;have r:=f.2 0 _ rfl;clear f;go_simp)
  refine' aI 3 17 (au (Z ⟨d,5,V⟩)) rfl a hKC ?_;refine' bc (v:=O U (lim.count:Int)) 4 18 rfl (.inl ⟨aq,?_⟩) a hKC ?_
  ·(intro d f;have r:=f.2 5 _ rfl;simp only [cv] at r;clear f;go_simp)
  refine' aI 6 20 (au (Z ⟨d,1,V⟩)) rfl a hKC ?_;refine' bc (v:=O U (lim.ax:Int)) 7 21 rfl (.inl ⟨aq,?_⟩) a hKC ?_
  ·(intro d f;have r:=f.2 1 _ rfl;simp only [cv] at r;clear f;go_simp)
  refine' aI 9 23 (au (Z ⟨d,2,V⟩)) rfl a hKC ?_;refine' bc (v:=O U (lim.cO:Int)) 10 24 rfl (.inl ⟨aq,?_⟩) a hKC ?_
  ·(intro d f;have r:=f.2 2 _ rfl;simp only [cv] at r;clear f;go_simp)
  refine' aI 11 25 (au (Z ⟨d,5,V⟩)) rfl a hKC ?_;refine' bc (v:=O U (lim.count:Int)) 12 26 rfl (.inl ⟨aq,?_⟩) a hKC ?_
  ·(intro d f;have r:=f.2 5 _ rfl;simp only [cv] at r;clear f;go_simp)
  refine b4 5 (Z 19) rfl (fun o k=>?_);go_simp;go_at_call 24;refine (bd.out bi).mono ?_;rintro e bj ⟨L,R,rfl,w,bE,bH,bK,g⟩;have bN:=w.lt;have bx:=bw.trans g;have hKC:=g.range hKC;refine a5 k (trivial) (fun e=>by first|exact hKC|exact bm e) ?_;clear k o;clear g;refine b4 8 (Z 22) rfl (fun o k=>?_);go_simp;go_at_call 25;refine (bh.out bj).mono ?_;rintro e bk ⟨bt,Q,rfl,z,bG,bJ,bM,g⟩;have bP:=z.lt;have bA:=bx.trans g;have w:=w.I g;have hKC:=g.range hKC;refine a5 k (trivial) (fun e=>by first|exact hKC|exact bm e) ?_;clear k o;clear g;refine b4 13 (Z 27) rfl (fun o k=>?_);go_simp;go_at_call 26;refine (bW.out bk).mono ?_;rintro e F ⟨M,P,rfl,ab,bF,bI,bL,g⟩;have bO:=ab.lt;have bB:=bA.trans g;have w:=w.I g;have z:=z.I g;have hKC:=g.range hKC;refine a5 k (trivial) (fun e=>by first|exact hKC|exact bm e) ?_;clear k o;clear g;have a7: [L,R,bt,Q,M,P].Nodup:=FH K;have aS:d.heap.size≤L∧d.heap.size≤R∧d.heap.size≤bt∧d.heap.size≤Q∧d.heap.size≤M∧d.heap.size≤P:=K;have aR:d.heap.size≤F.heap.size:=K;have D:=Fy w z ab bB aS aR a7 76;clear aS a7 w z ab bE bH bK bN bG bJ bM bP bF bI bL bO aR;refine' a8 14 28 (aw (nE lim ⟨F.heap.size,L,R,bt,Q,M,P⟩ 0)) rfl a ?_;refine b4 15 (Z 29) rfl (fun o k=>?_);go_simp;refine a5 k (trivial) (fun e=>by first|exact hKC|exact bm e) ?_;clear k o;refine' a8 16 4 (aa F) rfl a ?_;refine cC G ?_;go_wp2_with fail;go_meet;exact D
 case rest=>
  obtain ⟨j,rfl,W,u,a1⟩:=hcut;have D:=W.mem x.out;have aT:bT c7:=⟨gY,gX⟩;have aN:b3 (ay wc j.l) c7 V 0 0 V 0 0:=⟨yQ _,bo.nil _ _ _,⟨pV,pV,pV,pV,pV⟩⟩;have T:=vx D c7 V 0 0 V 0 0 aN aT;rw [AT (by have:=x.out.aQ;omega) (by have:=x.out.count;omega)] at T;have aE:Hid (ao aj 27 #[aa j.a,aw #[O U 1,af ⟨#[]⟩,af ⟨#[]⟩,true,O U 0,ac V 0 0,ac V 0 0,af ⟨#[]⟩,af ⟨#[]⟩,O U 0,O U 0,O U 0,af ⟨#[]⟩,O U 0,O U 0]] wc fun e h=>e=ap (a0 #[aw #[O U 1,O U 1],aB])∧aX j j.l h lim {fh lim with aQ:=(fh lim).aQ.set 0 (1,Z c7)}∧Mod [j.s] wc h):=N T;have bD:=W.box.cell 7 rfl;have B:=N u;have bg:=N a1;clear T aN aT D u a1 W;go_upto_region 5 with (first|(go_at_call 27;(with_reducible refine aE.out.mono ?_);rintro e i ⟨rfl,ag,a4⟩;have I:ae (H i (X #[O U 0,O U 0] 78)) i.heap.size [O U 0,O U 0]:=(ae.new i _ _ rfl).of J)|(with_reducible refine bq 78 (I) ([O U 1,O U 1]) ?_))
  have aC:ae ((H i (X #[O U 0,O U 0] 78)).setCells i 0 [O U 1,O U 1]) i.heap.size [O U 1,O U 1]:=I.aR rfl;have ar:Y i ((H i (X #[O U 0,O U 0] 78)).setCells i 0 [O U 1,O U 1]):=((Y.refl i).alloc _).setCells (aG _) _ _;have al:=ag.I ar;have a2:Y d i:=Mod.aC bg.out a4 fun b u=>by rw [aO.1 u];exact B.out _ J
  have hold:=ag.old;have bs:i.heap.size∉j.l:=fun q=>dk _ (hold _ q);have g:=a2.trans ar;clear I a4 ag a2 bD aE hold ar;(try simp only [Act.put]);show Code.wp _ _ _ _ ((H i (X #[O U 0,O U 0] 78)).setCells i 0 [O U 1,O U 1]);generalize (H i (X #[O U 0,O U 0] 78)).setCells i 0 [O U 1,O U 1]=bb at *;generalize i.heap.size=bl at *;obtain ⟨bQ,y⟩:=al.mem;have aA:=y.cell 8 rfl;have an:=zl al;rw [Hl (by have:=x.out.ax;omega)] at an;have aJ:Hid (ao aj 28 #[aa j.t] bb fun e h=>e=ap (a0 #[O U 0,aB])∧aX j j.l h lim {fh lim with aQ:=(fh lim).aQ.set 0 (1,Z c7),ax:=(fh lim).ax.set 0 (Z V)}∧Mod [j.p] bb h):=N an;clear an al y;go_upto_region 10 with (go_at_call 28;(with_reducible refine aJ.out.mono ?_);rintro e A ⟨rfl,am,av⟩)
  have aD:=av.box (fun q=>bs (by rw [aO.1 q];simp)) aC;have aW:Y d A:=Mod.aC g av fun b u=>by rw [aO.1 u];exact B.out _ J
  obtain ⟨bQ,y⟩:=am.mem;have aA:=y.cell 8 rfl;clear y av aC g aJ;refine cZ (fun _=>True) (fun h=>h.cell? ⟨j.m,8,V⟩=Z (aa j.t)∧h.rangeAt bl 0 [O U 1,O U 1]) 7 G ?_;have a:True:=trivial;have m:=(Y.refl A).drew;have hKC:=And.intro (m.I aA) (m.range aD.aM);have aL:=am.I m;have aY:=aW.trans m;have a9: ({fh lim with aQ:=(fh lim).aQ.set 0 (1,Z c7),ax:=(fh lim).ax.set 0 (Z V)}:az).ax[0]?=Z (Z V):=by
   show ((List.replicate lim.ax V).set 0 _)[0]?=_;rw [l5 (by rw [ln];have:=x.out.ax;omega)]
  have aP:=zh aL (p:=0) (q:=V) a9 (Z ⟨0,1⟩);have aH:Hid (ao aj 29 #[aa j.t,O U 0,aw #[O U 0,O U 0],aw #[O U 1,O U 1]] A.drew fun e h=>e=ap (a0 #[ah true,aB])∧aX j j.l h lim (j0 lim)∧Mod [j.p] A.drew h):=N (aP.mono fun e h ⟨bR,bS,bU⟩=>⟨bR,by
   have bn:b1 {fh lim with aQ:=(fh lim).aQ.set 0 (1,Z c7),ax:=(fh lim).ax.set 0 (Z V)} ((0:Nat):Int) (Z ⟨0,1⟩)=j0 lim:=by
    show (⟨_,((fh lim).ax.set 0 (Z V)).set 0 (Z (Z ⟨0,1⟩)),_,_⟩:az)=_;rw [List.set_set];rfl
   rw [←bn];exact bS,bU⟩)
  clear aP a9 aA aD am aL aW m;generalize A.drew=bZ at *;refine' aI 0 54 (aa j.m) rfl a hKC ?_;refine' aI 1 55 (aa j.m) rfl a hKC ?_;refine' aI 2 56 (au (Z ⟨j.m,8,V⟩)) rfl a hKC ?_;refine' bc (v:=aa j.t) 3 57 rfl (.inl ⟨aq,?_⟩) a hKC ?_
  ·(intro d f;have r:=f.2.1;clear f;go_simp)
  refine' aI 4 58 (O U 0) rfl a hKC ?_;refine' aI 5 59 (aw #[O U 0,O U 0]) rfl a hKC ?_;refine' bc 6 60 rfl (cj aq _ _ rfl _ _ rfl _ _ (fun d S=>S.2.2) dm rfl G) a hKC ?_;refine b4 7 (Z 61) rfl (fun o k=>?_);go_simp;go_at_call 29;refine aH.out.mono ?_;rintro e bX ⟨rfl,aM,a6⟩;have aZ:Y d bX:=Mod.aC aY a6 fun b u=>by rw [aO.1 u];exact B.out _ J
  refine a5 k (trivial) (fun e=>by first|exact hKC|exact bm e) ?_;clear k o;refine' a8 8 53 (a0 #[ah true,aB]) rfl a ?_;refine' a8 9 62 (ah true) rfl a ?_;refine' a8 10 63 (aB) rfl a ?_;refine' a8 11 8 (ah true) rfl a ?_;refine' a8 12 9 (aB) rfl a ?_;refine cC G ?_;have be:=N aM;have bf:=N aZ;clear hKC aM aZ a6 aY aH;go_wp2_with fail;go_ret2;exact ⟨j,rfl,be.out,B.out,bf.out⟩
abbrev gB (n:Int) (begun am:Bool) (u l x1 aD:Int) (Q:Option ai) (W R:Nat) (al:Option ai) (ag T:Nat) (aH:ak):List ak:=[O U n,ah begun,ah am,O U u,O U l,O U x1,O U aD,ac Q W R,ac al ag T,aH]
theorem vI(n:Int)(d:ad):
  ao aj 98 #[O U n] d fun e h=>e=ap (aa d)∧ae h d (gB n false false 0 0 0 0 V 0 0 V 0 0 aB)∧Y d h:=by
 go_enter Tryz.func98,Tryz.ntmps98;go_wp2_with fail;go_ret;exact⟨rfl,(ae.new d _ _ rfl).of J,(Y.refl d).alloc _⟩
section
variable {n : Int} {begun am : Bool} {u l x1 aD : Int} {Q : Option ai} {W R : Nat} {al : Option ai} {ag T : Nat} {aH : ak}
theorem yf(a:ae d M (gB n begun am u l x1 aD Q W R al ag T aH)):
  ao aj 114 #[aa M] d fun e h=>e=ap (ah am)∧d=h:=by
 have b:=a.cell 2 rfl;clear a;go_enter Tryz.func114,Tryz.ntmps114;go_wp2_with fail;go_ret;exact⟨rfl,rfl⟩
theorem Hf(a:ae d M (gB n begun am u l x1 aD Q W R al ag T aH)):
  ao aj 116 #[aa M,aB] d fun e h=>e=ap (ah true)∧ae h M (gB n begun true u l x1 aD Q W R al ag T aB)∧Mod [M] d h:=by
 have c:=a.cell 2 rfl;have f:=a.cell 9 rfl;have g:=a.free 2 J;have i:=a.free 9 J;have b:=N a;clear a;go_enter Tryz.func116,Tryz.ntmps116;go_wp2_with fail;go_ret;exact⟨rfl,((b.out.set 2 (ah true)).set 9 aB).of rfl,(Mod.setCell _ _ _ J).trans (Mod.setCell _ _ _ J)⟩
end
end
section
open Go.RowKit
structure bn (L:List Nat) (B0:Nat) (S:List Nat) (d:ad) (S':List Nat) (h:ad):Prop where
 mod: ∃ a:List Nat,Mod a d h∧∀ b∈a,b∈S∧(b∈L∨B0≤b)
 new:iG S d S' h
 sub: ∀ b∈S,b∈S'
section
variable {aR : List Nat} {aU : ad}
theorem bn.size(a:bn L B0 S d S' h):d.heap.size≤h.heap.size:=by obtain⟨⟨b,u, -⟩, -, -⟩:=a;exact u.size
theorem bn.trans(m:bn L B0 S d S' h)(k:bn L B0 S' h aR aU):bn L B0 S d aR aU:=by
 obtain ⟨⟨i,u,l⟩,a,n⟩:=m;obtain ⟨⟨j,e,f⟩,p,r⟩:=k;refine ⟨⟨i++j.filter fun b=>decide (b∈S),(u.sub fun b q=>iW _ q).then e fun g c=>?_,fun b o=>?_⟩,a.trans p u.size e.size,fun b q=>r b (n b q)⟩
 ·rcases a g (f g c).1 with q|q
  ·exact .inl (hk _ (gW.2 ⟨c,eo q⟩))
  ·exact .inr q.1
 ·rcases cu.1 o with q|q
  ·exact l b q
  ·obtain ⟨s,t⟩:=gW.1 q;exact ⟨uJ t,(f b s).2⟩
theorem bn.wide(c:bn L B0 S d S' h){L':List Nat}{B1:Nat}(g: ∀ b∈S,b∈L∨B0≤b→b∈L'∨B1≤b):bn L' B1 S d S' h:=by
 obtain⟨⟨a,u,l⟩,e,f⟩:=c;exact⟨⟨a,u,fun b q=>⟨(l b q).1,g b (l b q).1 (l b q).2⟩⟩,e,f⟩
theorem bn.refl:bn L B0 S d S d:=⟨⟨[],Mod.refl _ _,fun _ q=>(by cases q)⟩,iG.refl _ _ _,fun _ q=>q⟩
theorem Y.av(a:Y d h):bn L B0 S d S h:=⟨⟨[],a.mod _,fun _ q=>(by cases q)⟩,iG.refl _ _ _,fun _ q=>q⟩
theorem Mod.av{X₀:List Nat}(a:Mod X₀ d h)(c: ∀ b∈X₀,b∈S∧(b∈L∨B0≤b)):bn L B0 S d S h:=⟨⟨X₀,a,c⟩,iG.refl _ _ _,fun _ q=>q⟩
theorem bn.more(a:bn L B0 S d S' h)(c:List Nat)(e: ∀ b∈c,b∈S'∨(d.heap.size≤b∧b < h.heap.size)):bn L B0 S d (c++S') h:=
 ⟨a.mod,fun b f=>by
  rcases cu.1 f with q|q
  ·rcases e b q with k|k
   ·exact a.new b k
   ·exact .inr k
  ·exact a.new b q,fun b q=>hk _ (a.sub b q)⟩
theorem bn.aL(a:bn L B0 S d S' h):fq S d S' h:=by
 obtain⟨⟨e,u,l⟩,c,f⟩:=a;exact u.aL (fun b q=>(l b q).1) fun b q=>(c b q).imp id fun k=>k.1
theorem bn.Fq(a:bn L B0 S d S' h):Mod S d h:=by
 obtain⟨⟨c,u,l⟩,e,f⟩:=a;exact u.sub fun b q=>(l b q).1
theorem bn.box(c:bn L B0 S d S' h){b:Nat}(e:b∉S∨(b∉L∧b < B0)){m:List ak}(a:ae d b m):ae h b m:=by
 obtain⟨⟨j,u,l⟩,n,o⟩:=c;refine u.box (fun q=>?_) a;obtain⟨g,i⟩:=l b q;rcases e with k|⟨f,p⟩
 ·exact k g
 ·rcases i with q|q
  ·exact f q
  ·omega
end
theorem aX.av(c:aX j S d lim I)(i:bn L B0 S d S' h)(g: ∀ b∈j.l,b∉L∧b < B0):aX j S' h lim I:=by
 obtain⟨⟨X₀,u,l⟩,e,f⟩:=i;refine c.step (X₀:=X₀) ⟨u,fun b q=>(l b q).1,e⟩ (fun b a q=>?_) fun b a=>f b (c.sub b a);obtain⟨m,n⟩:=g b a;rcases(l b q).2 with k|k
 ·exact m k
 ·omega
theorem mw{r c:Option Nat}(f:d.grownBy h r)(e: ∀ g,r=Z g→g∈S∧B0≤g)(i:c=r∨c=Z d.heap.size)(j: ∀ g,c=Z g→g < h.heap.size):bn L B0 S d (c.toList++S) h:=by
 refine(Mod.av (X₀:=r.toList) (Mod.grown f fun b a=>by rw[a];simp) fun b a=>?_).more _ fun b a=>?_
 ·cases r with
  |none=>cases a
  |some x=>simp at a;subst a;exact⟨(e _ rfl).1,.inr (e _ rfl).2⟩
 ·cases c with
  |none=>cases a
  |some x=>
   simp at a;subst a;rcases i with q|q
   ·exact .inl (e _ q.symm).1
   ·refine .inr ⟨?_,j _ rfl⟩;simp only[eS]at q;omega
theorem ae.block(a:ae d b m)(c:h.heap[b]?=d.heap[b]?):ae h b m:=⟨yE a.aM c,zq a.may c⟩
abbrev bg (w:Option ai) (n cap:Nat):List Nat:=(Value.ownBlock (ac w n cap)).toList
theorem yc(n cap:Nat):bg V n cap=[]:=rfl
theorem c9{g:Nat}:g∈bg w n cap↔Value.ownBlock (ac w n cap)=Z g:=by
 unfold bg;cases Value.ownBlock (ac w n cap)with
 |none=>simp
 |some x=>simp[eq_comm]
theorem bi.to{f:Type}{a b:dK f}{c:TypeId}{s:List f}(p:bi a k c d base w n cap s)(y: ∀ g∈bg w n cap,h.heap[g]?=d.heap[g]?)
  (v: ∀ x m,a (eb d (Value.ownBlock (ac w n cap))) x m→b (eb h (Value.ownBlock (ac w n cap))) x m):bi b k c h base w n cap s:=by
 obtain ⟨C,E,u,l,⟨q,r⟩,t⟩:=p;refine ⟨C,E,u,l,⟨q,?_⟩,fun i x m B D=>v _ _ (t i x m B D)⟩;rcases r with e|⟨g,j,o,e,A,z,rest⟩
 ·exact .inl e
 ·refine .inr ⟨g,j,o,e,A,?_,rest⟩;rw [y g (c9.2 (by rw [e];rfl))];exact z
def eK (B:ad):dK ar:=fun _ y m=> ∃ e c a f d b,m=an y.x e c a f d b∧b3 B y e c a f d b
theorem kY(B:ad):fQ (eK B):=fun _ _ _ _ _ a=>a
theorem eK.ex{y:ar}(c:eK B d y m)(g:dD B aM):eK aM h y m:=by
 obtain⟨k,i,a,l,j,b,e,f⟩:=c;exact⟨k,i,a,l,j,b,e,f.ex g⟩
theorem bi.ek{s:List ar}(k:bi (eK B) 15 85 d base w n cap s)(v:dD B d):fr d w n cap s:=by
 obtain⟨u,l,o,p,b,D,q,r⟩:=k.fv (kY B);refine⟨u,l,o,p,b,D,q,fun i x t=>?_⟩;obtain⟨m,f,g,⟨A,y,c,C,z,e,h,a⟩,j⟩:=r i x t;have a:=a.ex v;exact⟨m,f,g,⟨A,y,c,C,z,e,h,a.rows,a.ag,a.size⟩,j⟩
end
section
open Go.BigFrame Go.RowKit Go.WideShapes
abbrev cB (some:Bool) (n a b:Int) (v:aY) (o:Option Addr) (d c:Nat):List Value:=[.bool some,.int .i64 n,.int .i64 a,.int .i64 b,.string v.low,.string v.high,.bool v.unb,.int .i64 v.right,.slice o d c,.bool v.held,.int .i64 v.aH,.int .i64 v.bb,.string v.aD]
abbrev g4:List ak:=[ah false,O U 0,O U 0,O U 0,af ⟨#[]⟩,af ⟨#[]⟩,ah false,O U 0,ac V 0 0,ah false,O U 0,O U 0,af ⟨#[]⟩]
def kh (B:ad) (ab:Option bQ) (m:List ak):Prop:=
 match ab with
 |none=>m=g4
 |some a=> ∃ o b c,m=cB true a.n ((a.head.i:Int)+1) (a.head.g:Int) a.view o b c∧aZ B o b c a.view.ag∧dZ a.view
theorem kh.ex(a:kh B ab m)(d:dD B aM):kh aM ab m:=by
 cases ab with
 |none=>exact a
 |some f=>obtain⟨o,e,c,u,l,b⟩:=a;exact⟨o,e,c,u,l.ex cW d,b⟩
abbrev bs (k dst:Int) (a:ByteArray) (b e d:Int) (c:ByteArray):List ak:=[O U k,O U dst,af a,O U b,O U e,O U d,af c]
def ea (C:aT):Int×Int×ByteArray:=match C with| .leaf _=>(0,0,⟨#[]⟩)| .aU v=>(v.aH,v.bb,v.aD)
def fS (C:aT):dI→List ak
 | .down a=>bs 1 a ⟨#[]⟩ 0 0 0 ⟨#[]⟩
 | .gM a=>bs 2 a ⟨#[]⟩ 0 0 0 ⟨#[]⟩
 | .again=>bs 3 0 ⟨#[]⟩ 0 0 0 ⟨#[]⟩
 | .post key page=>bs 4 0 key page 0 0 ⟨#[]⟩
 | .gQ=>bs 5 0 ⟨#[]⟩ 0 (ea C).1 (ea C).2.1 (ea C).2.2
 | .tidy=>bs 6 0 ⟨#[]⟩ 0 0 0 ⟨#[]⟩
 | .split=>bs 7 0 ⟨#[]⟩ 0 0 0 ⟨#[]⟩
 | .grow=>bs 8 0 ⟨#[]⟩ 0 0 0 ⟨#[]⟩
 | .hold page left key=>bs 9 0 ⟨#[]⟩ 0 page left key
 | .act=>bs 10 0 ⟨#[]⟩ 0 0 0 ⟨#[]⟩
abbrev bx:List ak:=bs 0 0 ⟨#[]⟩ 0 0 0 ⟨#[]⟩
def jN (C:aT) (a:dI) (d:ad) (e:Ending) (h:ad):Prop:=e=ap (aw (fS C a).toArray)∧Y d h
section
variable {n : Int} {C : aT} 
theorem BR(d:ad)(a cl cx:TypeId)(m A:List ak):
  Y d (((H d (X m a)).alloc (X A cl)).alloc (X bx cx))∧ae (((H d (X m a)).alloc (X A cl)).alloc (X bx cx)) d.heap.size m∧ae (((H d (X m a)).alloc (X A cl)).alloc (X bx cx)) (d.heap.size+1) A∧ae (((H d (X m a)).alloc (X A cl)).alloc (X bx cx)) (d.heap.size+2) bx:=
 ⟨(((Y.refl d).alloc _).alloc _).alloc _,((ae.new d _ _ rfl).of J).I (((Y.refl _).alloc _).alloc _),((ae.new (H d _) _ _ dW).of J).I ((Y.refl _).alloc _),(ae.new ((H d _).alloc _) _ _ kT).of J⟩
theorem ae.ef(f:ae d b m)(o:Nat)(a:List ak)(e: (m.drop o).take a.length=a):er d b o a:=⟨fun h c g=>by
 have l: ((m.drop o).take a.length)[h]?=Z c:=by rw[e];exact g
 rw[rM]at l;split at l
 ·rw[rV]at l;have:=f.aM _ c l;rwa[cv]at this
 ·cases l⟩
def ig (lo a:ByteArray) (b:Int) (c:Bool) (v:aY) (key:ByteArray) (wr:Bool):dI:=
 if a3.cmp (aF key) (aF lo) < 0 then .again else if wr=true∧c=true∧v.held=false∧gz v a=true∧cY a v.ag=false then .post a b else .gM b
theorem oJ(L:cd B n hd k C m)(A:Bool)(ab a b:Int)(v:aY)(o:Option ai)(p c:Nat)(d:ad)(az:aZ d o p c v.ag)(aq:dZ v)(key:ByteArray)(aD:key.size≤maxLen)(wr:Bool):
  ao aj 155 #[aw m,aw (cB A ab a b v o p c),key,wr] d fun e h=>e=ap (aw (fS C (ig C.low C.high C.right A v key wr)))∧Y d h:=by
 have Q:=L.size;have T:=N fun j=>vL L j;have bW:=N fun j=>gO key C.low j aD Q.1;have W:=N fun j=>ny v.low v.high v.unb C.high j aq.low aq.high Q.2;have ay:=N fun j (am:Y d j)=>D4 v o p c C.high j (aZ.I az am) Q.2;have aI:=N L.len;obtain ⟨aC,B0,ar,R⟩:=BR d 170 97 239 m (cB A ab a b v o p c);clear L Q az aq aD;generalize aE:ig C.low C.high C.right A v key wr=z;have s:=N aE;clear aE;generalize C.low=lo at *;generalize C.high=I at *;generalize C.unb=a6 at *;generalize C.right=g at *;go_enter Tryz.func155,Tryz.ntmps155;go_upto_region 1 with fail
 generalize ((H d (X m 170)).alloc (X (cB A ab a b v o p c) 97)).alloc (X bx 239)=a4 at *;have al: (aj.info? 170).map (·.size)=Z m.length:=by rw [aI.out];kernel_rfl
 have an:=dt;by_cases y:a3.cmp (aF key) (aF lo) < 0
 ·have aM:decide (a3.cmp (aF key) (aF lo) < 0)=true:=eo y;have u:=N y;clear y;go_wp2_with (first|((with_reducible refine dV (ty:=170) B0 ?_ ?_ an ?_ ?_ ?_);(focus (exact rfl));(focus (exact ⟨_,rfl,rfl⟩));(focus (exact rfl));(focus (exact al)))|(go_at_call 158;(with_reducible refine (T.out _).mono ?_);rintro e j ⟨rfl,E⟩)|(go_at_call 93;(with_reducible refine (bW.out _).mono ?_);rintro e i ⟨rfl,D⟩;have av:=R.I (E.trans D.aC))|(with_reducible refine bq 239 (av) ((bs 3 0 ⟨#[]⟩ 0 0 0 ⟨#[]⟩)) ?_));refine bH ((av.aR (us:=bs 3 0 ⟨#[]⟩ 0 0 0 ⟨#[]⟩) rfl).e7 rfl _ rfl eG rfl G) rfl ?_;exact ⟨by rw [←s.out];unfold ig;rw [a9 u.out];rfl,((aC.trans E).trans D.aC).setCells K _ _⟩
 ·have aM:decide (a3.cmp (aF key) (aF lo) < 0)=false:=dz y;have u:=N y;clear y;go_upto_region 4 with (first|((with_reducible refine dV (ty:=170) B0 ?_ ?_ an ?_ ?_ ?_);(focus (exact rfl));(focus (exact ⟨_,rfl,rfl⟩));(focus (exact rfl));(focus (exact al)))|(go_at_call 158;(with_reducible refine (T.out _).mono ?_);rintro e j ⟨rfl,E⟩)|(go_at_call 93;(with_reducible refine (bW.out _).mono ?_);rintro e i ⟨rfl,D⟩))
  have P:=E.trans D.aC;have S:=ar.I P;have ag:=S.ef 4 (bf v o p c) rfl;have aa:ae (H i (X (bf ⟨⟨#[]⟩,⟨#[]⟩,false,0,[],false,0,0,⟨#[]⟩⟩ V 0 0) 95)) i.heap.size (bf ⟨⟨#[]⟩,⟨#[]⟩,false,0,[],false,0,0,⟨#[]⟩⟩ V 0 0):=(ae.new i _ _ rfl).of J;have aA:=ag.I ((Y.refl i).alloc (X (bf ⟨⟨#[]⟩,⟨#[]⟩,false,0,[],false,0,0,⟨#[]⟩⟩ V 0 0) 95));have x:ae ((H i (X (bf ⟨⟨#[]⟩,⟨#[]⟩,false,0,[],false,0,0,⟨#[]⟩⟩ V 0 0) 95)).setCells i 0 (bf v o p c)) i.heap.size (bf v o p c):=aa.aR rfl;have M:Y i ((H i (X (bf ⟨⟨#[]⟩,⟨#[]⟩,false,0,[],false,0,0,⟨#[]⟩⟩ V 0 0) 95)).setCells i 0 (bf v o p c)):=((Y.refl i).alloc _).setCells (aG _) _ _;have r:=R.I (P.trans M);have bc:=(S.I M).cell 0 rfl;have w:=(aC.trans P).trans M;go_upto_region 5 with (first|(with_reducible refine dc 95 (ag) dB ?_)|(with_reducible refine dc 95 (aA) dB ?_)|(with_reducible refine bq 95 (aa) ((bf v o p c)) ?_))
  clear ag aA aa S M P E D B0 ar R an al T bW;show Code.wp _ _ _ _ ((H i (X (bf ⟨⟨#[]⟩,⟨#[]⟩,false,0,[],false,0,0,⟨#[]⟩⟩ V 0 0) 95)).setCells i 0 (bf v o p c));generalize (H i (X (bf ⟨⟨#[]⟩,⟨#[]⟩,false,0,[],false,0,0,⟨#[]⟩⟩ V 0 0) 95)).setCells i 0 (bf v o p c)=aJ at *;generalize i.heap.size=a5 at *;have ax:=N fun j (am:Y aJ j)=>ay.out j (w.trans am);have cf:=x.cell 0 rfl;have a7:=x.cell 1 rfl;have a8:=x.cell 2 rfl;have bb:=x.cell 5 rfl;clear ay;unfold ig at s;unfold gz at s;generalize aP:iL v.low v.high v.unb I=bin at *;generalize aO:cY I v.ag=aL at *;clear aP aO;generalize aN:v.held=aK at *;clear aN;cases wr
  ·have q:z= .gM g:=by rw [←s.out,aS (by have:=u.out;omega)];simp_all
   subst q;go_wp2_with (first|(with_reducible refine bq 239 (r) ((bs 2 g ⟨#[]⟩ 0 0 0 ⟨#[]⟩)) ?_));refine bH ((r.aR (us:=bs 2 g ⟨#[]⟩ 0 0 0 ⟨#[]⟩) rfl).e7 rfl _ rfl eG rfl G) rfl ?_;exact ⟨rfl,(w).setCells K _ _⟩
  ·cases A
   ·have q:z= .gM g:=by rw [←s.out,aS (by have:=u.out;omega)];simp_all
    subst q;go_wp2_with (first|(with_reducible refine bq 239 (r) ((bs 2 g ⟨#[]⟩ 0 0 0 ⟨#[]⟩)) ?_));refine bH ((r.aR (us:=bs 2 g ⟨#[]⟩ 0 0 0 ⟨#[]⟩) rfl).e7 rfl _ rfl eG rfl G) rfl ?_;exact ⟨rfl,(w).setCells K _ _⟩
   ·cases aK
    ·cases bin
     ·have q:z= .gM g:=by rw [←s.out,aS (by have:=u.out;omega)];simp_all
      subst q;go_wp2_with (first|(go_at_call 110;(with_reducible refine (W.out _).mono ?_);rintro e aH ⟨rfl,l⟩;have t:=r.I l.aC)|(with_reducible refine bq 239 (t) ((bs 2 g ⟨#[]⟩ 0 0 0 ⟨#[]⟩)) ?_));refine bH ((t.aR (us:=bs 2 g ⟨#[]⟩ 0 0 0 ⟨#[]⟩) rfl).e7 rfl _ rfl eG rfl G) rfl ?_;exact ⟨rfl,((w.trans l.aC)).setCells K _ _⟩
     ·cases aL
      ·have q:z= .post I g:=by rw [←s.out,aS (by have:=u.out;omega)];simp_all
       subst q;go_wp2_with (first|(go_at_call 110;(with_reducible refine (W.out _).mono ?_);rintro e aH ⟨rfl,l⟩;have f:=x.I l.aC;have c7:=f.cell 0 rfl;have aR:=f.cell 1 rfl;have aT:=f.cell 2 rfl;have aU:=f.cell 3 rfl;have aV:=f.cell 4 rfl;have aW:=f.cell 5 rfl;have aX:=f.cell 6 rfl;have a1:=f.cell 7 rfl;have a2:=f.cell 8 rfl)|(go_at_call 177;(with_reducible refine (ax.out _ l.aC).mono ?_);rintro e aQ ⟨rfl,F⟩;have t:=r.I (l.aC.trans F))|(with_reducible refine bq 239 (t) ((bs 4 0 I g 0 0 ⟨#[]⟩)) ?_));refine bH ((t.aR (us:=bs 4 0 I g 0 0 ⟨#[]⟩) rfl).e7 rfl _ rfl eG rfl G) rfl ?_;exact ⟨rfl,(((w.trans l.aC).trans F)).setCells K _ _⟩
      ·have q:z= .gM g:=by rw [←s.out,aS (by have:=u.out;omega)];simp_all
       subst q;go_wp2_with (first|(go_at_call 110;(with_reducible refine (W.out _).mono ?_);rintro e aH ⟨rfl,l⟩;have f:=x.I l.aC;have c7:=f.cell 0 rfl;have aR:=f.cell 1 rfl;have aT:=f.cell 2 rfl;have aU:=f.cell 3 rfl;have aV:=f.cell 4 rfl;have aW:=f.cell 5 rfl;have aX:=f.cell 6 rfl;have a1:=f.cell 7 rfl;have a2:=f.cell 8 rfl)|(go_at_call 177;(with_reducible refine (ax.out _ l.aC).mono ?_);rintro e aQ ⟨rfl,F⟩;have t:=r.I (l.aC.trans F))|(with_reducible refine bq 239 (t) ((bs 2 g ⟨#[]⟩ 0 0 0 ⟨#[]⟩)) ?_));refine bH ((t.aR (us:=bs 2 g ⟨#[]⟩ 0 0 0 ⟨#[]⟩) rfl).e7 rfl _ rfl eG rfl G) rfl ?_;exact ⟨rfl,(((w.trans l.aC).trans F)).setCells K _ _⟩
    ·have q:z= .gM g:=by rw [←s.out,aS (by have:=u.out;omega)];simp_all
     subst q;go_wp2_with (first|(with_reducible refine bq 239 (r) ((bs 2 g ⟨#[]⟩ 0 0 0 ⟨#[]⟩)) ?_));refine bH ((r.aR (us:=bs 2 g ⟨#[]⟩ 0 0 0 ⟨#[]⟩) rfl).e7 rfl _ rfl eG rfl G) rfl ?_;exact ⟨rfl,(w).setCells K _ _⟩
end
end
section
abbrev il:aK:=⟨20,4,2,4,4,99⟩
abbrev nj:cV:=⟨2,⟨#[97]⟩,⟨#[49]⟩⟩
theorem E4:ml il:=⟨bP,bP,bP,bP,bP,bP⟩
abbrev o6:az:={j0 il with now:=(j0 il).now+1,ins:=Z ((j0 il).now+1)}
abbrev tM:ar:=nx (fs nj) ⟨0,1⟩
abbrev mz:az:=⟨(o6.aQ).set 1 (1,Z tM),o6.ax.set 0 (Z (Z ⟨1,1⟩)),o6.now,o6.ins⟩
abbrev zE:bl:={cf with rows:=[⟨⟨#[97]⟩,⟨#[49]⟩⟩]}
theorem x4:dw [c7]=Z (.leaf cf):=o9 (v:=cf) bP (fun _=>rfl) (fun x a=>by cases a)
theorem FF:dw [tM,c7]=Z (.leaf zE):=by
 rw[tD x4];kernel_rfl
theorem wG:bT c7:=⟨gY,gX⟩
theorem F0:dS il o6 ⟨0,[⟨0,1⟩],[c7],.leaf cf⟩:=
 ⟨J,mJ _,rfl,⟨rfl,rfl,trivial⟩,x4,bP,fun y a=>by rw[aO]at a;subst a;exact wG⟩
theorem yj:dS il {mz with ins:=V} ⟨0,[⟨1,1⟩,⟨0,1⟩],[tM,c7],.leaf zE⟩:=
 ⟨J,mJ _,rfl,⟨rfl,rfl,rfl,rfl,trivial⟩,FF,bP,fun y a=>by
  rw[bd,aO]at a;rcases a with rfl|rfl
  ·exact⟨gY,gX⟩
  ·exact wG⟩
theorem B7:mi il nj (j0 il) [] 7 {mz with ins:=V} [] ⟨ds nj.key cf.rows,0⟩:=by
 refine .calm (k:=4) bP rfl (.last (.act (k:=2) (P:=⟨0,[⟨0,1⟩],[c7],.leaf cf⟩) (ab:=V) (v:=cf) (hd:=⟨0,1⟩) (r:=⟨1,1⟩) ?_ rfl rfl G bP G)) rfl;exact de.stop F0 G rfl
theorem C0:jL il {mz with ins:=V} 0 0 0:= .leaf yj rfl
theorem EY:km il {mz with ins:=V} 0 1 [⟨⟨#[97]⟩,⟨#[49]⟩⟩]:= .last yj rfl rfl
theorem zC:eY {mz with ins:=V}=1:=rfl
end
section
open Go.BigFrame Go.RowKit Go.WideShapes
section
theorem zc{p:Nat}(x:aX j S d lim I)(R:M∈S)(Q:M∉j.l)(f:ae d M (gB p false false 0 0 0 0 V 0 0 V 0 0 aB))(B:I.ax[p]?=Z (Z (Z hd))):
  ao aj 100 #[aa M,aa j.m] d fun e h=>e=ap (ah false)∧ae h M (gB p true false ((hd.i:Int)+1) (hd.g:Int) ((hd.i:Int)+1) (hd.g:Int) V 0 0 V 0 0 aB)∧aX j S h lim I∧Mod [j.m,M] d h:=by
 have t:=N (yf f);have s:=N (D6 x B);have L:=f.cell 0 rfl;have P:=f.cell 1 rfl;have ar: ((hd.i:Int)+1==0)=false:=mf;have r:=N f;have u:=N Q;clear x f B;go_enter Tryz.func100,Tryz.ntmps100;go_wp2_with (first|(go_at_call 114;(with_reducible refine t.out.mono ?_);rintro e h ⟨rfl,rfl⟩));with_reducible refine s.out.mono ?_
 rintro e c ⟨rfl,z,n⟩;have W:M∉[j.m]:=fun q=>u.out (by rw [aO.1 q];simp);have m:=n.box W r.out;have F:=N z;have K:=N n;have i:=(ae.new c #[O U 0,O U 0] 78 rfl).aR (us:=da (Z hd)) rfl;have l:Y c ((H c (X #[O U 0,O U 0] 78)).setCells c 0 (da (Z hd))):=((Y.refl c).alloc _).setCells (aG _) _ _;have aq:M < c.heap.size:=m.lt J;clear z n L P;go_upto_region 5 with (refine dY rfl 78 _ _ rfl _ 0 _ rfl rfl (ae.new _ _ _ rfl).may G G ?_)
 have a:=m.I l;have i:ae _ c.heap.size [O U ((hd.i:Int)+1),(hd.g:Int)]:=i;have y:=N (F.out.I l);have T:=N (K.out.trans (l.mod _));clear l m r s t;generalize (H c (X #[O U 0,O U 0] 78)).setCells c 0 (da (Z hd))=E at *;generalize c.heap.size=w at *;have fC:=i.cell 0 rfl;have aC:=i.cell 1 rfl;go_upto_region 9 with fail
 have av:=a.cell 1 rfl;have ax:=a.cell 3 rfl;have ay:=a.cell 4 rfl;have az:=a.cell 5 rfl;have aA:=a.cell 6 rfl;have ab:=a.free 1 J;have ag:=a.free 3 J;have al:=a.free 4 J;have am:=a.free 5 J;have an:=a.free 6 J;go_wp2_with fail;go_region_held3 (fun v=>v.cell? w=Z (O U ((hd.i:Int)+1))∧v.cell? ⟨w,1,V⟩=Z (O U (hd.g:Int))) ((first|(have kG:=(Y.refl E);exact b9)|exact b9)) (fail);all_goals
  go_wp2_with fail;go_ret;have g: ∀ (C:Nat) (D:ak) (o:ad),Mod [M] o (o.setCell ⟨M,C,V⟩ D):=fun C D o=>Mod.setCell _ _ _ J;have A:=((((((g 1 (ah true) E).trans (g 3 (O U ((hd.i:Int)+1)) _)).trans (g 4 (O U (hd.g:Int)) _)).trans (g 5 (O U ((hd.i:Int)+1)) _)).trans (g 6 (O U (hd.g:Int)) _)).trans (((Y.refl _).drew).mod [M]));exact ⟨rfl,((((((a.set 1 (ah true)).set 3 (O U ((hd.i:Int)+1))).set 4 (O U (hd.g:Int))).set 5 (O U ((hd.i:Int)+1))).set 6 (O U (hd.g:Int))).I ((Y.refl _).drew)).of rfl,y.out.step (A.ju (fun b k=>by rw [aO] at k;subst k;exact R)) (fun b k q=>by rw [aO] at q;subst q;exact u.out k) y.out.sub,(T.out.sub J).trans (A.sub J)⟩
end
def iD:dK bK:=fun _ b m=>m=[O U (b.dF:Int),O U (a4 b.refs.head?).1,O U (a4 b.refs.head?).2,O U b.page]
theorem fy:fQ iD:=fun _ _ _ _ _ a=>a
structure bU where
 bin:List bK
 fI:Bool
 c:cV
 wr:Bool
 bR:ByteArray
 bF:ak
 nx:ak
 ab:Option bQ
 bO:List ak
abbrev gj (F:Option ai) (E D:Nat) (fI:Bool) (c:cV) (wr:Bool) (bR:ByteArray) (bF nx:ak) (A m:List ak):List ak:=
 O U 0::ac F E D::ah fI::O U c.kind::af c.key::af c.val::ah wr::af bR::bF::au none::au none::nx:: (A++m)
structure aP (j:aV) (S:List Nat) (d:ad) (lim:aK) (I:az) (bt:Nat) (z:bU) (F:Option ai) (E D:Nat) (A:List ak):Prop where
 mem:aX j S d lim I
 box:ae d bt (gj F E D z.fI z.c z.wr z.bR z.bF z.nx A z.bO)
 bin:bo iD 4 (ay d S) F E D z.bin
 ab:kh (ay d S) z.ab A
 bO:z.bO.length=5
 key:z.c.key.size≤maxLen∧z.c.val.size≤maxLen
 cE:bt∈S
 c5:bt∉j.l
theorem kh.len(a:kh B ab A):A.length=13:=by
 cases ab with
 |none=>obtain rfl:A=g4:=a;rfl
 |some b=>obtain⟨o,d,c,rfl, -⟩:=a;rfl
section
variable {aE : az} {z D' : bU} {F : Option ai} {E D : Nat} 
theorem aP.lt(a:aP j S d lim I bt z F E D A):bt < d.heap.size:=a.mem.old _ a.cE
theorem aP.av(a:aP j S d lim I bt z F E D A)(b:bn L B0 S d S' h)(e:aX j S' h lim aE)(c:bt∉L∧bt < B0):aP j S' h lim aE bt z F E D A:=
 ⟨e,b.box (.inr c) a.box,a.bin.ex fy b.aL,a.ab.ex b.aL,a.bO,a.key,b.sub _ a.cE,a.c5⟩
theorem aP.aC(a:aP j S d lim I bt z F E D A)(b:Y d h):aP j S h lim I bt z F E D A:=
 ⟨a.mem.I b,a.box.I b,a.bin.ex fy (bX b S),a.ab.ex (bX b S),a.bO,a.key,a.cE,a.c5⟩
theorem aP.acc(a:aP j S d lim I bt z F E D A)(k:aX j S h lim aE){c:List Nat}(g:Mod c d h)(e: ∀ b∈c,b∈j.l):aP j S h lim aE bt z F E D A:=by
 have i:bn j.l (bt+1) S d S h:=g.av fun b f=>⟨a.mem.sub b (e b f),.inl (e b f)⟩;exact a.av i k ⟨a.c5,oc _⟩
theorem aP.wrote(a:aP j S d lim I bt z F E D A)(e:Mod [bt] d h)(m:ae h bt (gj F E D D'.fI D'.c D'.wr D'.bR D'.bF D'.nx A D'.bO))(g:D'.bin=z.bin)(i:D'.ab=z.ab)(k:D'.bO.length=5)(l:D'.c.key.size≤maxLen∧D'.c.val.size≤maxLen):aP j S h lim I bt D' F E D A:=by
 have f:fq S d S h:=e.aL (by intro b c;rw[aO.1 c];exact a.cE) fun _ q=> .inl q;exact⟨a.mem.step (e.ju fun b c=>by rw[aO.1 c];exact a.cE) (fun b c q=>a.c5 (by rw[←aO.1 q];exact c)) a.mem.sub,m,by rw[g];exact a.bin.ex fy f,by rw[i];exact a.ab.ex f,k,l,a.cE,a.c5⟩
theorem aP.next(a:aP j S d lim I bt z F E D A)(v:ak):aP j S (d.setCell ⟨bt,11,V⟩ v) lim I bt {z with nx:=v} F E D A:=
 a.wrote (Mod.setCell _ _ _ J) ((a.box.set 11 v).of rfl) rfl rfl a.bO a.key
theorem aP.yK(a:aP j S d lim I bt z F E D A)(bR:ByteArray)(bF:ak):aP j S (ba d bt 7 [af bR,bF]) lim I bt {z with bR:=bR,bF:=bF} F E D A:=
 a.wrote (Mod.setCells J _ _ _) ((a.box.part 7 [af bR,bF] (by have:=a.ab.len;have:=a.bO;simp[gj, *])).of rfl) rfl rfl a.bO a.key
theorem FJ(f:FuncId)(first cap:Array ak)(d:ad): (binOp .neq 42 (.func (.func f) first cap) .nilFunc).run aj d= .ok (ah true) d:=by kernel_rfl
theorem FA(d:ad): (binOp .neq 42 .nilFunc .nilFunc).run aj d= .ok (ah false) d:=by kernel_rfl
theorem F7{cap:Array ak}(b:d.cell? ⟨bt,11,V⟩=Z (.func (.func f) first cap)):
  ao aj 22 #[aa bt] d fun e h=>e=ap (ah true)∧d=h:=by
 have c:=fun a=>FJ f first cap a
 go_enter Tryz.func22,Tryz.ntmps22;go_wp2_with fail;go_ret;exact ⟨rfl,rfl⟩
theorem ra(b:d.cell? ⟨bt,11,V⟩=Z .nilFunc):
  ao aj 22 #[aa bt] d fun e h=>e=ap (ah false)∧d=h:=by
 have c:=fun a=>FA a;go_enter Tryz.func22,Tryz.ntmps22;go_wp2_with fail;go_ret;exact⟨rfl,rfl⟩
def dH (f:FuncId):Prop:=∀ (args:Array ak) (a:ad),(callFunc f args).run aj a= .ok (.enter f args) a
theorem pq{cap:Array ak}{g:ak}{a:Ending→ad→Prop}(l:d.cell? ⟨bt,11,V⟩=Z (.func (.func f) first cap))(m:dH f)(c:ao aj f (first.push g++cap) d fun e h=> ∃ b,e=ap (ah b)∧a e h):
  ao aj 10 #[aa bt,g] d a:=by
 have j:=N (F7 l);have k:=N c;have o: ∀ (args:Array ak) (i:ad),(callFunc f args).run aj i= .ok (.enter f args) i:=m;clear c;go_enter Tryz.func10,Tryz.ntmps10;go_wp2_with (first|(go_at_call 22;(with_reducible refine j.out.mono ?_);rintro e h ⟨rfl,rfl⟩));refine k.out.mono ?_;rintro e h ⟨b,rfl,n⟩;go_wp2_with fail;exact n
theorem iS(a:aP j S d lim I bt z F E D A)(f:FuncId)(first cap:Array ak):
  ao aj 57 #[aa bt,.func (.func f) first cap] d fun e h=>e=ap (ah false)∧h=d.setCell ⟨bt,11,V⟩ (.func (.func f) first cap):=by
 have b:=a.box.cell 11 rfl;have c:=a.box.free 11 J;clear a;go_enter Tryz.func57,Tryz.ntmps57;go_wp2_with fail;go_ret;exact ⟨rfl,rfl⟩
theorem tG(a:aP j S d lim I bt z F E D A):
  ao aj 56 #[aa bt] d fun e h=>e=ap (ah true)∧h=d.setCell ⟨bt,11,V⟩ .nilFunc:=by
 have b:=a.box.cell 11 rfl;have c:=a.box.free 11 J;clear a;go_enter Tryz.func56,Tryz.ntmps56;go_wp2_with fail;go_ret;exact⟨rfl,rfl⟩
theorem zu(c:aP j S d lim I bt z F E D A)(bR:ByteArray)(bF:ak)(n:bF=aB∨∃ t f,bF= .iface t f):
  ao aj 54 #[aa bt,aw #[bR,bF]] d fun e h=>e=ap (a0 #[])∧aP j S h lim I bt {z with bR:=bR,bF:=bF} F E D A∧bn [bt] (bt+1) S d S h:=by
 have i:Y d (H d (X #[af bR,bF] 44)):=(Y.refl d).alloc _;have k:ae (H d (X #[af bR,bF] 44)) d.heap.size [af bR,bF]:=(ae.new d _ _ rfl).of J;have u:=c.aC i;have o:=u.box.cell 9 rfl;have l:=u.box.fi 7 2 (by have:=c.ab.len;have:=c.bO;simp[gj, *]);have a:=N u;clear c u;rcases n with rfl|⟨t,f,rfl⟩
 all_goals
  go_enter Tryz.func54,Tryz.ntmps54;go_upto_region 1 with fail
 ·generalize H d (X #[af bR,aB] 44)=m at *;go_wp2_with(first|(with_reducible refine b0 44 (k) kJ ?_)|(with_reducible refine hY 44 (l) ([af bR,aB]) ?_));go_end0;exact⟨rfl,a.out.yK _ _,i.av.trans ((Mod.setCells (S:=[bt]) J _ _ _).av fun b g=>by rw[aO.1 g];exact⟨a.out.cE,.inl J⟩)⟩
 ·generalize H d (X #[af bR,.iface t f] 44)=m at *;go_wp2_with(first|(with_reducible refine b0 44 (k) kJ ?_)|(with_reducible refine hY 44 (l) ([af bR,.iface t f]) ?_));go_end0;exact⟨rfl,a.out.yK _ _,i.av.trans ((Mod.setCells (S:=[bt]) J _ _ _).av fun b g=>by rw[aO.1 g];exact⟨a.out.cE,.inl J⟩)⟩
end
theorem Gm(w:Option ai)(n cap:Nat)(s:List aN)(key:ByteArray)(d:ad)(a:bk d w n cap s)(I:n≤1000000)(v:key.size≤maxLen):
  ao aj 36 #[ac w n cap,key] d fun e h=> ∃ l j f,e=ap (a0 #[ac l j f,(hasB key s)])∧((l=w∧j=n∧f=cap∧et s key=s)∨br h d l j f (et s key))∧Y d h:=by
 have hF:=N (tP w n cap s key d a v);have x:=lf key s;rw [a.len] at x;have i:hasB key s=true→place key s < n:=fun q=>by
  unfold hasB at q;rw [dp,a.len] at q;exact q.1
 have B:=N a;have G:=a.dj;clear a;unfold et;generalize place key s=p at *;cases b:hasB key s
 ·rw [b] at hF;rw [aS bP];clear i b;go_enter Tryz.func36,Tryz.ntmps36;go_wp2_with (go_at_call 35;(with_reducible refine hF.out.mono ?_);rintro e h ⟨rfl,r,rfl⟩);go_ret2;exact ⟨_,_,_,rfl,.inl ⟨rfl,rfl,rfl,by first|rfl|trivial⟩,bz⟩
 ·rw [b] at hF;have i:=i b;rw [a9 rfl];clear b;have u:=N (fun c (g:Y d c)=>(B.out.I g).head (k:=p) K);have z:=N (fun c (g:Y d c)=>(B.out.I g).tail (k:=p+1) K);have L:=nN w n cap p K;have A:=lY w n cap (p+1) K;have F:IntKind.i64.wrap ((p:Int)+1)=(p:Int)+1:=e0 _ (by have:=B.out.dr;unfold maxLen at this;omega);have C: ((p+1:Nat):Int)=(p:Int)+1:=K;rw [C] at A;go_enter Tryz.func36,Tryz.ntmps36;go_wp2_with (go_at_call 35;(with_reducible refine hF.out.mono ?_);rintro e h ⟨rfl,r,rfl⟩);go_region_law (first
   |(refine nU (w0:=d) rfl _ _ rfl (bz) rfl (yh (bz)) rfl (u.out _ (bz)) K ?_;intro Q D c o m;simp only [cv,gJ] at o)
   |(refine nU (w0:=d) rfl _ _ rfl m rfl o rfl (z.out _ m) K ?_;intro J E M y t))
  all_goals
   go_wp2_with fail;go_ret2;exact ⟨_,_,_,rfl,.inr (by simpa using y),t⟩
theorem yI(w:Option ai)(n cap:Nat)(s:List aN)(k v:ByteArray)(d:ad)(g:bk d w n cap s)(av:n≤1000000)(m:k.size≤maxLen)(y:v.size≤maxLen):
  ao aj 37 #[ac w n cap,aw #[k,v]] d fun e h=> ∃ S R P,e=ap (a0 #[ac S R P,(hasB k s)])∧br h d S R P (ec s ⟨k,v⟩)∧Y d h:=by
 have an:=oK d k v;have aq:=qn d k v;have u:=N (fun c (i:Y d c)=>tP w n cap s k c (g.I i) m);have ab:=lf k s;rw [g.len] at ab;have E:hasB k s=true→place k s < n:=fun q=>by
  unfold hasB at q;rw [dp,g.len] at q;exact q.1
 have B:=N g;have ar:=g.dj;have ae:=g.dr;unfold maxLen at ae;clear g;unfold ec;dsimp only;generalize place k s=p at *;have x:=N (fun c (i:Y d c)=>(B.out.I i).head (k:=p) K);have ax:=nN w n cap p K;cases j:hasB k s
 ·rw [j] at u;rw [aS bP];clear E j;have G:=N (fun c (i:Y d c)=>(B.out.I i).tail (k:=p) K);have T:=lY w n cap p K;go_enter Tryz.func37,Tryz.ntmps37;go_wp2_with (go_at_call 35;(refine (u.out _ (bz)).mono ?_);rintro e h ⟨rfl,aa,rfl⟩);go_region_law (first
   |(refine rj rfl _ _ rfl d.heap.size r3 rfl (lT mg K) rfl (x.out _ (bz)) K ?_;intro Q z c f a;simp only [cv,gJ] at f;have l:Y d c:=qG a (lT (base:=d.heap.size) mg K) (bz) (aG _);have I:=hz (b:=d.heap.size) (o:=0) a (v:=af k) hK K;have J:=hz (b:=d.heap.size) (o:=1) a (v:=af v) hK K;(try (have fC:=hz (b:=d.heap.size+1) (o:=0) a (v:=af k) hK K;have t:=hz (b:=d.heap.size+1) (o:=1) a (v:=af v) hK K)))
   |(refine rj rfl _ _ rfl d.heap.size r3 rfl ((lT mg K).I ((Y.refl _).alloc _)) rfl (x.out _ (bz)) K ?_;intro Q z c f a;simp only [cv,gJ] at f;have l:Y d c:=qG a ((lT (base:=d.heap.size) mg K).I ((Y.refl _).alloc _)) (bz) (aG _);have I:=hz (b:=d.heap.size) (o:=0) a (v:=af k) hK K;have J:=hz (b:=d.heap.size) (o:=1) a (v:=af v) hK K;have fC:=hz (b:=d.heap.size+2) (o:=0) a (v:=af k) hK K;have t:=hz (b:=d.heap.size+2) (o:=1) a (v:=af v) hK K)
   |(refine nU (w0:=d) rfl _ _ rfl (bz) rfl (f.I ((Y.refl _).alloc _)) rfl (row_one (b:=c.heap.size) (aG _) c4 ho ho m y) K ?_;intro L A M r C)
   |(refine nU (w0:=d) rfl _ _ rfl l rfl f rfl (row_one (aG _) c4 fC t m y) K ?_;intro L A M r C))
  all_goals
   go_wp2_with (at_builtin;refine ux (w0:=d) rfl _ _ rfl (bz) rfl r rfl (G.out _ (bz)) K ?_;intro ag W am F D);go_ret2;exact ⟨_,_,_,rfl,F,D⟩
 ·rw [j] at u;have E:=E j;rw [a9 rfl];clear j;have G:=N (fun c (i:Y d c)=>(B.out.I i).tail (k:=p+1) K);have T:=lY w n cap (p+1) K;have al: ((p+1:Nat):Int)=(p:Int)+1:=K;rw [al] at T;go_enter Tryz.func37,Tryz.ntmps37;go_wp2_with (go_at_call 35;(refine (u.out _ (bz)).mono ?_);rintro e h ⟨rfl,aa,rfl⟩);go_region_law (first
   |(refine rj rfl _ _ rfl d.heap.size r3 rfl (lT mg K) rfl (x.out _ (bz)) K ?_;intro Q z c f a;simp only [cv,gJ] at f;have l:Y d c:=qG a (lT (base:=d.heap.size) mg K) (bz) (aG _);have I:=hz (b:=d.heap.size) (o:=0) a (v:=af k) hK K;have J:=hz (b:=d.heap.size) (o:=1) a (v:=af v) hK K;(try (have fC:=hz (b:=d.heap.size+1) (o:=0) a (v:=af k) hK K;have t:=hz (b:=d.heap.size+1) (o:=1) a (v:=af v) hK K)))
   |(refine rj rfl _ _ rfl d.heap.size r3 rfl ((lT mg K).I ((Y.refl _).alloc _)) rfl (x.out _ (bz)) K ?_;intro Q z c f a;simp only [cv,gJ] at f;have l:Y d c:=qG a ((lT (base:=d.heap.size) mg K).I ((Y.refl _).alloc _)) (bz) (aG _);have I:=hz (b:=d.heap.size) (o:=0) a (v:=af k) hK K;have J:=hz (b:=d.heap.size) (o:=1) a (v:=af v) hK K;have fC:=hz (b:=d.heap.size+2) (o:=0) a (v:=af k) hK K;have t:=hz (b:=d.heap.size+2) (o:=1) a (v:=af v) hK K)
   |(refine nU (w0:=d) rfl _ _ rfl (bz) rfl (f.I ((Y.refl _).alloc _)) rfl (row_one (b:=c.heap.size) (aG _) c4 ho ho m y) K ?_;intro L A M r C)
   |(refine nU (w0:=d) rfl _ _ rfl l rfl f rfl (row_one (aG _) c4 fC t m y) K ?_;intro L A M r C))
  all_goals
   go_wp2_with (at_builtin;refine ux (w0:=d) rfl _ _ rfl (bz) rfl r rfl (G.out _ (bz)) K ?_;intro ag W am F D);go_ret2;exact ⟨_,_,_,rfl,F,D⟩
def z6 (d:ad) (S:List Nat) (r:List aN×ByteArray×Int) (e:Ending) (h:ad):Prop:=∃ o q c,e=ap (a0 #[ac o q c,af r.2.1,O U r.2.2])∧bk (ay h S) o q c r.1∧Y d h
abbrev qq (d:ad) (kind:Int) (key val:ByteArray):ad:=H d (X #[O U kind,af key,af val] 40)
section
variable {s : List aN} {kind : Int} {key val : ByteArray}
theorem A2(D:bk (ay d S) w n cap s)(G: ∀ b∈S,b < d.heap.size)(F:n≤1000000)(v:key.size≤maxLen)(M:val.size≤maxLen)(J:kind=1∨kind=2∨kind=3∨kind=4∨kind=5):
  ao aj 14 #[ac w n cap,aw #[kind,key,val]] d (z6 d S (ei ⟨kind,key,val⟩ s)):=by
 have E:=D.gP;have hF:=fun g (t:Y d g)=>tP w n cap s key g (E.I t) v;have B:=N E;have Q:=N G;have P:=N D;clear D E G;have c7: (qq d kind key val).cell? d=Z (O U kind):=ho;have x: (qq d kind key val).cell? ⟨d,1,V⟩=Z (af key):=ho;have y: (qq d kind key val).cell? ⟨d,2,V⟩=Z (af val):=ho;have r:Y d (qq d kind key val):=(Y.refl d).alloc _;have z:=N fun g u j m h k (t:Y d g) (al:br u g j m h k)=>(br.aL al (S:=S) fun b ae=>dR (Q.out b ae) t.le:bk (ay u S) j m h k);have A:=N fun g (t:Y d g)=>(P.out.ex (bX t S):bk (ay g S) w n cap s);cases p:hasB key s
 ·rw [p] at hF;have C:=N hF;clear hF;have c:=N p;rcases J with rfl|rfl|rfl|rfl|rfl
  all_goals
   go_enter Tryz.func14,Tryz.ntmps14;go_wp2_with fail;refine (C.out _ r).mono ?_;rintro e g ⟨rfl,hd⟩;have f:=hd.aC;have c7:=f.I c7;have x:=f.I x;have y:=f.I y;have a:=r.trans f;clear r f hd p;go_wp2_with (first
    |(go_at_call 37;refine (yI w n cap s key val _ (B.out.I a) F v M).mono ?_;rintro e u ⟨j,m,h,rfl,i,o⟩))
   go_ret3;first
    |exact ⟨j,m,h,(by simp [ei,c.out,ds] <;> rfl),(by simpa [ei,c.out,ds] using z.out _ _ _ _ _ _ a i),a.trans o⟩
    |exact ⟨w,n,cap,(by simp [ei,c.out,ds] <;> rfl),(by simpa [ei,c.out,ds] using A.out _ a),a⟩
 ·rw [p] at hF;have C:=N hF;clear hF;have c:=N p;have K:place key s < n:=by
   have q:=p;unfold hasB at q;rw [dp,B.out.len] at q;exact q.1
  have l:=B.out;obtain ⟨an,ar,L,I⟩:=l.cells;have R:=N I;have T:=N (fun q=>(L q).1);have ag:=l.dr;unfold maxLen at ag;clear I L l;rcases J with rfl|rfl|rfl|rfl|rfl
  all_goals
   go_enter Tryz.func14,Tryz.ntmps14;go_wp2_with fail;refine (C.out _ r).mono ?_;rintro e g ⟨rfl,hd⟩;have f:=hd.aC;have c7:=f.I c7;have x:=f.I x;have y:=f.I y;have a:=r.trans f;have am:=a.I (R.out _ K).2;have aq:=iR cap T.out K;clear r f hd p;go_wp2_with (first
    |(go_at_call 36;refine (Gm w n cap s key _ (B.out.I a) F v).mono ?_;rintro e u ⟨j,m,h,rfl,i,o⟩)
    |(go_at_call 37;refine (yI w n cap s key val _ (B.out.I a) F v M).mono ?_;rintro e u ⟨j,m,h,rfl,i,o⟩))
   go_ret3;first
    |exact ⟨j,m,h,(by simp [ei,c.out,ds] <;> rfl),(by simpa [ei,c.out,ds] using z.out _ _ _ _ _ _ a i),a.trans o⟩
    |(rcases i with ⟨W,aa,ab,i⟩|i
      ·exact ⟨j,m,h,(by simp [ei,c.out,ds]),(by rw [W,aa,ab];simpa [ei,c.out,ds,i] using A.out _ (a.trans o)),a.trans o⟩
      ·exact ⟨j,m,h,(by simp [ei,c.out,ds] <;> rfl),(by simpa [ei,c.out,ds] using z.out _ _ _ _ _ _ a i),a.trans o⟩)
    |exact ⟨w,n,cap,(by simp [ei,c.out,ds] <;> rfl),(by simpa [ei,c.out,ds] using A.out _ a),a⟩
end
end
end Go.Proofs.YtbkmjhhpcinppaaGreatDoor
