import Derived.Test.YtbkmjhhpcinppaaGreatDoorQ24
namespace Go.Proofs.YtbkmjhhpcinppaaGreatDoor
set_option linter.unusedVariables false
set_option linter.defProp false
set_option linter.unusedSimpArgs false
set_option maxRecDepth 100000
set_option maxHeartbeats 40000000
open Go.BigFrame Go.RowKit Go.WideShapes
open Ending renaming returned→ap
open Go renaming Addr→ai,Calls→ao,Value→ak,World→ad
open Go.Proofs.Tryz renaming prog→aj
open IntKind renaming i64→U
open Obj renaming cells→X
open Option renaming none→V,some→Z
open Value renaming agg→aw,bool→ah,int→O,nilIface→aB,pointer→au,slice→ac,string→af,tuple→a0
open World renaming alloc→H,setCells→ba
variable {a8 : List bK} {B0 b aQ aZ aR s ag aC u a3 C E cb k m F I nb aL aM p : Nat} {D be : bU} {d : aV} {B bf aH : az} {am : cn} {Q : ad → Prop} {S z S0 T : List Nat} {W X' : eT} {cap aS first aU : Array ak} {f aN : FuncId} {g : bl} {hd r : aA} {ax : ByteArray} {lim : aK} {av : ak} {n page : Int} {bb : aT} {no M P ob : Option ai} {aY : List aA} {aE aF : List ak} {w a w0 l : ad} {wr : Bool} {y : ar}
section
variable {a9 : Nat} {Q : Ending → ad → Prop} {n : Nat} 
theorem xz{f:Int→Int→ar×ar×ar}{bk:hs}(m:jk lim.count B (n:Int) f=bk)(bh:aP d S w lim B u D ob nb cb aE)
  (bo:hr d B0 lim B ag (bE n ((hd.i:Int)+1) (hd.g:Int) 2 av 0 V 0 0 V 0 0 (eu 0).x V 0 0 V 0 0 V 0 0 0 false aB) (eu 0) V 0 0 V 0 0 S w V 0 0 [] V 0 0 [] V 0 0 [])
  (a5:gq d B0 S w u ag D.nx (.func (.func aN) aU aS) a9 aQ aR)(bL:dH aN)(bC: ∀ p q:Int,fA S w av [p,q] [(f p q).1,(f p q).2.1] (f p q).2.2)(aY: ∀ p q,bT (f p q).1∧bT (f p q).2.1∧bT (f p q).2.2)(bj: ∀ p q,((f p q).1.x.slot=0∧(f p q).1.x.gen=0)∧((f p q).2.1.x.slot=0∧(f p q).2.1.x.gen=0))(b3:B.ax[n]?=Z (Z (Z hd)))
  (bS: ∀ aH,bk= .ok aH→∀ a z,aP d z a lim aH u D ob nb cb aE→bD S w z a→ao aj aN (aU.push (ah true)++aS) a fun e bm=> ∃ b,e=ap (ah b)∧Q e bm)
  (hF: ∀ aH c,bk= .no aH c→∀ e a N z,iE d z lim aH u D ob nb cb aE a c e N→bD S w z a→Q e N):
  a7 d u (ue bk) w Q:=by
 have aA: ∀ b∈d.l,b < B0:=a5.e4;have a4:=qD bo aA (aJ _) (aJ _) K V (by show 0+1≠2;omega);unfold jk at m;cases bA:eR B with
 |none=>
  rw[bA]at m a4;dsimp only at m;subst m;have W:=eV (w:=w) (Q:=k0 d B0 lim B ag n ((hd.i:Int)+1) (hd.g:Int) 2 av (eu 0) V 0 0 V 0 0 V 0 0 [] V 0 0 [] V 0 0 [] 0 3 S w) bo.box rfl rfl rfl (a4.mono fun e a ⟨t,aL,am,aI,aK⟩=>⟨_,am,t,aL,am,aI,aK⟩);exact(l1 (S0:=S) (w0:=w) 0 0 0 0 V V [] [] S w B B K K bh a5 W rfl rfl (fun r ay=>by cases ay) iX (fun r ay=>by cases ay) iX bn.refl fun e a N z q aC=>hF _ _ rfl e a N z q aC).more (by show 1+0+0≤11;omega)
 |some aa=>
  obtain⟨p,aH⟩:=aa;rw[bA]at m a4;dsimp only at m;obtain⟨bH,ch,cj⟩:=ui bA;obtain⟨bZ,b4⟩:=ch n _ b3;have bs: ∀ ab,(∀ T l h g,hr d B0 lim aH ag (bE n ((hd.i:Int)+1) (hd.g:Int) 2 av 0 h 1 g V 0 0 (eu 0).x V 0 0 V 0 0 V 0 0 0 false aB) (eu 0) V 0 0 V 0 0 T l h 1 g [(p:Int)] V 0 0 [] V 0 0 []→aP d T l lim aH u D ob nb cb aE→gq d B0 T l u ag D.nx (.func (.func aN) aU aS) a9 aQ aR→bD S w T l→a7 d u ab l Q)→a7 d u (ab+1) w Q:=by
   intro ab aV;have W:=eV (w:=w) (Q:=fun e a=>e=ap (ah false)∧∃ z bg a2,bI d B0 S w lim aH ag (bE n ((hd.i:Int)+1) (hd.g:Int) 2 av 0 bg (0+1) a2 V 0 0 (eu 0).x V 0 0 V 0 0 V 0 0 0 false aB) (eu 0) V 0 0 V 0 0 z a bg (0+1) a2 ([]++[(p:Int)]) V 0 0 [] V 0 0 []) bo.box rfl rfl rfl (a4.mono fun e a q=>⟨false,q.1,q.1,q.2⟩);refine iN bh a5 W fun l ⟨T,h,g,aZ⟩=>?_;exact aV T l h g aZ.now (bh.av aZ.av aZ.mem ⟨bh.c5,a5.cH⟩) (a5.av aZ.av) aZ.av.goes
  clear a4;cases bf:eR aH with
  |none=>
   rw[bf]at m;dsimp only at m;subst m;refine(bs (1+0+1) fun T l h g s v A ae=>?_).more (by show 1+0+1+1≤11;omega);have G:=qD s aA (aJ _) K K (Z fun q=>([(f p q).1,(f p q).2.1],(f p q).2.2)) ⟨rfl,fun q=>⟨(bC p q).aL ae.aL,rfl,fun x R=>by rcases bd.1 R with rfl|R;exact(bj p q).1;rw[aO.1 R];exact(bj p q).2⟩⟩;rw[bf]at G;have W:=eV (w:=l) (Q:=k0 d B0 lim aH ag n ((hd.i:Int)+1) (hd.g:Int) 2 av (eu 0) V 0 0 V 0 0 h 1 g [(p:Int)] V 0 0 [] V 0 0 [] 0 3 T l) s.box rfl rfl rfl (G.mono fun e a ⟨t,aL,am,aI,aK⟩=>⟨_,am,t,aL,am,aI,aK⟩);exact l1 (S0:=S) (w0:=w) 0 1 g 0 V h [(p:Int)] [] T l aH aH K K v A W rfl rfl (fun r ay=>by cases ay) iX (fun x R=>by rw[aO.1 R];exact⟨p,V,rfl,bH⟩) J ae fun e a N z q aC=>hF _ _ rfl e a N z q aC
  |some cg=>
   obtain⟨q,aG⟩:=cg;rw[bf]at m;dsimp only at m;obtain⟨u1,u2,u3⟩:=ui bf;obtain⟨b0,b5⟩:=u2 n _ b4;obtain⟨bG,bi⟩:=u2 p _ bH;have br: ∀ ab,(∀ T l h g j i M F C P I E,hr d B0 lim aG ag (bE n ((hd.i:Int)+1) (hd.g:Int) 2 av 1 h 2 g j 2 i (f p q).2.2.x M F C P I E V 0 0 0 false aB) (f p q).2.2 M F C P I E T l h 2 g [(p:Int),(q:Int)] j 2 i [(f p q).1,(f p q).2.1] V 0 0 []→aP d T l lim aG u D ob nb cb aE→gq d B0 T l u ag D.nx (.func (.func aN) aU aS) a9 aQ aR→bD S w T l→a7 d u ab l Q)→a7 d u (ab+1+1) w Q:=by
    intro ab aV;refine bs (ab+1) fun T l h g s v A ae=>?_;have G:=qD s aA (aJ _) K K (Z fun q=>([(f p q).1,(f p q).2.1],(f p q).2.2)) ⟨rfl,fun q=>⟨(bC p q).aL ae.aL,rfl,fun x R=>by rcases bd.1 R with rfl|R;exact(bj p q).1;rw[aO.1 R];exact(bj p q).2⟩⟩;rw[bf]at G;have W:=eV (w:=l) (Q:=fun e a=>e=ap (ah false)∧∃ z bg a2 ob nb cb M F C P I E,bI d B0 T l lim aG ag (bE n ((hd.i:Int)+1) (hd.g:Int) 2 av 1 bg (1+1) a2 ob nb cb (f p q).2.2.x M F C P I E V 0 0 0 false aB) (f p q).2.2 M F C P I E z a bg (1+1) a2 ([(p:Int)]++[(q:Int)]) ob nb cb [(f p q).1,(f p q).2.1] V 0 0 []) s.box rfl rfl rfl (G.mono fun e a q=>⟨false,q.1,q.1,q.2⟩);refine iN v A W fun N ⟨aq,cf,bK,ce,cd,bJ,M,F,C,P,I,E,o⟩=>?_;obtain rfl:2=cd:=o.s.bm.len;exact aV aq N cf bK ce bJ M F C P I E o.now (v.av o.av o.mem ⟨v.c5,A.cH⟩) (A.av o.av) (ae.trans o.av.goes)
   clear bs;cases a8:b2 lim.count aG (f p q).1 with
   |no c=>
    rw[a8]at m;dsimp only at m;subst m;refine(br (1+0+2) fun T l h g j i M F C P I E s v A ae=>?_).more (by show 1+0+2+1+1≤11;omega);have G:=nt s aA (aJ _) K K (y:=(f p q).1) rfl (aY p q).1;rw[a8]at G;have W:=eV (w:=l) (Q:=k0 d B0 lim aG ag n ((hd.i:Int)+1) (hd.g:Int) 2 av (f p q).2.2 M F C P I E h 2 g [(p:Int),(q:Int)] j 2 i [(f p q).1,(f p q).2.1] V 0 0 [] 0 c T l) s.box rfl rfl rfl (G.mono fun e a ⟨t,aL,am,aI,aK⟩=>⟨_,am,t,aL,am,aI,aK⟩);exact l1 (S0:=S) (w0:=w) 0 2 g 0 V h [(p:Int),(q:Int)] [] T l aG aG K K v A W rfl rfl (fun r ay=>by cases ay) iX (fun x R=>by rcases bd.1 R with rfl|R;exact⟨p,_,rfl,bi⟩;rw[aO.1 R];exact⟨q,_,rfl,u1⟩) uX ae fun e a N z q aC=>hF _ _ rfl e a N z q aC
   |ok L aW=>
    rw[a8]at m;dsimp only at m;obtain⟨bO, -,bF, -, -⟩:=k4 a8;have bx:aW.ax=aG.ax:=by rw[bO]
    have bt: ∀ ab,(∀ T l h g j i M F C P I E az ax,hr d B0 lim aW ag (bE n ((hd.i:Int)+1) (hd.g:Int) 2 av 1 h 2 g j 2 i (f p q).2.2.x M F C P I E az 1 ax 1 false aB) (f p q).2.2 M F C P I E T l h 2 g [(p:Int),(q:Int)] j 2 i [(f p q).1,(f p q).2.1] az 1 ax [L]→aP d T l lim aW u D ob nb cb aE→gq d B0 T l u ag D.nx (.func (.func aN) aU aS) a9 aQ aR→bD S w T l→a7 d u ab l Q)→a7 d u (ab+1+1+1) w Q:=by
     intro ab aV;refine br (ab+1) fun T l h g j i M F C P I E s v A ae=>?_;have G:=nt s aA (aJ _) K K (y:=(f p q).1) rfl (aY p q).1;rw[a8]at G;have W:=eV (w:=l) (Q:=fun e a=>e=ap (ah false)∧∃ z aT aM,bI d B0 T l lim aW ag (bE n ((hd.i:Int)+1) (hd.g:Int) 2 av 1 h 2 g j 2 i (f p q).2.2.x M F C P I E aT (0+1) aM 1 false aB) (f p q).2.2 M F C P I E z a h 2 g [(p:Int),(q:Int)] j 2 i [(f p q).1,(f p q).2.1] aT (0+1) aM ([]++[L])) s.box rfl rfl rfl (G.mono fun e a q=>⟨false,q.1,q.1,q.2⟩);refine iN v A W fun N ⟨aq,aF,aD,o⟩=>?_;exact aV aq N h g j i M F C P I E aF aD o.now (v.av o.av o.mem ⟨v.c5,A.cH⟩) (A.av o.av) (ae.trans o.av.goes)
    clear br;cases bb:b2 lim.count aW (f p q).2.1 with
    |no c=>
     rw[bb]at m;dsimp only at m;subst m;refine(bt (1+1+2) fun T l h g j i M F C P I E az ax s v A ae=>?_).more (by show 1+1+2+1+1+1≤11;omega);have G:=nt s aA K K K (y:=(f p q).2.1) rfl (aY p q).2.1;rw[bb]at G;have W:=eV (w:=l) (Q:=k0 d B0 lim aW ag n ((hd.i:Int)+1) (hd.g:Int) 2 av (f p q).2.2 M F C P I E h 2 g [(p:Int),(q:Int)] j 2 i [(f p q).1,(f p q).2.1] az 1 ax [L] 1 c T l) s.box rfl rfl rfl (G.mono fun e a ⟨t,aL,am,aI,aK⟩=>⟨_,am,t,aL,am,aI,aK⟩);exact l1 (S0:=S) (w0:=w) 1 2 g ax az h [(p:Int),(q:Int)] [L] T l _ _ K K v A W rfl rfl (fun r ay=>by rw[aO.1 ay];exact⟨_,bF⟩) J (fun x R=>by rcases bd.1 R with rfl|R;exact⟨p,_,rfl,(by rw[bx];exact bi)⟩;rw[aO.1 R];exact⟨q,_,rfl,(by rw[bx];exact u1)⟩) uX ae fun e a N z q aC=>hF _ _ rfl e a N z q aC
    |ok al an=>
     rw[bb]at m;dsimp only at m;obtain⟨bP, -,bX,bW, -⟩:=k4 bb;obtain⟨bV,bY⟩:=bW L _ bF;have be:an.ax=aG.ax:=by rw[bP];exact bx
     have b7:p < an.ax.length:=by rw[be];exact(c3.1 bi).1
     have b8:q < an.ax.length:=by rw[be];exact(c3.1 u1).1
     have b9: (b1 an (p:Int) (Z L)).ax[q]?=Z (Z V):=by rw[nv bG,be];exact u1
     have bB: ∀ ab,(∀ T l h g j i M F C P I E az ax,hr d B0 lim (b1 (b1 an (p:Int) (Z L)) (q:Int) (Z al)) ag (bE n ((hd.i:Int)+1) (hd.g:Int) 2 av 3 h 2 g j 2 i (f p q).2.2.x M F C P I E az 2 ax 2 false aB) (f p q).2.2 M F C P I E T l h 2 g [(p:Int),(q:Int)] j 2 i [(f p q).1,(f p q).2.1] az 2 ax [L,al]→aP d T l lim (b1 (b1 an (p:Int) (Z L)) (q:Int) (Z al)) u D ob nb cb aE→gq d B0 T l u ag D.nx (.func (.func aN) aU aS) a9 aQ aR→bD S w T l→a7 d u ab l Q)→a7 d u (ab+1+1+1+1+1+1) w Q:=by
      intro ab aV;refine bt (ab+1+1+1) fun T l h g j i M F C P I E az ax s v A ae=>?_;have G:=nt s aA K K K (y:=(f p q).2.1) rfl (aY p q).2.1;rw[bb]at G;have W:=eV (w:=l) (Q:=fun e a=>e=ap (ah false)∧∃ z aT aM,bI d B0 T l lim an ag (bE n ((hd.i:Int)+1) (hd.g:Int) 2 av 2 h 2 g j 2 i (f p q).2.2.x M F C P I E aT (1+1) aM 0 false aB) (f p q).2.2 M F C P I E z a h 2 g [(p:Int),(q:Int)] j 2 i [(f p q).1,(f p q).2.1] aT (1+1) aM ([L]++[al])) s.box rfl rfl rfl (G.mono fun e a q=>⟨false,q.1,q.1,q.2⟩);refine iN v A W fun N ⟨aq,aF,aD,o⟩=>?_;have a3:=v.av o.av o.mem ⟨v.c5,A.cH⟩;have a6:=A.av o.av;have bM:=tc o.now aA K K (k:=0) (r:=L) (p:=p) rfl rfl (by rw[be];exact bi);have bw:=eV (w:=N) (Q:=fun e a=>e=ap (ah false)∧bI d B0 aq N lim (b1 an (p:Int) (Z L)) ag (bE n ((hd.i:Int)+1) (hd.g:Int) 2 av 2 h 2 g j 2 i (f p q).2.2.x M F C P I E aF 2 aD 1 false aB) (f p q).2.2 M F C P I E aq a h 2 g [(p:Int),(q:Int)] j 2 i [(f p q).1,(f p q).2.1] aF 2 aD [L,al]) o.box rfl rfl rfl (bM.mono fun e a q=>⟨false,q.1,q.1,q.2⟩);refine iN a3 a6 bw fun bm aX=>?_;have bq:=a3.av aX.av aX.mem ⟨a3.c5,a6.cH⟩;have bv:=a6.av aX.av;have bN:=tc aX.now aA K K (k:=1) (r:=al) (p:=q) rfl rfl b9;have bR:=eV (w:=bm) (Q:=fun e a=>e=ap (ah false)∧bI d B0 aq bm lim (b1 (b1 an (p:Int) (Z L)) (q:Int) (Z al)) ag (bE n ((hd.i:Int)+1) (hd.g:Int) 2 av 3 h 2 g j 2 i (f p q).2.2.x M F C P I E aF 2 aD 2 false aB) (f p q).2.2 M F C P I E aq a h 2 g [(p:Int),(q:Int)] j 2 i [(f p q).1,(f p q).2.1] aF 2 aD [L,al]) aX.box rfl rfl rfl (bN.mono fun e a q=>⟨false,q.1,q.1,q.2⟩);refine iN bq bv bR fun ci a1=>?_;exact aV aq ci h g j i M F C P I E aF aD a1.now (bq.av a1.av a1.mem ⟨bq.c5,bv.cH⟩) (bv.av a1.av) (((ae.trans o.av.goes).trans aX.av.goes).trans a1.av.goes)
     clear bt;cases bc:b2 lim.count (b1 (b1 an (p:Int) (Z L)) (q:Int) (Z al)) (f p q).2.2 with
     |no c=>
      rw[bc]at m;dsimp only at m;subst m;refine(bB (1+2+2) fun T l h g j i M F C P I E az ax s v A ae=>?_);have G:=lK s aA K K (aY p q).2.2;rw[bc]at G;have W:=eV (w:=l) (Q:=k0 d B0 lim (b1 (b1 an (p:Int) (Z L)) (q:Int) (Z al)) ag n ((hd.i:Int)+1) (hd.g:Int) 2 av (f p q).2.2 M F C P I E h 2 g [(p:Int),(q:Int)] j 2 i [(f p q).1,(f p q).2.1] az 2 ax [L,al] 2 c T l) s.box rfl rfl rfl (G.mono fun e a ⟨t,aL,am,aI,aK⟩=>⟨_,am,t,aL,am,aI,aK⟩);exact l1 (S0:=S) (w0:=w) 2 2 g ax az h [(p:Int),(q:Int)] [L,al] T l _ _ K K v A W rfl rfl (fun r ay=>by rcases bd.1 ay with rfl|ay;exact⟨_,bY⟩;rw[aO.1 ay];exact⟨_,bX⟩) (by simp only[fN,aO,c0,not_false_eq_true,iX,and_true];exact bV) (fun x R=>by rcases bd.1 R with rfl|R;exact⟨p,_,rfl,(by rw[nv (Ne.symm bG)];exact qH b7)⟩;rw[aO.1 R];exact⟨q,_,rfl,(qH (by show q < (an.ax.set _ _).length;rw[jz];exact b8))⟩) uX ae fun e a N z q aC=>hF _ _ rfl e a N z q aC
     |ok bl bp=>
      rw[bc]at m;dsimp only at m;subst m;obtain⟨bQ, -, -, -, -⟩:=k4 bc;have b6:bp.ax[n]?=Z (Z (Z hd)):=by
       rw[bQ];show(b1 (b1 an (p:Int) (Z L)) (q:Int) (Z al)).ax[n]?=_;rw[nv (Ne.symm b0),nv (Ne.symm bZ),be];exact b5
      refine(bB (1+1) fun T l h g j i M F C P I E az ax s v A ae=>?_);have G:=lK s aA K K (aY p q).2.2;rw[bc]at G;have W:=eV (w:=l) (Q:=fun e a=>e=ap (ah false)∧∃ z aT aM,bI d B0 T l lim bp ag (bE n ((hd.i:Int)+1) (hd.g:Int) 2 av 4 h 2 g j 2 i (f p q).2.2.x M F C P I E aT (2+1) aM 2 false aB) (f p q).2.2 M F C P I E z a h 2 g [(p:Int),(q:Int)] j 2 i [(f p q).1,(f p q).2.1] aT (2+1) aM ([L,al]++[bl])) s.box rfl rfl rfl (G.mono fun e a q=>⟨false,q.1,q.1,q.2⟩);refine iN v A W fun N ⟨aq,aF,aD,o⟩=>?_;have a3:=v.av o.av o.mem ⟨v.c5,A.cH⟩;have a6:=A.av o.av;have bU:=qC (q:=Z hd) o.now aA K (r:=bl) rfl b6;have bw:=eV (w:=N) (Q:=fun e a=>e=ap (ah true)∧bI d B0 aq N lim (b1 bp (n:Int) (Z bl)) ag (bE n ((hd.i:Int)+1) (hd.g:Int) 2 av 7 h 2 g j 2 i (f p q).2.2.x M F C P I E aF 3 aD 2 true aB) (f p q).2.2 M F C P I E aq a h 2 g [(p:Int),(q:Int)] j 2 i [(f p q).1,(f p q).2.1] aF 3 aD [L,al,bl]) o.box rfl rfl rfl (bU.mono fun e a q=>⟨true,q.1,q.1,q.2⟩);exact xu a3 a6 bw bL fun a cc aC=>bS _ rfl a aq cc ((ae.trans o.av.goes).trans aC)
end
section
structure sf (d:aV) (S:List Nat) (w:ad) (lim:aK) (B:az) (s:Nat) (W:eT) (aC p:Nat) (hd r:aA) (b:List ar) (a:List aA):Prop where
 h:di d S w lim B s W
 lo:W.lo=aa aC
 cQ:W.cQ=false
 L:gZ aC S w aC p hd (Z r) false b a
 cH:s < aC
theorem bn.under{d:List Nat}{c:Nat}(e:bn d c S w z a)(f:b≤c):bn d b S w z a:=e.wide fun x _ q=>q.imp id fun q=>by omega
theorem sf.w2{f:List ar}{e:List aA}(a:sf d S w lim B s W aC p hd r f e): ∀ b∈d.l,b < aC:=fun b c=>rQ (a.h.e4 b c) a.cH
theorem Er(ab:dH f)(ag:W.fU= .func (.func f) first cap): ∀ (k:List aA) (c:List ar) (r:aA) (y:ar) (h:List ar) (j:List aA) (T:List Nat) (l:ad),
  sf d T l lim B s W aC p hd r h j→fp B (r::k) (y::c)→(∀ x∈y::c,bT x)→h.length=j.length→(j++r::k).length≤lim.aQ→(∀ x∈h++y::c,bT x)→dw (h++y::c)=Z (.leaf g)→bn d.l s S0 w0 T l→
  (∀ a z aF,di d z a lim B s W→cd (ay a z) p hd (h++y::c).length (.leaf g) aF→bn d.l s S0 w0 z a→ao aj f (first.push (aw aF)++cap) a (bW d lim s S0 w0 m Q))→
  ep d lim s S0 w0 (k.length+1+m) l Q:=by
 intro k;induction k with
 |nil=>
  intro c r y h j T l b F v w n G L t D;obtain ⟨K,M,u⟩:=F;cases c with
  |cons av c=>exact u.elim
  |nil=>
   have ae:=b.h.mem.lim.aQ;rw [dG] at n;rw [show ([]:List aA).length+1+m=m+1 by simp;omega];refine ep.step t b.h.mem ?_;have E:=ri b.h.mem b.w2 b.L K (v y J) (nx:=V) M w (by simp at n;omega) (.inl rfl);refine Ep (R:=fun a=> ∃ z,gZ aC z a aC p hd V true (h++[y]) (j++[r])∧aX d z a lim B∧bn d.l aC T l z a) b.h.box b.cQ b.lo (E.mono fun e a ⟨o,i⟩=>⟨o,i⟩) fun a ⟨z,o,i,A⟩=>?_;have N:=b.h.av A i ⟨b.h.iJ,b.cH⟩;refine Fa N.box b.lo ag (yl i.old o (by simp at n ⊢;omega) (by simp at n ⊢;omega) G L) ab fun am aF P aa=>?_;exact (D am z aF (N.aC P) (aa z i.old) (t.trans ((A.under (fE b.cH)).trans (Y.av P)))).mono fun e aq q=>q.bool
 |cons C k ih=>
  intro c r y h j T l b F v w n G L t D;obtain ⟨K,M,u⟩:=F;cases c with
  |nil=>exact u.elim
  |cons an c=>
   have ae:=b.h.mem.lim.aQ;have I:=n;rw [dG] at I;have E:=ri b.h.mem b.w2 b.L K (v y J) (nx:=Z C) M w (by simp at I;omega) (.inr (by simp at I;omega));rw [show (C::k).length+1+m=(k.length+1+m)+1 by simp;omega];refine ep.step t b.h.mem ?_;refine (xn (R:=fun a=> ∃ z,gZ aC z a aC p hd (Z C) false (h++[y]) (j++[r])∧aX d z a lim B∧bn d.l aC T l z a) b.h.box b.cQ b.lo (E.mono fun e a ⟨o,i⟩=>⟨o,i⟩)).mono fun e a ⟨o,z,i,A,S⟩=> .inr ⟨o,?_⟩;refine ih c C an (h++[y]) (j++[r]) z a ⟨b.h.av S A ⟨b.h.iJ,b.cH⟩,b.lo,b.cQ,i,b.cH⟩ u (fun x al=>v x (h5 _ al)) (by simp [w]) (by simpa using n) (by simpa using G) (by simpa using L) (t.trans (S.under (fE b.cH))) ?_;simpa using D
theorem nw(ab:dH f)(c:iH d S w lim B s W am.n aC)(L:W.cQ=false)(al:W.fU= .func (.func f) first cap)(F:dS lim B am)(k:am.refs.head?=Z hd)(K:am.nd= .leaf g)(I:bn d.l s S0 w0 S w)
  (E: ∀ a z aF,di d z a lim B s W→cd (ay a z) am.n hd am.refs.length (.leaf g) aF→bn d.l s S0 w0 z a→ao aj f (first.push (aw aF)++cap) a (bW d lim s S0 w0 m Q)):
  ep d lim s S0 w0 (1+am.refs.length+m) w Q:=by
 obtain ⟨n,aY,an,bb⟩:=am;obtain ⟨p,M⟩:=fP F.hU;dsimp only at M k c K E ⊢;subst M;subst K;obtain ⟨x,N,A,h,C,D,j⟩:=F;dsimp only at x N A h C D j;cases aY with
 |nil=>exact absurd rfl x
 |cons r v=>
  simp only [List.head?_cons,eS] at k;subst k;cases an with
  |nil=>exact h.elim
  |cons y aq=>
   rw [show 1+(r::v).length+m=(v.length+1+m)+1 by simp;omega];have P: ∀ b∈d.l,b < aC:=fun b i=>rQ (c.h.e4 b i) c.cH;have aa:aC∉d.l:=fun q=>dk _ (P _ q);have T:=zc (hd:=r) c.h.mem c.e2 aa c.box (by simpa using A);refine ep.step I c.h.mem ?_;refine (xn (R:=fun a=>ae a aC (gB p true false ((r.i:Int)+1) (r.g:Int) ((r.i:Int)+1) (r.g:Int) V 0 0 V 0 0 aB)∧aX d S a lim B∧Mod [d.m,aC] w a) c.h.box L c.lo (T.mono fun e a ⟨l,o,t,u⟩=>⟨l,o,t,u⟩)).mono fun e a ⟨l,o,t,u⟩=> .inr ⟨l,?_⟩;have G:bn d.l aC S w S a:=u.av fun b i=>by
    simp only [bd,c0,db] at i;rcases i with rfl|rfl
    ·exact ⟨c.h.mem.sub _ J,.inl J⟩
    ·exact ⟨c.e2,.inr (aG _)⟩
   have ag:=h.len;refine Er ab al v aq r y [] [] S a ⟨c.h.av G t ⟨c.h.iJ,c.cH⟩,c.lo,L,gZ.first c.e2 (aG _) o,c.cH⟩ h j rfl (by simpa using D) (by simpa using j) C (I.trans (G.under (fE c.cH))) ?_;rw [gJ,ag];exact E
end
theorem Di:dH 168:=fun args l=>fj Tryz.func168 G rfl args l
section
structure sy (S:List Nat) (w:ad) (u:Nat) (nx:ak) (x y n:Int) (aQ aZ aR:Nat):Prop where
 nx:nx= .func (.func 168) #[] #[aa aQ,aa aZ,aa aR]
 mq: (ay w S).cell? ⟨aQ,0,V⟩=Z (aa u)
 IQ: (ay w S).cell? ⟨aZ,0,V⟩=Z (O U x)
 IS: (ay w S).cell? ⟨aZ,1,V⟩=Z (O U y)
 hR: (ay w S).cell? ⟨aR,0,V⟩=Z (O U n)
def qf (d:aV) (S:List Nat) (lim:aK) (B:az) (u:Nat) (D:bU) (ob:Option ai) (nb cb:Nat) (aE:List ak) (x y n:Int) (w:ad) (e:Ending) (a:ad):Prop:=
 e=ap (ah false)∧∃ nx aQ aZ aR,aP d S a lim B u {D with nx:=nx} ob nb cb aE∧sy S a u nx x y n aQ aZ aR∧bD S w S a
theorem uc(g:aP d S w lim B u D ob nb cb aE)(x y n:Int):
  ao aj 140 #[aa u,aw #[x,y],n] w (qf d S lim B u D ob nb cb aE x y n w):=by
 obtain ⟨k,i,p,r, -⟩:=vP w 35 78 3 (aa u) (O U n) [O U x,O U y];have hold:=g.mem.old;have f:=N g;clear g;go_enter Tryz.func140,Tryz.ntmps140;go_upto_region 1 with fail
 show Code.wp _ _ _ _ (((H w (X #[aa u] 35)).alloc (X [O U x,y].toArray 78)).alloc (X #[O U n] 3));generalize ((H w (X #[aa u] 35)).alloc (X [O U x,y].toArray 78)).alloc (X #[O U n] 3)=o at *;have h:=f.out.aC k;have E:=i.cell 0 rfl;have v:=N (iS h 168 #[] #[aa w,aa (w.heap.size+1),aa (w.heap.size+2)]);have m:=N h;clear h;go_wp2_with (go_at_call 57;(with_reducible refine v.out.mono ?_);rintro e C ⟨rfl,rfl⟩);go_ret;have a:=Mod.setCell (S:=[u]) o ⟨u,11,V⟩ (.func (.func 168) #[] #[aa w,aa (w.heap.size+1),aa (w.heap.size+2)]) J;have A:=f.out.lt;have c: ∀ l,w.heap.size+l∉S:=fun l q=>by have:=hold _ q;omega
 have s:=a.box cJ i;have j:=a.box cJ p;have t:=a.box cJ r;exact ⟨rfl,_,w.heap.size,w.heap.size+1,w.heap.size+2,m.out.next _,⟨rfl,bp.2 ⟨c 0,s.cell 0 rfl⟩,bp.2 ⟨c 1,j.cell 0 rfl⟩,bp.2 ⟨c 1,j.cell 1 rfl⟩,bp.2 ⟨c 2,t.cell 0 rfl⟩⟩,(Y.av k).trans (a.av fun b z=>by rw [aO.1 z];exact ⟨f.out.cE,.inr (aJ _)⟩)⟩
theorem G9(r:aP d S w lim B u D ob nb cb aE)(ar:sy S w u D.nx (a4 aY.head?).1 (a4 aY.head?).2 n aQ aZ aR)(t:nb≤1000000):
  ao aj 168 #[aa d.m,aa aQ,aa aZ,aa aR] w (eh d lim u D (D.bin++[⟨B.now,aY,n⟩]) D.wr S w B):=by
 obtain ⟨aA,R,T,W,ab⟩:=ar;have F:=N r;have M:=N t;clear r t;go_enter Tryz.func168,Tryz.ntmps168;go_upto_region 1 with fail
 refine cZ (fun _=>True) (fun a=>(ay a S).cell? aQ=Z (aa u)∧(ay a S).cell? aZ=Z (O U (a4 aY.head?).1)∧(ay a S).cell? ⟨aZ,1,V⟩=Z (O U (a4 aY.head?).2)∧(ay a S).cell? aR=Z (O U n)) 8 G ?_;have f:True:=trivial;have p:=(Y.refl w).drew;have i:=bX p S;have hKC:=And.intro (i.cell _ _ _ R) (And.intro (i.cell _ _ _ T) (And.intro (i.cell _ _ _ W) (i.cell _ _ _ ab)));have j:=F.out.aC p;have I:=N (x6 j.mem);generalize w.drew=P at *;refine' bc (v:=aa u) 0 6 rfl (.inl ⟨aq,?_⟩) f hKC ?_
 ·(intro w c;have y:=(bp.1 c.2.1).2;clear c;go_simp)
 refine' aI 1 7 (aa u) rfl f hKC ?_;refine' aI 2 8 (au (Z ⟨u,1,V⟩)) rfl f hKC ?_;refine' aI 3 9 (aa d.m) rfl f hKC ?_;refine' bc (v:=aw #[O U (a4 aY.head?).1,O U (a4 aY.head?).2]) 5 11 rfl (.inl ⟨aq,?_⟩) f hKC ?_
 ·(intro w c;have y:=(bp.1 c.2.2.1).2;have aC:=(bp.1 c.2.2.2.1).2;clear c;go_simp)
 refine' bc (v:=O U n) 6 12 rfl (.inl ⟨aq,?_⟩) f hKC ?_
 ·(intro w c;have y:=(bp.1 c.2.2.2.2).2;clear c;go_simp)
 refine b4 4 (Z 10) rfl (fun k g=>?_);go_simp;go_at_call 12;refine I.out.mono ?_;rintro e ax ⟨rfl,s,an⟩;have m:bn d.l (u+1) S P S ax:=an.av fun b am=>by rw [aO.1 am];exact ⟨s.sub _ J,.inl J⟩
 have A:=j.av m s ⟨j.c5,oc _⟩;have h:=m.aL;have l:=And.intro (h.cell _ _ _ hKC.1) (And.intro (h.cell _ _ _ hKC.2.1) (And.intro (h.cell _ _ _ hKC.2.2.1) (h.cell _ _ _ hKC.2.2.2)));have x:=h.cell _ _ _ hKC.1;refine a5 g (trivial) (fun _=>l) ?_;clear g k;have hKC:=l;have C:=N (BN A ⟨B.now,aY,n⟩ M.out);refine' aI 7 13 (aw #[O U (B.now:Int),O U (a4 aY.head?).1,O U (a4 aY.head?).2,n]) rfl f hKC ?_;refine cg 8 (Z 14) rfl (fun k g=>?_);go_simp;go_at_call 169;refine C.out.mono ?_;rintro e aD ⟨rfl,av,Q,q,o⟩;refine bM g (trivial) ?_;clear g k;refine cC G ?_;have az:=(dv _ _).cell _ _ _ (o.aL.cell _ _ _ x);have E:=N (oC q);have K:=N (((Y.av (L:=[]) (B0:=0) (S:=S) p).trans m.goes).trans o);clear hKC l q o x;go_wp2_with (go_at_call 60;(with_reducible refine E.out.mono ?_);rintro e aF ⟨rfl,nx,z,ae,ag,al⟩);go_ret;exact ⟨rfl,nx,z,av,nb+1,Q,ae,ag,K.out.trans al⟩
theorem po(a:aP d S w lim B u D ob nb cb aE)(b:sy S w u D.nx (a4 aY.head?).1 (a4 aY.head?).2 n aQ aZ aR)(f:D.bin.length≤1000000):
  a7 d u 1 w (eh d lim u D (D.bin++[⟨B.now,aY,n⟩]) D.wr S w B):=by
 have c:w.cell? ⟨u,11,V⟩=Z (.func (.func 168) #[] #[aa aQ,aa aZ,aa aR]):=by rw[←b.nx];exact a.box.cell 11 rfl
 refine a7.one (pq (first:= #[]) (cap:= #[aa aQ,aa aZ,aa aR]) c Di ?_);exact(G9 a b (by rw[←a.bin.len];exact f)).mono fun e g q=>⟨false,q.1,q⟩
end
section
variable {Q : Ending → ad → Prop}
theorem mG{ab s:Option bQ}{G:dI}(L:de lim ax B wr n ab k am s G): ∀ (S:List Nat) (w:ad) (nx:ak) (aE:List ak),D.c.key=ax→D.wr=wr→
  aP d S w lim B u {D with ab:=ab,nx:=nx} ob nb cb aE→ff d S w u {D with ab:=ab,nx:=nx} n→bD S0 w0 S w→
  (∀ z a P W hd aF,am.refs.head?=Z hd→dS lim B am→aP d z a lim B u {D with ab:=s,nx:=P} ob nb cb W→cd (ay a z) am.n hd am.refs.length am.nd aF→dX am.nd am.refs.length am.n (s.map bQ.view) D.c.key lim D.wr=G→bD S0 w0 z a→
   ao aj 103 #[aa u,aw aF,aw (bC lim)] a fun e J=> ∃ b,e=ap (ah b)∧Q e J)→a7 d u k w Q:=by
 induction L with
 |stop f hd ae=>
  rename_i am ab G;intro S w nx aE aD g E F C A;obtain⟨p,q⟩: ∃ p,am.refs.head?=Z p:=by
   cases I:am.refs with
   |nil=>exact absurd I f.ne
   |cons r R=>exact⟨r,rfl⟩
  exact tJ E F f q fun a z aF t x y=>A z a nx aE p aF q f t x (by rw[aD,g];exact hd) (C.trans y)
 |right f hd M ih=>
  rename_i am K ab s dst k G;intro S w nx aE aD g E F C A;obtain⟨p,q⟩: ∃ p,am.refs.head?=Z p:=by
   cases I:am.refs with
   |nil=>exact absurd I f.ne
   |cons r R=>exact⟨r,rfl⟩
  refine a7.trans (tJ (Q:=fun e l=>p7 d lim B u {D with ab:=ab,nx:=nx} ab S0 w0 ob nb cb dst e l) E F f q fun a z aF t x y=>?_) fun e l ⟨c,h,T,o,i,j,m⟩=>⟨c,ih T l h o aD g i j m A⟩;exact(Cz t x (by show dX am.nd am.refs.length am.n (ab.map bQ.view) D.c.key lim D.wr= .gM dst;rw[aD,g];exact hd)).mono fun e J ⟨c,h,T,o,i,j,m⟩=>⟨false,c,c,h,T,o,i,j,(C.trans y).trans m⟩
 |down f N q hd M ih=>
  rename_i am K ab s dst k G v cT;intro S w nx aE aD g E F C A;refine a7.trans (tJ (Q:=fun e l=>p7 d lim B u {D with ab:=ab,nx:=nx} (Z ⟨am.n,cT,v⟩) S0 w0 ob nb cb dst e l) E F f q fun a z aF t x y=>?_) fun e l ⟨c,h,T,o,i,j,m⟩=>⟨c,ih T l h o aD g i j m A⟩;exact(CF N t x (by show dX am.nd am.refs.length am.n (ab.map bQ.view) D.c.key lim D.wr= .down dst;rw[aD,g];exact hd)).mono fun e J ⟨c,h,T,o,i,j,m⟩=>⟨false,c,c,h,T,o,i,j,(C.trans y).trans m⟩
end
theorem Dd:dH 208:=fun args l=>fj Tryz.func208 G rfl args l
section
theorem Ew{x:fc}(a8:w.rangeAt b 0 (an x M F C P I E))(s:Option ai)(n c:Nat):ao aj 208 #[ac s n c,aa b] w fun e a=>e=ap (a0 #[ac V 0 0,aW x M F C P I E])∧Y w a∧∃ i,w.heap.size≤i∧Mod [i] w a:=by
 have k:Y w (H w (X al 85)):=(Y.refl w).alloc _;have p:ae (H w (X al 85)) w.heap.size al:=(ae.new w _ _ rfl).of J;have m:=k.range a8;clear a8;go_enter Tryz.func208,Tryz.ntmps208;go_upto_region 1 with fail
 generalize H w (X al 85)=d at *;refine cZ (fun _=>True) (fun a=>a.rangeAt b 0 (an x M F C P I E)) 2 G ?_;have r:True:=trivial;have hKC:=(Y.refl d).drew.range m;have h:=p.I (Y.refl d).drew;have l:Y w d.drew:=k.trans (Y.refl d).drew;generalize d.drew=t at *;refine' bc 0 5 rfl (cj aq _ _ rfl _ _ rfl _ _ (fun w q=>q.2) cG rfl G) r hKC ?_;refine b4 1 (Z 3) rfl (fun g f=>?_);go_simp;refine a5 f (trivial) (fun _=>hKC) ?_;clear f g;refine j9 (j:=2) (o:={dst:=V,op:= .store 85 (.tmp 4) (.tmp 5),type:=_,pos:=_,after:=_,guard:=V}) rfl G G (fun g f=>?_);refine a6 aq ?_;refine dQ _ _ _ rfl _ _ (an x M F C P I E).toArray rfl rfl h.may G du ?_;simp only [bu];refine bM f (trivial) ?_;clear f g;refine cC G ?_;go_wp2_with fail;refine bH ((h.aR (us:=an x M F C P I E) rfl).ph rfl _ rfl rfl cG rfl G) rfl ?_;exact ⟨rfl,l.setCells (aG _) _ _,w.heap.size,aG _,(l.mod _).trans (Mod.setCells J _ _ _)⟩
structure sg (d:aV) (B0:Nat) (S:List Nat) (w:ad) (lim:aK) (B:az) (s ag:Nat) (W:eT) (p:Nat) (hd:aA) (y:ar) (av:ak) (no:Option ai) (aM aL:Nat) (M:Option ai) (F C:Nat) (P:Option ai) (I E:Nat):Prop where
 h:di d S w lim B s W
 lo:W.lo=au V
 gT:W.gT=aa ag
 p1:hr d B0 lim B ag (bE p ((hd.i:Int)+1) (hd.g:Int) 0 av 3 V 0 0 no aM aL y.x M F C P I E V 0 0 0 false aB) y M F C P I E S w V 0 0 [] no aM aL [] V 0 0 []
 cH:s < B0
def vh (d:aV) (lim:aK) (B:az) (s:Nat) (W:eT) (eU:ak) (p:Nat) (hd:aA) (y:ar) (S:List Nat) (w:ad) (e:Ending) (a:ad):Prop:=
 e=ap (ah false)∧∃ B0 z ag av no aM aL M F C P I E,sg d B0 z a lim B s ag {W with lo:=au V,gT:=aa ag,eU:=eU} p hd y av no aM aL M F C P I E∧bn d.l s S w z a
theorem tq(o:di d S w lim B s W)(p:Nat)(hd:aA)(y:ar)(M:Option ai)(F C:Nat)(P:Option ai)(I E:Nat)(D:b3 (ay w S) y M F C P I E)(aN:FuncId)(aU aS:Array ak):
  ao aj 199 #[aa s,(p:Int),j2 hd,aW y.x M F C P I E,.func (.func aN) aU aS] w (vh d lim B s W (.func (.func aN) aU aS) p hd (nx y hd) S w):=by
 have G:Y w ((H w (X #[O U ((hd.i:Int)+1),(hd.g:Int)] 78)).alloc (X (an y.x M F C P I E) 85)):=((Y.refl w).alloc _).alloc _;have m:ae ((H w (X #[O U ((hd.i:Int)+1),(hd.g:Int)] 78)).alloc (X (an y.x M F C P I E) 85)) w.heap.size [O U ((hd.i:Int)+1),(hd.g:Int)]:=((ae.new w _ _ rfl).of J).I ((Y.refl _).alloc _);have u:ae ((H w (X #[O U ((hd.i:Int)+1),(hd.g:Int)] 78)).alloc (X (an y.x M F C P I E) 85)) (w.heap.size+1) (an y.x M F C P I E):=(ae.new (H w _) _ _ dW).of J;have j:=N o;have al:=N D;have hold:=o.mem.old;have K:=o.lt;clear o D;go_enter Tryz.func199,Tryz.ntmps199;go_upto_region 1 with fail
 show Code.wp _ _ _ _ ((H w (X #[O U ((hd.i:Int)+1),(hd.g:Int)] 78)).alloc (X (an y.x M F C P I E) 85));generalize (H w (X #[O U ((hd.i:Int)+1),(hd.g:Int)] 78)).alloc (X (an y.x M F C P I E) 85)=k at *;have T:=m.cell 0 rfl;have x1:=m.cell 1 rfl;have L:=u.fi 13 2 J;have x:=(u.part 13 [O U ((hd.i:Int)+1),(hd.g:Int)] J).of (us:=an (nx y hd).x M F C P I E) rfl;have i:Mod [w.heap.size+1] k (ba k (w.heap.size+1) 13 [O U ((hd.i:Int)+1),(hd.g:Int)]):=Mod.setCells J _ _ _;have t:=i.box J m;have f:Y w (ba k (w.heap.size+1) 13 [O U ((hd.i:Int)+1),(hd.g:Int)]):=G.setCells (gl _) _ _;go_upto_region 2 with (with_reducible refine hY 78 (L) ([O U ((hd.i:Int)+1),(hd.g:Int)]) ?_)
 generalize ba k (w.heap.size+1) 13 [O U ((hd.i:Int)+1),(hd.g:Int)]=b at *;clear T x1 m u L i G;have T:=t.cell 0 rfl;have x1:=t.cell 1 rfl;have A:fA S b (.func (.func 208) #[] #[aa (w.heap.size+1)]) [] [] (nx y hd):=lc Dd (fun l aT n c aI=>Ew aI aT n c) (fun aJ a6 aH=>bp.2 ⟨fun q=>by have:=hold _ q;omega,by rw [cv];exact x.cell aJ aH⟩) ((al.out.ex (bX f S)).h0 (Z hd));have ab:=N (la (j.out.aC f).mem (p:=(p:Int)) (a1:=(hd.i:Int)+1) (a2:=(hd.g:Int)) A b (Y.refl b));have Q: ∀ a z,bn d.l b S b z a→a.frozen? ⟨s,7,V⟩=false∧a.frozen? ⟨s,8,V⟩=false∧a.frozen? ⟨s,10,V⟩=false∧a.cell? ⟨s,7,V⟩=Z W.lo∧a.cell? ⟨s,8,V⟩=Z W.gT∧a.cell? ⟨s,10,V⟩=Z W.eU:=fun a z aF=>by
  have g:=aF.box (.inr ⟨j.out.iJ,dR K f.le⟩) (j.out.aC f).box;exact ⟨g.free 7 J,g.free 8 J,g.free 10 J,g.cell 7 rfl,g.cell 8 rfl,g.cell 10 rfl⟩
 have am:=N Q;clear Q x t A;go_wp2_with (go_at_call 159;(refine ab.out.mono ?_);rintro e R ⟨ag,z,rfl,aE,v,aD,a5⟩;(obtain ⟨a3,a4,aZ,aX,aY,aV⟩:=am.out _ _ v));go_ret;have r:s < b.heap.size:=dR K f.le;have h:=(j.out.aC f).av v aD ⟨j.out.iJ,r⟩;have i:Mod [s] R (((R.setCell ⟨s,8,V⟩ (aa ag)).setCell ⟨s,7,V⟩ (au V)).setCell ⟨s,10,V⟩ (.func (.func aN) aU aS)):=((Mod.setCell _ _ _ J).trans (Mod.setCell _ _ _ J)).trans (Mod.setCell _ _ _ J);have aC:=h.wrote (X':={W with lo:=au V,gT:=aa ag,eU:= .func (.func aN) aU aS}) i ((((h.box.set 8 (aa ag)).set 7 (au V)).set 10 (.func (.func aN) aU aS)).of rfl) ⟨rfl,rfl,rfl,rfl⟩ h.b6 rfl;obtain ⟨no,aM,aL,aQ,aK,ax,aR,aP,az,av⟩:=aE;have aq:=av.under i (fun c aG=>by rw [aO.1 aG];exact ⟨h.jf,h.iJ,r⟩);exact ⟨rfl,b.heap.size,z,ag,_,no,aM,aL,aQ,aK,ax,aR,aP,az,⟨aC,rfl,rfl,aq,r⟩,((Y.av f).trans (v.under (fE r))).trans (h.own i)⟩
theorem qK(c:sg d B0 S w lim B s ag W p hd y av no aM aL M F C P I E)(x:W.cQ=false)(am:bT y)(aq:B.ax[p]?=Z (Z (Z hd)))(u:b2 lim.count B y= .ok r aH)(J:dH aN)(ae:W.eU= .func (.func aN) aU aS)(v:bn d.l s S0 w0 S w)
  (ab: ∀ a z,di d z a lim (b1 aH (p:Int) (Z r)) s W→(∃ A o,hr d B0 lim (b1 aH (p:Int) (Z r)) ag (bE p ((hd.i:Int)+1) (hd.g:Int) 0 av 7 V 0 0 no aM aL y.x M F C P I E A 1 o 0 true aB) y M F C P I E z a V 0 0 [] no aM aL [] A 1 o [r])→bn d.l s S w z a→ao aj aN (aU.push (ah true)++aS) a (bW d lim s S0 w0 m Q)):ep d lim s S0 w0 (2+m) w Q:=by
 obtain⟨N, -⟩:=k4 u;have ar:aH.ax[p]?=Z (Z (Z hd)):=by rw[N];exact aq
 have t: ∀ b∈d.l,b < B0:=fun b al=>rQ (c.h.e4 b al) c.cH;have hF:=lK c.p1 t (aJ _) (aJ _) am;rw[u]at hF;have T:=eV (w:=w) c.p1.box rfl rfl rfl ((hF.mono fun e a q=>(⟨false,q.1,q⟩: ∃ b,e=ap (ah b)∧_)));rw[show 2+m=(1+m)+1 by omega];refine ep.step v c.h.mem ?_;refine(Em (R:=fun a=> ∃ z j h,bI d B0 S w lim aH ag (bE p ((hd.i:Int)+1) (hd.g:Int) 0 av 4 V 0 0 no aM aL y.x M F C P I E j 1 h 0 false aB) y M F C P I E z a V 0 0 [] no aM aL [] j 1 h [r]) c.h.box x c.lo c.gT T).mono fun e a ⟨D,z,j,h,R⟩=> .inr ⟨D,?_⟩;have i:=c.h.av R.av R.mem ⟨c.h.iJ,c.cH⟩;have n:=R.now;have L:=qC n t K (r:=r) rfl ar;have aa:=eV n.box rfl rfl rfl (L.mono fun e a q=>(⟨true,q.1,q⟩: ∃ b,e=ap (ah b)∧_));have an:=v.trans (R.av.under (fE c.cH));rw[show 1+m=m+1 by omega];refine ep.step an i.mem ?_;refine Eo (f:=aN) (first:=aU) (cap:=aS) (R:=fun k=>bI d B0 z a lim (b1 aH (p:Int) (Z r)) ag (bE p ((hd.i:Int)+1) (hd.g:Int) 0 av 7 V 0 0 no aM aL y.x M F C P I E j 1 h 0 true aB) y M F C P I E z k V 0 0 [] no aM aL [] j 1 h [r]) i.box x c.lo c.gT ae aa (fun k g=>?_) (fun k g=>nn g.box) J (fun k ax g l=>?_)
 ·exact(i.av g.av g.mem ⟨i.iJ,c.cH⟩).box
 ·have G:=(i.av g.av g.mem ⟨i.iJ,c.cH⟩).aC l;exact(ab ax z G ⟨j,h,(g.aC l).now⟩ (((R.av.under (fE c.cH)).trans (g.av.under (fE c.cH))).trans (Y.av l))).mono fun e ay q=>q.bool
theorem Ev{c:Int}(f:sg d B0 S w lim B s ag W p hd y av no aM aL M F C P I E)(G:W.cQ=false)(D:bT y)(x:b2 lim.count B y= .no c)(l:bn d.l s S0 w0 S w)
  (r: ∀ a z v,di d z a lim B s {W with cQ:=true,hS:=false,gx:=v}→cm (ay a z) v c→bn d.l s S0 w0 z a→Q a):ep d lim s S0 w0 1 w Q:=by
 have q: ∀ b∈d.l,b < B0:=fun b A=>rQ (f.h.e4 b A) f.cH;have hF:=lK f.p1 q (aJ _) (aJ _) D;rw[x]at hF;have u:=eV (w:=w) (Q:=fun e a=>e=ap (ah true)∧∃ t g,cm (ay a S) (.iface t g) c∧bI d B0 S w lim B ag (bE p ((hd.i:Int)+1) (hd.g:Int) 0 av 7 V 0 0 no aM aL y.x M F C P I E V 0 0 0 false (.iface t g)) y M F C P I E S a V 0 0 [] no aM aL [] V 0 0 []) f.p1.box rfl rfl rfl (hF.mono fun e a ⟨t,g,h,J,K⟩=>⟨true,h,h,t,g,J,K⟩);refine ep.step (n:=0) l f.h.mem ?_;refine En (R:=fun a t g=>cm (ay a S) (.iface t g) c∧bI d B0 S w lim B ag (bE p ((hd.i:Int)+1) (hd.g:Int) 0 av 7 V 0 0 no aM aL y.x M F C P I E V 0 0 0 false (.iface t g)) y M F C P I E S a V 0 0 [] no aM aL [] V 0 0 []) f.h.box G f.lo f.gT u (fun a t g ⟨h,R⟩=>?_) (fun a t g ⟨h,R⟩=>nn R.box) (fun a N t g ⟨h,R⟩ j=>?_)
 ·exact(f.h.av R.av R.mem ⟨f.h.iJ,f.cH⟩).box
 ·have i:=(f.h.av R.av R.mem ⟨f.h.iJ,f.cH⟩).aC j;refine(wl i false (.iface t g) (.inr ⟨t,g,rfl⟩)).mono fun e L ⟨k,o,m⟩=>⟨true,k,.inl ⟨k,?_⟩⟩;exact r L S _ o (cm.ex (cm.ex h (bX j S)) (i.own m).aL) (((l.trans (R.av.under (fE f.cH))).trans (Y.av j)).trans (i.own m))
theorem D5{l:List ak}{hd:ar}{N:Option ai}{R C:Nat}{P:Option ai}{T D:Nat}{op:Option ai}{M A:Nat}{Q:List Int}{y:List ar}{s:Option ai}{c:Nat}(k:hr d B0 lim B ag l hd N R C P T D S w op M A Q no aM aL y s 1 c [r])(F:l[25]?=Z (ah true))(I:l[23]?=Z (ac s 1 c)):
  ao aj 201 #[aa ag] w fun e a=>e=ap (aw #[O U ((r.i:Int)+1),(r.g:Int)])∧Y w a:=by
 have j:Y w (H w (X #[O U 0,O U 0] 78)):=(Y.refl w).alloc _;have u:ae (H w (X #[O U 0,O U 0] 78)) w.heap.size [O U 0,O U 0]:=(ae.new w _ _ rfl).of J;obtain ⟨g,aF,rfl, -, -,rfl,p⟩:=k.s.ir.at fb (i:=0) (x:=dE r) rfl;have ab:=(k.box.I j).cell 25 F;have z:=(k.box.I j).cell 23 I;have q:=j.range p;rw [jG] at q;clear p;go_enter Tryz.func201,Tryz.ntmps201;go_upto_region 1 with fail
 generalize H w (X #[O U 0,O U 0] 78)=m at *;go_upto_region 3 with fail
 refine cZ (fun _=>True) (fun a=>a.cell? ⟨ag,23,V⟩=Z (ac (Z ⟨g,0,V⟩) 1 c)∧a.rangeAt g 0 [O U ((r.i:Int)+1),(r.g:Int)]) 12 G ?_;have b:True:=trivial;have h:=(Y.refl m).drew;have hKC:=And.intro (h.I z) (h.range q);have n:=u.I h;have K:=j.trans h;generalize m.drew=W at *;refine' aI 0 13 (aa ag) rfl b hKC ?_;refine' aI 1 14 (aa ag) rfl b hKC ?_;refine' aI 2 15 (au (Z ⟨ag,23,V⟩)) rfl b hKC ?_;refine' bc (v:=ac (Z ⟨g,0,V⟩) 1 c) 3 16 rfl (.inl ⟨aq,?_⟩) b hKC ?_
 ·(intro w f;have L:=f.2.1;clear f;go_simp)
 refine' aI 4 17 (aa ag) rfl b hKC ?_;refine' aI 5 18 (aa ag) rfl b hKC ?_;refine' aI 6 19 (au (Z ⟨ag,23,V⟩)) rfl b hKC ?_;refine' bc (v:=ac (Z ⟨g,0,V⟩) 1 c) 7 20 rfl (.inl ⟨aq,?_⟩) b hKC ?_
 ·(intro w f;have L:=f.2.1;clear f;go_simp)
 refine' aI 8 21 (O U 1) rfl b hKC ?_;have al:IntKind.i64.wrap 0=0:=rfl;refine' aI 9 22 (O U 0) rfl b hKC ?_;refine' aI 10 23 (au (Z g)) rfl b hKC ?_;refine' bc 11 24 rfl (cj aq _ _ rfl _ _ rfl _ _ (fun w E=>E.2.2) dm rfl G) b hKC ?_;refine cg 12 (V) rfl (fun t o=>?_);refine dQ _ _ _ rfl _ _ #[O U ((r.i:Int)+1),(r.g:Int)] rfl rfl n.may G du ?_;(try simp only [bu]);refine bM o (trivial) ?_;clear o t;refine cC G ?_;go_wp2_with fail;refine bH ((n.aR (us:=[O U ((r.i:Int)+1),(r.g:Int)]) rfl).e7 rfl _ rfl dm rfl G) rfl ?_;exact ⟨rfl,K.setCells (aG _) _ _⟩
end
section
theorem eh.from{e:Ending}(c:eh d lim u D a8 wr T l B e a)(f:bD S w T l):eh d lim u D a8 wr S w B e a:=by
 obtain⟨g,nx,b,ob,nb,cb,h,i,j⟩:=c;exact⟨g,nx,b,ob,nb,cb,h,i,f.trans j⟩
theorem cS.from{bR:ByteArray}{c:Option Int}{e:Ending}(f:cS d lim u D a8 T l B bR c e a)(g:bD S w T l):cS d lim u D a8 S w B bR c e a:=by
 obtain⟨h,bF,nx,b,wr,ab,ob,nb,cb,aE,i,j,k,m⟩:=f;exact⟨h,bF,nx,b,wr,ab,ob,nb,cb,aE,i,j,k,g.trans m⟩
theorem CM(aM:ax.size≤maxLen){A:bQ}(aC:D.ab=Z A)(az:0≤A.n)(C:aP d S w lim B u D ob nb cb aE)(E:cd (ay w S) n hd k bb aF)(cT:dX bb k n (D.ab.map bQ.view) D.c.key lim D.wr= .post ax page):
  ao aj 103 #[aa u,aw aF,aw (bC lim)] w (qa d lim u D S w B A.n.toNat (nx (qR ax page) A.head)):=by
 obtain ⟨m,L,M⟩:=gv w 170 23 aF (bC lim);have x:=N (kz (C.aC m) (E.ex (bX m S)));rw [cT] at x;have al:=N E.len;have ag:=N C;clear C cT E;go_enter kL,kM;go_upto_region 1 with fail
 generalize (H w (X aF 170)).alloc (X (bC lim) 23)=aU at *;have aL: (aj.info? 170).map (·.size)=Z aF.length:=by rw [al.out];kernel_rfl
 have aQ:=dt;go_upto_region 2 with (first|((with_reducible refine dV (ty:=170) L ?_ ?_ aQ ?_ ?_ ?_);(focus (exact rfl));(focus (exact ⟨_,rfl,rfl⟩));(focus (exact rfl));(focus (exact aL)))|(with_reducible refine b0 23 (M) fO ?_)|(go_at_call 120;(with_reducible refine x.out.mono ?_);rintro e l ⟨rfl,Q⟩;have z:ae (H l (X bx 239)) l.heap.size bx:=(ae.new l _ _ rfl).of J)|(with_reducible refine bq 239 (z) ((bs 4 0 ax page 0 0 ⟨#[]⟩)) ?_))
 have s:ae ((H l (X bx 239)).setCells l 0 (bs 4 0 ax page 0 0 ⟨#[]⟩)) l.heap.size (bs 4 0 ax page 0 0 ⟨#[]⟩):=z.aR rfl;have R:Y l ((H l (X bx 239)).setCells l 0 (bs 4 0 ax page 0 0 ⟨#[]⟩)):=((Y.refl l).alloc _).setCells (aG _) _ _;have W:=(m.trans Q).trans R;have t:=ag.out.aC W;clear z Q R x L M m;show Code.wp _ _ _ _ ((H l (X bx 239)).setCells l 0 (bs 4 0 ax page 0 0 ⟨#[]⟩));generalize (H l (X bx 239)).setCells l 0 (bs 4 0 ax page 0 0 ⟨#[]⟩)=g at *;generalize l.heap.size=i at *;have a2:=s.cell 0 rfl;obtain ⟨p,K⟩:g.rangeAt u 12 aE∧kh (ay g S) D.ab aE:=⟨t.sA,t.ab⟩;rw [aC] at K;obtain ⟨aZ,aY,aV,rfl,aW,ij⟩:=K;have P:g.cell? ⟨u,13,V⟩=Z (O U A.n):=p 1 _ rfl;have am:g.cell? ⟨u,14,V⟩=Z (O U ((A.head.i:Int)+1)):=p 2 _ rfl;have an:g.cell? ⟨u,15,V⟩=Z (O U (A.head.g:Int)):=p 3 _ rfl;obtain ⟨o,ab⟩:=fP az;rw [ab] at P;have aR:=s.cell 2 rfl;have aS:=s.cell 3 rfl;have aA:=N fun (l:ad) (aO:Y g l)=>yB (t.aC aO) o A.head (qR ax page) V 0 0 V 0 0 ⟨gD _,bo.nil _ _ _,⟨aJ _,aJ _,aM,aJ _,aJ _⟩⟩ ⟨aJ _,aJ _⟩;go_upto_region 14 with fail
 refine cZ (fun _=>True) (fun a=>a.cell? ⟨u,13,V⟩=Z (O U (o:Int))∧a.cell? ⟨u,14,V⟩=Z (O U ((A.head.i:Int)+1))∧a.cell? ⟨u,15,V⟩=Z (O U (A.head.g:Int))∧a.cell? ⟨i,2,V⟩=Z (af ax)∧a.cell? ⟨i,3,V⟩=Z (O U page)) 18 G ?_;have b:True:=trivial;have h:=(Y.refl g).drew;have hKC:=And.intro (h.I P) (And.intro (h.I am) (And.intro (h.I an) (And.intro (h.I aR) (h.I aS))));refine' aI 0 55 (aa u) rfl b hKC ?_;refine' aI 1 56 (aa u) rfl b hKC ?_;refine' aI 2 57 (aa u) rfl b hKC ?_;refine' aI 3 58 (au (Z ⟨u,12,V⟩)) rfl b hKC ?_;refine' aI 4 59 (au (Z ⟨u,13,V⟩)) rfl b hKC ?_;refine' bc (v:=O U (o:Int)) 5 60 rfl (.inl ⟨aq,?_⟩) b hKC ?_
 ·(intro w f;have I:=f.2.1;clear f;go_simp)
 refine' aI 6 61 (aa u) rfl b hKC ?_;refine' aI 7 62 (aa u) rfl b hKC ?_;refine' aI 8 63 (au (Z ⟨u,12,V⟩)) rfl b hKC ?_;refine' aI 9 64 (au (Z ⟨u,14,V⟩)) rfl b hKC ?_;refine' bc (v:=aw #[O U ((A.head.i:Int)+1),(A.head.g:Int)]) 10 65 rfl (.inl ⟨aq,?_⟩) b hKC ?_
 ·(intro w f;have I:=f.2.2.1;have aX:=f.2.2.2.1;clear f;go_simp)
 refine' aI 11 66 (au (Z ⟨i,2,V⟩)) rfl b hKC ?_;refine' aI 12 67 (au (Z ⟨i,2,V⟩)) rfl b hKC ?_;refine' bc (v:=af ax) 13 68 rfl (.inl ⟨aq,?_⟩) b hKC ?_
 ·(intro w f;have I:=f.2.2.2.2.1;clear f;go_simp)
 refine' aI 14 69 (au (Z ⟨i,2,V⟩)) rfl b hKC ?_;refine' aI 15 70 (au (Z ⟨i,3,V⟩)) rfl b hKC ?_;refine' bc (v:=O U page) 16 71 rfl (.inl ⟨aq,?_⟩) b hKC ?_
 ·(intro w f;have I:=f.2.2.2.2.2;clear f;go_simp)
 refine' aI 17 72 (aw #[O U 8,af ⟨#[]⟩,af ⟨#[]⟩,false,O U 0,ac V 0 0,ac V 0 0,ax,af ⟨#[]⟩,page,O U 0,O U 0,af ⟨#[]⟩,O U 0,O U 0]) rfl b hKC ?_;refine cg 18 (Z 73) rfl (fun y j=>?_);go_simp;go_at_call 121;refine (aA.out _ h).mono ?_;rintro e a1 ⟨rfl,ar,av⟩;refine bM j (trivial) ?_;clear j y;refine cg 19 (Z 6) rfl (fun y j=>?_);go_simp;refine bM j (trivial) ?_;clear j y;refine cC G ?_;go_wp2_with fail;go_ret;have T:bD S w S g.drew:=Y.av (W.trans h);rw [show A.n.toNat=o by rw [ab];rfl];exact ⟨rfl,fun r aH aD aN aK F=>(ar r aH aD aN aK F).mono fun e aT q=>q.from T,fun c F=>(av c F).mono fun e aT q=>q.from T⟩
theorem CK{left:Int}(aM:ax.size≤maxLen){A:bQ}(aC:D.ab=Z A)(az:0≤A.n)(C:aP d S w lim B u D ob nb cb aE)(E:cd (ay w S) n hd k bb aF)(cT:dX bb k n (D.ab.map bQ.view) D.c.key lim D.wr= .hold page left ax):
  ao aj 103 #[aa u,aw aF,aw (bC lim)] w (qa d lim u D S w B A.n.toNat (nx (qL page left ax) A.head)):=by
 obtain ⟨o,K,L⟩:=gv w 170 23 aF (bC lim);have x:=N (kz (C.aC o) (E.ex (bX o S)));rw [cT] at x;have al:=N E.len;have ag:=N C;clear C cT E;go_enter kL,kM;go_upto_region 1 with fail
 generalize (H w (X aF 170)).alloc (X (bC lim) 23)=aW at *;have aL: (aj.info? 170).map (·.size)=Z aF.length:=by rw [al.out];kernel_rfl
 have aQ:=dt;go_upto_region 2 with (first|((with_reducible refine dV (ty:=170) K ?_ ?_ aQ ?_ ?_ ?_);(focus (exact rfl));(focus (exact ⟨_,rfl,rfl⟩));(focus (exact rfl));(focus (exact aL)))|(with_reducible refine b0 23 (L) fO ?_)|(go_at_call 120;(with_reducible refine x.out.mono ?_);rintro e l ⟨rfl,P⟩;have z:ae (H l (X bx 239)) l.heap.size bx:=(ae.new l _ _ rfl).of J)|(with_reducible refine bq 239 (z) ((bs 9 0 ⟨#[]⟩ 0 page left ax)) ?_))
 have j:ae ((H l (X bx 239)).setCells l 0 (bs 9 0 ⟨#[]⟩ 0 page left ax)) l.heap.size (bs 9 0 ⟨#[]⟩ 0 page left ax):=z.aR rfl;have Q:Y l ((H l (X bx 239)).setCells l 0 (bs 9 0 ⟨#[]⟩ 0 page left ax)):=((Y.refl l).alloc _).setCells (aG _) _ _;have T:=(o.trans P).trans Q;have t:=ag.out.aC T;clear z P Q x K L o;show Code.wp _ _ _ _ ((H l (X bx 239)).setCells l 0 (bs 9 0 ⟨#[]⟩ 0 page left ax));generalize (H l (X bx 239)).setCells l 0 (bs 9 0 ⟨#[]⟩ 0 page left ax)=g at *;generalize l.heap.size=m at *;have a4:=j.cell 0 rfl;obtain ⟨s,I⟩:g.rangeAt u 12 aE∧kh (ay g S) D.ab aE:=⟨t.sA,t.ab⟩;rw [aC] at I;obtain ⟨a2,a1,aX,rfl,aY,ij⟩:=I;have M:g.cell? ⟨u,13,V⟩=Z (O U A.n):=s 1 _ rfl;have am:g.cell? ⟨u,14,V⟩=Z (O U ((A.head.i:Int)+1)):=s 2 _ rfl;have an:g.cell? ⟨u,15,V⟩=Z (O U (A.head.g:Int)):=s 3 _ rfl;obtain ⟨p,W⟩:=fP az;rw [W] at M;have aS:=j.cell 4 rfl;have aT:=j.cell 5 rfl;have aU:=j.cell 6 rfl;have aA:=N fun (l:ad) (aO:Y g l)=>yB (t.aC aO) p A.head (qL page left ax) V 0 0 V 0 0 ⟨gD _,bo.nil _ _ _,⟨aJ _,aJ _,aJ _,aJ _,aM⟩⟩ ⟨aJ _,aJ _⟩;go_upto_region 15 with fail
 refine cZ (fun _=>True) (fun a=>a.cell? ⟨u,13,V⟩=Z (O U (p:Int))∧a.cell? ⟨u,14,V⟩=Z (O U ((A.head.i:Int)+1))∧a.cell? ⟨u,15,V⟩=Z (O U (A.head.g:Int))∧a.cell? ⟨m,4,V⟩=Z (O U page)∧a.cell? ⟨m,5,V⟩=Z (O U left)∧a.cell? ⟨m,6,V⟩=Z (af ax)) 14 G ?_;have b:True:=trivial;have h:=(Y.refl g).drew;have hKC:=And.intro (h.I M) (And.intro (h.I am) (And.intro (h.I an) (And.intro (h.I aS) (And.intro (h.I aT) (h.I aU)))));refine' aI 0 74 (aa u) rfl b hKC ?_;refine' aI 1 75 (aa u) rfl b hKC ?_;refine' aI 2 76 (aa u) rfl b hKC ?_;refine' aI 3 77 (au (Z ⟨u,12,V⟩)) rfl b hKC ?_;refine' aI 4 78 (au (Z ⟨u,13,V⟩)) rfl b hKC ?_;refine' bc (v:=O U (p:Int)) 5 79 rfl (.inl ⟨aq,?_⟩) b hKC ?_
 ·(intro w f;have ab:=f.2.1;clear f;go_simp)
 refine' aI 6 80 (aa u) rfl b hKC ?_;refine' aI 7 81 (aa u) rfl b hKC ?_;refine' aI 8 82 (au (Z ⟨u,12,V⟩)) rfl b hKC ?_;refine' aI 9 83 (au (Z ⟨u,14,V⟩)) rfl b hKC ?_;refine' bc (v:=aw #[O U ((A.head.i:Int)+1),(A.head.g:Int)]) 10 84 rfl (.inl ⟨aq,?_⟩) b hKC ?_
 ·(intro w f;have ab:=f.2.2.1;have aR:=f.2.2.2.1;clear f;go_simp)
 refine' aI 11 85 (au (Z ⟨m,4,V⟩)) rfl b hKC ?_;refine' bc (v:=aw #[O U page,left,ax]) 12 86 rfl (.inl ⟨aq,?_⟩) b hKC ?_
 ·(intro w f;have ab:=f.2.2.2.2.1;have aR:=f.2.2.2.2.2.1;have aZ:=f.2.2.2.2.2.2;clear f;go_simp)
 refine' aI 13 87 (aw #[O U 10,af ⟨#[]⟩,af ⟨#[]⟩,false,O U 0,ac V 0 0,ac V 0 0,af ⟨#[]⟩,af ⟨#[]⟩,O U 0,page,left,ax,O U 0,O U 0]) rfl b hKC ?_;refine cg 14 (Z 88) rfl (fun y i=>?_);go_simp;go_at_call 121;refine (aA.out _ h).mono ?_;rintro e a3 ⟨rfl,ar,av⟩;refine bM i (trivial) ?_;clear i y;refine cg 15 (Z 6) rfl (fun y i=>?_);go_simp;refine bM i (trivial) ?_;clear i y;refine cC G ?_;go_wp2_with fail;go_ret;have R:bD S w S g.drew:=Y.av (T.trans h);rw [show A.n.toNat=p by rw [W];rfl];exact ⟨rfl,fun r aH aD aN aK F=>(ar r aH aD aN aK F).mono fun e aV q=>q.from R,fun c F=>(av c F).mono fun e aV q=>q.from R⟩
end
abbrev pt (s:Nat):ak:= .func (.func 186) #[aa s] #[]
abbrev nV (s:Nat):ak:= .func (.func 207) #[aa s] #[]
theorem sW:dH 186:=fun args l=>fj Tryz.func186 G rfl args l
theorem sX:dH 207:=fun args l=>fj pM G rfl args l
theorem Db:dH 200:=fun args l=>fj Tryz.func200 G rfl args l
theorem wy:dH 213:=fun args l=>fj Tryz.func213 G rfl args l
theorem Dk:dH 214:=fun args l=>fj Tryz.func214 G rfl args l
def oy (d:aV) (lim:aK) (B:az) (s:Nat) (W:eT) (n:Int) (fU:ak) (S:List Nat) (w:ad) (e:Ending) (a:ad):Prop:=
 e=ap (ah false)∧∃ aC z,iH d z a lim B s {W with lo:=aa aC,gT:=au V,fU:=fU} n aC∧bn d.l s S w z a
def hM (d:aV) (lim:aK) (B:az) (s:Nat) (W:eT) (f:FuncId) (p:Nat) (hd:aA) (y:ar) (S:List Nat) (w:ad) (e:Ending) (a:ad):Prop:=
 ∃ l a3,bn d.l s S w S l∧(ay l S).cell? ⟨a3,0,V⟩=Z (aa s)∧vh d lim B s W (.func (.func f) #[] #[aa a3]) p hd y S l e a
section
theorem hM.from{e:Ending}(b:hM d lim B s W f p hd y S l e a)(c:bn d.l s S w S l):hM d lim B s W f p hd y S w e a:=by
 obtain⟨j,a3,g,h,i⟩:=b;exact⟨j,a3,c.trans g,h,i⟩
theorem hM.e{e:Ending}(b:hM d lim B s W f p hd y S w e a):e=ap (ah false):=by
 obtain⟨i,a3,g,h,c⟩:=b;exact c.1
theorem Dr(a:di d S w lim B s W):ao aj 164 #[aa s] w (oy d lim B s W W.hp (pt s) S w):=by
 have g:w.cell? ⟨s,3,V⟩=Z (O U W.hp):=a.box.cell 3 rfl;have b:=N (yY a W.hp 186 #[aa s] #[]);clear a;go_enter Tryz.func164,Tryz.ntmps164;go_wp2_with(go_at_call 185;(with_reducible refine b.out.mono ?_);rintro e h ⟨rfl,aC,z,c,f⟩);go_ret;exact⟨rfl,aC,z,c,f⟩
theorem tZ(a:di d S w lim B s W):ao aj 198 #[aa s] w (oy d lim B s W W.left (nV s) S w):=by
 have g:w.cell? ⟨s,6,V⟩=Z (O U W.left):=a.box.cell 6 rfl;have b:=N (yY a W.left 207 #[aa s] #[]);clear a;go_enter Tryz.func198,Tryz.ntmps198;go_wp2_with(go_at_call 185;(with_reducible refine b.out.mono ?_);rintro e h ⟨rfl,aC,z,c,f⟩);go_ret;exact⟨rfl,aC,z,c,f⟩
theorem HA(a:ad):b3 a gS V 0 0 V 0 0:=⟨gD _,bo.nil _ _ _,⟨aJ _,aJ _,aJ _,aJ _,aJ _⟩⟩
theorem um(f:di d S w lim B s W)(t:W.n=(p:Int))(n:W.a=(hd.i:Int)+1)(o:W.b=(hd.g:Int)):ao aj 211 #[aa s] w (hM d lim B s W 214 p hd (nx gS hd) S w):=by
 have i:Y w (H w (X #[aa s] 256)):=(Y.refl w).alloc _;have m:ae (H w (X #[aa s] 256)) w.heap.size [aa s]:=(ae.new w _ _ rfl).of J;have x: (H w (X #[aa s] 256)).cell? s=Z (O U (p:Int)):=by rw [←t];exact (f.aC i).box.cell 0 rfl
 have C: (H w (X #[aa s] 256)).cell? ⟨s,1,V⟩=Z (O U ((hd.i:Int)+1)):=by rw [←n];exact (f.aC i).box.cell 1 rfl
 have E: (H w (X #[aa s] 256)).cell? ⟨s,2,V⟩=Z (O U (hd.g:Int)):=by rw [←o];exact (f.aC i).box.cell 2 rfl
 have u:=N f;have hold:=f.mem.old;clear f t n o;go_enter Tryz.func211,Tryz.ntmps211;go_upto_region 1 with fail
 generalize H w (X #[aa s] 256)=l at *;refine cZ (fun _=>True) (fun a=>a.cell? w=Z (aa s)∧a.cell? s=Z (O U (p:Int))∧a.cell? ⟨s,1,V⟩=Z (O U ((hd.i:Int)+1))∧a.cell? ⟨s,2,V⟩=Z (O U (hd.g:Int))) 11 G ?_;have c:True:=trivial;have h:=(Y.refl l).drew;have hKC:=And.intro (h.I (m.cell 0 rfl)) (And.intro (h.I x) (And.intro (h.I C) (h.I E)));refine' bc (v:=aa s) 0 3 rfl (.inl ⟨aq,?_⟩) c hKC ?_
 ·(intro w b;have j:=b.2.1;clear b;go_simp)
 refine' bc (v:=aa s) 1 4 rfl (.inl ⟨aq,?_⟩) c hKC ?_
 ·(intro w b;have j:=b.2.1;clear b;go_simp)
 refine' aI 2 5 (aa s) rfl c hKC ?_;refine' aI 3 6 (au (Z s)) rfl c hKC ?_;refine' bc (v:=O U (p:Int)) 4 7 rfl (.inl ⟨aq,?_⟩) c hKC ?_
 ·(intro w b;have j:=b.2.2.1;clear b;go_simp)
 refine' bc (v:=aa s) 5 8 rfl (.inl ⟨aq,?_⟩) c hKC ?_
 ·(intro w b;have j:=b.2.1;clear b;go_simp)
 refine' aI 6 9 (aa s) rfl c hKC ?_;refine' aI 7 10 (au (Z ⟨s,1,V⟩)) rfl c hKC ?_;refine' bc (v:=aw #[O U ((hd.i:Int)+1),(hd.g:Int)]) 8 11 rfl (.inl ⟨aq,?_⟩) c hKC ?_
 ·(intro w b;have j:=b.2.2.2.1;have z:=b.2.2.2.2;clear b;go_simp)
 refine' aI 9 12 (aw #[O U 11,af ⟨#[]⟩,af ⟨#[]⟩,false,O U 0,ac V 0 0,ac V 0 0,af ⟨#[]⟩,af ⟨#[]⟩,O U 0,O U 0,O U 0,af ⟨#[]⟩,O U 0,O U 0]) rfl c hKC ?_;refine' aI 10 13 (.func (.func 214) #[] #[aa w]) rfl c hKC ?_;refine cg 11 (Z 14) rfl (fun k g=>?_);go_simp;go_at_call 199;have r:Y w l.drew:=i.drew;refine (tq (u.out.aC r) p hd gS V 0 0 V 0 0 (HA _) 214 #[] #[aa w]).mono ?_;rintro e A ⟨rfl,y⟩;refine bM g (trivial) ?_;clear g k;refine cg 12 (Z 2) rfl (fun k g=>?_);go_simp;refine bM g (trivial) ?_;clear g k;refine cC G ?_;go_wp2_with fail;go_ret;exact ⟨l.drew,w.heap.size,Y.av r,bp.2 ⟨fun q=>dk _ (hold _ q),h.I (m.cell 0 rfl)⟩,rfl,y⟩
theorem Hz(c:di d S w lim B s W)(i:w.cell? a3=Z (aa s))(b:Bool):ao aj 214 #[ah b,aa a3] w fun e a=>e=ap (ah true)∧di d S a lim B s {W with cQ:=true,hS:=b,gx:=aB}∧Mod [s] w a:=by
 have f:=N (wl c b aB (.inl rfl));clear c;go_enter Tryz.func214,Tryz.ntmps214;go_wp2_with(go_at_call 167;(with_reducible refine f.out.mono ?_);rintro e j ⟨rfl,g,h⟩);go_ret;exact⟨rfl,g,h⟩
theorem zm(b:di d S w lim B s W)(i:W.n=(p:Int))(g:W.a=(hd.i:Int)+1)(h:W.b=(hd.g:Int))(j:w.cell? a3=Z (aa s)):ao aj 213 #[ah true,aa a3] w (hM d lim B s W 214 p hd (nx gS hd) S w):=by
 have c:=N (um b i g h);clear b;go_enter Tryz.func213,Tryz.ntmps213;go_wp2_with(go_at_call 211;(with_reducible refine c.out.mono ?_);rintro e k a;(obtain rfl:=a.e);have f:=N a;clear a);go_ret;exact f.out
end
end Go.Proofs.YtbkmjhhpcinppaaGreatDoor
