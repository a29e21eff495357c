import Derived.Test.YtbkmjhhpcinppaaGreatDoorQ18
namespace Go.Proofs.YtbkmjhhpcinppaaGreatDoor
set_option linter.unusedVariables false
set_option linter.defProp false
set_option linter.unusedSimpArgs false
set_option maxRecDepth 100000
set_option maxHeartbeats 40000000
open Go.BigFrame Go.RowKit Go.WideShapes
open Ending renaming returned→ap
open Go renaming Addr→ai,Calls→ao,Value→ak,World→ad
open Go.Proofs.Tryz renaming prog→aj
open IntKind renaming i64→U
open Obj renaming cells→X
open Option renaming none→V,some→Z
open Value renaming agg→aw,bool→ah,int→O,nilIface→aB,pointer→au,slice→ac,tuple→a0
open World renaming alloc→H,setCells→ba
variable {B0 i am l ax u w k aD a2 E Q p B C : Nat} {h : aV} {L : az} {S S0 : List Nat} {aQ aF : List ar} {done : Bool} {a3 a1 : ak} {W : aA} {lim : aK} {nd : aT} {aE m op z A : Option ai} {page a7 : Int} {aR : List Int} {rs : List aA} {d w0 : ad}
def y4:ak→Nat
 |ac _ n _=>n
 |_=>0
theorem vU{L:az}: ∀ {rs:List aA} {aF:List ar} {k:Nat} {r:aA},fp L rs aF→rs[k]?=Z r→∃ y,aF[k]?=Z y∧Live L r y∧(y.x.slot,y.x.gen)=a4 (rs.drop (k+1)).head?
 |[],_,k,r,_,a=>by simp at a
 |fC::rs,[],_,_,b,_=>b.elim
 |fC::rs,y::aF,0,r,b,a=>by
  simp only[mV,eS]at a;subst a;exact⟨y,rfl,b.1,by rw[uP,List.drop_zero];exact b.2.1⟩
 |fC::rs,y::aF,k+1,r,b,a=>by
  rw[List.getElem?_cons_succ]at a;obtain⟨c,d,e,f⟩:=vU b.2.2 a;exact⟨c,by rw[List.getElem?_cons_succ];exact d,e,by rw[uP];exact f⟩
structure gu (h:aV) (lim:aK) (L:az) (aZ d:ad) (D:Nat) (R:List Nat) (M:Option ai) (aM ab:Nat) (aF:List ar) (P:Option ai) (aN ag:Nat) (rs:List aA):Prop where
 aC:Y aZ d
 mem:aX h R d lim L
 s1:bi (eK (ay d R)) 15 85 d D M aM ab aF
 s2:bi fG 2 78 d D P aN ag (rs.map dE)
 qW: ∀ g,Value.ownBlock (ac M aM ab)=Z g→g∈R
 qX: ∀ g,Value.ownBlock (ac P aN ag)=Z g→g∈R
 ne: ∀ g,Value.ownBlock (ac M aM ab)=Z g→Value.ownBlock (ac P aN ag)≠Z g
 le:aZ.heap.size≤D∧D≤d.heap.size
 nz: ∀ b∈h.l,b < D
section
variable {aZ F : ad} {D : Nat} {R : List Nat} {M : Option ai} {aM ab : Nat} {P : Option ai} {aN ag : Nat} 
theorem gu.I(a:gu h lim L aZ d D R M aM ab aF P aN ag rs)(b:Y d F):gu h lim L aZ F D R M aM ab aF P aN ag rs:=
 ⟨a.aC.trans b,a.mem.I b,a.s1.to (fun g q=>Below.block b g (a.s1.lt g (c9.1 q)).2) fun x c q=>eK.ex q (bX b R),a.s2.I fb b,a.qW,a.qX,a.ne,⟨a.le.1,bZ a.le.2 b.le⟩,a.nz⟩
theorem gu.AN(e:gu h lim L aZ d D R M aM ab aF P aN ag rs){f:dK ar}{c:Option ai}{b a:Nat}{l:List ar}(k:bi f 15 85 F D c b a l)(i:d.grownBy F (Value.ownBlock (ac M aM ab)))(j:Value.ownBlock (ac c b a)=Value.ownBlock (ac M aM ab)∨Value.ownBlock (ac c b a)=Z d.heap.size):
  bn [] D R d (bg c b a++R) F:=mw i (fun g q=>⟨e.qW g q,(e.s1.lt g q).1⟩) j fun g q=>(k.lt g q).2
theorem gu.AO(e:gu h lim L aZ d D R M aM ab aF P aN ag rs){c:Option ai}{b a:Nat}{k:List (Int×Int)}(j:bi fG 2 78 F D c b a k)(f:d.grownBy F (Value.ownBlock (ac P aN ag)))(i:Value.ownBlock (ac c b a)=Value.ownBlock (ac P aN ag)∨Value.ownBlock (ac c b a)=Z d.heap.size):
  bn [] D R d (bg c b a++R) F:=mw f (fun g q=>⟨e.qX g q,(e.s2.lt g q).1⟩) i fun g q=>(j.lt g q).2
theorem gu.sE(a:gu h lim L aZ d D R M aM ab aF P aN ag rs){i:Option ai}{f c:Nat}{n:List ar}(m:bi (eK (ay d R)) 15 85 F D i f c n)(j:d.grownBy F (Value.ownBlock (ac M aM ab)))(l:Value.ownBlock (ac i f c)=Value.ownBlock (ac M aM ab)∨Value.ownBlock (ac i f c)=Z d.heap.size):
  gu h lim L aZ F D (bg i f c++R) i f c n P aN ag rs:=by
 have k:=a.AN m j l;refine ⟨kP a.aC j a.aC.le fun q p=>bZ a.le.1 (a.s1.lt q p).1,a.mem.av k fun b o=>⟨J,a.nz b o⟩,m.to (fun _ _=>rfl) fun x s q=>eK.ex q k.aL,a.s2.to (fun g q=>j.block g (a.s2.lt g (c9.1 q)).2 fun e=>a.ne g e.symm (c9.1 q)) fun x s q=>q,fun g q=>iW _ (c9.2 q),fun g q=>hk _ (a.qX g q),fun g q r=>?_,⟨a.le.1,bZ a.le.2 j.size⟩,a.nz⟩;rcases l with e|e
 ·exact a.ne g (e ▸ q) r
 ·rw [e] at q;cases q;exact dk _ (a.s2.lt _ r).2
theorem gu.sF(a:gu h lim L aZ d D R M aM ab aF P aN ag rs){i:Option ai}{f c:Nat}{n:List aA}(m:bi fG 2 78 F D i f c (n.map dE))(j:d.grownBy F (Value.ownBlock (ac P aN ag)))(l:Value.ownBlock (ac i f c)=Value.ownBlock (ac P aN ag)∨Value.ownBlock (ac i f c)=Z d.heap.size):
  gu h lim L aZ F D (bg i f c++R) M aM ab aF i f c n:=by
 have k:=a.AO m j l;refine ⟨kP a.aC j a.aC.le fun q p=>bZ a.le.1 (a.s2.lt q p).1,a.mem.av k fun b o=>⟨J,a.nz b o⟩,a.s1.to (fun g q=>j.block g (a.s1.lt g (c9.1 q)).2 fun e=>a.ne g (c9.1 q) e.symm) fun x s q=>eK.ex q k.aL,m,fun g q=>hk _ (a.qW g q),fun g q=>iW _ (c9.2 q),fun g q r=>?_,⟨a.le.1,bZ a.le.2 j.size⟩,a.nz⟩;rcases l with e|e
 ·exact a.ne g q (e ▸ r)
 ·rw [e] at r;cases r;exact dk _ (a.s1.lt _ q).2
theorem gu.other(a:gu h lim L aZ d D R M aM ab aF P aN ag rs){b:Nat}(n:b∈R)(p:b∉h.l)(t:b < D)(m:aZ.heap.size≤b)(f:List ak):gu h lim L aZ (ba d b 0 f) D R M aM ab aF P aN ag rs:=by
 have j:Mod [b] d (ba d b 0 f):=Mod.setCells J _ _ _;have l:m6 [b] R d R (ba d b 0 f):=j.ju fun c i=>by rw[aO.1 i];exact n
 have k: ∀ g,D≤g→g < d.heap.size→(ba d b 0 f).heap[g]?=d.heap[g]?:=fun g o r=>j.block g r fun e=>by rw[aO.1 e]at o;omega
 exact⟨a.aC.setCells m f 0,a.mem.step l (fun c i q=>p (by rw[←aO.1 q];exact i)) a.mem.sub,a.s1.to (fun g q=>k g (a.s1.lt g (c9.1 q)).1 (a.s1.lt g (c9.1 q)).2) fun x s q=>eK.ex q l.aL,a.s2.to (fun g q=>k g (a.s2.lt g (c9.1 q)).1 (a.s2.lt g (c9.1 q)).2) fun x s q=>q,a.qW,a.qX,a.ne,⟨a.le.1,bZ a.le.2 j.size⟩,a.nz⟩
def vc (d:ad) (a:List ar) (f:List aA) (e:Ending) (F:ad):Prop:=
 ∃ c b m l,e=ap (a0 #[ac c a.length b,ac m a.length l,aB])∧fr F c a.length b a∧bo fG 2 F m a.length l (f.map dE)∧Y d F
theorem Cj{aP:List ar}{t:List aA}(aF:aX h S d lim L)(cc:L.ax[p]?=Z (Z t.head?))(bs:fp L t aP)(b2: ∀ y∈aP,bT y)(c0:t.length≤lim.aQ):
  ao aj 40 #[aa h.m,(p:Int)] d (vc d aP t):=by
 obtain ⟨cI,aU⟩:=aF.mem;have cE:=aU.cell 8 rfl;have bF:=N (xe aF cc);have b8:=bs.len;have cX:=aF.lim.aQ;have bH:=N b8;have bW:=N bs;have co:=N b2;have bE:=N aF;clear aF bs b2 cc aU b8;go_enter Tryz.func40,Tryz.ntmps40;go_upto_region 4 with (first|(go_at_call 67;(with_reducible refine bF.out.mono ?_);rintro e aC ⟨rfl,aN⟩;have aT:ae (H aC (X #[O U 0,O U 0] 78)) aC.heap.size [O U 0,O U 0]:=(ae.new aC _ _ rfl).of J)|(with_reducible refine bq 78 (aT) ((da t.head?)) ?_))
 have a9:ae ((H aC (X #[O U 0,O U 0] 78)).setCells aC 0 (da t.head?)) aC.heap.size (da t.head?):=aT.aR rfl;have bv:Y aC ((H aC (X #[O U 0,O U 0] 78)).setCells aC 0 (da t.head?)):=((Y.refl aC).alloc _).setCells (aG _) _ _;have bf:=(bE.out.I aN).more bv (aG _) (a9.lt J);have bt:=aN.trans bv;have cy:aC.heap.size∉h.l:=(bE.out.I aN).hE (aG _);have cz:=aN.le;clear aT aN bv cE bF;(try simp only [Act.put]);show Code.wp _ _ _ _ ((H aC (X #[O U 0,O U 0] 78)).setCells aC 0 (da t.head?));generalize (H aC (X #[O U 0,O U 0] 78)).setCells aC 0 (da t.head?)=bb at *;generalize aC.heap.size=I at *;have cw:I < bb.heap.size:=a9.lt J;have bY:gu h lim L d bb bb (I::S) V 0 0 ([]:List ar) V 0 0 ([]:List aA):=⟨bt,bf,bi.nil _ _ _ _ _,bi.nil _ _ _ _ _,fun g q=>(by simp [Value.ownBlock] at q),fun g q=>(by simp [Value.ownBlock] at q),fun g q=>(by simp [Value.ownBlock] at q),⟨bt.le,aG _⟩,fun b a2=>bf.old b (bf.sub b a2)⟩;have bG:=N bY;have bD:=N a9;generalize cu:bb.heap.size=D at *;clear bY a9 bf bt cu;go_upto_region 8 with fail
 go_loopw [9,10] (fun a7 bC wr=> ∃ (k:Nat) (R:List Nat) (M:Option ai) (ab:Nat) (P:Option ai) (ag:Nat),k≤t.length∧a7=ac M k ab∧bC=ac P k ag∧Hid (gu h lim L d wr D R M k ab (aP.take k) P k ag (t.take k))∧Hid (ae wr I (da (t.drop k).head?))∧Hid (I∈R)) (fun a7 _ _=>t.length - y4 a7)
 case atStart=>exact ⟨0,I::S,V,0,V,0,aJ _,rfl,rfl,bG,bD,N J⟩
 case round=>
  obtain ⟨k,R,M,ab,P,ag,cY,rfl,rfl,bj,aV,cD⟩:=hrel;clear bG bD;by_cases cA:k < t.length
  ·obtain ⟨r,bk⟩: ∃ r,t[k]?=Z r:=⟨_,cP cA⟩;obtain ⟨y,bx,b9,cf⟩:=vU bW.out bk;have b5:=co.out y (iV bx);have cT: (t.drop k).head?=Z r:=by rw [List.head?_drop];exact bk
   rw [cT] at aV;have ce:da (Z r)=[O U ((r.i:Int)+1),(r.g:Int)]:=rfl;rw [ce] at aV;have i:=aV.out;have a:=bj.out;obtain ⟨cI,aU⟩:=a.mem.mem;have ch:=aU.cell 1 rfl;have bA:=aU.cell 7 rfl;have cb: ((r.i:Int)+1==0)=false:=mf;have cd: ((k:Int)==(lim.aQ:Int))=false:=mf;have bh:=N a;have cp:=N bk;have cr:=N bx;have bI:=N cf;have bl:=N fun aS cL (cB:aX h aS cL lim L)=>xQ cB b9 b5;have bP: ∀ b,wr.heap.size≤b→Value.ownBlock (ac M k ab)≠Z b:=fun b a2 e=>by have:=(bh.out.s1.lt _ e).2;omega
   have bQ: ∀ b,wr.heap.size≤b→Value.ownBlock (ac P k ag)≠Z b:=fun b a2 e=>by have:=(bh.out.s2.lt _ e).2;omega
   have ci:=N bP;have ck:=N bQ;clear bP bQ;clear aV bj a aU bk bx cf b9 b5 cT ce;go_upto_region 11 with (with_reducible refine b0 78 (i) dm ?_)
   go_cut [11,12] (fun cJ cK aQ=> ∃ aE z B u A C w,cJ=au (Z ⟨aE,0,V⟩)∧cK=aB∧ae aQ aE (an y.x z B u A C w)∧wr.heap.size≤aE∧b3 (ay aQ R) y z B u A C w∧Y wr aQ)
   case first=>
    refine cZ (fun _=>True) (fun F=>F.cell? ⟨h.m,7,V⟩=Z (aa h.a)∧F.rangeAt I 0 [O U ((r.i:Int)+1),(r.g:Int)]) 5 G ?_;have Q:True:=trivial;have aH:=(Y.refl wr).drew;have hKC:=And.intro (aH.I bA) (aH.range i.aM);have bR:=bh.out.mem.I aH;have b7:=aH.le;clear ch bA i cd cb;generalize wr.drew=f at *;refine' aI 0 43 (aa h.m) rfl Q hKC ?_;refine' aI 1 44 (aa h.m) rfl Q hKC ?_;refine' aI 2 45 (au (Z ⟨h.m,7,V⟩)) rfl Q hKC ?_;refine' bc (v:=aa h.a) 3 46 rfl (.inl ⟨aq,?_⟩) Q hKC ?_
    ·(intro d bV;have c1:=bV.2.1;clear bV;go_simp)
    refine' bc 4 47 rfl (cj aq _ _ rfl _ _ rfl _ _ (fun d aF=>aF.2.2) dm rfl G) Q hKC ?_;refine nY (j:=5) (j':=9) (o:=⟨Z 48,_,_,_,_,_⟩) (o':=⟨Z 11,_,_,_,_,_⟩) rfl rfl G G G (fun s c=>?_) (fun s c=>?_)
    ·refine a6 aq ?_;go_simp;go_at_call 68;refine (bl.out R _ bR).mono ?_;rintro e aK ⟨z,B,u,A,C,w,rfl,av,a3⟩;refine a5 c (trivial) (fun e=>by first|exact hKC|exact bm e) ?_;clear c s;refine' a8 6 42 (a0 #[aW y.x z B u A C w,aB]) rfl Q ?_;refine' a8 7 49 (aW y.x z B u A C w) rfl Q ?_;refine' a8 8 50 (aB) rfl Q ?_;refine b4 9 (Z 11) rfl (fun s c=>?_);go_simp;have aZ:ae (H aK (X al 85)) aK.heap.size al:=(ae.new aK _ _ rfl).of J;have aY:Y aK (H aK (X al 85)):=(Y.refl aK).alloc _;refine a5 c (trivial) (fun e=>by first|exact hKC|exact bm e) ?_;clear c s;refine cg 10 (V) rfl (fun s c=>?_);refine dQ _ _ _ rfl _ _ (an y.x z B u A C w).toArray rfl rfl aZ.may G du ?_;(try simp only [bu]);refine bM c (trivial) ?_;clear c s;refine cg 11 (Z 12) rfl (fun s c=>?_);go_simp;refine bM c (trivial) ?_;clear c s;refine cC G ?_;go_wp2_with fail;go_meet;have aN:=aY.setCells (b:=aK.heap.size) (aG _) (an y.x z B u A C w) 0;exact ⟨aK.heap.size,z,B,u,A,C,w,rfl,rfl,aZ.aR rfl,bZ b7 a3.le,av.ex (bX aN R),(aH.trans a3).trans aN⟩
    ·refine a6 aq ?_;go_simp;have aZ:ae (H f (X al 85)) f.heap.size al:=(ae.new f _ _ rfl).of J;have aY:Y f (H f (X al 85)):=(Y.refl f).alloc _;have cv:=bR.more aY (aG _) (aZ.lt J);have hKC:=And.intro (aY.I hKC.1) (aY.range hKC.2);refine a5 c (trivial) (fun e=>by first|exact hKC|exact bm e) ?_;clear c s;refine b4 5 (Z 48) rfl (fun s c=>?_);go_simp;go_at_call 68;refine (bl.out _ _ cv).mono ?_;rintro e aK ⟨z,B,u,A,C,w,rfl,av,a3⟩;refine a5 c (trivial) (fun e=>by first|exact hKC|exact bm e) ?_;clear c s;refine' a8 6 42 (a0 #[aW y.x z B u A C w,aB]) rfl Q ?_;refine' a8 7 49 (aW y.x z B u A C w) rfl Q ?_;refine' a8 8 50 (aB) rfl Q ?_;have bK:=aZ.I a3;refine cg 10 (V) rfl (fun s c=>?_);refine dQ _ _ _ rfl _ _ (an y.x z B u A C w).toArray rfl rfl bK.may G du ?_;(try simp only [bu]);refine bM c (trivial) ?_;clear c s;refine cg 11 (Z 12) rfl (fun s c=>?_);go_simp;refine bM c (trivial) ?_;clear c s;refine cC G ?_;go_wp2_with fail;go_meet;have aN:Y f (ba aK f 0 (an y.x z B u A C w)):=(aY.trans a3).setCells (b:=f.heap.size) (aG _) (an y.x z B u A C w) 0;exact ⟨f.heap.size,z,B,u,A,C,w,rfl,rfl,bK.aR rfl,b7,(av.boxed (an y.x z B u A C w)).less (fun b a2=>h5 _ a2),aH.trans aN⟩
   case rest=>
    obtain ⟨aE,z,B,u,A,C,w,rfl,rfl,n,b1,av,b6⟩:=hcut;have br:=i.I b6;have a:=bh.out.I b6;clear ch bA i cd cb bh bl;go_upto_region 14 with fail
    go_cut [9,10] (fun a7 bC aQ=> ∃ aS am T m l,a7=ac am (k+1) T∧bC=ac m (k+1) l∧gu h lim L d aQ D aS am (k+1) T (aP.take k++[y]) m (k+1) l (t.take k++[r])∧ae aQ aE (an y.x z B u A C w)∧ae aQ I [O U ((r.i:Int)+1),(r.g:Int)]∧I∈aS)
    case first=>
     have bo:Value.ownBlock (ac M k ab)≠Z aE:=ci.out aE b1;have bp:Value.ownBlock (ac P k ag)≠Z aE:=ck.out aE b1;refine cZ (fun _=>True) (fun F=>F.rangeAt aE 0 (an y.x z B u A C w)∧F.rangeAt I 0 [O U ((r.i:Int)+1),(r.g:Int)]) 7 G ?_;have Q:True:=trivial;have aH:=(Y.refl wc).drew;have a:=a.I aH;have n:=n.I aH;have i:=br.I aH;have av:=av.ex (bX aH R);have hKC:=And.intro n.aM i.aM;have ax:=cD.out;clear br;generalize wc.drew=f at *;refine' aI 0 57 (ac M k ab) rfl Q hKC ?_;refine' bc 1 58 rfl (cj aq _ _ rfl _ _ rfl _ _ (fun d aF=>aF.2.1) cG rfl G) Q hKC ?_;refine' aI 4 61 (ac P k ag) rfl Q hKC ?_;refine' bc 5 62 rfl (cj aq _ _ rfl _ _ rfl _ _ (fun d aF=>aF.2.2) dm rfl G) Q hKC ?_;refine nY (j:=2) (j':=6) (o:=⟨Z 59,_,_,_,_,_⟩) (o':=⟨Z 63,_,_,_,_,_⟩) rfl rfl G G G (fun s c=>?_) (fun s c=>?_)
     ·skip;refine a6 aq ?_;go_simp;have E:Y f (H f (X (an y.x z B u A C w) 85)):=(Y.refl f).alloc _;have aR:ae (H f (X (an y.x z B u A C w) 85)) f.heap.size (an y.x z B u A C w):=(ae.new f _ _ rfl).of J;have bd:Value.ownBlock (ac M k ab)≠Z f.heap.size:=fun e=>dk _ (a.s1.lt _ e).2;have a:=a.I E;have n:=n.I E;have i:=i.I E;have hKC:=And.intro n.aM i.aM;have av:=av.ex (bX E R);refine a5 c (trivial) (fun e=>by first|exact hKC|exact bm e) ?_;clear c s;clear E;generalize (H f (X (an y.x z B u A C w) 85))=aL at *;generalize f.heap.size=ct at *;refine nY (j:=3) (j':=6) (o:=⟨Z 60,_,_,_,_,_⟩) (o':=⟨Z 63,_,_,_,_,_⟩) rfl rfl G G G (fun s c=>?_) (fun s c=>?_)
      ·skip;refine a6 aq ?_;refine gF (kY _) kA _ _ rfl (base:=D) a.le.2 rfl a.s1 rfl (mD av aR.aM _ bd) c4 K ?_;intro am T aM W x az;have n:=ej x bo n;have i:=ej x (fun e=>by have:=(a.s1.lt I e).1;omega) i;have ax:I∈bg am (k+1) T++R:=hk _ ax;have a:=a.sE W x az;have hKC:=And.intro n.aM i.aM;refine a5 c (trivial) (fun e=>by first|exact hKC|exact bm e) ?_;clear c s;clear W x az;refine b4 6 (Z 63) rfl (fun s c=>?_);go_simp;have E:Y aM (H aM (X [O U ((r.i:Int)+1),(r.g:Int)].toArray 78)):=(Y.refl aM).alloc _;have aD:ae (H aM (X [O U ((r.i:Int)+1),(r.g:Int)].toArray 78)) aM.heap.size [O U ((r.i:Int)+1),(r.g:Int)]:=(ae.new aM _ _ rfl).of J;have be:Value.ownBlock (ac am (k+1) T)≠Z aM.heap.size:=fun e=>dk _ (a.s1.lt _ e).2;have a1:Value.ownBlock (ac P k ag)≠Z aM.heap.size:=fun e=>dk _ (a.s2.lt _ e).2;have a:=a.I E;have n:=n.I E;have i:=i.I E;have hKC:=And.intro n.aM i.aM;refine a5 c (trivial) (fun e=>by first|exact hKC|exact bm e) ?_;clear c s;clear E;generalize (H aM (X [O U ((r.i:Int)+1),(r.g:Int)].toArray 78))=cM at *;generalize aM.heap.size=bL at *;refine b4 7 (Z 64) rfl (fun s c=>?_);refine gF fb kC _ _ rfl (base:=D) a.le.2 rfl a.s2 rfl (mC aD.aM _ a1) c4 K ?_;intro m l cN W x az;rw [show (t.take k).map dE++[dE r]=(t.take k++[r]).map dE by simp] at W;have n:=ej x bp n;have i:=ej x (fun e=>by have:=(a.s2.lt I e).1;omega) i;have ax:I∈bg m (k+1) l++(bg am (k+1) T++R):=hk _ ax;have a:=a.sF W x az;have hKC:=And.intro n.aM i.aM;refine a5 c (trivial) (fun e=>by first|exact hKC|exact bm e) ?_;clear c s;clear W x az;refine' a8 8 9 (ac am (k+1) T) rfl Q ?_;refine' a8 9 10 (ac m (k+1) l) rfl Q ?_;refine cC G ?_;go_wp2_with fail;go_meet;exact ⟨_,am,T,m,l,rfl,rfl,a,n,i,ax⟩
      ·skip;refine a6 aq ?_;go_simp;have E:Y aL (H aL (X [O U ((r.i:Int)+1),(r.g:Int)].toArray 78)):=(Y.refl aL).alloc _;have aD:ae (H aL (X [O U ((r.i:Int)+1),(r.g:Int)].toArray 78)) aL.heap.size [O U ((r.i:Int)+1),(r.g:Int)]:=(ae.new aL _ _ rfl).of J;have be:Value.ownBlock (ac M k ab)≠Z aL.heap.size:=fun e=>dk _ (a.s1.lt _ e).2;have a1:Value.ownBlock (ac P k ag)≠Z aL.heap.size:=fun e=>dk _ (a.s2.lt _ e).2;have a:=a.I E;have n:=n.I E;have i:=i.I E;have hKC:=And.intro n.aM i.aM;have av:=av.ex (bX E R);have aR:=aR.I E;refine a5 c (trivial) (fun e=>by first|exact hKC|exact bm e) ?_;clear c s;clear E;generalize (H aL (X [O U ((r.i:Int)+1),(r.g:Int)].toArray 78))=cO at *;generalize aL.heap.size=bL at *;refine b4 3 (Z 60) rfl (fun s c=>?_);refine gF (kY _) kA _ _ rfl (base:=D) a.le.2 rfl a.s1 rfl (mD av aR.aM _ bd) c4 K ?_;intro am T cQ W x az;have n:=ej x bo n;have i:=ej x (fun e=>by have:=(a.s1.lt I e).1;omega) i;have aD:=ej x be aD;have ax:I∈bg am (k+1) T++R:=hk _ ax;have a:=a.sE W x az;have hKC:=And.intro n.aM i.aM;refine a5 c (trivial) (fun e=>by first|exact hKC|exact bm e) ?_;clear c s;clear W x az;refine b4 7 (Z 64) rfl (fun s c=>?_);refine gF fb kC _ _ rfl (base:=D) a.le.2 rfl a.s2 rfl (mC aD.aM _ a1) c4 K ?_;intro m l cS W x az;rw [show (t.take k).map dE++[dE r]=(t.take k++[r]).map dE by simp] at W;have n:=ej x bp n;have i:=ej x (fun e=>by have:=(a.s2.lt I e).1;omega) i;have ax:I∈bg m (k+1) l++(bg am (k+1) T++R):=hk _ ax;have a:=a.sF W x az;have hKC:=And.intro n.aM i.aM;refine a5 c (trivial) (fun e=>by first|exact hKC|exact bm e) ?_;clear c s;clear W x az;refine' a8 8 9 (ac am (k+1) T) rfl Q ?_;refine' a8 9 10 (ac m (k+1) l) rfl Q ?_;refine cC G ?_;go_wp2_with fail;go_meet;exact ⟨_,am,T,m,l,rfl,rfl,a,n,i,ax⟩
     ·skip;refine a6 aq ?_;go_simp;have E:Y f (H f (X [O U ((r.i:Int)+1),(r.g:Int)].toArray 78)):=(Y.refl f).alloc _;have aD:ae (H f (X [O U ((r.i:Int)+1),(r.g:Int)].toArray 78)) f.heap.size [O U ((r.i:Int)+1),(r.g:Int)]:=(ae.new f _ _ rfl).of J;have be:Value.ownBlock (ac M k ab)≠Z f.heap.size:=fun e=>dk _ (a.s1.lt _ e).2;have a1:Value.ownBlock (ac P k ag)≠Z f.heap.size:=fun e=>dk _ (a.s2.lt _ e).2;have a:=a.I E;have n:=n.I E;have i:=i.I E;have hKC:=And.intro n.aM i.aM;have av:=av.ex (bX E R);refine a5 c (trivial) (fun e=>by first|exact hKC|exact bm e) ?_;clear c s;clear E;generalize (H f (X [O U ((r.i:Int)+1),(r.g:Int)].toArray 78))=aO at *;generalize f.heap.size=bL at *;refine b4 2 (Z 59) rfl (fun s c=>?_);go_simp;have E:Y aO (H aO (X (an y.x z B u A C w) 85)):=(Y.refl aO).alloc _;have aR:ae (H aO (X (an y.x z B u A C w) 85)) aO.heap.size (an y.x z B u A C w):=(ae.new aO _ _ rfl).of J;have bd:Value.ownBlock (ac M k ab)≠Z aO.heap.size:=fun e=>dk _ (a.s1.lt _ e).2;have a:=a.I E;have n:=n.I E;have i:=i.I E;have hKC:=And.intro n.aM i.aM;have av:=av.ex (bX E R);have aD:=aD.I E;refine a5 c (trivial) (fun e=>by first|exact hKC|exact bm e) ?_;clear c s;clear E;generalize (H aO (X (an y.x z B u A C w) 85))=cU at *;generalize aO.heap.size=ct at *;refine b4 3 (Z 60) rfl (fun s c=>?_);refine gF (kY _) kA _ _ rfl (base:=D) a.le.2 rfl a.s1 rfl (mD av aR.aM _ bd) c4 K ?_;intro am T cV W x az;have n:=ej x bo n;have i:=ej x (fun e=>by have:=(a.s1.lt I e).1;omega) i;have aD:=ej x be aD;have ax:I∈bg am (k+1) T++R:=hk _ ax;have a:=a.sE W x az;have hKC:=And.intro n.aM i.aM;refine a5 c (trivial) (fun e=>by first|exact hKC|exact bm e) ?_;clear c s;clear W x az;refine b4 7 (Z 64) rfl (fun s c=>?_);refine gF fb kC _ _ rfl (base:=D) a.le.2 rfl a.s2 rfl (mC aD.aM _ a1) c4 K ?_;intro m l cW W x az;rw [show (t.take k).map dE++[dE r]=(t.take k++[r]).map dE by simp] at W;have n:=ej x bp n;have i:=ej x (fun e=>by have:=(a.s2.lt I e).1;omega) i;have ax:I∈bg m (k+1) l++(bg am (k+1) T++R):=hk _ ax;have a:=a.sF W x az;have hKC:=And.intro n.aM i.aM;refine a5 c (trivial) (fun e=>by first|exact hKC|exact bm e) ?_;clear c s;clear W x az;refine' a8 8 9 (ac am (k+1) T) rfl Q ?_;refine' a8 9 10 (ac m (k+1) l) rfl Q ?_;refine cC G ?_;go_wp2_with fail;go_meet;exact ⟨_,am,T,m,l,rfl,rfl,a,n,i,ax⟩
    case rest=>
     obtain ⟨aS,am,T,m,l,rfl,rfl,cl,bn,bJ,ax⟩:=hcut;clear a n br av;have bN:y.x.slot=(a4 (t.drop (k+1)).head?).1:=bB Prod.fst bI.out;have bO:y.x.gen=(a4 (t.drop (k+1)).head?).2:=bB Prod.snd bI.out;have cs:er wc aE 13 [O U (a4 (t.drop (k+1)).head?).1,O U (a4 (t.drop (k+1)).head?).2]:=⟨fun j c2 bw=>by
      rcases j with _|_|j
      ·cases bw;rw [←bN];exact bn.cell 13 rfl
      ·cases bw;rw [←bO];exact bn.cell 14 rfl
      ·simp at bw⟩
     have cx:=cl.other ax cy cw cz (da (t.drop (k+1)).head?);have aT:ae (ba wc I 0 (da (t.drop (k+1)).head?)) I (da (t.drop (k+1)).head?):=bJ.aR rfl;rw [show aP.take k++[y]=aP.take (k+1) by rw [kH,cr.out];rfl,show t.take k++[r]=t.take (k+1) by rw [kH,cp.out];rfl] at cx;have cm:=N cx;have cn:=N aT;clear cl cx aT bn bN bO;go_wp2_with (first|(with_reducible refine dc 78 (cs) dm ?_)|(with_reducible refine bq 78 (bJ) ((da (t.drop (k+1)).head?)) ?_));(try simp only [bu]);go_roundw
     case rel=>exact ⟨k+1,aS,am,T,m,l,K,rfl,rfl,cm,cn,N ax⟩
     case measure=>simp [y4];omega
  ·obtain rfl:k=t.length:=by omega
   have i:ae wr I [O U 0,O U 0]:=by
    have:=aV.out;rw [List.drop_length] at this;exact this
   have a:=bj.out;rw [mS,pP (by rw [bH.out];exact aG _)] at a;have bh:=N a;clear aV bj a;go_wp2_with (with_reducible refine b0 78 (i) dm ?_);go_ret3;have a:=bh.out;have e:=bH.out;have bS:=a.s1.ek (dv _ _);rw [←e] at bS;have bU:=a.s2.fv fb;rw [←e] at bU;exact ⟨M,ab,P,ag,by rw [e];rfl,bS,bU,a.aC⟩
end
section
variable {M P : Int} {x : fc} 
theorem gh(D:ae d i (bE page M P a2 a1 a7 op Q ax aE aD am x z B u A C w m E l k done a3)){b:Bool}(a: (a7==7)=b):
  ao aj 181 #[aa i] d fun e F=>e=ap (ah b)∧d=F:=by
 have c:=D.cell 5 rfl;clear D;subst a;go_enter Tryz.func181,Tryz.ntmps181;go_wp2_with fail;go_ret;exact⟨rfl,rfl⟩
theorem nn(D:ae d i (bE page M P a2 a1 7 op Q ax aE aD am x z B u A C w m E l k done a3)):
  ao aj 162 #[aa i] d fun e F=>e=ap (a0 #[ah done,a3])∧Y d F:=by
 have c:=N (gh D (b:=true) rfl);have f:=D.cell 25 rfl;have g:=D.cell 26 rfl;clear D;go_enter Tryz.func162,Tryz.ntmps162;go_wp2_with(go_at_call 181;(with_reducible refine c.out.mono ?_);rintro e F ⟨rfl,rfl⟩);go_region_held3(fun a=>a.cell? ⟨i,25,V⟩=Z (ah done)∧a.cell? ⟨i,26,V⟩=Z a3) ((first|(have kG:=(Y.refl d);exact b9)|exact b9)) (fail);all_goals
  go_wp2_with fail;go_ret2;exact⟨rfl,bz⟩
def gE (Q E:Nat):Int:=if E=0 then(if Q=0 then 7 else 6)else 5
theorem uq(D:ae d i (bE page M P a2 a1 a7 op Q ax aE aD am x z B u A C w m E l k done a3))(ab:E≤1000)(ag:Q≤1000)(t:TypeId)(c:ak):
  ao aj 197 #[aa i,(.iface t c)] d fun e F=>e=ap (ah (gE Q E==7))∧ae F i (bE page M P a2 a1 (gE Q E) op Q ax aE aD am x z B u A C w m E l k done (.iface t c))∧Mod [i] d F:=by
 have a:=(D.set 26 (.iface t c)).set 5 (O U 5);have y:=D.cell 5 rfl;have I:=D.free 5 J;have v:=D.cell 26 rfl;have G:=D.free 26 J;have g: ∀ (r:Nat) (s:ak) (o:ad),Mod [i] o (o.setCell ⟨i,r,V⟩ s):=fun r s o=>Mod.setCell _ _ _ J;have j:=(g 26 (.iface t c) d).trans (g 5 (O U 5) _);go_enter Tryz.func197,Tryz.ntmps197;go_upto_region 2 with fail
 generalize (d.setCell ⟨i,26,V⟩ (.iface t c)).setCell ⟨i,5,V⟩ (O U 5)=n at *;have j:Mod [i] d n:=j;have a:ae n i (bE page M P a2 a1 5 op Q ax aE aD am x z B u A C w m E l k done (.iface t c)):=a.of rfl;clear D y I v G;have S:=a.cell 5 rfl;have W:=a.free 5 J;have R:=a.cell 23 rfl;have T:=a.cell 6 rfl;rcases gm E with q|q
 ·subst q;rcases gm Q with p|p
  ·subst p;have b:=N (((a.set 5 (O U 6)).set 5 (O U 7)).of (us:=bE page M P a2 a1 7 op 0 ax aE aD am x z B u A C w m 0 l k done (.iface t c)) rfl);have h:=N ((j.trans (g 5 (O U 6) n)).trans (g 5 (O U 7) _));clear a;have f:=N (gh b.out rfl);go_wp2_with (go_at_call 181;(with_reducible refine f.out.mono ?_);rintro e F ⟨rfl,rfl⟩);go_ret;rw [show gE 0 0=7 from rfl];exact ⟨rfl,b.out,h.out⟩
  ·have L: ((Q:Int)==0)=false:=by rw [ey];omega
   have b:=N ((a.set 5 (O U 6)).of (us:=bE page M P a2 a1 6 op Q ax aE aD am x z B u A C w m 0 l k done (.iface t c)) rfl);have h:=N (j.trans (g 5 (O U 6) n));clear a;have f:=N (gh b.out rfl);go_wp2_with (go_at_call 181;(with_reducible refine f.out.mono ?_);rintro e F ⟨rfl,rfl⟩);go_ret;rw [show gE Q 0=6 by unfold gE;rw [a9 rfl,aS K]];exact ⟨rfl,b.out,h.out⟩
 ·have L: ((E:Int)==0)=false:=by rw [ey];omega
  have b:=N a;have h:=N j;clear a;have f:=N (gh b.out rfl);go_wp2_with (go_at_call 181;(with_reducible refine f.out.mono ?_);rintro e F ⟨rfl,rfl⟩);go_ret;rw [show gE Q E=5 by unfold gE;rw [aS K]];exact ⟨rfl,b.out,h.out⟩
end
theorem cd.q6{d:ad}{n:Int}{b:List ak}(a:cd d n W k nd b):b.all (·.oneCell')=true:=by
 obtain⟨i,h,m,E,l,a⟩:=a;cases nd with
 |leaf v=>obtain⟨o,g,c,rfl,e,f⟩:=a;rfl
 |aU v=>obtain⟨o,g,c,rfl,e,f⟩:=a;rfl
section
variable {aH : Nat} 
theorem F1{t:Nat}(ab: ∀ b∈S,b < d.heap.size)(i:gZ B0 S d aH p W V true aF rs)(D:ae d t [aa aH])(av:aF.length≤1000)(ax:rs.length≤1000)(ar: ∀ y∈aF,bT y)(az:dw aF=Z nd):
  ao aj 118 #[aa t] d (ox d p W aF.length nd):=by
 obtain ⟨L,aE,A,m,E,l,i⟩:=i;obtain rfl:aF.length=aE:=i.hW.len;obtain rfl:rs.length=E:=by rw [←i.io.len,fM]
 have r:Y d (H d (X cr 170)):=(Y.refl d).alloc _;have Q:=(ae.new d cr.toArray 170 rfl).of (us:=cr) J;have P:=D.I r;have x:=i.I ab r;have aJ:t < d.heap.size:=D.lt J;have aI:aH < d.heap.size:=i.box.lt J;clear D i;go_enter Tryz.func118,Tryz.ntmps118;go_upto_region 1 with fail
 generalize H d (X cr 170)=j at *;refine gG (S:=fun F=>F.rangeAt t 0 [aa aH]∧F.rangeAt aH 0 (gB p true true ((W.i:Int)+1) (W.g:Int) (a4 V).1 (a4 V).2 L aF.length A m rs.length l aB)) G ⟨P.aM,x.box.aM⟩ (fun a=>?_);have z:=x.I (fun b n=>dR (ab b n) r.le) (Y.refl j).drew;have R:=Q.I (Y.refl j).drew;have ag:Y d j.drew:=r.trans (Y.refl j).drew;have bW:=N fun M (I:Y j.drew M)=>(z.hW.ek (dv _ _)).I I;have am:=N fun M (I:Y j.drew M)=>(z.io.fv fb).I fb I;clear x Q r z P;generalize j.drew=f at *;refine' dA (v:=aa aH) 0 3 rfl (.inl ⟨aq,?_⟩) a ?_
 ·(intro d c;have g:=c.1 0 _ rfl;simp only [cv] at g;clear c;go_simp)
 refine' bV 1 4 (aa aH) rfl a ?_;refine' bV 2 5 (aa aH) rfl a ?_;refine' dA (v:=O U (p:Int)) 3 6 rfl (.inl ⟨aq,?_⟩) a ?_
 ·(intro d c;have g:=c.2 0 _ rfl;simp only [cv] at g;clear c;go_simp)
 refine' dA (v:=aa aH) 4 7 rfl (.inl ⟨aq,?_⟩) a ?_
 ·(intro d c;have g:=c.1 0 _ rfl;simp only [cv] at g;clear c;go_simp)
 refine' bV 5 8 (aa aH) rfl a ?_;refine' bV 6 9 (au (Z ⟨aH,3,V⟩)) rfl a ?_;refine' dA (v:=aw #[O U ((W.i:Int)+1),(W.g:Int)]) 7 10 rfl (.inl ⟨aq,?_⟩) a ?_
 ·(intro d c;have g:=c.2 3 _ rfl;have aD:=c.2 4 _ rfl;simp only [cv] at g aD;clear c;go_simp)
 refine' dA (v:=aa aH) 8 11 rfl (.inl ⟨aq,?_⟩) a ?_
 ·(intro d c;have g:=c.1 0 _ rfl;simp only [cv] at g;clear c;go_simp)
 refine' bV 9 12 (aa aH) rfl a ?_;refine' bV 10 13 (au (Z ⟨aH,7,V⟩)) rfl a ?_;refine' dA (v:=ac L aF.length A) 11 14 rfl (.inl ⟨aq,?_⟩) a ?_
 ·(intro d c;have g:=c.2 7 _ rfl;simp only [cv] at g;clear c;go_simp)
 refine' dA (v:=aa aH) 12 15 rfl (.inl ⟨aq,?_⟩) a ?_
 ·(intro d c;have g:=c.1 0 _ rfl;simp only [cv] at g;clear c;go_simp)
 refine' bV 13 16 (aa aH) rfl a ?_;refine' bV 14 17 (au (Z ⟨aH,8,V⟩)) rfl a ?_;refine' dA (v:=ac m rs.length l) 15 18 rfl (.inl ⟨aq,?_⟩) a ?_
 ·(intro d c;have g:=c.2 8 _ rfl;simp only [cv] at g;clear c;go_simp)
 refine cL (rs:=[16]) G J ?_;refine cy (o:=⟨Z 19,_,_,_,_,_⟩) rfl (fun h k=>?_) cM;refine a6 aq ?_;go_simp;go_at_call 65;with_reducible refine (FQ p W L aF.length A aF m rs.length l (rs.map dE) nd f (bW.out f (Y.refl f)) (am.out f (Y.refl f)) av ax ar az).mono ?_
 rintro e al ⟨s,rfl,B,u⟩;have C:=a;refine k.out _ _ ⟨u.range C.1,u.range C.2⟩ (fun a=>?_);clear k h C;(try simp only [bu]);have T:=R.I u;have w:=(B [] J).len;have aA:=(B [] J).q6;refine' bV 17 20 (aw s) rfl a ?_;refine' bV 18 21 (aB) rfl a ?_;refine cL (rs:=[19]) G J ?_;refine cy (o:={dst:=V,op:= .store 170 (.tmp 1) (.tmp 20),type:=_,pos:=_,after:=_,guard:=V}) rfl (fun h k=>?_) cM;refine a6 aq ?_;refine dQ _ _ _ rfl _ _ s.toArray rfl rfl (by have:=T.may;simpa [w] using this) (by rw [uL,w];kernel_rfl) (by simpa using aA) ?_;simp only [bu];have aC:=ag.le;refine k.out _ _ ⟨eg a.1 _ _ _ (.inl K),eg a.2 _ _ _ (.inl K)⟩ (fun a=>?_);clear k h;refine' bV 20 2 (aB) rfl a ?_;refine fx G ?_ _;go_wp2_with fail;refine bH ((T.aR (us:=s) w).cK rfl _ rfl rfl dt rfl (by rw [w];kernel_rfl)) rfl ?_;have ay:Mod [d.heap.size] al (ba al d 0 s):=Mod.setCells J _ _ _;exact ⟨s,rfl,fun S' an=>cd.ex (B (d.heap.size::S') (fun b n=>by
  rcases bd.1 n with q|q
  ·rw [q];exact dR (R.lt J) (aG _)
  ·exact dR (an b q) aC)) ((ay.jT (S':=d.heap.size::S') J).trans (oX _ (fun b n=>h5 _ n))),(ag.trans u).setCells (aG _) _ _⟩
theorem yl(j: ∀ b∈S,b < d.heap.size)(o:gZ B0 S d aH p W V true aF rs)(w:aF.length≤1000)(x:rs.length≤1000)(t: ∀ y∈aF,bT y)(z:dw aF=Z nd):
  ao aj 101 #[aa aH] d (ox d p W aF.length nd):=by
 have c:Y d ((H d (X #[aa aH] 224)).alloc (X cr 170)):=((Y.refl d).alloc _).alloc _;have h:ae ((H d (X #[aa aH] 224)).alloc (X cr 170)) d.heap.size [aa aH]:=((ae.new d _ _ rfl).of J).I ((Y.refl _).alloc _);have r:ae ((H d (X #[aa aH] 224)).alloc (X cr 170)) (d.heap.size+1) cr:=(ae.new (H d _) _ _ dW).of J;have F:=N fun (A:ad) (k:Y d A) (D:ae A d [aa aH])=>F1 (nd:=nd) (fun b a=>dR (j b a) k.le) (o.to (fun b a _=>k.block b (j b a)) (fun _ q=>q) (k.aL fun _ q=> .inl q)) D w x t z;obtain ⟨Q,P,M,m,E,l,g⟩:=o;have ag:=(g.box.I c).cell 2 rfl;have L:=(g.box.I c).cell 9 rfl;have R:=h.cell 0 rfl;have ed:=N h;clear g h j t z w x;go_enter Tryz.func101,Tryz.ntmps101;go_upto_region 1 with fail
 generalize (H d (X #[aa aH] 224)).alloc (X cr 170)=C at *;go_wp2_with (first|(go_at_call 118;(with_reducible refine (F.out C c ed.out).mono ?_);rintro e B ⟨f,rfl,i,u⟩;have n:=(i [] J).len;have K:=(i [] J).q6;have s:=r.I u;have v: (aj.info? 170).map (·.size)=Z f.length:=(by rw [n];kernel_rfl))|((with_reducible refine ka (ty:=170) s f ?_ ?_ ?_ ?_ ?_ ?_);(focus (exact rfl));(focus (exact ⟨_,_,rfl,rfl,rfl⟩));(focus (exact n));(focus (exact v));(focus (exact K))));refine bH ((s.aR (us:=f) n).cK rfl _ rfl rfl dt rfl v) rfl ?_;have I:Mod [d.heap.size+1] B (ba B (d.heap.size+1) 0 f):=Mod.setCells J _ _ _;exact ⟨f,rfl,fun S' G=>cd.ex (i ((d.heap.size+1)::S') (fun b a=>by
  rcases bd.1 a with q|q
  ·rw [q];exact r.lt J
  ·exact dR (G b q) c.le)) ((I.jT (S':=(d.heap.size+1)::S') J).trans (oX _ (fun b a=>h5 _ a))),(c.trans u).setCells (gl _) _ _⟩
end
structure bI (h:aV) (B0:Nat) (S0:List Nat) (w0:ad) (lim:aK) (L:az) (i:Nat) (aY:List ak) (W:ar) (z:Option ai) (B u:Nat) (A:Option ai) (C w:Nat) (S:List Nat) (f:ad) (op:Option ai) (Q ax:Nat) (aR:List Int) (aE:Option ai) (aD am:Nat) (aQ:List ar) (m:Option ai) (E l:Nat) (rs:List aA):Prop where
 box:ae f i aY
 s:fF B0 S f i op Q ax aR aE aD am aQ m E l rs
 aL:b3 (ay f S) W z B u A C w
 mem:aX h S f lim L
 av:bn h.l B0 S0 w0 S f
section
variable {bf : az} {aY : List ak} {W : ar} {f aP : ad} 
theorem bI.fJ(a:bI h B0 S0 w0 lim L i aY W z B u A C w S f op Q ax aR aE aD am aQ m E l rs):i∈S∧B0≤i∧i < f.heap.size:=a.s.ft i J
theorem bI.aC(a:bI h B0 S0 w0 lim L i aY W z B u A C w S f op Q ax aR aE aD am aQ m E l rs)(b:Y f aP):bI h B0 S0 w0 lim L i aY W z B u A C w S aP op Q ax aR aE aD am aQ m E l rs:=
 ⟨a.box.I b,a.s.I a.mem.old b,a.aL.ex (bX b S),a.mem.I b,a.av.trans b.av⟩
theorem bI.acc(a:bI h B0 S0 w0 lim L i aY W z B u A C w S f op Q ax aR aE aD am aQ m E l rs)(o: ∀ b∈h.l,b < B0)(p:aX h S aP lim bf){e:List Nat}(d:Mod e f aP)(g: ∀ b∈e,b∈h.l):bI h B0 S0 w0 lim bf i aY W z B u A C w S aP op Q ax aR aE aD am aQ m E l rs:=by
 have j:bn h.l B0 S f S aP:=d.av fun b c=>⟨a.mem.sub b (g b c),.inl (g b c)⟩;have k: ∀ b,B0≤b→b∉e:=fun b c q=>by have:=o b (g b q);omega
 exact⟨d.box (k i a.fJ.2.1) a.box,a.s.to (fun b c n _=>d.block b (a.mem.old b c) (k b n)) d.size (fun _ q=>q) j.aL,a.aL.ex j.aL,p,a.av.trans j⟩
theorem bI.wrote(a:bI h B0 S0 w0 lim L i aY W z B u A C w S f op Q ax aR aE aD am aQ m E l rs)(o: ∀ b∈h.l,b < B0)(g:Mod [i] f aP){j:List ak}(p:ae aP i j):bI h B0 S0 w0 lim L i j W z B u A C w S aP op Q ax aR aE aD am aQ m E l rs:=by
 obtain⟨k,n,q⟩:=a.fJ;have c: ∀ e:List Nat,bn e B0 S f S aP:=fun e=>g.av fun b d=>by rw[aO.1 d];exact⟨k,.inr n⟩
 exact⟨p,a.s.wrote a.mem.old g,a.aL.ex (c []).aL,a.mem.av (c []) fun b d=>⟨J,o b d⟩,a.av.trans (c _)⟩
theorem bI.set(d:bI h B0 S0 w0 lim L i aY W z B u A C w S f op Q ax aR aE aD am aQ m E l rs)(e: ∀ b∈h.l,b < B0)(a:Nat)(c:ak):bI h B0 S0 w0 lim L i (aY.set a c) W z B u A C w S (f.setCell ⟨i,a,V⟩ c) op Q ax aR aE aD am aQ m E l rs:=
 d.wrote e (Mod.setCell _ _ _ J) (d.box.set a c)
theorem bI.of(a:bI h B0 S0 w0 lim L i aY W z B u A C w S f op Q ax aR aE aD am aQ m E l rs){inl':List ak}(e:aY=inl'):bI h B0 S0 w0 lim L i inl' W z B u A C w S f op Q ax aR aE aD am aQ m E l rs:=e ▸ a
theorem bI.grown(a:bI h B0 S0 w0 lim L i aY W z B u A C w S f op Q ax aR aE aD am aQ m E l rs)(G: ∀ b∈h.l,b < B0){d:List Nat}{r:Option Nat}(K:f.grownBy aP r)(M: ∀ g,r=Z g→g≠i){x:Option ai}{s o:Nat}{y:List Int}{t:Option ai}{p k:Nat}{j:List ar}{v:Option ai}{q n:Nat}{D:List aA}
  (c:fF B0 d aP i x s o y t p k j v q n D∧∀ F,bn F B0 S f d aP):bI h B0 S0 w0 lim L i aY W z B u A C w d aP x s o y t p k j v q n D:=
 ⟨ej K (fun e=>M i e rfl) a.box,c.1,a.aL.ex (c.2 []).aL,a.mem.av (c.2 []) fun b I=>⟨J,G b I⟩,a.av.trans (c.2 _)⟩
theorem bI.sG(j:bI h B0 S0 w0 lim L i aY W z B u A C w S f op Q ax aR aE aD am aQ m E l rs)(o: ∀ b∈h.l,b < B0){d:Option ai}{c a:Nat}{n:List aA}(r:bi fG 2 78 aP B0 d c a (n.map dE))(k:f.grownBy aP (Value.ownBlock (ac m E l)))(p:Value.ownBlock (ac d c a)=Value.ownBlock (ac m E l)∨Value.ownBlock (ac d c a)=Z f.heap.size):
  bI h B0 S0 w0 lim L i aY W z B u A C w (bg d c a++S) aP op Q ax aR aE aD am aQ d c a n:=
 j.grown o k (fun g q e=>(fN.1 j.s.nd).1 (by subst e;simp only[cu,c9];exact .inr (.inr q))) (j.s.sG r k p)
theorem bI.qk(j:bI h B0 S0 w0 lim L i aY W z B u A C w S f op Q ax aR aE aD am aQ m E l rs)(o: ∀ b∈h.l,b < B0){d:Option ai}{c a:Nat}{n:List Int}(r:bi h9 1 3 aP B0 d c a n)(k:f.grownBy aP (Value.ownBlock (ac op Q ax)))(p:Value.ownBlock (ac d c a)=Value.ownBlock (ac op Q ax)∨Value.ownBlock (ac d c a)=Z f.heap.size):
  bI h B0 S0 w0 lim L i aY W z B u A C w (bg d c a++S) aP d c a n aE aD am aQ m E l rs:=
 j.grown o k (fun g q e=>(fN.1 j.s.nd).1 (by subst e;simp only[cu,c9];exact .inl q)) (j.s.qk r k p)
theorem bI.nc(j:bI h B0 S0 w0 lim L i aY W z B u A C w S f op Q ax aR aE aD am aQ m E l rs)(o: ∀ b∈h.l,b < B0){d:Option ai}{c a:Nat}{k:List ar}(r:bi (eK (ay f S)) 15 85 aP B0 d c a k)(n:f.grownBy aP (Value.ownBlock (ac aE aD am)))(p:Value.ownBlock (ac d c a)=Value.ownBlock (ac aE aD am)∨Value.ownBlock (ac d c a)=Z f.heap.size):
  bI h B0 S0 w0 lim L i aY W z B u A C w (bg d c a++S) aP op Q ax aR d c a k m E l rs:=
 j.grown o n (fun g q e=>(fN.1 j.s.nd).1 (by subst e;simp only[cu,c9];exact .inr (.inl q))) (j.s.nc r n p)
end
section
variable {bb be : Int} {W : ar} 
def Av (h:aV) (B0:Nat) (S0:List Nat) (w0:ad) (lim:aK) (L:az) (i:Nat) (page bb be:Int) (a2:Nat) (a1:ak) (a7:Int) (W:ar) (z:Option ai) (B u:Nat) (A:Option ai) (C w:Nat) (S:List Nat) (op:Option ai) (Q ax:Nat) (aR:List Int) (aE:Option ai) (aD am:Nat) (aQ:List ar) (m:Option ai) (E l:Nat) (rs:List aA) (k:Nat) (done:Bool) (a3:ak) (a:jJ) (e:Ending) (F:ad):Prop:=
 match a with
 | .ok r g=>e=ap aB∧∃ j d b,bI h B0 S0 w0 lim g i (bE page bb be a2 a1 a7 op Q ax aE aD am W.x z B u A C w d (E+1) b k done a3) W z B u A C w j F op Q ax aR aE aD am aQ d (E+1) b (rs++[r])
 | .no c=> ∃ t f,e=ap (.iface t f)∧cm (ay F S) (.iface t f) c∧bI h B0 S0 w0 lim L i (bE page bb be a2 a1 a7 op Q ax aE aD am W.x z B u A C w m E l k done a3) W z B u A C w S F op Q ax aR aE aD am aQ m E l rs
theorem cm.iface{v:ak}{c:Int}(a:cm d v c): ∃ t b,v= .iface t b:=by cases a <;> exact⟨_,_,rfl⟩
theorem yz(g:bI h B0 S0 w0 lim L i (bE page bb be a2 a1 a7 op Q ax aE aD am W.x z B u A C w m E l k done a3) W z B u A C w S d op Q ax aR aE aD am aQ m E l rs)(a9: ∀ b∈h.l,b < B0)(bA:E≤1000)(y:ar)(M:Option ai)(aM ab:Nat)(P:Option ai)(aN ag:Nat)(bf:b3 (ay d S) y M aM ab P aN ag)(bi:bT y):
  ao aj 195 #[aa i,aa h.m,aW y.x M aM ab P aN ag] d (Av h B0 S0 w0 lim L i page bb be a2 a1 a7 W z B u A C w S op Q ax aR aE aD am aQ m E l rs k done a3 (b2 lim.count L y)):=by
 have aP:Y d (H d (X (an y.x M aM ab P aN ag) 85)):=(Y.refl d).alloc _;have aL:ae (H d (X (an y.x M aM ab P aN ag) 85)) d.heap.size (an y.x M aM ab P aN ag):=(ae.new d _ _ rfl).of J;have aV:=g.aC aP;have aO:=N (AW aV.mem y M aM ab P aN ag (bf.ex (bX aP S)) bi);have aI:=N a9;have aH:=N aV;clear g aV bf a9 bi;generalize b2 lim.count L y=a at *;go_enter Tryz.func195,Tryz.ntmps195;go_upto_region 1 with fail
 generalize H d (X (an y.x M aM ab P aN ag) 85)=bv at *;cases a with
 |ok r br=>
  go_upto_region 2 with (first|(with_reducible refine b0 85 (aL) cG ?_)|(go_at_call 206;(with_reducible refine aO.out.mono ?_);rintro e f ⟨v,rfl,aF,al,aC⟩;(obtain rfl:v=Value.nilIface:=aF);have aT:ae (H f (X #[O U 0,O U 0] 78)) f.heap.size [O U 0,O U 0]:=(ae.new f _ _ rfl).of J)|(with_reducible refine bq 78 (aT) ([O U ((r.i:Int)+1),O U (r.g:Int)]) ?_))
  have n:ae ((H f (X #[O U 0,O U 0] 78)).setCells f 0 [O U ((r.i:Int)+1),(r.g:Int)]) f.heap.size [O U ((r.i:Int)+1),(r.g:Int)]:=(ae.new f #[O U 0,O U 0] 78 rfl).aR rfl;have av:Y f ((H f (X #[O U 0,O U 0] 78)).setCells f 0 [O U ((r.i:Int)+1),(r.g:Int)]):=((Y.refl f).alloc _).setCells (aG _) _ _;have p:=(aH.out.acc aI.out al aC J).aC av;have bg:f.heap.size∉S:=fun q=>dk _ (al.old _ q);clear av aC al aO aL aP aH;show Code.wp _ _ _ _ ((H f (X #[O U 0,O U 0] 78)).setCells f 0 [O U ((r.i:Int)+1),(r.g:Int)]);generalize (H f (X #[O U 0,O U 0] 78)).setCells f 0 [O U ((r.i:Int)+1),(r.g:Int)]=aK at *;generalize f.heap.size=aA at *;have bp:i≠aA:=fun e=>bg (by rw [←e];exact p.fJ.1);have aS:=N p;have bm:=N n;clear p n;go_upto_region 3 with fail
  refine zQ (fun F=>F.rangeAt aA 0 [O U ((r.i:Int)+1),(r.g:Int)]) (fun F=>F.cell? ⟨i,23,V⟩=Z (ac m E l)) [4] 10 G ?_;have aJ:=aS.out.aC (Y.refl aK).drew;have n:=bm.out.I (Y.refl aK).drew;generalize aK.drew=I at *;have s:=n.aM;have hKC:=aJ.box.cell 23 rfl;refine' eF (k:=0) (ok:=⟨Z 17,_,_,_,_,_⟩) (v:=aa i) rfl G G G G (fun _ _ _ g=>g) (T:=fun _=>True) (fun _ _ _=>trivial) (.inl ⟨aq,?_⟩) s hKC ?_
  ·(intro d R;go_simp)
  (try simp only [bu]);refine' eF (k:=1) (ok:=⟨Z 18,_,_,_,_,_⟩) (v:=aa i) rfl G G G G (fun _ _ _ g=>g) (T:=fun _=>True) (fun _ _ _=>trivial) (.inl ⟨aq,?_⟩) s hKC ?_
  ·(intro d R;go_simp)
  (try simp only [bu]);refine' eF (k:=2) (ok:=⟨Z 19,_,_,_,_,_⟩) (v:=aa i) rfl G G G G (fun _ _ _ g=>g) (T:=fun _=>True) (fun _ _ _=>trivial) (.inl ⟨aq,?_⟩) s hKC ?_
  ·(intro d R;go_simp)
  (try simp only [bu]);refine' eF (k:=3) (ok:=⟨Z 20,_,_,_,_,_⟩) (v:=au (Z ⟨i,23,V⟩)) rfl G G G G (fun _ _ _ g=>g) (T:=fun _=>True) (fun _ _ _=>trivial) (.inl ⟨aq,?_⟩) s hKC ?_
  ·(intro d R;go_simp)
  (try simp only [bu]);refine' eF (k:=4) (ok:=⟨Z 21,_,_,_,_,_⟩) (v:=ac m E l) rfl G G G G (fun _ _ _ g=>g) (T:=fun F=>F.cell? ⟨i,23,V⟩=Z (ac m E l)) (fun F _ g=>g J) (.inl ⟨aq,?_⟩) s hKC ?_
  ·(intro d R;go_simp)
  (try simp only [bu]);refine' eF (k:=5) (ok:=⟨Z 22,_,_,_,_,_⟩) (v:=_) rfl G G G G (fun _ _ _ g=>g) (T:=fun F=>F.rangeAt aA 0 [O U ((r.i:Int)+1),(r.g:Int)]) (fun _ g _=>g) (cj aq _ _ rfl _ _ rfl _ _ (fun d g=>g) dm rfl G) s hKC ?_;(try simp only [bu]);clear s hKC;refine lj (j:=6) (o:=⟨Z 23,_,_,_,_,_⟩) rfl G G (fun az x=>?_);refine a6 aq ?_;go_simp;have aX:=(Y.refl I).alloc (X [O U ((r.i:Int)+1),(r.g:Int)].toArray 78);have a8:ae (H I (X [O U ((r.i:Int)+1),(r.g:Int)].toArray 78)) I.heap.size [O U ((r.i:Int)+1),(r.g:Int)]:=(ae.new I _ _ rfl).of J;have bc:Value.ownBlock (ac m E l)≠Z I.heap.size:=fun e=>dk _ (aJ.s.ir.lt _ e).2;have D:=aJ.aC aX;have n:=n.I aX;refine a5 x ((n.aM)) ((D.box.cell 23 rfl)) ?_;clear x az;clear aJ aX;generalize H I (X [O U ((r.i:Int)+1),(r.g:Int)].toArray 78)=bs at *;generalize I.heap.size=bw at *;refine lj (j:=7) (o:=⟨Z 24,_,_,_,_,_⟩) rfl G G (fun az x=>?_);refine a6 aq ?_;refine gF fb kC _ _ rfl (base:=B0) (fE (jB D.fJ.2.1 D.fJ.2.2)) rfl D.s.ir rfl (mC a8.aM _ bc) c4 K ?_;intro a4 aU bt aZ aY bj;rw [show rs.map dE++[dE r]=(rs++[r]).map dE by simp] at aZ;have p:=D.sG aI.out aZ aY bj;have bh:Value.ownBlock (ac m E l)≠Z aA:=fun e=>bg (D.s.ft aA (by simp only [bd,cu,c9];exact .inr (.inr (.inr e)))).1;have n:=ej aY bh n;refine a5 x ((n.aM)) ((p.box.cell 23 rfl)) ?_;clear x az;clear D aZ aY bj a8 bc bh;have s:=n.aM;have hKC:=p.box.cell 23 rfl;refine' eF (k:=8) (ok:=⟨Z 25,_,_,_,_,_⟩) (v:=aa i) rfl G G G G (fun _ _ _ g=>g) (T:=fun _=>True) (fun _ _ _=>trivial) (.inl ⟨aq,?_⟩) s hKC ?_
  ·(intro d R;go_simp)
  (try simp only [bu]);refine' eF (k:=9) (ok:=⟨Z 26,_,_,_,_,_⟩) (v:=au (Z ⟨i,23,V⟩)) rfl G G G G (fun _ _ _ g=>g) (T:=fun _=>True) (fun _ _ _=>trivial) (.inl ⟨aq,?_⟩) s hKC ?_
  ·(intro d R;go_simp)
  (try simp only [bu]);refine iU (j:=10) (o:=⟨V,_,_,_,_,_⟩) rfl G G (fun az x=>?_);refine a6 aq ?_;have bx:=p.box.free 23 J;go_simp;have bo:=p.set aI.out 23 (ac a4 (E+1) aU);have n:=n.other (b':=i) (j:=23) bp (ac a4 (E+1) aU);refine bM x ((n.aM)) ?_;clear x az;refine ru G ?_;go_wp2_with fail;go_ret;exact ⟨rfl,_,a4,aU,bo.of rfl⟩
 |no c=>
  go_upto_region 2 with (first|(with_reducible refine b0 85 (aL) cG ?_)|(go_at_call 206;(with_reducible refine aO.out.mono ?_);rintro e f ⟨v,rfl,aF,al,aC⟩;(obtain ⟨t,bl,rfl⟩:=cm.iface aF);have aT:ae (H f (X #[O U 0,O U 0] 78)) f.heap.size [O U 0,O U 0]:=(ae.new f _ _ rfl).of J)|(with_reducible refine bq 78 (aT) ([O U 0,O U 0]) ?_))
  have av:Y f ((H f (X #[O U 0,O U 0] 78)).setCells f 0 [O U 0,O U 0]):=((Y.refl f).alloc _).setCells (aG _) _ _;have p:=(aH.out.acc aI.out al aC J).aC av;have bk:cm (ay ((H f (X #[O U 0,O U 0] 78)).setCells f 0 [O U 0,O U 0]) S) (.iface t bl) c:=cm.ex aF (bX av S);clear av aC al aO aL aP aF aH;show Code.wp _ _ _ _ ((H f (X #[O U 0,O U 0] 78)).setCells f 0 [O U 0,O U 0]);generalize (H f (X #[O U 0,O U 0] 78)).setCells f 0 [O U 0,O U 0]=aK at *;have aS:=N p;have bn:=N bk;clear p bk;go_wp2_with fail;go_ret;exact ⟨t,bl,rfl,bn.out,aS.out⟩
end
end Go.Proofs.YtbkmjhhpcinppaaGreatDoor
