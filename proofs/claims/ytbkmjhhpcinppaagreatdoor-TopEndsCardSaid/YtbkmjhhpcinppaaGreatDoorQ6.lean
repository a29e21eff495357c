import Derived.Test.YtbkmjhhpcinppaaGreatDoorQ5
namespace Go.Proofs.YtbkmjhhpcinppaaGreatDoor
set_option linter.unusedVariables false
set_option linter.defProp false
set_option linter.unusedSimpArgs false
set_option maxRecDepth 100000
set_option maxHeartbeats 40000000
open Go.BigFrame Go.RowKit Go.WideShapes
open Ending renaming returned→ap
open Go renaming Addr→ai,Calls→ao,Value→ak,World→ad
open Go.Proofs.Tryz renaming prog→aj
open IntKind renaming i64→U
open Obj renaming cells→X
open Option renaming none→V,some→Z
open Value renaming agg→aw,bool→ah,int→O,nilIface→aB,pointer→au,slice→ac,string→af,tuple→a0
open World renaming alloc→H,setCells→ba
variable {l : Program} {w : Exit → Act → ad → Prop} {j m d h : ad} {a : Act} {b base s c n : Nat} {f : List aN} {o : Option ai} {op : Oper} {z : Array Oper} {rest : List Oper} {ty : TypeId} {us r u : List ak}
abbrev ry:ak:=aw #[af ⟨#[]⟩,af ⟨#[]⟩,ah false,O U 0,ac V 0 0,ah false]
structure sa (j:ad) (b:Nat) (f:List ar) (d:ar) (i:Int) (wr:ad) (v:bl) (o:Option ai) (a c:Nat):Prop where
 at':viewAt f d (i+1).toNat=Z v
 box:ae wr b (ci v o a c)
 own:br wr j.heap.size o a c v.rows
 oH:Value.ownBlock (ac o a c)≠Z b
 size:eB v
 oP:v.rows.length≤101 * (f.length - (i+1).toNat)
 aC:Y j wr
def m1 (j:ad) (d:Nat) (v:bl) (x:fc) (e:ak) (a:ad):Prop:=
 match dg v x.r with
 |some f=>e=ah true∧∃ o b c,ae a d (ci f o b c)∧br a j.heap.size o b c f.rows∧Value.ownBlock (ac o b c)≠Z d∧Y j a
 |none=>e=ah false∧Y j a
abbrev g6 (m:ad) (b:Nat) (a c d e f g:ak):ad:=(((((m.setCell ⟨b,0,V⟩ a).setCell ⟨b,1,V⟩ c).setCell ⟨b,2,V⟩ d).setCell ⟨b,3,V⟩ e).setCell ⟨b,4,V⟩ f).setCell ⟨b,5,V⟩ g
theorem vN(i:ae m b u)(h:u.length=6)(a c d e f g:ak):ae (g6 m b a c d e f g) b [a,c,d,e,f,g]:=
 show ae (ba m b 0 [a,c,d,e,f,g]) b _ from i.aR (by rw[h];rfl)
theorem ti(j:Y d m)(i:d.heap.size≤b)(a c e f g h:ak):Y d (g6 m b a c e f g h):=
 show Y d (ba m b 0 [a,c,e,f,g,h])from j.setCells i _ _
theorem yg(j:br m base o n c f)(k:Value.ownBlock (ac o n c)≠Z b)(a d e g h i:ak):br (g6 m b a d e g h i) base o n c f:=
 show br (ba m b 0 [a,d,e,g,h,i]) base o n c f from j.fu k _ _
theorem Dw{b:Nat}(d:br h s o b c f)(e:Y j h)(g:j.heap.size≤s)(a:TypeId)(us:List ak):
  ae (H h (X us a)) h.heap.size us∧br (H h (X us a)) j.heap.size o b c f∧Value.ownBlock (ac o b c)≠Z h.heap.size∧Y j (H h (X us a))∧j.heap.size≤h.heap.size:=
 ⟨(ae.new h us.toArray a rfl).of J,(d.e6 g).I ((Y.refl _).alloc _),fun q=>by have:=(d.own.lt _ q).2;omega,e.alloc _,e.le⟩
theorem Dv{a:Nat}(r:ae h a u)(v:u.length=6){o:Option ai}{l c:Nat}{f:List aN}(m:br h s o l c f)(w:a < s)(t:Y j h)(n:j.heap.size≤a)(b d e g i k:ak):
  ae (g6 h a b d e g i k) a [b,d,e,g,i,k]∧br (g6 h a b d e g i k) j.heap.size o l c f∧Value.ownBlock (ac o l c)≠Z a∧Y j (g6 h a b d e g i k)∧j.heap.size≤a:=
 have p:Value.ownBlock (ac o l c)≠Z a:=fun q=>by have:=(m.own.lt _ q).1;omega
 ⟨vN r v _ _ _ _ _ _,yg (m.e6 K) p _ _ _ _ _ _,p,ti t n _ _ _ _ _ _,n⟩
theorem wK(b6:Option ai)(n aN:Nat)(f:List ar)(d:ad)(aE:fr d b6 n aN f)(dq:n≤1000)(b2: ∀ (i:Nat) (y:ar),f[i]?=Z y→y.x.r.rows.length≤100):
  ao aj 41 #[ac b6 n aN] d (sc d (g8 (eQ f))):=by
 have bC:=N (@Du f);have bE:=N (@Dz f);have bD:Hid (n=0→g8 (eQ f)=(V,10)):=N fun q=>by
  have:f=[]:=gH.1 (by rw [aE.len,q]);rw [this];exact DA
 have R:=N aE.len;have aM:=N b2;have dj:=aE.dj;have cy:=aE.dr;unfold maxLen at cy;obtain ⟨b,z,b1,bT⟩:=aE.get;have a7:=N b1;have a6:=N bT;clear b2 aE b1 bT;generalize g8 (eQ f)=am at *;have aq:ae (H d (X #[af ⟨#[]⟩,af ⟨#[]⟩,false,O U 0,ac V 0 0,false] 119)) d.heap.size bS:=ae.new d _ _ rfl;have T:=(Y.refl d).alloc (X #[af ⟨#[]⟩,af ⟨#[]⟩,false,O U 0,ac V 0 0,false] 119);go_enter Tryz.func41,Tryz.ntmps41;go_upto_region 2 with fail
 generalize H d (X #[af ⟨#[]⟩,af ⟨#[]⟩,false,O U 0,ac V 0 0,false] 119)=j at *;have b5:d.heap.size < j.heap.size:=aq.lt J;go_loopw [13] (fun bk wr=> ∃ k:Nat,k≤n∧bk=O U k∧Y j wr∧Hid (∀ (i:Nat) (y:ar),i < k→f[i]?=Z y→1≤y.x.r.kind∧y.x.r.kind≤6)) (fun bk _=>n - (intOf bk).toNat)
 case atStart=>exact ⟨0,aJ _,rfl,Y.refl _,N fun i y a3 _=>K⟩
 case round=>
  obtain ⟨k,dp,rfl,S,be⟩:=hrel;by_cases cC:k < n
  ·have M:f[k]?=Z (f[k]'(by have:=R.out;omega)):=cP _;generalize (f[k]'(by have:=R.out;omega))=y at M;obtain ⟨aC,al,av,aL,aK,aD,W⟩:=a6.out k y M;have g:=W.I (T.trans S);have aF:=nO aN a7.out cC;have aU:=N M;clear M W;go_upto_region 3 with fail
   go_cut [5] (fun c5 u=> ∃ bb:Nat,c5=au (Z bb)∧ae u bb (an y.x aC al av aL aK aD)∧Y wr u)
   case first=>
    go_wp2_with (first|(refine e8 rfl 85 _ rfl _ _ rfl _ _ (g).aM cG rfl G ?_)|(refine dY rfl 85 _ _ rfl _ 0 _ rfl rfl (ae.new _ _ _ rfl).may G G ?_));go_meet;exact ⟨wr.heap.size,rfl,(ae.new wr _ _ rfl).aR rfl,((Y.refl _).alloc _).setCells (aG _) _ _⟩
   case rest=>
    obtain ⟨bb,rfl,cv,cz⟩:=hcut;have dw:=cv.cell 0 rfl;have aH:=S.trans cz;clear aF;by_cases de:y.x.r.kind < 1∨6 < y.x.r.kind
    ·have t:am=(V,9):=bC.out fun q=>by have:=q k y aU.out;omega
     have F:=N t;have r:=aq.I aH;clear t;by_cases w:y.x.r.kind < 1
     ·go_wp2_with (refine dY rfl 119 _ _ rfl _ 0 _ rfl rfl (r).may G G ?_);refine bH ((r.aR (us:=bS) rfl).cK rfl _ rfl rfl dn rfl G) rfl ?_;rw [F.out];exact ⟨rfl,(T.trans aH).setCells (aG _) _ _⟩
     ·have bc:6 < y.x.r.kind:=by omega
      go_wp2_with (refine dY rfl 119 _ _ rfl _ 0 _ rfl rfl (r).may G G ?_);refine bH ((r.aR (us:=bS) rfl).cK rfl _ rfl rfl dn rfl G) rfl ?_;rw [F.out];exact ⟨rfl,(T.trans aH).setCells (aG _) _ _⟩
    ·have w:1≤y.x.r.kind:=by omega
     have bc:y.x.r.kind≤6:=K;go_wp2_with fail;go_roundw
     case rel=>
      exact ⟨k+1,K,e9,aH,N fun i c9 a3 bi=>by
       rcases dC i k with q|q
       ·exact be.out i c9 q bi
       ·obtain rfl:i=k:=by omega
        rw [aU.out] at bi;cases bi;exact ⟨w,bc⟩⟩
     case measure=>simp [intOf];omega
  ·obtain rfl:k=n:=by omega
   have cs:Hid (o0 f):=N fun i y a3=>be.out i y (by have:=(c3.1 a3).1;have:=R.out;omega) a3;have aH:=S;clear be bC;rcases gm k with bJ|dt
   ·have t:am=(V,10):=bD.out bJ;have F:=N t;have r:=aq.I S;subst bJ;clear t;go_wp2_with (refine dY rfl 119 _ _ rfl _ 0 _ rfl rfl (r).may G G ?_);refine bH ((r.aR (us:=bS) rfl).cK rfl _ rfl rfl dn rfl G) rfl ?_;rw [F.out];exact ⟨rfl,(T.trans S).setCells (aG _) _ _⟩
   ·have aR:f[k - 1]?=Z (f[k - 1]'(by have:=R.out;omega)):=cP _;generalize (f[k - 1]'(by have:=R.out;omega))=a at aR;obtain ⟨aC,al,av,aL,aK,aD,W⟩:=a6.out (k - 1) a aR;have g:=W.I (T.trans S);have aY:Hid (am=(if a.x.r.kind=1∧hf a.x.r.rows a.x.r.low a.x.r.high a.x.r.unb=true then (match viewAt f a 0 with|some v=>(Z v,0)|none=>(V,10)) else (V,10):Option bl×Int)):=N (bE.out cs.out (by rw [R.out];exact aR));have aF:=fun P=>pj aN a7.out (k:=(k:Int) - 1) K K P;have bI: ((k:Int) - 1).toNat=k - 1:=K;rw [bI] at aF;have a8:=N aR;have bG:wr.cell? ⟨b,z+(k - 1) * 15,V⟩=Z (O U a.x.r.kind):=g.cell 0 rfl;clear aR W bI;by_cases aI:a.x.r.kind=1
    ·have bB:=N aI;rw [aI] at bG;clear aI;go_upto_region 10 with fail
     go_cut [7] (fun c7 u=> ∃ aa:Nat,c7=au (Z aa)∧ae u aa (an a.x aC al av aL aK aD)∧Y wr u)
     case first=>
      go_wp2_with (first|(refine e8 rfl 85 _ rfl _ _ rfl _ _ (g).aM cG rfl G ?_)|(refine dY rfl 85 _ _ rfl _ 0 _ rfl rfl (ae.new _ _ _ rfl).may G G ?_));go_meet;exact ⟨wr.heap.size,rfl,(ae.new wr _ _ rfl).aR rfl,((Y.refl _).alloc _).setCells (aG _) _ _⟩
     case rest=>
      obtain ⟨aa,rfl,az,bf⟩:=hcut;have aQ:=S.trans bf;have aV:=g.I bf;have bN:=N aV.rows;have b0:=aV.rows.len;have a4:=aM.out _ _ a8.out;rw [b0] at a4;have aT:=N aV.size;have cw:aa < wc.heap.size:=az.lt J;have bs:=az.cell 1 rfl;have bt:=az.cell 2 rfl;have bv:=az.cell 3 rfl;have bw:=az.cell 4 rfl;have bx:=az.cell 5 rfl;clear bG aF b0 g aV;go_upto_region 11 with fail
      go_cut [8] (fun c8 u=> ∃ (m:Nat) (o:Option ai) (x c:Nat),c8=au (Z m)∧ae u m [af a.x.r.low,a.x.r.high,a.x.r.unb,a.x.r.right,ac o x c,false]∧br u j o x c a.x.r.rows∧Value.ownBlock (ac o x c)≠Z m∧Y j u∧j.heap.size≤m)
      case first=>
       go_region_held3 (fun I=>I.cell? ⟨aa,1,V⟩=Z (af a.x.r.low)∧I.cell? ⟨aa,2,V⟩=Z (af a.x.r.high)∧I.cell? ⟨aa,3,V⟩=Z (ah a.x.r.unb)∧I.cell? ⟨aa,4,V⟩=Z (O U a.x.r.right)∧I.cell? ⟨aa,5,V⟩=Z (ac aC al av))
        ((first|(have kG:=ag;exact b9)|exact b9)) (first|(go_at_call 69;(with_reducible refine (sT _ _ _ _ _ (bN.out.I ?_) ?_).mono ?_);(focus ((exact bz);done));(focus (omega;done));rintro e h ⟨D,C,A,rfl,du,ag,s,bQ,aZ⟩;(have E:Y wc h:=Y.trans dh ag);have cx:wc.heap.size≤s:=bZ (Y.le dh) bQ;have bs:=E.I bs;have bt:=E.I bt;have bv:=E.I bv;have bw:=E.I bw;have bx:=E.I bx;(try (have p:=((ae.new wc #[af ⟨#[]⟩,af ⟨#[]⟩,ah false,O U 0,ac V 0 0,ah false] 119 (b:=wc.heap.size) rfl).I (Y.refl _).drew).I ag;have cM:wc.heap.size < s:=dR (by show _ < (H wc _).heap.size;rw [dL];omega) bQ;have ce:=(p).cell 0 rfl;have cg:=(p).cell 1 rfl;have ch:=(p).cell 2 rfl;have cj:=(p).cell 3 rfl;have ck:=(p).cell 4 rfl;have cl:=(p).cell 5 rfl;have b7:=(p).free 0 J;have bj:=(p).free 1 J;have b8:=(p).free 2 J;have cb:=(p).free 3 J;have cc:=(p).free 4 J;have cd:=(p).free 5 J))))
       all_goals (go_wp2_with fail;go_meet;first|(with_reducible exact ⟨h.heap.size,D,C,A,rfl,Dw aZ (aQ.trans E) (bZ aQ.le cx) _ _⟩)|(with_reducible exact ⟨wc.heap.size,D,C,A,rfl,Dv p rfl aZ cM (aQ.trans E) aQ.le _ _ _ _ _ _⟩))
      case rest=>
       obtain ⟨m,o,x,c,rfl,p,a1,ct,bV,bR⟩:=hcut;clear bs bt bv bw bx az cw bN a4;obtain ⟨aW,bd⟩: ∃ aW:Bool,aW=hf a.x.r.rows a.x.r.low a.x.r.high a.x.r.unb:=⟨_,rfl⟩;have a5:=N bd;have cE:=a1.rows.len;have a4:=aM.out _ _ a8.out;have aP:=fun P (aA:Y wc P)=>y7 a.x.r.rows o x c a.x.r.low a.x.r.high a.x.r.unb P (a1.rows.I aA) K aT.out.low aT.out.high;rw [←bd] at aP;have aP:=N aP;have bO:=N fun P=>GV ⟨a.x.r.low,a.x.r.high,a.x.r.unb,a.x.r.right,a.x.r.rows,false⟩ o x c P;clear bd cE a4;have cf:=p.cell 0 rfl;have bn:=p.cell 1 rfl;have L:=p.cell 2 rfl;have bo:=p.cell 3 rfl;have bp:=p.cell 4 rfl;have bq:=p.cell 5 rfl;go_upto_region 12 with fail
       go_cut [64] (fun c6 u=>c6=ah (!aW)∧Y wc u)
       case first=>
        go_region_held3 (fun I=>I.cell? m=Z (af a.x.r.low)∧I.cell? ⟨m,1,V⟩=Z (af a.x.r.high)∧I.cell? ⟨m,2,V⟩=Z (ah a.x.r.unb)∧I.cell? ⟨m,3,V⟩=Z (O U a.x.r.right)∧I.cell? ⟨m,4,V⟩=Z (ac o x c)∧I.cell? ⟨m,5,V⟩=Z (ah false))
         (first|(first|(have kG:=ag;exact b9)|exact b9)|(first|(have kG:=bU;exact b9)|exact b9)) (first|(go_at_call 71;(with_reducible refine (bO.out _).mono ?_);rintro e h ⟨rfl,ag⟩)|(go_at_call 70;(with_reducible refine (aP.out _ ?_).mono ?_);(focus ((exact bz);done));rintro e dv ⟨rfl,bU⟩))
        all_goals (go_wp2_with fail;go_meet;with_reducible exact ⟨rfl,Y.trans dh bU⟩)
       case rest=>
        obtain ⟨rfl,a2⟩:=hcut;have bg:=bV.trans a2;clear cf bn L bo bp bq aP bO;cases aW
        ·have t:am=(V,10):=by rw [aY.out,aS (fun q=>by rw [←a5.out] at q;exact absurd q.2 bP)]
         have F:=N t;have r:=aq.I bg;clear t;go_wp2_with (refine dY rfl 119 _ _ rfl _ 0 _ rfl rfl (r).may G G ?_);refine bH ((r.aR (us:=bS) rfl).cK rfl _ rfl rfl dn rfl G) rfl ?_;rw [F.out];exact ⟨rfl,(T.trans bg).setCells (aG _) _ _⟩
        ·have bM:am=(match viewAt f a 0 with|some v=>(Z v,0)|none=>(V,10):Option bl×Int):=by rw [aY.out,a9 ⟨bB.out,a5.out.symm⟩]
         have bA:=N bM;have bK:sa j m f a ((k:Int) - 1 - 1) wc (oI a.x.r) o x c:=⟨zF f a (by rw [R.out];omega),p.I a2,a1.I a2,ct,⟨aT.out.low,aT.out.high⟩,by
          have w:=aM.out _ _ a8.out;have ax:=R.out;show a.x.r.rows.length≤_;have ay:1≤f.length - ((k:Int) - 1 - 1+1).toNat:=K;omega,bg⟩
         have cm:=N bK;clear bM bK aY bE bD a5 bB p a1 bV aH a2 S bf aQ;go_wp2_with fail;go_loopw [9] (fun bm wr=> ∃ (i:Int) (v:bl) (o:Option ai) (x c:Nat),bm=O U i∧ -1≤i∧i≤(k:Int) - 1 - 1∧Hid (sa j m f a i wr v o x c)) (fun bm _=>(intOf bm+1).toNat)
         case atStart=>exact ⟨_,_,_,_,_,rfl,K,mJ _,cm⟩
         case round=>
          obtain ⟨i,v,o,x,c,rfl,dl,dm,hF⟩:=hrel;by_cases cA:0≤i
          ·have cB:i.toNat+1 < f.length:=by have:=R.out;omega
           have M:f[i.toNat]?=Z (f[i.toNat]'K):=cP _;generalize (f[i.toNat]'K)=y at M;obtain ⟨aC,al,av,aL,aK,aD,W⟩:=a6.out i.toNat y M;have di:b < d.heap.size:=gN (W.cell 0 rfl);have df:b≠m:=K;have g:=W.I (T.trans hF.out.aC);have aF:=fun P=>pj aN a7.out cA K P;have dr:al≤100:=by have w:=aM.out _ _ M;have ax:=g.rows.len;omega
           have cI:x≤1000000:=by have w:=hF.out.oP;have ax:=hF.out.own.rows.len;have ay:=R.out;omega
           have b4:viewAt f a i.toNat=dg v y.x.r:=by
            rw [zG f a M cB];have w:=hF.out.at';rw [show (i+1).toNat=i.toNat+1 by omega] at w;rw [w];rfl
           have bF:=N b4;have aU:=N M;have cD:m < wr.heap.size:=hF.out.box.lt J;have ab:=fun P (aA:Y wr P)=>Ii (base:=j.heap.size) v y.x o x c aC al av aL aK aD P (hF.out.own.I aA) (g.rows.I aA) cI K (hF.out.aC.trans aA).le hF.out.size g.size;have Q:=hF.out.box;have bX:=hF.out.aC;have cp:=N hF.out.oH;have co:=N g.size;have fC:wr.cell? ⟨b,z+i.toNat * 15,V⟩=Z (O U y.x.r.kind):=g.cell 0 rfl;have cN:wr.cell? ⟨b,z+i.toNat * 15+1,V⟩=Z (af y.x.r.low):=g.cell 1 rfl;have cV:wr.cell? ⟨b,z+i.toNat * 15+2,V⟩=Z (af y.x.r.high):=g.cell 2 rfl;have cW:wr.cell? ⟨b,z+i.toNat * 15+3,V⟩=Z (ah y.x.r.unb):=g.cell 3 rfl;have cX:wr.cell? ⟨b,z+i.toNat * 15+4,V⟩=Z (O U y.x.r.right):=g.cell 4 rfl;have cY:wr.cell? ⟨b,z+i.toNat * 15+5,V⟩=Z (ac aC al av):=g.cell 5 rfl;have cZ:wr.cell? ⟨b,z+i.toNat * 15+6,V⟩=Z (ac aL aK aD):=g.cell 6 rfl;have c0:wr.cell? ⟨b,z+i.toNat * 15+7,V⟩=Z (af y.x.r.key):=g.cell 7 rfl;have c1:wr.cell? ⟨b,z+i.toNat * 15+8,V⟩=Z (af y.x.r.val):=g.cell 8 rfl;have c2:wr.cell? ⟨b,z+i.toNat * 15+9,V⟩=Z (O U y.x.r.page):=g.cell 9 rfl;have cO:wr.cell? ⟨b,z+i.toNat * 15+10,V⟩=Z (O U y.x.aH):=g.cell 10 rfl;have cQ:wr.cell? ⟨b,z+i.toNat * 15+11,V⟩=Z (O U y.x.bb):=g.cell 11 rfl;have cS:wr.cell? ⟨b,z+i.toNat * 15+12,V⟩=Z (af y.x.aD):=g.cell 12 rfl;have cT:wr.cell? ⟨b,z+i.toNat * 15+13,V⟩=Z (O U y.x.slot):=g.cell 13 rfl;have cU:wr.cell? ⟨b,z+i.toNat * 15+14,V⟩=Z (O U y.x.gen):=g.cell 14 rfl;have cf:=Q.cell 0 rfl;have bn:=Q.cell 1 rfl;have L:=Q.cell 2 rfl;have bo:=Q.cell 3 rfl;have bp:=Q.cell 4 rfl;have bq:=Q.cell 5 rfl;clear M b4 W g;go_upto_region 18 with fail
           go_cut [10] (fun c4 u=>m1 j m v y.x c4 u)
           case first=>
            cases B:dg v y.x.r with
            |none=>
             have bh:Hid (∀ u,Y j u→m1 j m v y.x (ah false) u):=N fun u aA=>by unfold m1;rw [B];exact ⟨rfl,aA⟩
             rw [B] at ab;have ab:=N ab;clear B;go_region_with (first|(go_at_call 72;(with_reducible refine (ab.out _ ?_).mono ?_);(focus ((exact bz);done));rintro e h ⟨db,dc,u1,dd,bj,D,C,A,rfl,ag⟩;(have E:Y wr h:=Y.trans dh ag);have l:=Q.I E;have ce:=(l).cell 0 rfl;have cg:=(l).cell 1 rfl;have ch:=(l).cell 2 rfl;have cj:=(l).cell 3 rfl;have ck:=(l).cell 4 rfl;have cl:=(l).cell 5 rfl;have b7:=(l).free 0 J;have bj:=(l).free 1 J;have b8:=(l).free 2 J;have cb:=(l).free 3 J;have cc:=(l).free 4 J;have cd:=(l).free 5 J));all_goals (go_wp2_with fail;go_meet;with_reducible exact bh.out _ (ti (bX.trans E) bR _ _ _ _ _ _))
            |some L=>
             have bh:Hid (∀ (h:ad) (D:Option ai) (C A:Nat),ae h m (ci v o x c)→br h j D C A L.rows→Value.ownBlock (ac D C A)≠Z m→Y j h→m1 j m v y.x (ah true) (g6 h m (af L.low) (af L.high) (ah L.unb) (O U L.right) (ac D C A) (ah L.gone))):=N fun h D C A w ax ay aX=>by
              unfold m1;rw [B];exact ⟨rfl,D,C,A,vN w rfl _ _ _ _ _ _,yg ax ay _ _ _ _ _ _,ay,ti aX bR _ _ _ _ _ _⟩
             rw [B] at ab;have ab:=N ab;clear B;go_region_with (first|(go_at_call 72;(with_reducible refine (ab.out _ ?_).mono ?_);(focus ((exact bz);done));rintro e h ⟨D,C,A,rfl,aZ,cu,ag⟩;(have E:Y wr h:=Y.trans dh ag);(have cK:Value.ownBlock (ac D C A)≠Z m:=fun q=>(cu m q).elim (fun da=>dk _ (dR cD da)) cp.out);have l:=Q.I E;have ce:=(l).cell 0 rfl;have cg:=(l).cell 1 rfl;have ch:=(l).cell 2 rfl;have cj:=(l).cell 3 rfl;have ck:=(l).cell 4 rfl;have cl:=(l).cell 5 rfl;have b7:=(l).free 0 J;have bj:=(l).free 1 J;have b8:=(l).free 2 J;have cb:=(l).free 3 J;have cc:=(l).free 4 J;have cd:=(l).free 5 J));all_goals (go_wp2_with fail;go_meet;with_reducible exact bh.out h D C A l aZ cK (bX.trans E))
           case rest=>
            clear fC cN cV cW cX cY cZ c0 c1 c2 cO cQ cS cT cU cf bn L bo bp bq aF ab;have aO:=hcut;unfold m1 at aO;cases B:dg v y.x.r with
            |none=>
             rw [B] at aO;obtain ⟨rfl,bW⟩:=aO;have t:am=(V,10):=by
              rw [bA.out,Iy f a i.toNat (by rw [bF.out,B])]
             have F:=N t;have r:=aq.I bW;clear t B hcut;go_wp2_with (refine dY rfl 119 _ _ rfl _ 0 _ rfl rfl (r).may G G ?_);refine bH ((r.aR (us:=bS) rfl).cK rfl _ rfl rfl dn rfl G) rfl ?_;rw [F.out];exact ⟨rfl,(T.trans bW).setCells (aG _) _ _⟩
            |some L=>
             rw [B] at aO;obtain ⟨rfl,D,C,A,w,ax,ay,aX⟩:=aO;obtain ⟨b3,cL⟩:=Is hF.out.size co.out B;have bL:sa j m f a (i - 1) wc L D C A:=⟨by rw [show (i - 1+1).toNat=i.toNat by omega,bF.out,B],w,ax,ay,b3,by
              have cr:=hF.out.oP;have bc:=aM.out _ _ aU.out;rw [show (i - 1+1).toNat=i.toNat by omega];rw [show (i+1).toNat=i.toNat+1 by omega] at cr;omega,aX⟩
             have cn:=N bL;clear bL B hcut w ax ay aX b3 cL;go_wp2_with fail;go_roundw
             case rel=>exact ⟨_,_,_,_,_,rfl,K,K,cn⟩
             case measure=>simp [intOf];omega
          ·have bY: (i+1).toNat=0:=by omega
           have t:am=(Z v,0):=by
            have w:=hF.out.at';rw [bY] at w;rw [bA.out,w]
           have F:=N t;have r:=aq.I hF.out.aC;have Q:=hF.out.box;clear t bY;go_wp2_with (first|(refine e8 rfl 119 _ rfl _ 0 rfl _ _ (Q).aM dn rfl G ?_)|(refine dY rfl 119 _ _ rfl _ 0 _ rfl rfl (r).may G G ?_));refine bH ((r.aR (us:=ci v o x c) rfl).cK rfl _ rfl rfl dn rfl G) rfl ?_;rw [F.out];refine ⟨o,x,c,rfl,?_,hF.out.size,(T.trans hF.out.aC).setCells (aG _) _ _⟩;exact (hF.out.own.nR b5 _ 0).e6 (fE b5)
    ·have t:am=(V,10):=by rw [aY.out,aS (fun q=>aI q.1)]
     have F:=N t;have r:=aq.I S;have cJ: (a.x.r.kind==1)=false:=by rw [ey];exact aI
     have ds: (a.x.r.kind !=1)=true:=by rw [bne,cJ];rfl
     clear t aI;go_wp2_with (refine dY rfl 119 _ _ rfl _ 0 _ rfl rfl (r).may G G ?_);refine bH ((r.aR (us:=bS) rfl).cK rfl _ rfl rfl dn rfl G) rfl ?_;rw [F.out];exact ⟨rfl,(T.trans S).setCells (aG _) _ _⟩
theorem kA:jc aj 114 85 15 192:=⟨Tryz.underlying114,by
 obtain⟨i,b,d,c,a⟩:=kO (show(aj.info? 85).map (fun i=>(i.zero,i.size,i.bytes))=Z (Z (aw al),15,192)by kernel_rfl);exact⟨i,_,b,d,c,a,rfl⟩,bP⟩
theorem zS(x:fc)(g:Option ai)(e c:Nat)(h:Option ai)(f d:Nat): ∀ b∈an x g e c h f d,b.oneCell'=true:=by
 intro b a;simp only[bd,c0,db]at a;rcases a with rfl|rfl|rfl|rfl|rfl|rfl|rfl|rfl|rfl|rfl|rfl|rfl|rfl|rfl|rfl <;> rfl
abbrev bY (v:bl):fc:=⟨⟨1,v.low,v.high,v.unb,v.right,v.rows,⟨#[]⟩,⟨#[]⟩,0⟩,0,0,⟨#[]⟩,0,0⟩
abbrev g5 (m:ad) (b:Nat) (a c i j k l n o p q d e f g h:ak):ad:=((((((((((((((m.setCell ⟨b,0,V⟩ a).setCell ⟨b,1,V⟩ c).setCell ⟨b,2,V⟩ i).setCell ⟨b,3,V⟩ j).setCell ⟨b,4,V⟩ k).setCell ⟨b,5,V⟩ l).setCell ⟨b,6,V⟩ n).setCell ⟨b,7,V⟩ o).setCell ⟨b,8,V⟩ p).setCell ⟨b,9,V⟩ q).setCell ⟨b,10,V⟩ d).setCell ⟨b,11,V⟩ e).setCell ⟨b,12,V⟩ f).setCell ⟨b,13,V⟩ g).setCell ⟨b,14,V⟩ h
theorem vM(s:ae m b u)(r:u.length=15)(a c i j k l n o p q d e f g h:ak):ae (g5 m b a c i j k l n o p q d e f g h) b [a,c,i,j,k,l,n,o,p,q,d,e,f,g,h]:=
 show ae (ba m b 0 [a,c,i,j,k,l,n,o,p,q,d,e,f,g,h]) b _ from s.aR (by rw[r];rfl)
theorem wX(t:Y d m)(s:d.heap.size≤b)(a c j k l n o p q r e f g h i:ak):Y d (g5 m b a c j k l n o p q r e f g h i):=
 show Y d (ba m b 0 [a,c,j,k,l,n,o,p,q,r,e,f,g,h,i])from t.setCells s _ _
theorem FX(v:br m base o n c f)(w:Value.ownBlock (ac o n c)≠Z b)(a d k l p q r s t u e g h i j:ak):br (g5 m b a d k l p q r s t u e g h i j) base o n c f:=
 show br (ba m b 0 [a,d,k,l,p,q,r,s,t,u,e,g,h,i,j]) base o n c f from v.fu w _ _
theorem vH{z:Nat}(F:ae h b u){o:Option ai}{n c:Nat}{f:List aN}(A:br h s o n c f)(B:z≤s)(G:b < s)(D:Y d h)(C:d.heap.size≤b)(a e m p r t v w x y g i j k l:ak)(E:u.length=15):
  ae (g5 h b a e m p r t v w x y g i j k l) b [a,e,m,p,r,t,v,w,x,y,g,i,j,k,l]∧br (g5 h b a e m p r t v w x y g i j k l) z o n c f∧Y d (g5 h b a e m p r t v w x y g i j k l):=
 ⟨vM F E _ _ _ _ _ _ _ _ _ _ _ _ _ _ _,FX (A.e6 B) (fun q=>by have:=(A.own.lt _ q).1;omega) _ _ _ _ _ _ _ _ _ _ _ _ _ _ _,wX D C _ _ _ _ _ _ _ _ _ _ _ _ _ _ _⟩
theorem qm(v:bl)(f:Option ai)(n b:Nat)(d:ad)(r:bk d f n b v.rows)(W:n≤1000000):
  ao aj 145 #[eE v f n b] d fun e y=> ∃ o i c,e=ap (aW (bY v) o i c V 0 0)∧br y d o i c v.rows∧Y d y:=by
 have m:=dL;have k:ae ((H d (X (ci v f n b) 119)).alloc (X al 85)) d.heap.size (ci v f n b):=((ae.new d _ _ rfl).I ((Y.refl _).alloc _)).of J;have C:ae ((H d (X (ci v f n b) 119)).alloc (X al 85)) (d.heap.size+1) al:=(ae.new (H d _) _ _ (by rw [m])).of J;have u:Y d ((H d (X (ci v f n b) 119)).alloc (X al 85)):=((Y.refl _).alloc _).alloc _;have p: ((H d (X (ci v f n b) 119)).alloc (X al 85)).heap.size=d.heap.size+2:=by rw [m,m]
 go_enter Tryz.func145,Tryz.ntmps145;go_upto_region 1 with fail
 generalize (H d (X (ci v f n b) 119)).alloc (X al 85)=j at *;have B:=N p;clear p m;generalize E:d.heap.size=g at *;have I:=N fun S (P:Y j S)=>r.I (u.trans P);clear r;have cf:=k.cell 0 rfl;have aX:=k.cell 1 rfl;have aY:=k.cell 2 rfl;have aZ:=k.cell 3 rfl;have a1:=k.cell 4 rfl;go_cut [] (fun q=> ∃ (o:Option ai) (i c:Nat),ae q (g+1) (an (bY v) o i c V 0 0)∧br q g o i c v.rows∧Y d q)
 case first=>
  go_region_held3 (fun l=>l.cell? g=Z (af v.low)∧l.cell? ⟨g,1,V⟩=Z (af v.high)∧l.cell? ⟨g,2,V⟩=Z (ah v.unb)∧l.cell? ⟨g,3,V⟩=Z (O U v.right)∧l.cell? ⟨g,4,V⟩=Z (ac f n b))
   ((first|(have kG:=w;exact b9)|exact b9)) (first|(go_at_call 69;(with_reducible refine (sT _ _ _ _ _ (I.out _ ?_) ?_).mono ?_);(focus ((exact bz);done));(focus (omega;done));rintro e h ⟨R,Q,D,rfl,aa,w,s,L,F⟩;(have x:Y j h:=Y.trans dh w);have a:=C.I x;have T:j.heap.size≤s:=bZ (Y.le dh) L;have aH:=(a).cell 0 rfl;have aI:=(a).cell 1 rfl;have aO:=(a).cell 2 rfl;have aP:=(a).cell 3 rfl;have aQ:=(a).cell 4 rfl;have aR:=(a).cell 5 rfl;have aS:=(a).cell 6 rfl;have aT:=(a).cell 7 rfl;have aU:=(a).cell 8 rfl;have aV:=(a).cell 9 rfl;have aJ:=(a).cell 10 rfl;have aK:=(a).cell 11 rfl;have aL:=(a).cell 12 rfl;have aM:=(a).cell 13 rfl;have aN:=(a).cell 14 rfl;have ab:=(a).free 0 J;have ag:=(a).free 1 J;have ay:=(a).free 2 J;have az:=(a).free 3 J;have aA:=(a).free 4 J;have aC:=(a).free 5 J;have aD:=(a).free 6 J;have aE:=(a).free 7 J;have aF:=(a).free 8 J;have aG:=(a).free 9 J;have am:=(a).free 10 J;have aq:=(a).free 11 J;have ar:=(a).free 12 J;have av:=(a).free 13 J;have ax:=(a).free 14 J))
  have p:=B.out;all_goals (go_wp2_with fail;go_meet;with_reducible exact ⟨R,Q,D,vH a F K K (u.trans x) K _ _ _ _ _ _ _ _ _ _ _ _ _ _ _ J⟩)
 case rest=>
  obtain ⟨o,i,c,z,t,M⟩:=hcut;have A:=N t;clear t;go_wp2_with fail;refine bH (z.e7 rfl _ rfl cG rfl G) rfl ?_;exact ⟨o,i,c,rfl,by rw [E];exact A.out,M⟩
def jX (f:List aN):Option ByteArray×Int:=
 if f.length < 2 then(V,2)else if a3.cmp (aF (bJ f (f.length / 2 - 1))) (aF (bJ f (f.length / 2))) < 0 then(Z (hv (bJ f (f.length / 2 - 1)) (bJ f (f.length / 2))),0)else(V,1)
theorem Dn(b:ByteArray)(i a:Nat): (b.extract i a).size≤b.size:=by
 rw[ByteArray.size_extract];omega
theorem Ex{b:ByteArray}(a: (jX f).1=Z b)(d: ∀ x∈f,x.key.size≤maxLen):b.size≤maxLen:=by
 unfold jX at a;split at a
 ·cases a
 ·split at a
  ·simp only [eS] at a;subst a;rename_i q _;have c:f.length / 2 < f.length:=K;refine bZ (Dn _ _ _) ?_;unfold bJ;rw [fL c];exact d _ (hI _)
  ·cases a
theorem D1(g:Option ai)(n cap p:Nat)(f:List aN)(d:ad)(a:bk d g n cap f)(ag:2≤n)(am:n≤1000000)(M:p=n / 2)(B:a3.cmp (aF (bJ f (p - 1))) (aF (bJ f p)) < 0):
  ao aj 202 #[ac g n cap] d fun e u=> ∃ s o i t r j,e=ap (a0 #[af (hv (bJ f (p - 1)) (bJ f p)),ac s o i,ac t r j,aB])∧br u d s o i (f.take p)∧br u d t r j (f.drop p)∧Y d u:=by
 have an:1≤p:=K;have m:p < n:=K;obtain ⟨T,ax,b,C⟩:=a.cells;have v:=N C;have w:=N (fun q=>(b q).1);have c:=N a;have al:=a.dj;have L:=a.dr;unfold maxLen at L;clear C b a;have E:=(v.out p m).1;have F:=(v.out (p - 1) K).1;have R:=(c.out.eD p m).1;have S:=(c.out.eD (p - 1) K).1;have I:=iR cap w.out m;have y:=fun d=>nP cap w.out (k:=(p:Int) - 1) K K d;have G: ((p:Int) - 1).toNat=p - 1:=K;rw [G] at y;have P:=N (show ((n:Int) / 2)=(p:Int) by omega);clear M;have x:=N (fun d=>BI (bJ f (p - 1)) (bJ f p) d S R B);clear B;have J:=N (fun h (l:Y d h)=>(c.out.I l).head (k:=p) K);have Q:=N (fun h (l:Y d h)=>(c.out.I l).tail (k:=p) K);have ay:=nN g n cap p K;have az:=lY g n cap p K;generalize hv (bJ f (p - 1)) (bJ f p)=av at *;go_enter Tryz.func202,Tryz.ntmps202;go_wp2_with fail;rw [P.out];go_big_quiet ((go_at_call 209;(first|(with_reducible exact pe (x.out _))|(with_reducible exact pd (x.out _)))));clear E F I y;go_wp2_with fail;go_region_with (first|(go_at_call 87;(refine Calls.mono (nB (n:=p) (cap:=cap) ?_ (J.out _ ?_) K) ?_;(focus (first|(simp [go_sem,cF];done)|(refine Y.I ch ?_;simp [go_sem,cF];done)));(focus ((exact bz);done)));rintro e h ⟨s,o,i,rfl,aq,ab,W,z,b⟩)|(go_at_call 87;(refine Calls.mono (nB (n:=n - p) (cap:=cap - p) ?_ (Q.out _ ?_) K) ?_;(focus (first|(simp [go_sem,cF];done)|(refine Y.I ch ?_;simp [go_sem,cF];done)));(focus ((exact bz);done)));rintro e aA ⟨t,r,j,rfl,ar,ae,aa,A,D⟩));all_goals
  go_wp2_with fail;((try simp only [Exit.inBlock,Exit.then]);refine bH (pg rfl _ _ _) rfl ?_);(first|exact ⟨_,_,_,_,_,_,rfl,(b.I (bz)).e6 (bZ (Y.le (bz)) z),D.e6 (bZ (Y.le (bz)) A),bz⟩|exact ⟨_,_,_,_,_,_,rfl,b.e6 (bZ (Y.le (bz)) z),(D.I (bz)).e6 (bZ (Y.le (bz)) A),bz⟩)
def pZ (d:ad) (f:List aN) (e:Ending) (a:ad):Prop:=
 match(jX f).1 with
 |some k=> ∃ i g b j h c,e=ap (a0 #[af k,ac i g b,ac j h c,aB])∧br a d.heap.size i g b (f.take (f.length / 2))∧br a d.heap.size j h c (f.drop (f.length / 2))∧Y d a
 |none=>e=ap (a0 #[af ⟨#[]⟩,ac V 0 0,ac V 0 0,fR (jX f).2])∧Y d a
theorem w5(b:Option ai)(n a:Nat)(f:List aN)(d:ad)(c:bk d b n a f)(i:n≤1000000):
  ao aj 202 #[ac b n a] d (pZ d f):=by
 have h:=c.len;unfold pZ jX;by_cases k:n < 2
 ·refine(DZ b n a f d c k).mono fun e j q=>?_;rw[a9 K];exact q
 ·rw[aS K];by_cases g:a3.cmp (aF (bJ f (n / 2 - 1))) (aF (bJ f (n / 2))) < 0
  ·refine(D1 b n a (n / 2) f d c K i rfl g).mono fun e j q=>?_;rw[h,a9 g];exact q
  ·refine(D0 b n a (n / 2) f d c K i rfl g).mono fun e j q=>?_;rw[h,aS g];exact q
theorem yp(low high:ByteArray)(unb:Bool)(right:Int)(b:Option ai)(n a:Nat)(d:ad):
  ao aj 203 #[af low,high,unb,right,ac b n a] d fun e g=>e=ap (aw #[af low,high,unb,right,ac b n a,false])∧Y d g:=by
 have c:ae (H d (X bS 119)) d.heap.size bS:=(ae.new d _ _ rfl).of J;have f:Y d (H d (X bS 119)):=(Y.refl _).alloc _;go_enter Tryz.func203,Tryz.ntmps203;go_wp2_with (refine dY rfl 119 _ _ rfl _ 0 _ rfl rfl (c).may G G ?_);refine bH ((c.aR (us:=[af low,high,unb,right,ac b n a,false]) rfl).e7 rfl _ rfl dn rfl G) rfl ?_;exact ⟨rfl,f.setCells (aG _) _ _⟩
theorem ka(i:ae d b r)(us:List ak)(j:op.guard=V)
  (n: ∃ x y,op.op= .store ty x y∧a.eval x=au (Z b)∧a.eval y=aw us)(m:us.length=r.length)(k: (l.info? ty).map (·.size)=Z us.length)(e:us.all (·.oneCell')=true)
  (c:wpList l z w rest (a.put op.dst undef) (ba d b 0 us)):wpList l z w (op::rest) a d:=by
 obtain ⟨x,y,f,g,h⟩:=n;refine dY j ty x y f b 0 us.toArray g h ?_ (by simpa using k) (by simpa using e) (by simpa using c);have:=i.may;rw [←m] at this;simpa using this
theorem dV(h:ae d b r){c:TypeDesc}(j:op.guard=V)
  (m: ∃ x,op.op= .load ty x∧a.eval x=au (Z b))(n:l.underlying ty=Z c)(i:c.isRow=true)(k: (l.info? ty).map (·.size)=Z r.length)
  (e:wpList l z w rest (a.put op.dst (aw r)) d):wpList l z w (op::rest) a d:=by
 obtain⟨x,f,g⟩:=m;exact e8 j ty x f b 0 g r c h.aM n i k e
theorem bq(ty:TypeId)(f:ae d b r)(us:List ak)(c:wpList l z w rest (a.put op.dst undef) (ba d b 0 us))(g:op.guard=none:=by with_unfolding_all exact rfl)
  (j: ∃ x y,op.op= .store ty x y∧a.eval x=au (Z b)∧a.eval y=aw us:=by with_unfolding_all exact⟨_,_,rfl,rfl,rfl⟩)(i:us.length=r.length:=by with_unfolding_all exact rfl)(h: (l.info? ty).map (·.size)=Z us.length:=by kernel_rfl)(e:us.all (·.oneCell')=true:=by kernel_rfl):wpList l z w (op::rest) a d:=ka f us g j i h e c
theorem b0(ty:TypeId)(f:ae d b r){c:TypeDesc}(k:l.underlying ty=Z c)(e:wpList l z w rest (a.put op.dst (aw r)) d)(h:op.guard=none:=by with_unfolding_all exact rfl)
  (j: ∃ x,op.op= .load ty x∧a.eval x=au (Z b):=by with_unfolding_all exact⟨_,rfl,rfl⟩)(g:c.isRow=true:=by with_unfolding_all exact rfl)(i: (l.info? ty).map (·.size)=Z r.length:=by kernel_rfl):wpList l z w (op::rest) a d:=dV f h j k g i e
theorem ae.tQ(i:ae d b r)(B:ae d c us){f:Func}{t p q e:Tmp}{ty:TypeId}(u:f.results= #[.tmp t,.cell p ty,.cell q ty,.tmp e])(tmps:Array ak)(m:tmps.getD p undef=au (Z b))(o:tmps.getD q undef=au (Z c)){x y:ak}(v:tmps.getD t undef=x)(z:tmps.getD e undef=y)
  {a:TypeDesc}(h:l.underlying ty=Z a)(g:a.isRow=true)(j: (l.info? ty).map (·.size)=Z r.length)(k: (l.info? ty).map (·.size)=Z us.length): (results f tmps).run l d= .ok (a0 #[x,aw r,aw us,y]) d:=by
 have n:tmps[p]?.getD undef=au (Z b):=by simpa using m
 have s:tmps[q]?.getD undef=au (Z c):=by simpa using o
 have w:tmps[t]?.getD undef=x:=by simpa using v
 have A:tmps[e]?.getD undef=y:=by simpa using z
 simp[results,u,n,s,w,A,asAddr,kD d b 0 ty r a i.aM h g j,kD d c 0 ty us a B.aM h g k]
theorem ae.nK(i:ae d b r)(w:ae d c us){f:Func}{p q e:Tmp}{ty:TypeId}(t:f.results= #[.cell p ty,.cell q ty,.tmp e])(tmps:Array ak)(m:tmps.getD p undef=au (Z b))(o:tmps.getD q undef=au (Z c)){y:ak}(u:tmps.getD e undef=y)
  {a:TypeDesc}(h:l.underlying ty=Z a)(g:a.isRow=true)(j: (l.info? ty).map (·.size)=Z r.length)(k: (l.info? ty).map (·.size)=Z us.length): (results f tmps).run l d= .ok (a0 #[aw r,aw us,y]) d:=by
 have n:tmps[p]?.getD undef=au (Z b):=by simpa using m
 have s:tmps[q]?.getD undef=au (Z c):=by simpa using o
 have v:tmps[e]?.getD undef=y:=by simpa using u
 simp[results,t,n,s,v,asAddr,kD d b 0 ty r a i.aM h g j,kD d c 0 ty us a w.aM h g k]
theorem HI{M:List ak}(T:ae h b u)(S:ae h c M)(aa:u.length=6)(W:M.length=6)(J:b≠c)(R:Y d h)(P:d.heap.size≤b)(Q:d.heap.size≤c){F G:Option ai}{D E w y:Nat}{B C:List aN}(z:br h base F D w B)(A:br h base G E y C)(K:b < base)(L:c < base)(a e g i j k l m p r s t:ak):
  ae (g6 (g6 h b a e g i j k) c l m p r s t) b [a,e,g,i,j,k]∧ae (g6 (g6 h b a e g i j k) c l m p r s t) c [l,m,p,r,s,t]∧Y d (g6 (g6 h b a e g i j k) c l m p r s t)∧
   br (g6 (g6 h b a e g i j k) c l m p r s t) base F D w B∧br (g6 (g6 h b a e g i j k) c l m p r s t) base G E y C:=by
 show ae ((ba h b 0 [a,e,g,i,j,k]).setCells c 0 [l,m,p,r,s,t]) b _∧ae ((ba h b 0 [a,e,g,i,j,k]).setCells c 0 [l,m,p,r,s,t]) c _∧Y d ((ba h b 0 [a,e,g,i,j,k]).setCells c 0 [l,m,p,r,s,t])∧br ((ba h b 0 [a,e,g,i,j,k]).setCells c 0 [l,m,p,r,s,t]) base F D w B∧br ((ba h b 0 [a,e,g,i,j,k]).setCells c 0 [l,m,p,r,s,t]) base G E y C;have v: ∀ {o:Option ai} {n I:Nat} {f:List aN} {x:Nat},br h base o n I f→x < base→Value.ownBlock (ac o n I)≠Z x:=fun N ab q=>by have:=N.block q;omega
 exact ⟨(T.aR (by rw [aa];rfl)).others J _,(S.others (fun q=>J q.symm) _).aR (by rw [W];rfl),(R.setCells P _ _).setCells Q _ _,(z.fu (v z K) _ _).fu (v z L) _ _,(A.fu (v A K) _ _).fu (v A L) _ _⟩
def e5 (v:bl):Option ByteArray×Int:=if v.gone=true then(V,13)else jX v.rows
abbrev ij (v:bl) (a:ByteArray):bl:=⟨v.low,a,false,0,v.rows.take (v.rows.length / 2),false⟩
abbrev c6 (v:bl) (a:ByteArray):bl:=⟨a,v.high,v.unb,v.right,v.rows.drop (v.rows.length / 2),false⟩
def m2 (d:ad) (v:bl) (e:Ending) (a:ad):Prop:=
 match(e5 v).1 with
 |some b=> ∃ i g c j h f,e=ap (a0 #[af b,eE (ij v b) i g c,eE (c6 v b) j h f,aB])∧br a d.heap.size i g c (v.rows.take (v.rows.length / 2))∧br a d.heap.size j h f (v.rows.drop (v.rows.length / 2))∧Y d a
 |none=>e=ap (a0 #[af ⟨#[]⟩,ry,ry,fR (e5 v).2])∧Y d a
theorem tj(v:bl)(m:Option ai)(n i:Nat)(d:ad)(aF:bk d m n i v.rows)(aJ:n≤1000000):
  ao aj 187 #[eE v m n i] d (m2 d v):=by
 have x:=dL;have o:ae (((H d (X (ci v m n i) 119)).alloc (X bS 119)).alloc (X bS 119)) d.heap.size (ci v m n i):=(((ae.new d _ _ rfl).I ((Y.refl _).alloc _)).I ((Y.refl _).alloc _)).of J;have B:ae (((H d (X (ci v m n i) 119)).alloc (X bS 119)).alloc (X bS 119)) (d.heap.size+1) bS:=((ae.new (H d _) _ _ (by rw [x])).I ((Y.refl _).alloc _)).of J;have z:ae (((H d (X (ci v m n i) 119)).alloc (X bS 119)).alloc (X bS 119)) (d.heap.size+2) bS:=(ae.new ((H d _).alloc _) _ _ (by rw [x,x])).of J;have P:Y d (((H d (X (ci v m n i) 119)).alloc (X bS 119)).alloc (X bS 119)):=(((Y.refl _).alloc _).alloc _).alloc _;have ag: (((H d (X (ci v m n i) 119)).alloc (X bS 119)).alloc (X bS 119)).heap.size=d.heap.size+3:=by rw [x,x,x]
 have D:Hid (∀ (e:Ending) (y:ad),(match (if v.gone=true then (V,13) else jX v.rows:Option ByteArray×Int).1 with
 |some l=> ∃ u s p w t r,e=ap (a0 #[af l,eE (ij v l) u s p,eE (c6 v l) w t r,aB])∧br y d u s p (v.rows.take (v.rows.length / 2))∧br y d w t r (v.rows.drop (v.rows.length / 2))∧Y d y
 |none=>e=ap (a0 #[af ⟨#[]⟩,ry,ry,fR (if v.gone=true then (V,13) else jX v.rows:Option ByteArray×Int).2])∧Y d y)→m2 d v e y):=N fun e y q=>q
 generalize m2 d v=bh at *;go_enter Tryz.func187,Tryz.ntmps187;go_upto_region 1 with fail
 generalize ((H d (X (ci v m n i) 119)).alloc (X bS 119)).alloc (X bS 119)=j at *;have aQ:=N ag;clear ag x;generalize a3:d.heap.size=c at *;have aG:=N fun E (k:Y j E)=>aF.I (P.trans k);clear aF;have cf:=o.cell 0 rfl;have S:=o.cell 1 rfl;have T:=o.cell 2 rfl;have W:=o.cell 3 rfl;have aZ:=o.cell 4 rfl;have aE:=o.cell 5 rfl;cases aI:v.gone
 ·rw [aI] at aE D;go_upto_region 3 with fail
  cases R: (jX v.rows).1 with
  |none=>
   go_wp2_with (first|(go_at_call 202;(with_reducible refine (w5 _ _ _ _ _ (aG.out _ (Y.refl _)) aJ).mono ?_);rintro e h k;unfold pZ at k;rw [R] at k;obtain ⟨rfl,g⟩:=k;have C:=B.I g;have A:=z.I g)|(with_reducible refine bq 119 (C) (bS) ?_)|(with_reducible refine bq 119 ((A.others K _)) (bS) ?_));have ab:ae ((ba h (c+1) 0 bS).setCells (c+2) 0 bS) (c+1) bS:=(C.aR (us:=bS) rfl).others (b':=c+2) K bS;have aa:ae ((ba h (c+1) 0 bS).setCells (c+2) 0 bS) (c+2) bS:=(A.others (b':=c+1) K bS).aR (us:=bS) rfl;refine bH (ae.tQ ab aa rfl _ rfl rfl rfl rfl dn rfl G G) rfl ?_;refine D.out _ _ ?_;rw [aS bP];rw [R];exact ⟨rfl,((P.trans g).setCells K _ _).setCells K _ _⟩
  |some l=>
   have ag:=aQ.out;go_upto_region 4 with (first|(go_at_call 202;(with_reducible refine (w5 _ _ _ _ _ (aG.out _ (Y.refl _)) aJ).mono ?_);rintro e h k;unfold pZ at k;rw [R] at k;obtain ⟨u,s,p,w,t,r,rfl,aK,aL,g⟩:=k;have C:=B.I g;have A:=z.I g))
   have aO:=N aK;have aP:=N aL;have u0:=g.I cf;have u1:=g.I S;have u2:=g.I T;have u3:=g.I W;clear cf S T W aZ aE aK aL o B z;go_upto_region 7 with fail
   go_cut [2,5] (fun aX aY F=>aX=af l∧aY=aB∧ae F (c+1) (ci (ij v l) u s p)∧ae F (c+2) (ci (c6 v l) w t r)∧Y d F∧br F j u s p (v.rows.take (v.rows.length / 2))∧br F j w t r (v.rows.drop (v.rows.length / 2)))
   case first=>
    have aV:=N fun E=>yp v.low l false 0 u s p E;have aW:=N fun E=>yp l v.high v.unb v.right w t r E;go_region_held3 (fun I=>I.cell? c=Z (af v.low)∧I.cell? ⟨c,1,V⟩=Z (af v.high)∧I.cell? ⟨c,2,V⟩=Z (ah v.unb)∧I.cell? ⟨c,3,V⟩=Z (O U v.right))
     (first|(first|(have kG:=Q;exact b9)|exact b9)|(first|(have kG:=aH;exact b9)|exact b9)) (first|(go_at_call 203;(with_reducible refine (aV.out _).mono ?_);rintro e a1 ⟨rfl,Q⟩;(have f:Y h a1:=Y.trans dh Q);have b:=C.I f;have a:=A.I f;have cf:=f.I u0;have S:=f.I u1;have T:=f.I u2;have W:=f.I u3;have ax:=(b).cell 0 rfl;have ay:=(b).cell 1 rfl;have az:=(b).cell 2 rfl;have aA:=(b).cell 3 rfl;have aC:=(b).cell 4 rfl;have aD:=(b).cell 5 rfl;have al:=(b).free 0 J;have am:=(b).free 1 J;have an:=(b).free 2 J;have aq:=(b).free 3 J;have ar:=(b).free 4 J;have av:=(b).free 5 J;have ax:=(a).cell 0 rfl;have ay:=(a).cell 1 rfl;have az:=(a).cell 2 rfl;have aA:=(a).cell 3 rfl;have aC:=(a).cell 4 rfl;have aD:=(a).cell 5 rfl;have al:=(a).free 0 J;have am:=(a).free 1 J;have an:=(a).free 2 J;have aq:=(a).free 3 J;have ar:=(a).free 4 J;have av:=(a).free 5 J)|(go_at_call 203;(with_reducible refine (aW.out _).mono ?_);rintro e a2 ⟨rfl,aH⟩;(have f:Y h a2:=Y.trans dh aH);have b:=C.I f;have a:=A.I f;have cf:=f.I u0;have S:=f.I u1;have T:=f.I u2;have W:=f.I u3;have ax:=(b).cell 0 rfl;have ay:=(b).cell 1 rfl;have az:=(b).cell 2 rfl;have aA:=(b).cell 3 rfl;have aC:=(b).cell 4 rfl;have aD:=(b).cell 5 rfl;have al:=(b).free 0 J;have am:=(b).free 1 J;have an:=(b).free 2 J;have aq:=(b).free 3 J;have ar:=(b).free 4 J;have av:=(b).free 5 J;have ax:=(a).cell 0 rfl;have ay:=(a).cell 1 rfl;have az:=(a).cell 2 rfl;have aA:=(a).cell 3 rfl;have aC:=(a).cell 4 rfl;have aD:=(a).cell 5 rfl;have al:=(a).free 0 J;have am:=(a).free 1 J;have an:=(a).free 2 J;have aq:=(a).free 3 J;have ar:=(a).free 4 J;have av:=(a).free 5 J))
    all_goals (go_wp2_with fail;go_meet;have L:=aO.out.I f;have M:=aP.out.I f;have aU:=(P.trans g).trans f;with_reducible exact ⟨rfl,rfl,HI b a J J K aU K K L M K K _ _ _ _ _ _ _ _ _ _ _ _⟩)
   case rest=>
    obtain ⟨rfl,rfl,aR,aT,Q,L,M⟩:=hcut;have aM:=N L;have aN:=N M;clear L M;go_wp2_with fail;refine bH (ae.tQ aR aT rfl _ rfl rfl rfl rfl dn rfl G G) rfl ?_;refine D.out _ _ ?_;rw [aS bP,R];exact ⟨u,s,p,w,t,r,rfl,aM.out.e6 K,aN.out.e6 K,Q⟩
 ·rw [aI] at aE D;go_wp2_with (first|(with_reducible refine bq 119 (B) (bS) ?_)|(with_reducible refine bq 119 ((z.others K _)) (bS) ?_));have ab:ae ((ba j (c+1) 0 bS).setCells (c+2) 0 bS) (c+1) bS:=(B.aR (us:=bS) rfl).others (b':=c+2) K bS;have aa:ae ((ba j (c+1) 0 bS).setCells (c+2) 0 bS) (c+2) bS:=(z.others (b':=c+1) K bS).aR (us:=bS) rfl;refine bH (ae.tQ ab aa rfl _ rfl rfl rfl rfl dn rfl G G) rfl ?_;refine D.out _ _ ?_;rw [a9 trivial];exact ⟨rfl,(P.setCells K _ _).setCells K _ _⟩
abbrev pz:ak:=aw #[O U 0,af ⟨#[]⟩,af ⟨#[]⟩,ah false,O U 0,ac V 0 0,ac V 0 0,af ⟨#[]⟩,af ⟨#[]⟩,O U 0,O U 0,O U 0,af ⟨#[]⟩,O U 0,O U 0]
abbrev hZ (a:ByteArray) (page:Int):fc:=⟨⟨4,⟨#[]⟩,⟨#[]⟩,false,0,[],a,⟨#[]⟩,page⟩,0,0,⟨#[]⟩,0,0⟩
def lB (d:ad) (v:bl) (page:Int) (e:Ending) (a:ad):Prop:=
 match(e5 v).1 with
 |some b=> ∃ o f c,e=ap (a0 #[aW (hZ b page) V 0 0 V 0 0,aW (bY (c6 v b)) o f c V 0 0,aB])∧br a d.heap.size o f c (v.rows.drop (v.rows.length / 2))∧Y d a
 |none=>e=ap (a0 #[pz,pz,fR (e5 v).2])∧Y d a
theorem G1(v:bl)(page:Int)(f:Option ai)(n b:Nat)(d:ad)(w:bk d f n b v.rows)(aG:n≤1000000):
  ao aj 170 #[eE v f n b,page] d (lB d v page):=by
 have l:=dL;have ar:ae (((H d (X (ci v f n b) 119)).alloc (X al 85)).alloc (X al 85)) d.heap.size (ci v f n b):=(((ae.new d _ _ rfl).I ((Y.refl _).alloc _)).I ((Y.refl _).alloc _)).of J;have aA:ae (((H d (X (ci v f n b) 119)).alloc (X al 85)).alloc (X al 85)) (d.heap.size+1) al:=((ae.new (H d _) _ _ (by rw [l])).I ((Y.refl _).alloc _)).of J;have ay:ae (((H d (X (ci v f n b) 119)).alloc (X al 85)).alloc (X al 85)) (d.heap.size+2) al:=(ae.new ((H d _).alloc _) _ _ (by rw [l,l])).of J;have E:Y d (((H d (X (ci v f n b) 119)).alloc (X al 85)).alloc (X al 85)):=(((Y.refl _).alloc _).alloc _).alloc _;have s: (((H d (X (ci v f n b) 119)).alloc (X al 85)).alloc (X al 85)).heap.size=d.heap.size+3:=by rw [l,l,l]
 have aT:=w.len;cases F: (e5 v).1 with
 |none=>
  have W:Hid (∀ (e:Ending) (m:ad),(e=ap (a0 #[pz,pz,fR (e5 v).2])∧Y d m)→lB d v page e m):=N fun e m q=>by
   unfold lB;rw [F];exact q
  generalize lB d v page=bh at *;go_enter Tryz.func170,Tryz.ntmps170;go_upto_region 1 with fail
  generalize ((H d (X (ci v f n b) 119)).alloc (X al 85)).alloc (X al 85)=j at *;have M:=N s;clear s l;generalize aK:d.heap.size=t at *;have x:=w.I E;clear w;have i:=tj v f n b j x aG;unfold m2 at i;rw [F] at i;have L:=N i;clear i x;have s:=M.out;go_wp2_with (first|(with_reducible refine b0 119 (ar) dn ?_)|(go_at_call 187;(with_reducible refine L.out.mono ?_);rintro e h ⟨rfl,p⟩;have I:ae ((H h (X bS 119)).alloc (X bS 119)) h.heap.size bS:=((ae.new h _ _ rfl).I ((Y.refl _).alloc _)).of J;have B:ae ((H h (X bS 119)).alloc (X bS 119)) (h.heap.size+1) bS:=(ae.new (H h _) _ _ dW).of J;have k:Y j ((((H h (X bS 119)).alloc (X bS 119)).setCells h 0 bS).setCells (h.heap.size+1) 0 bS):=(((p.alloc _).alloc _).setCells p.le _ _).setCells (by have:=p.le;omega) _ _;have D:=aA.I k;have C:=ay.I k)|(with_reducible refine bq 119 (I) (bS) ?_)|(with_reducible refine bq 119 ((B.others K _)) (bS) ?_)|(with_reducible refine bq 85 (D) (al) ?_)|(with_reducible refine bq 85 ((C.others K _)) (al) ?_));have Q:=(D.aR (us:=al) rfl).others (b':=t+2) K al;have P:=(C.others (b':=t+1) K al).aR (us:=al) rfl;refine bH (ae.nK Q P rfl _ rfl rfl rfl cG rfl G G) rfl ?_;refine W.out _ _ ?_;exact ⟨rfl,((E.trans k).setCells K _ _).setCells K _ _⟩
 |some a=>
  have W:Hid (∀ (e:Ending) (m:ad),(∃ o r c,e=ap (a0 #[aW (hZ a page) V 0 0 V 0 0,aW (bY (c6 v a)) o r c V 0 0,aB])∧br m d o r c (v.rows.drop (v.rows.length / 2))∧Y d m)→lB d v page e m):=N fun e m q=>by
   unfold lB;rw [F];exact q
  generalize lB d v page=bh at *;go_enter Tryz.func170,Tryz.ntmps170;go_upto_region 1 with fail
  generalize ((H d (X (ci v f n b) 119)).alloc (X al 85)).alloc (X al 85)=j at *;have M:=N s;clear s l;generalize aK:d.heap.size=t at *;have x:=w.I E;clear w;have i:=tj v f n b j x aG;unfold m2 at i;rw [F] at i;have L:=N i;clear i x;have s:=M.out;go_cut [7,9,10] (fun aQ aR aP aq=> ∃ (R:Nat) (o:Option ai) (r c:Nat),aQ=af a∧aR=au (Z R)∧aP=aB∧ae aq R (ci (c6 v a) o r c)∧br aq j o r c (v.rows.drop (v.rows.length / 2))∧Y j aq)
  case first=>
   go_wp2_with (first|(with_reducible refine b0 119 (ar) dn ?_)|(go_at_call 187;(with_reducible refine L.out.mono ?_);rintro e h ⟨aO,aN,aI,am,ag,S,rfl,aL,aD,p⟩;have I:ae ((H h (X bS 119)).alloc (X bS 119)) h.heap.size bS:=((ae.new h _ _ rfl).I ((Y.refl _).alloc _)).of J;have B:ae ((H h (X bS 119)).alloc (X bS 119)) (h.heap.size+1) bS:=(ae.new (H h _) _ _ dW).of J;have av:=N aD;clear aL aD)|(with_reducible refine bq 119 (I) ((ci (ij v a) aO aN aI)) ?_)|(with_reducible refine bq 119 ((B.others K _)) ((ci (c6 v a) am ag S)) ?_));go_meet;have aM:=av.out.I (((Y.refl _).alloc (X bS 119)).alloc (X bS 119));have y: ∀ g,Value.ownBlock (ac am ag S)=Z g→g < h.heap.size:=fun g aa=>(av.out.own.lt g aa).2;refine ⟨h.heap.size+1,am,ag,S,rfl,rfl,rfl,(B.others K _).aR rfl,(aM.fu (fun q=>by have:=y _ q;omega) _ _).fu (fun q=>by have:=y _ q;omega) _ _,(((p.alloc _).alloc _).setCells p.le _ _).setCells (by have:=p.le;omega) _ _⟩
  case rest=>
   obtain ⟨R,o,r,c,rfl,rfl,rfl,aH,T,k⟩:=hcut;have D:=aA.I k;have C:=ay.I k;have aF:=T.rows.len;rw [hl] at aF;have aJ:=N (qm (c6 v a) o r c wc T.rows K);clear T aF;go_wp2_with (first|(with_reducible refine b0 119 (aH) dn ?_)|(go_at_call 145;(with_reducible refine aJ.out.mono ?_);rintro e aU ⟨A,z,u,rfl,aE,ab⟩;have aC:=D.I ab;have az:=C.I ab;have ax:=N aE;clear aE)|(with_reducible refine bq 85 (aC) ((an (hZ a page) V 0 0 V 0 0)) ?_)|(with_reducible refine bq 85 ((az.others K _)) ((an (bY (c6 v a)) A z u V 0 0)) ?_));have Q:=(aC.aR (us:=an (hZ a page) V 0 0 V 0 0) rfl).others (b':=t+2) K (an (bY (c6 v a)) A z u V 0 0);have P:=(az.others (b':=t+1) K (an (hZ a page) V 0 0 V 0 0)).aR (us:=an (bY (c6 v a)) A z u V 0 0) rfl;refine bH (ae.nK Q P rfl _ rfl rfl rfl cG rfl G G) rfl ?_;refine W.out _ _ ?_;have aS:=k.le;have y: ∀ g,Value.ownBlock (ac A z u)=Z g→wc.heap.size≤g:=fun g aa=>ax.out.block aa;exact ⟨A,z,u,rfl,((ax.out.fu (fun q=>by have:=y _ q;omega) _ _).fu (fun q=>by have:=y _ q;omega) _ _).e6 K,(((E.trans k).trans ab).setCells K _ _).setCells K _ _⟩
end Go.Proofs.YtbkmjhhpcinppaaGreatDoor
