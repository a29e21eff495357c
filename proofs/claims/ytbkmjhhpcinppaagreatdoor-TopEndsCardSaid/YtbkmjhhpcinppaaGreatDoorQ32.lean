import Derived.Test.YtbkmjhhpcinppaaGreatDoorQ31
namespace Go.Proofs.YtbkmjhhpcinppaaGreatDoor
set_option linter.unusedVariables false
set_option linter.defProp false
set_option linter.unusedSimpArgs false
set_option maxRecDepth 100000
set_option maxHeartbeats 40000000
open Go.BigFrame Go.RowKit Go.WideShapes
open Ending renaming returned→ap
open Go renaming Addr→ai,Calls→ao,Value→ak,World→ad
open Go.Proofs.Tryz renaming prog→aj
open IntKind renaming i64→U
open Obj renaming cells→X
open Option renaming none→V,some→Z
open Value renaming agg→aw,bool→ah,int→O,nilIface→aB,pointer→au,slice→ac,string→af,tuple→a0
open World renaming alloc→H,setCells→ba
variable {z aY aR av : List bK} {D D' : bU} {s : aV} {m a3 aN : az} {aQ : Ending → ad → Prop} {S aT : List Nat} {b aD aU P E j F k n C ax : Nat} {fI wr : Bool} {c : cV} {lim : aK} {nx bF v aZ a1 a2 : ak} {o M : Option ai} {w aE x y : Int} {r : aA} {bR : ByteArray} {B vs : List ak} {d l aF u : ad} {aH : ar}
section
abbrev kr (j:Nat):ak:= .func (.func 31) #[aa j] #[]
theorem G7(v:aP s S d lim m j D M C F B)(al:D.nx= .nilFunc)(ab:c.key.size≤maxLen∧c.val.size≤maxLen)
  (T: ∀ u,ao aj 30 #[aw #[c.kind,c.key,c.val]] u fun e l=>e=ap (ah true)∧Y u l):
  ao aj 9 #[aa j,aw #[c.kind,c.key,c.val]] d fun e l=>e=ap aB∧aP s S l lim m j {D with fI:=true,c:=c,wr:=c.kind !=1,bR:=⟨#[]⟩,bF:=aB,nx:=kr j} M C F B∧bD S d S l:=by
 have w:Y d (H d (X #[O U c.kind,c.key,c.val] 40)):=(Y.refl d).alloc _;have i:ae (H d (X #[O U c.kind,c.key,c.val] 40)) d.heap.size [O U c.kind,c.key,c.val]:=(ae.new d _ _ rfl).of J;have aV:=v.lt;have E:=N v;have aq:=N T;have av:=N ab;have K:=N al;clear v T ab al;go_enter Tryz.func9,Tryz.ntmps9;go_upto_region 1 with fail
 generalize H d (X #[O U c.kind,c.key,c.val] 40)=ax at *;have ar:=N (aq.out ax);have c7:=i.cell 0 rfl;have aK:=i.cell 1 rfl;have aL:=i.cell 2 rfl;go_upto_region 3 with(first|(go_at_call 30;(with_reducible refine ar.out.mono ?_);rintro e u ⟨rfl,p⟩))
 have a:=E.out.aC (w.trans p);have W:=w.trans p;have o:=i.I p;have P:u.cell? ⟨j,11,V⟩=Z .nilFunc:=by rw[←K.out];exact a.box.cell 11 rfl
 have G:=N (ra P);clear i w p c7 aK aL;go_upto_region 5 with(go_at_call 22;(with_reducible refine G.out.mono ?_);rintro e q ⟨rfl,rfl⟩)
 have aH:=o.cell 0 rfl;have x1:=o.cell 1 rfl;have aI:=o.cell 2 rfl;have aM:u.cell? ⟨j,2,V⟩=Z (ah D.fI):=a.box.cell 2 rfl;have aN:u.cell? ⟨j,3,V⟩=Z (O U D.c.kind):=a.box.cell 3 rfl;have aQ:u.cell? ⟨j,4,V⟩=Z (af D.c.key):=a.box.cell 4 rfl;have aR:u.cell? ⟨j,5,V⟩=Z (af D.c.val):=a.box.cell 5 rfl;have aS:u.cell? ⟨j,6,V⟩=Z (ah D.wr):=a.box.cell 6 rfl;have aT:u.cell? ⟨j,7,V⟩=Z (af D.bR):=a.box.cell 7 rfl;have aU:u.cell? ⟨j,8,V⟩=Z D.bF:=a.box.cell 8 rfl;have ay:=a.box.free 2 J;have az:=a.box.free 3 J;have aA:=a.box.free 4 J;have aC:=a.box.free 5 J;have aD:=a.box.free 6 J;have aE:=a.box.free 7 J;have aF:=a.box.free 8 J;have R:=a.box.free 9 J;have Q:=a.box.free 11 J;have am:u.cell? ⟨j,9,V⟩=Z (au V):=a.box.cell 9 rfl;have g:=N a;clear a P G;go_region_held3(fun t=>t.cell? d=Z (O U c.kind)∧t.cell? ⟨d,1,V⟩=Z (af c.key)∧t.cell? ⟨d,2,V⟩=Z (af c.val)) ((first|(have kG:=(Y.refl u);exact b9)|exact b9)) (fail);have y:ae (((((((u.setCell ⟨j,2,V⟩ (ah true)).setCell ⟨j,3,V⟩ (O U c.kind)).setCell ⟨j,4,V⟩ (af c.key)).setCell ⟨j,5,V⟩ (af c.val)).setCell ⟨j,6,V⟩ (ah (c.kind !=1))).setCell ⟨j,7,V⟩ (af ⟨#[]⟩)).setCell ⟨j,8,V⟩ aB) j (gj M C F true c (c.kind !=1) ⟨#[]⟩ aB D.nx B D.bO):=(((((((g.out.box.set 2 (ah true)).set 3 (O U c.kind)).set 4 (af c.key)).set 5 (af c.val)).set 6 (ah (c.kind !=1))).set 7 (af ⟨#[]⟩)).set 8 aB).of rfl;have x:Mod [j] u (((((((u.setCell ⟨j,2,V⟩ (ah true)).setCell ⟨j,3,V⟩ (O U c.kind)).setCell ⟨j,4,V⟩ (af c.key)).setCell ⟨j,5,V⟩ (af c.val)).setCell ⟨j,6,V⟩ (ah (c.kind !=1))).setCell ⟨j,7,V⟩ (af ⟨#[]⟩)).setCell ⟨j,8,V⟩ aB):=((((((Mod.setCell _ _ _ J).trans (Mod.setCell _ _ _ J)).trans (Mod.setCell _ _ _ J)).trans (Mod.setCell _ _ _ J)).trans (Mod.setCell _ _ _ J)).trans (Mod.setCell _ _ _ J)).trans (Mod.setCell _ _ _ J);have z:=N (g.out.wrote (D':={D with fI:=true,c:=c,wr:=c.kind !=1,bR:=⟨#[]⟩,bF:=aB}) x y rfl rfl g.out.bO av.out);have A:=N ((Y.av (L:=[]) (B0:=0) (S:=S) W).trans (x.av fun b k=>by rw[aO.1 k];exact⟨g.out.cE,.inr (aJ _)⟩));clear y x aM aN aQ aR aS aT aU am ay az aA aC aD aE aF R Q aH x1 aI o W g E K;(try simp only[Act.put]);generalize(((((((u.setCell ⟨j,2,V⟩ (ah true)).setCell ⟨j,3,V⟩ (O U c.kind)).setCell ⟨j,4,V⟩ (af c.key)).setCell ⟨j,5,V⟩ (af c.val)).setCell ⟨j,6,V⟩ (ah (c.kind !=1))).setCell ⟨j,7,V⟩ (af ⟨#[]⟩)).setCell ⟨j,8,V⟩ aB)=q at *;have f:=z.out.aC (Y.refl q).drew;have an:=N (A.out.trans (Y.av (Y.refl q).drew));clear z A;generalize q.drew=r at *;have R:=f.box.free 9 J;have Q:=f.box.free 11 J;have am:=f.box.cell 9 rfl;have aW:=f.box.cell 11 rfl;have n:=N (f.next (kr j));have I:=N f.cE;clear f;go_wp2_with fail;go_ret;have aG:Mod [j] r (r.setCell ⟨j,11,V⟩ (kr j)):=Mod.setCell _ _ _ J;have ag:Mod [j] (r.setCell ⟨j,11,V⟩ (kr j)) ((r.setCell ⟨j,11,V⟩ (kr j)).setCell ⟨j,9,V⟩ (au V)):=Mod.setCell _ _ _ J;exact⟨rfl,n.out.wrote (D':={D with fI:=true,c:=c,wr:=c.kind !=1,bR:=⟨#[]⟩,bF:=aB,nx:=kr j}) ag ((n.out.box.set 9 (au V)).of rfl) rfl rfl n.out.bO n.out.key,(an.out.trans (aG.av fun b k=>by rw[aO.1 k];exact⟨I.out,.inr (aJ _)⟩)).trans (ag.av fun b k=>by rw[aO.1 k];exact⟨I.out,.inr (aJ _)⟩)⟩
end
section
def vn (s:aV) (lim:aK) (j:Nat) (D:bU) (z:List bK) (S:List Nat) (d:ad) (a3:az) (bR:ByteArray) (c:Option Int) (e:Ending) (l:ad):Prop:=
 e=ap (ah z.isEmpty)∧∃ bF aT wr ab M C F B,eH (ay l aT) bF c∧aP s aT l lim a3 j {D with bin:=z,wr:=wr,ab:=ab,bR:=bR,bF:=bF,nx:=if z=[]then .nilFunc else ug j} M C F B∧bD S d aT l
theorem eH.aL{a b:ad}{c:Option Int}(d:eH a v c)(e:dD a b):eH b v c:=d.ex e
theorem j5{f:FuncId}{first cap:Array ak}(a:aP s S d lim m j D M C F B)(k:D.nx= .func (.func f) first cap)(i:dH f)(c:ao aj f (first.push (aa s.m)++cap) d fun e l=> ∃ b,e=ap (ah b)∧aQ e l):
  ao aj 10 #[aa j,aa s.m] d aQ:=by
 have g:d.cell? ⟨j,11,V⟩=Z (.func (.func f) first cap):=by rw [←k];exact a.box.cell 11 rfl
 exact pq g i c
theorem BG{r:g3}(a:aP s S d lim m j D M C F B)(N:D.nx=kr j)(A:D.c=c)(v:D.bin=z)(L:m.now < lim.count)(I:m.ins=V)(J:1≤c.kind∧c.kind≤5)(y:z.length+k≤1000000)(x:je lim c {m with now:=m.now+1,ins:=Z (m.now+1)} z D.wr k aN aY r):
  a7 s j (2+k) d (cS s lim j D aY S d aN r.val (jS r.code)):=by
 rw[show 2+k=(1+k)+1 by omega];refine a7.then (j5 (first:= #[aa j]) (cap:= #[]) a N wo ((B2 a L).mono fun e l q=>⟨false,q.1,q⟩)) fun e u ⟨o,nx,aD,P,b,f,E⟩=>⟨o,?_⟩;rw[show 1+k=k+1 by omega];have w:r9 S u j nx (((m.now+1:Nat)):Int) aD P:=by rw[Int.natCast_add];exact f
 refine a7.then (j5 (first:= #[]) (cap:= #[aa aD,aa P]) b f.nx C9 ((BW (n:=m.now+1) b w I K (aG _)).mono fun e l q=>⟨false,q.1,q⟩)) fun e W ⟨p,ab,g,T,R,i,t,Q,G⟩=>⟨p,?_⟩;exact(ID x J g W _ T R i g4 y t Q rfl A v rfl).mono fun e ae q=>cS.from (D:=D) q (E.trans G)
theorem FW{c:Option Int}{e:Ending}(r:cS s lim j D z S d m bR c e l)(u:m.ins.isSome=true):e=ap (ah false)∧a7 s j 1 l (vn s lim j D z S d {m with ins:=V} bR c):=by
 obtain⟨v,bF,nx,aT,wr,ab,M,C,F,B,n,o,⟨b,w,x⟩,p⟩:=r;refine⟨v,a7.one (j5 (first:= #[]) (cap:= #[aa b]) o w Df ((E2 o x u).mono fun e y q=>?_))⟩;unfold p3 at q;by_cases f:z=[]
 ·rw[a9 f]at q;obtain⟨g,k,i⟩:=q;refine⟨true,g,by rw[f];exact g,bF,aT,wr,ab,M,C,F,B,eH.aL n i.aL,?_,p.trans i⟩;rw[a9 f];exact k
 ·rw[aS f]at q;obtain⟨g,k,i⟩:=q;have t:z.isEmpty=false:=by cases z with|nil=>exact absurd rfl f|cons a av=>rfl
  refine⟨false,g,by rw[t];exact g,bF,aT,wr,ab,M,C,F,B,eH.aL n i.aL,?_,p.trans i⟩;rw[aS f];exact k
theorem xK{r:g3}(a:aP s S d lim m j D M C F B)(u:D.nx=kr j)(n:D.c=c)(f:D.bin=z)(t:m.now < lim.count)(o:m.ins=V)(p:1≤c.kind∧c.kind≤5)(i:z.length+k≤1000000)(g:je lim c {m with now:=m.now+1,ins:=Z (m.now+1)} z D.wr k aN aY r)(b:aN.ins.isSome=true):
  a7 s j (2+k+1) d (vn s lim j D aY S d {aN with ins:=V} r.val (jS r.code)):=
 a7.trans (BG a u n f t o p i g) fun e l q=>FW q b
end
section
theorem BZ(p:aP s S d lim m j D M C F B)(a6:m.now=lim.count):
  ao aj 31 #[aa j,aa s.m] d fun e l=>e=ap (ah true)∧∃ bF,cm (ay l S) bF 5∧aP s S l lim m j {D with bR:=⟨#[]⟩,bF:=bF,nx:= .nilFunc} M C F B∧bD S d S l:=by
 have ax:Y d (H d (X #[aa j] 35)):=(Y.refl d).alloc _;have ab:ae (H d (X #[aa j] 35)) d.heap.size [aa j]:=(ae.new d _ _ rfl).of J;have z:=p.aC ax;have hold:=p.mem.old;have aM:Hid (ao aj 53 #[aa s.m] (H d (X #[aa j] 35)) fun e l=> ∃ t f,e=ap (a0 #[O U (m.now:Int),.iface t f])∧cm (ay l S) (.iface t f) 5∧aX s S l lim m∧Mod [s.m,s.c] (H d (X #[aa j] 35)) l):=N ((sN z.mem).mono fun e l q=>by
  rcases q with ⟨-,v,a7,aG,a8,a9⟩|⟨be, -⟩
  ·obtain ⟨t,f,rfl⟩:=cm.iface aG;exact ⟨t,f,a7,aG,a8,a9⟩
  ·omega)
 have x:=N z;have aS:=N p.cE;clear p z a6;go_enter Tryz.func31,Tryz.ntmps31;go_upto_region 1 with fail
 generalize H d (X #[aa j] 35)=aY at *;go_upto_region 2 with (go_at_call 53;(with_reducible refine aM.out.mono ?_);rintro e g ⟨t,f,rfl,aA,ar,R⟩)
 have am:=x.out.acc ar R J;have Q:bD S aY S g:=R.av fun b u=>by
  simp only [bd,c0,db] at u;exact ⟨x.out.mem.sub b (by rcases u with rfl|rfl <;> simp),.inr (aJ _)⟩
 have az:d.heap.size∉S:=fun q=>dk _ (hold _ q);have ag:=Q.box (.inl az) ab;have n:Y g (H g (X #[O U (m.now:Int)] 3)):=(Y.refl g).alloc _;have A:=am.aC n;have al:=ag.I n;have aC:=cm.ex aA (bX n S);have aN:=N (((Y.av (L:=[]) (B0:=0) (S:=S) ax).trans Q).trans (Y.av n));clear ar R Q am ab ag n x aA;(try simp only [Act.put]);show Code.wp _ _ _ _ (H g (X #[O U (m.now:Int)] 3));generalize H g (X #[O U (m.now:Int)] 3)=aH at *;generalize g.heap.size=P at *;have bb:=al.cell 0 rfl;have a3:=A.box.cell 0 rfl;have aK:=N A;have aU:=N aC;clear A aC;go_upto_region 3 with fail
 refine cZ (fun _=>True) (fun l=>l.cell? d=Z (aa j)∧l.cell? j=Z (O U 0)) 8 G ?_;have c:True:=trivial;have i:=(Y.refl aH).drew;have hKC:=And.intro (i.I bb) (i.I a3);have E:=aK.out.aC i;have aD:=cm.ex aU.out (bX i S);have aZ:=al.I i;generalize aH.drew=aW at *;refine' bc (v:=aa j) 0 14 rfl (.inl ⟨aq,?_⟩) c hKC ?_
 ·(intro d a;have aF:=a.2.1;clear a;go_simp)
 refine' bc (v:=aa j) 1 15 rfl (.inl ⟨aq,?_⟩) c hKC ?_
 ·(intro d a;have aF:=a.2.1;clear a;go_simp)
 refine' aI 2 16 (aa j) rfl c hKC ?_;refine' aI 3 17 (au (Z j)) rfl c hKC ?_;refine' bc (v:=O U 0) 4 18 rfl (.inl ⟨aq,?_⟩) c hKC ?_
 ·(intro d a;have aF:=a.2.2;clear a;go_simp)
 refine' aI 5 19 (.iface t f) rfl c hKC ?_;refine b4 6 (Z 20) rfl (fun y k=>?_);go_simp;go_at_call 55;refine (oG _ 0 (.iface t f) 5 aW S E.mem.old aD).mono ?_;rintro e bg ⟨bf,rfl,T,o⟩;obtain ⟨w,u7,rfl⟩:=cm.iface T;have K:=And.intro (o.I hKC.1) (o.I hKC.2);refine a5 k (trivial) (fun _=>K) ?_;clear k y;have hKC:=K;have an:=E.aC o;have a1:=aZ.I o;have aT:=N (zu an ⟨#[]⟩ (.iface w u7) (.inr ⟨w,u7,rfl⟩));refine' aI 7 21 (aw #[af ⟨#[]⟩,.iface w u7]) rfl c hKC ?_;refine cg 8 (Z 22) rfl (fun y k=>?_);go_simp;go_at_call 54;refine aT.out.mono ?_;rintro e W ⟨rfl,I,r⟩;refine bM k (trivial) ?_;clear k y;refine cC G ?_;have a2:=r.box (.inl az) a1;have bi:=a2.cell 0 rfl;have aE:=cm.aL T r.aL;have aR:=N (tG I);have aL:=N I;have aV:=N aE;have aQ:=N (((aN.out.trans (Y.av i)).trans (Y.av o)).trans r.goes);clear hKC K I aE r an E aD T;go_wp2_with (go_at_call 56;(with_reducible refine aR.out.mono ?_);rintro e bh ⟨rfl,rfl⟩);go_ret;have a4:=Mod.setCell (S:=[j]) W ⟨j,11,V⟩ .nilFunc J;have av:bD S W S (W.setCell ⟨j,11,V⟩ .nilFunc):=a4.av fun b u=>by rw [aO.1 u];exact ⟨aS.out,.inr (aJ _)⟩
 exact ⟨rfl,.iface w u7,cm.aL aV.out av.aL,aL.out.next _,aQ.out.trans av⟩
theorem Gv(n:c.key.size≤maxLen∧c.val.size≤maxLen)(u:1≤c.kind∧c.kind≤5)(m:j3 c.key=true)(j:c.kind=1∨c.kind=5∨c.val.size≤16)(d:ad):
  ao aj 30 #[aw #[c.kind,c.key,c.val]] d fun e l=>e=ap (ah true)∧Y d l:=by
 have f:ae (H d (X #[O U c.kind,c.key,c.val] 40)) d.heap.size [O U c.kind,c.key,c.val]:=(ae.new d _ _ rfl).of J;have w:Y d (H d (X #[O U c.kind,c.key,c.val] 40)):=(Y.refl d).alloc _;have k:=N (tR c.key (H d (X #[O U c.kind,c.key,c.val] 40)) n.1);rw [m] at k;go_enter Tryz.func30,Tryz.ntmps30;go_upto_region 1 with fail
 generalize H d (X #[O U c.kind,c.key,c.val] 40)=x at *;have o:=f.cell 0 rfl;have x1:=f.cell 1 rfl;have p:=f.cell 2 rfl;have s:decide (c.kind < 1)=false:=dz K;have t:decide (c.kind> 5)=false:=dz K;have r:=N j;clear u j n m;go_upto_region 3 with (go_at_call 52;(with_reducible refine k.out.mono ?_);rintro e B ⟨rfl,v⟩;have g:=v.aC)
 have i:=w.trans g;have c7:=g.I o;have C:=g.I p;clear o x1 p s t;by_cases a:c.kind=1
 ·rw [a] at c7;clear a;go_wp2_with fail;go_ret;exact ⟨rfl,i⟩
 by_cases b:c.kind=5
 ·rw [b] at c7;clear a b;go_wp2_with fail;go_ret;exact ⟨rfl,i⟩
 have y: (c.kind==1)=false:=by rw [ey];exact a
 have z: (c.kind==5)=false:=by rw [ey];exact b
 have j:c.val.size≤16:=by rcases r.out with q|q|q;exact absurd q a;exact absurd q b;exact q
 have A:decide ((c.val.size:Int)≤16)=true:=eo K;clear a b;go_wp2_with fail;go_ret;exact ⟨rfl,i⟩
end
section
variable {i : Nat}
theorem EG(a:aX s S d lim m)(c:i < lim.cO):
  ao aj 97 #[aa s.c,(i:Int)] d fun e l=>e=ap (ah true)∧d=l:=by
 have f:=a.fK.cell 2 rfl;have b:Hid (decide (i < lim.cO)=true):=N cJ;clear a c;go_enter Tryz.func97,Tryz.ntmps97;go_wp2_with fail;go_ret;exact ⟨by show Ending.returned (ah (decide (i < lim.cO)))=_;rw [b.out],rfl⟩
theorem Bw(a:aX s S d lim m)(g:i < lim.cO)(n:m.ins=V)(p: (Lit.int U (i:Int)).wf=true):
  ao aj 189 #[aa s.c,(i:Int)] d fun e l=>e=ap (a0 #[O U 0,false,aB])∧d=l:=by
 have o:=N (EG a g);have q:=a.fK.cell 3 rfl;have j:=a.ins.look jA pH (ts d) (k:=(i:Int)) p;have b:hD m.ins (i:Int)=none:=by rw[n];unfold hD;split <;> rfl
 rw[b]at j;have c: (none:Option ak).getD (O U 0)=O U 0:=rfl;have f: (none:Option ak).isSome=false:=rfl;rw[c,f]at j;clear a c f b n g;go_enter Tryz.func189,Tryz.ntmps189;go_wp2_with(go_at_call 97;(with_reducible refine o.out.mono ?_);rintro e l ⟨rfl,rfl⟩);go_ret3;exact⟨rfl,rfl⟩
theorem vG(b:aX s S d lim m)(w:i < lim.cO)(j:m.ins=V)(k: (Lit.int U (i:Int)).wf=true):
  ao aj 174 #[aa s.m,(i:Int)] d fun e l=>e=ap (a0 #[O U 0,false,aB])∧aX s S l lim m∧Mod [s.m] d l:=by
 have bh:=N (jv b);have v:=N j;clear b j;go_enter Tryz.func174,Tryz.ntmps174;go_wp2_with fail;refine bh.out.mono ?_;rintro e u ⟨rfl,a,g⟩;have r:=N (Bw a w v.out k);obtain⟨n,c⟩:=a.mem;have y:=c.cell 9 rfl;have t:=N g;have o:=N a;clear c a g k;go_wp2_with fail;refine r.out.mono ?_;rintro e z ⟨rfl,rfl⟩;have q:=N fun p x=>jQ p x u;go_wp2_with(go_at_call 55;(with_reducible refine(q.out _ _).mono ?_);rintro e A ⟨rfl,f⟩);go_ret3;exact⟨rfl,o.out.I f,t.out.trans (f.mod _)⟩
end
section
abbrev dT (w a:Int) (o:Option ai) (n c:Nat) (x y:Int):List ak:=[O U w,O U a,ac o n c,O U x,O U y]
theorem F5{b:Type}{A Y Z:List b}(a:A.length=n)(c:Y.length=Z.length): (A++Y).take n++Z++(A++Y).drop (n+Z.length)=A++Z:=by
 rw[rX a,←uS,uM a,List.drop_of_length_le K,me]
theorem aP.GO(a:aP s S d lim m j D M C F B){vs:List ak}(b:vs.length=5):aP s S (ba d j 25 vs) lim m j {D with bO:=vs} M C F B:=by
 have c:Mod [j] d (ba d j 25 vs):=Mod.setCells J _ _ _;have f:=a.ab.len;have e:=a.bO;refine a.wrote (D':={D with bO:=vs}) c ((a.box.part 25 vs z4).of ?_) rfl rfl b a.key;have:=F5 (A:=[O U 0,ac M C F,ah D.fI,O U D.c.kind,af D.c.key,af D.c.val,ah D.wr,af D.bR,D.bF,au V,au V,D.nx]++B) (Y:=D.bO) (Z:=vs) (n:=25) (by simp[f]) (by rw[e,b]);simpa[gj,lq]using this
theorem BX(i:aX s S d lim m):ao aj 53 #[aa s.m] d fun e l=> ∃ v,ve v∧e=ap (a0 #[O U ((bump lim.count m).now:Int),v])∧aX s S l lim (bump lim.count m)∧Mod [s.m,s.c] d l:=
 (sN i).mono fun e l q=>by
  rcases q with⟨g,v,b,j,c,f⟩|⟨g,b,c,f⟩
  ·have a:bump lim.count m=m:=by unfold bump;rw[a9 g]
   exact⟨v,.inr (cm.iface j),by rw[a];exact b,by rw[a];exact c,f⟩
  ·have a:bump lim.count m={m with now:=m.now+1}:=by unfold bump;rw[aS K]
   exact⟨aB,.inl rfl,by rw[a];exact b,by rw[a];exact c,f⟩
def vr (s:aV) (S:List Nat) (lim:aK) (m:az) (j:Nat) (D:bU) (M:Option ai) (C F:Nat) (B:List ak) (d:ad) (e:Ending) (l:ad):Prop:=
 e=ap (ah false)∧aP s S l lim (bump lim.count m) j {D with bO:=dT ((bump lim.count m).now:Int) 0 V 0 0 0 0,nx:=xS j} M C F B∧bD S d S l
theorem Hi(f:aP s S d lim m j D M C F B):ao aj 130 #[aa j,aa s.m] d (vr s S lim m j D M C F B d):=by
 have n:=N (BX f.mem);have o:=N f;clear f;unfold vr;generalize bump lim.count m=aN at *;go_enter Tryz.func130,Tryz.ntmps130;go_upto_region 2 with (go_at_call 53;(with_reducible refine n.out.mono ?_);rintro e k ⟨v,w,rfl,p,i⟩)
 have a:=o.out.acc p i J;have q:bD S d S k:=i.av fun b c=>by
  simp only [bd,c0,db] at c;exact ⟨o.out.mem.sub b (by rcases c with rfl|rfl <;> simp),.inr (aJ _)⟩
 have u:=a.box.fi 25 5 (by have:=a.ab.len;have:=a.bO;simp only [gj,fY,dG];omega);have g:=a.GO (vs:=dT (aN.now:Int) 0 V 0 0 0 0) rfl;have r:Mod [j] k (ba k j 25 (dT (aN.now:Int) 0 V 0 0 0 0)):=Mod.setCells J _ _ _;have bh:=N (iS g 153 #[aa j] #[]);have l:=N g;have t:=N (q.trans (r.av fun b c=>by rw [aO.1 c];exact ⟨a.cE,.inr (aJ _)⟩));clear p i q a g r n;go_wp2_with (first|(with_reducible refine hY 99 (u) ((dT (aN.now:Int) 0 V 0 0 0 0)) ?_)|(go_at_call 57;(with_reducible refine bh.out.mono ?_);rintro e x ⟨rfl,rfl⟩));go_ret;exact ⟨rfl,l.out.next _,t.out.trans ((Mod.setCell (S:=[j]) _ _ _ J).av fun b c=>by rw [aO.1 c];exact ⟨l.out.cE,.inr (aJ _)⟩)⟩
end
section
variable {t : Nat} 
theorem xO(lim:aK)(d:ad): (Instr.field 23 (aw (bC lim)) 2).run aj d= .ok (O U (lim.cO:Int)) d:=by kernel_rfl
theorem Hx(b:B.length=13)(a:Nat): (gj M C F fI c wr bR bF nx B vs)[25+a]?=vs[a]?:=by
 show(([_,_,_,_,_,_,_,_,_,_,_,_]:List ak)++(B++vs))[25+a]?=_;rw[jE cJ,jE (by simp[b];omega)];congr 1;simp[b];omega
theorem Hy(d:B.length=13)(a:Nat)(b:ak): (gj M C F fI c wr bR bF nx B vs).set (25+a) b=gj M C F fI c wr bR bF nx B (vs.set a b):=by
 show (([_,_,_,_,_,_,_,_,_,_,_,_]:List ak)++(B++vs)).set (25+a) b=([_,_,_,_,_,_,_,_,_,_,_,_]:List ak)++(B++vs.set a b);rw [List.set_append_right _ _ cJ,List.set_append_right _ _ (by simp [d];omega)];congr 3;simp [d];omega
theorem aP.nS(a:aP s S d lim m j D M C F B)(b:Nat)(c:ak):aP s S (d.setCell ⟨j,25+b,V⟩ c) lim m j {D with bO:=D.bO.set b c} M C F B:=
 a.wrote (D':={D with bO:=D.bO.set b c}) (Mod.setCell _ _ _ J) ((a.box.set (25+b) c).of (Hy a.ab.len b c)) rfl rfl (by rw[jz];exact a.bO) a.key
theorem aP.iw(b:aP s S d lim m j D M C F B)(a:Nat){c:ak}(e:D.bO[a]?=Z c):d.cell? ⟨j,25+a,V⟩=Z c:=b.box.cell (25+a) (by rw[Hx b.ab.len];exact e)
theorem aP.rk(a:aP s S d lim m j D M C F B)(b:Nat)(c:b < 5):d.frozen? ⟨j,25+b,V⟩=false:=a.box.free (25+b) (by have:=a.ab.len;have:=a.bO;simp only[gj,fY,dG];omega)
theorem Fc(g:aP s S d lim m j D M C F B)(A:D.bO=dT w (t:Int) V 0 0 0 0)(n:t+1 < lim.cO)(an:m.ins=V)(ar: (Lit.int U (t:Int)).wf=true)(aG:IntKind.i64.wrap ((t:Int)+1)=(t:Int)+1):
  ao aj 153 #[aa j,aa s.m] d fun e l=>e=ap (ah false)∧aP s S l lim m j {D with bO:=dT w ((t:Int)+1) V 0 0 0 0} M C F B∧bD S d S l:=by
 have L:=N (vG g.mem (i:=t) K an ar);have u:d.cell? ⟨j,26,V⟩=Z (O U (t:Int)):=g.iw 1 (by rw [A];rfl);have Q:=N g;have q:=N A;have ay:=N n;clear g A an ar n;go_enter Tryz.func153,Tryz.ntmps153;go_upto_region 3 with (go_at_call 174;(with_reducible refine L.out.mono ?_);rintro e a ⟨rfl,W,z⟩)
 have k:=Q.out.acc W z J;have ae:bD S d S a:=z.av fun b x=>by
  rw [aO.1 x];exact ⟨Q.out.mem.sub _ J,.inr (aJ _)⟩
 have az:a.cell? ⟨j,26,V⟩=Z (O U (t:Int)):=k.iw 1 (by rw [q.out];rfl);have aC:a.frozen? ⟨j,26,V⟩=false:=k.rk 1 K;have o:=N k;have P:=N ae;clear k ae W z u L;go_upto_region 6 with fail
 have R:=o.out.nS 1 (O U ((t:Int)+1));have am:Mod [j] a (a.setCell ⟨j,26,V⟩ (O U ((t:Int)+1))):=Mod.setCell _ _ _ J;have av:=N (P.out.trans (am.av fun b x=>by rw [aO.1 x];exact ⟨o.out.cE,.inr (aJ _)⟩));have p:=N R;clear az aC am R P o;(try simp only [Act.put]);show Code.wp _ _ _ _ (a.setCell ⟨j,25+1,V⟩ (O U ((t:Int)+1)));generalize a.setCell ⟨j,25+1,V⟩ (O U ((t:Int)+1))=E at *;have u:E.cell? ⟨j,26,V⟩=Z (O U ((t:Int)+1)):=p.out.iw 1 (by show (D.bO.set 1 _)[1]?=_;rw [q.out];rfl);refine cZ (fun _=>True) (fun l=>l.cell? ⟨j,26,V⟩=Z (O U ((t:Int)+1))) 7 G ?_;have c:True:=trivial;have y:=(Y.refl E).drew;have hKC:=y.I u;have ax:=N (qU (p.out.mem.I y));generalize E.drew=aD at *;refine' aI 0 39 (au (Z ⟨j,25,V⟩)) rfl c hKC ?_;refine' aI 1 40 (au (Z ⟨j,25,V⟩)) rfl c hKC ?_;refine' aI 2 41 (au (Z ⟨j,26,V⟩)) rfl c hKC ?_;refine' bc (v:=O U ((t:Int)+1)) 3 42 rfl (.inl ⟨aq,?_⟩) c hKC ?_
 ·(intro d ab;have aH:=ab.2;clear ab;go_simp)
 refine' aI 4 43 (aa s.m) rfl c hKC ?_;refine b4 5 (Z 44) rfl (fun r f=>?_);go_simp;go_at_call 104;refine ax.out.mono ?_;rintro e aK ⟨rfl,al⟩;have T:=al.I hKC;refine a5 f (trivial) (fun _=>T) ?_;clear f r;have hKC:=T;have aE:=xO lim;refine' aI 6 45 (O U (lim.cO:Int)) rfl c hKC ?_;have n:=ay.out;have aF:decide ((t:Int)+1 < (lim.cO:Int))=true:=eo K;clear n;refine cg 7 (Z 46) rfl (fun r f=>?_);go_simp;refine bM f (trivial) ?_;clear f r;refine cC G ?_;have ag:=y.trans al;go_wp2_with fail;go_ret;have I:=p.out.aC ag;have aA:D.bO.set 1 (O U ((t:Int)+1))=dT w ((t:Int)+1) V 0 0 0 0:=by rw [q.out];rfl
 rw [aA] at I;exact ⟨rfl,I,av.out.trans (Y.av ag)⟩
end
theorem Dh:dH 191:=fun args u=>fj Tryz.func191 G rfl args u
theorem wx:dH 205:=fun args u=>fj Tryz.func205 G rfl args u
theorem Da:dH 210:=fun args u=>fj Tryz.func210 G rfl args u
section
variable {c : Nat} 
abbrev nI (j:Nat):ak:= .func (.func 191) #[aa j] #[]
theorem GL{a:Option ai}(c:Nat)(e:0 < n→a=Z ⟨b,ax,V⟩){k:Nat}(f:k < n)(d:ad):
  (Instr.indexAt 90 (ac a n c) (O U (k:Int))).run aj d= .ok (au (Z ⟨b,ax+k * 4,V⟩)) d:=by
 rw[e K];go_simp
theorem aP.y1(b:aP s S d lim m j D M C F B)(a v:ak):aP s S (ba d j 28 [a,v]) lim m j {D with bO:=(D.bO.set 3 a).set 4 v} M C F B:=(b.nS 3 a).nS 4 v
abbrev kl (S:List Nat) (d:ad) (o:Option ai) (n c:Nat) (av:List bK):Prop:=bo iD 4 (ay d S) o n c av
theorem EI(a:aP s S d lim m j D M C F B)(g:D.bO=dT w aE o 0 c x y):
  ao aj 176 #[aa j] d fun e l=>e=ap (ah true)∧aP s S l lim m j {D with nx:= .nilFunc} M C F B∧bD S d S l:=by
 have n:d.cell? ⟨j,27,V⟩=Z (ac o 0 c):=a.iw 2 (by rw [g];rfl);have i:=N (tG a);have f:=N a;clear a g;go_enter Tryz.func176,Tryz.ntmps176;go_wp2_with (go_at_call 56;(with_reducible refine i.out.mono ?_);rintro e p ⟨rfl,rfl⟩);go_ret;exact ⟨rfl,f.out.next _,(Mod.setCell (S:=[j]) _ _ _ J).av fun b k=>by rw [aO.1 k];exact ⟨f.out.cE,.inr (aJ _)⟩⟩
theorem EH{b:bK}(a:aP s S d lim m j D M C F B)(t:D.bO=dT w aE o n c x y)(r:kl S d o n c (b::aR)):
  ao aj 176 #[aa j] d fun e l=>e=ap (ah false)∧aP s S l lim m j {D with bO:=dT w aE o n c (a4 b.refs.head?).1 (a4 b.refs.head?).2,nx:=nI j} M C F B∧bD S d S l:=by
 have ae:d.cell? ⟨j,27,V⟩=Z (ac o n c):=a.iw 2 (by rw [t];rfl);obtain ⟨i,ax,z,A⟩:=r.cells;have ab:n=aR.length+1:=by have:=r.len;simp at this;omega
 obtain ⟨T, -⟩:=z K;obtain ⟨vs, -, -,f,k⟩:=A 0 b rfl;have f:vs=[O U (b.dF:Int),O U (a4 b.refs.head?).1,O U (a4 b.refs.head?).2,b.page]:=f;have I:d.cell? ⟨i,ax+1,V⟩=Z (O U (a4 b.refs.head?).1):=by
  have:=(bp.1 (k 1 _ (by rw [f];rfl))).2;simpa using this
 have P:d.cell? ⟨i,ax+2,V⟩=Z (O U (a4 b.refs.head?).2):=by
  have:=(bp.1 (k 2 _ (by rw [f];rfl))).2;simpa using this
 have R:er d i (ax+1) [O U (a4 b.refs.head?).1,O U (a4 b.refs.head?).2]:=⟨fun G am q=>by
  rcases G with _|_|G
  ·cases q;exact I
  ·cases q;exact P
  ·simp at q⟩
 have al:0 < n:=K;have ag: ((n:Int)==0)=false:=mf;have W:=a.box.fi 28 2 (by have:=a.ab.len;have:=a.bO;simp only [gj,fY,dG];omega);have g:=a.y1 (O U (a4 b.refs.head?).1) (O U (a4 b.refs.head?).2);have v: (D.bO.set 3 (O U (a4 b.refs.head?).1)).set 4 (O U (a4 b.refs.head?).2)=dT w aE o n c (a4 b.refs.head?).1 (a4 b.refs.head?).2:=by rw [t];rfl
 rw [v] at g;have E:Mod [j] d (ba d j 28 [O U (a4 b.refs.head?).1,O U (a4 b.refs.head?).2]):=Mod.setCells J _ _ _;have Q:=N (E.av (L:=[]) (B0:=0) (S:=S) fun b p=>by rw [aO.1 p];exact ⟨a.cE,.inr (aJ _)⟩);have bh:=N (iS g 191 #[aa j] #[]);have u:=N g;clear t r z A k f g E v ab I P a;subst T;go_enter Tryz.func176,Tryz.ntmps176;go_upto_region 4 with fail
 go_wp2_with (first|(with_reducible refine dc 78 (R) dm ?_)|(with_reducible refine hY 78 (W) ([O U (a4 b.refs.head?).1,O U (a4 b.refs.head?).2]) ?_)|(go_at_call 57;(with_reducible refine bh.out.mono ?_);rintro e an ⟨rfl,rfl⟩));go_ret;exact ⟨rfl,u.out.next _,Q.out.trans ((Mod.setCell (S:=[j]) _ _ _ J).av fun b p=>by rw [aO.1 p];exact ⟨u.out.cE,.inr (aJ _)⟩)⟩
end
section
variable {c : Nat} 
theorem DG(g:aP s S d lim m j D M C F B)(z:D.bO=dT w aE o n c x y):
  ao aj 204 #[aa j,aw #[O U ((r.i:Int)+1),(r.g:Int)]] d fun e l=>e=ap (ah false)∧aP s S l lim m j {D with bO:=dT w aE o n c ((r.i:Int)+1) (r.g:Int),nx:=nI j} M C F B∧bD S d S l:=by
 obtain ⟨k,u,I⟩:=gv d 35 78 [aa j] [O U ((r.i:Int)+1),O U (r.g:Int)];have P:=g.lt;have E:=N g;have G:=N z;clear g z;go_enter Tryz.func204,Tryz.ntmps204;go_upto_region 1 with fail
 generalize (H d (X #[aa j] 35)).alloc (X #[O U ((r.i:Int)+1),(r.g:Int)] 78)=t at *;have T:=u.cell 0 rfl;have a:=E.out.aC k;have K:=a.box.fi 28 2 (by have:=a.ab.len;have:=a.bO;simp only [gj,fY,dG];omega);have f:=a.y1 (O U ((r.i:Int)+1)) (O U (r.g:Int));have v: (D.bO.set 3 (O U ((r.i:Int)+1))).set 4 (O U (r.g:Int))=dT w aE o n c ((r.i:Int)+1) (r.g:Int):=by rw [G.out];rfl
 rw [v] at f;have p:Mod [j] t (ba t j 28 [O U ((r.i:Int)+1),(r.g:Int)]):=Mod.setCells J _ _ _;have A:=N ((Y.av (L:=[]) (B0:=0) (S:=S) k).trans (p.av fun b i=>by rw [aO.1 i];exact ⟨a.cE,.inr (aJ _)⟩));have bh:=N (iS f 191 #[aa j] #[]);have q:=N f;have W:=(p.box cJ u).cell 0 rfl;have Q: ((r.i:Int)+1==0)=false:=mf;clear a f p v k;go_wp2_with (first|(with_reducible refine b0 78 (I) dm ?_)|(with_reducible refine hY 78 (K) ([O U ((r.i:Int)+1),O U (r.g:Int)]) ?_)|(go_at_call 57;(with_reducible refine bh.out.mono ?_);rintro e R ⟨rfl,rfl⟩));go_ret;exact ⟨rfl,q.out.next _,A.out.trans ((Mod.setCell (S:=[j]) _ _ _ J).av fun b i=>by rw [aO.1 i];exact ⟨q.out.cE,.inr (aJ _)⟩)⟩
theorem EJ{b:bK}{a:Nat}(p:kl S d (Z ⟨a,ax,V⟩) n c (b::aR)):kl S d (if c=1 then Z ⟨a,ax,V⟩else Z ⟨a,ax+4,V⟩) (n - 1) (c - 1) aR:=by
 obtain⟨g,y,z,A,w,C,j,k⟩:=p;have B:n=aR.length+1:=by simp at g;omega
 obtain⟨e,l⟩:=j K;cases e;refine⟨K,K,K,fun q=>(by split at q <;> cases q),a,ax+4,fun q=>⟨?_,l⟩,fun i x m=>?_⟩
 ·rw[aS K]
 ·obtain⟨vs,r,s,t,u⟩:=k (i+1) x (by simpa using m);refine⟨vs,r,s,t,fun f v o=>?_⟩;have:=u f v o;rwa[show ax+(i+1) * 4+f=ax+4+i * 4+f by omega]at this
structure sd (S:List Nat) (d:ad) (j:Nat) (nx:ak) (a:Int) (E aD:Nat):Prop where
 nx:nx= .func (.func 210) #[] #[aa E,aa aD]
 sO: (ay d S).cell? ⟨E,0,V⟩=Z (O U a)
 c2: (ay d S).cell? ⟨aD,0,V⟩=Z (aa j)
theorem wS{b:bK}(z:aP s S d lim m j D M C F B)(aN:D.bO=dT w aE o n c x y)(I:kl S d o n c (b::aR))
  (aI:b.page < 0→∀ a u,aP s S u lim m j {D with bO:=dT w aE a (n - 1) (c - 1) x y} M C F B→kl S u a (n - 1) (c - 1) aR→bD S d S u→ao aj 176 #[aa j] u fun e l=> ∃ r,e=ap (ah r)∧aQ e l)
  (aH:0≤b.page→∀ a nx E aD l,aP s S l lim m j {D with bO:=dT w aE a (n - 1) (c - 1) x y,nx:=nx} M C F B→kl S l a (n - 1) (c - 1) aR→sd S l j nx b.page E aD→bD S d S l→aQ (ap (ah false)) l):
  ao aj 204 #[aa j,aw #[O U 0,O U 0]] d fun e l=> ∃ r,e=ap (ah r)∧aQ e l:=by
 obtain ⟨ab,Q,R⟩:=gv d 35 78 [aa j] [O U 0,O U 0];have be:=z.lt;obtain ⟨p,ax,g,aG⟩:=I.cells;have a6:n=aR.length+1:=by have:=I.len;simp at this;omega
 obtain ⟨a2, -⟩:=g K;obtain ⟨vs, -, -,v,aC⟩:=aG 0 b rfl;have v:vs=[O U (b.dF:Int),O U (a4 b.refs.head?).1,O U (a4 b.refs.head?).2,b.page]:=v;have aS:d.cell? ⟨p,ax+3,V⟩=Z (O U b.page):=by
  have:=(bp.1 (aC 3 _ (by rw [v];rfl))).2;simpa using this
 have bf:0 < n:=K;have aV:=N z;have aq:=N aN;have hold:=z.mem.old;subst a2;have an:=N (EJ I);have aW:=N aI;have aU:=N aH;clear z aN g aG aC v a6 I aI aH;go_enter Tryz.func204,Tryz.ntmps204;go_upto_region 1 with fail
 generalize aK: (H d (X #[aa j] 35)).alloc (X #[O U 0,O U 0] 78)=f at *;clear aK;have aZ:=R.lt J;have aT:=Q.cell 0 rfl;have g:=aV.out.aC ab;have aA:f.cell? ⟨j,27,V⟩=Z (ac (Z ⟨p,ax,V⟩) n c):=g.iw 2 (by rw [aq.out];rfl);have bc:=ab.I aS;go_upto_region 6 with (with_reducible refine b0 78 (R) dm ?_)
 have G:Y f (H f (X #[O U b.page] 3)):=(Y.refl f).alloc _;have ar:ae (H f (X #[O U b.page] 3)) f.heap.size [O U b.page]:=(ae.new f _ _ rfl).of J;have A:=g.aC G;have av:=Q.I G;have a1: (H f (X #[O U b.page] 3)).cell? ⟨j,27,V⟩=Z (ac (Z ⟨p,ax,V⟩) n c):=G.I aA;have a3: (H f (X #[O U b.page] 3)).frozen? ⟨j,27,V⟩=false:=A.rk 2 K;clear Q R aT aA bc g;(try simp only [Act.put]);show Code.wp _ _ _ _ (H f (X #[O U b.page] 3));have a5:d.heap.size+2≤f.heap.size:=by have:=aZ;omega
 generalize H f (X #[O U b.page] 3)=k at *;generalize f.heap.size=E at *;go_upto_region 7 with fail
 generalize (if c=1 then Z (⟨p,ax,V⟩:ai) else Z ⟨p,ax+4,V⟩)=a at *;have T:=A.nS 2 (ac a (n - 1) (c - 1));have aF:D.bO.set 2 (ac a (n - 1) (c - 1))=dT w aE a (n - 1) (c - 1) x y:=by rw [aq.out];rfl
 rw [aF] at T;have L:Mod [j] k (k.setCell ⟨j,25+2,V⟩ (ac a (n - 1) (c - 1))):=Mod.setCell _ _ _ J;have ag:bD S d S (k.setCell ⟨j,25+2,V⟩ (ac a (n - 1) (c - 1))):=(Y.av (ab.trans G)).trans (L.av fun b W=>by rw [aO.1 W];exact ⟨A.cE,.inr (aJ _)⟩);have aM:=N (bo.ex fy an.out ag.aL);have aK:d.heap.size+2≤E:=by have:=a5;omega
 have ay:=L.box cJ av;have az:=L.box cJ ar;have t:=N T;have am:=N ag;clear A T L ag aF av ar a1 a3 aS an;(try simp only [Act.put]);show Code.wp _ _ _ _ (k.setCell ⟨j,25+2,V⟩ (ac a (n - 1) (c - 1)));generalize k.setCell ⟨j,25+2,V⟩ (ac a (n - 1) (c - 1))=P at *;have aT:=ay.cell 0 rfl;have bg:=az.cell 0 rfl;by_cases i:b.page < 0
 ·have a9:decide (b.page < 0)=true:=eo i;have aX:=N (aW.out i a P t.out aM.out am.out);clear i;go_wp2_with (go_at_call 176;(with_reducible refine aX.out.mono ?_);rintro e bd ⟨r,rfl,bb⟩);go_ret;exact ⟨r,rfl,bb⟩
 ·have a9:decide (b.page < 0)=false:=dz i;have aY:=N i;have bh:=N (iS t.out 210 #[] #[aa E,aa d]);clear i;go_wp2_with (go_at_call 57;(with_reducible refine bh.out.mono ?_);rintro e bd ⟨rfl,rfl⟩);go_ret;have al:=Mod.setCell (S:=[j]) P ⟨j,11,V⟩ (.func (.func 210) #[] #[aa E,aa d]) J;have aL:bD S P S (P.setCell ⟨j,11,V⟩ (.func (.func 210) #[] #[aa E,aa d])):=al.av fun b W=>by rw [aO.1 W];exact ⟨t.out.cE,.inr (aJ _)⟩
  have a7:d.heap.size∉S:=fun q=>dk _ (hold _ q);have a8:E∉S:=fun q=>by have:=hold _ q;omega
  exact ⟨false,rfl,aU.out (by have:=aY.out;omega) a _ E d _ (t.out.next _) (bo.ex fy aM.out aL.aL) ⟨rfl,bp.2 ⟨a8,(al.box cJ az).cell 0 rfl⟩,bp.2 ⟨a7,(al.box cJ ay).cell 0 rfl⟩⟩ (am.out.trans aL)⟩
end
section
variable {c : Nat} 
structure vf (S:List Nat) (d:ad) (j:Nat) (nx:ak) (r:aA) (x y:Int) (P aD E:Nat):Prop where
 nx:nx= .func (.func 205) #[] #[aa P,aa aD,aa E]
 hR: (ay d S).cell? ⟨P,0,V⟩=Z (O U ((r.i:Int)+1))
 B5: (ay d S).cell? ⟨P,1,V⟩=Z (O U (r.g:Int))
 c2: (ay d S).cell? ⟨aD,0,V⟩=Z (aa j)
 sO: (ay d S).cell? ⟨E,13,V⟩=Z (O U x)
 B6: (ay d S).cell? ⟨E,14,V⟩=Z (O U y)
theorem Gk(z:aP s S d lim m j D M C F B)(aS:D.bO=dT w aE o n c ((r.i:Int)+1) (r.g:Int))(aN:Live m r aH)(a4:bT aH):
  ao aj 191 #[aa j,aa s.m] d fun e l=>e=ap (ah false)∧∃ nx P aD E,aP s S l lim m j {D with nx:=nx} M C F B∧vf S l j nx r aH.x.slot aH.x.gen P aD E∧bD S d S l:=by
 have aq:Y d (H d (X #[aa j] 35)):=(Y.refl d).alloc _;have y:ae (H d (X #[aa j] 35)) d.heap.size [aa j]:=(ae.new d _ _ rfl).of J;have bc:=z.lt;have hold:=z.mem.old;have aX:=N z;have aA:=N aS;have aY:=N aN;clear z aS aN;go_enter Tryz.func191,Tryz.ntmps191;go_upto_region 1 with fail
 generalize a3:H d (X #[aa j] 35)=f at *;have bb:d.heap.size < f.heap.size:=y.lt J;clear a3;have A:=aX.out.aC aq;have aU:=y.cell 0 rfl;have aI:er f j 28 [O U ((r.i:Int)+1),(r.g:Int)]:=⟨fun aT bd ar=>by
  rcases aT with _|_|aT
  ·cases ar;exact A.iw 3 (by rw [aA.out];rfl)
  ·cases ar;exact A.iw 4 (by rw [aA.out];rfl)
  ·simp at ar⟩
 have T:ae (H f (X #[O U 0,O U 0] 78)) f.heap.size [O U 0,O U 0]:=(ae.new f _ _ rfl).of J;go_upto_region 2 with (first|(with_reducible refine dc 78 (aI) dm ?_)|(with_reducible refine bq 78 (T) ([O U ((r.i:Int)+1),(r.g:Int)]) ?_))
 have x:ae ((H f (X #[O U 0,O U 0] 78)).setCells f 0 [O U ((r.i:Int)+1),(r.g:Int)]) f.heap.size [O U ((r.i:Int)+1),(r.g:Int)]:=T.aR rfl;have I:Y f ((H f (X #[O U 0,O U 0] 78)).setCells f 0 [O U ((r.i:Int)+1),(r.g:Int)]):=((Y.refl f).alloc _).setCells (aG _) _ _;have ab:=A.aC I;have aL:=y.I I;have az:=N (xR ab.mem aY.out a4);have R:=N ab;have a5:=aq.trans I;clear T aI y aU A I ab aq;(try simp only [Act.put]);show Code.wp _ _ _ _ ((H f (X #[O U 0,O U 0] 78)).setCells f 0 [O U ((r.i:Int)+1),(r.g:Int)]);generalize ((H f (X #[O U 0,O U 0] 78)).setCells f 0 [O U ((r.i:Int)+1),(r.g:Int)])=a7 at *;generalize f.heap.size=P at *;have c7:=x.cell 0 rfl;have a9:=x.cell 1 rfl;go_upto_region 3 with (first|(go_at_call 117;(with_reducible refine az.out.mono ?_);rintro e a ⟨t,k,g,u,p,i,rfl,a2,aM,av⟩;have W:ae (H a (X al 85)) a.heap.size al:=(ae.new a _ _ rfl).of J)|(with_reducible refine bq 85 (W) ((an aH.x t k g u p i)) ?_))
 have aV:ae ((H a (X al 85)).setCells a 0 (an aH.x t k g u p i)) a.heap.size (an aH.x t k g u p i):=W.aR rfl;have v:Y a ((H a (X al 85)).setCells a 0 (an aH.x t k g u p i)):=((Y.refl a).alloc _).setCells (aG _) _ _;have G:=R.out.acc aM av J;have K:bD S a7 S a:=av.av fun b am=>by
  rw [aO.1 am];exact ⟨R.out.mem.sub _ J,.inr (aJ _)⟩
 have aQ:d.heap.size∉S:=fun q=>dk _ (hold _ q);have ax:P∉S:=fun q=>by have:=hold _ q;omega
 have aR:a.heap.size∉S:=fun q=>dk _ (G.mem.old _ q);have a6:a.heap.size≠j:=fun e=>by have:=G.lt;omega
 have aK:=(K.box (.inl aQ) aL).I v;have a1:=(K.box (.inl ax) x).I v;have ag:=G.aC v;have aW:=N (((Y.av (L:=[]) (B0:=0) (S:=S) a5).trans K).trans (Y.av v));clear W v G K aM av a2 aL x c7 a9 R az;(try simp only [Act.put]);show Code.wp _ _ _ _ ((H a (X al 85)).setCells a 0 (an aH.x t k g u p i));generalize (H a (X al 85)).setCells a 0 (an aH.x t k g u p i)=a8 at *;generalize a.heap.size=E at *;have aU:=aK.cell 0 rfl;have bh:=N (iS ag 205 #[] #[aa P,aa d,aa E]);have ay:=N ag;clear ag;go_wp2_with (go_at_call 57;(with_reducible refine bh.out.mono ?_);rintro e be ⟨rfl,rfl⟩);go_ret;have Q:=Mod.setCell (S:=[j]) a8 ⟨j,11,V⟩ (.func (.func 205) #[] #[aa P,aa d,aa E]) J;have aZ:=Q.box cJ aK;have aC:=Q.box cJ a1;have aF:=Q.box (by simpa using a6) aV;exact ⟨rfl,_,P,d.heap.size,E,ay.out.next _,⟨rfl,bp.2 ⟨ax,aC.cell 0 rfl⟩,bp.2 ⟨ax,aC.cell 1 rfl⟩,bp.2 ⟨aQ,aZ.cell 0 rfl⟩,bp.2 ⟨aR,aF.cell 13 rfl⟩,bp.2 ⟨aR,aF.cell 14 rfl⟩⟩,aW.out.trans (Q.av fun b am=>by rw [aO.1 am];exact ⟨ay.out.cE,.inr (aJ _)⟩)⟩
end
section
variable {c : Nat} 
theorem p9{o:Nat}(c:fq S d aT l)(a: (ay d S).cell? ⟨b,o,V⟩=Z v):l.cell? ⟨b,o,V⟩=Z v:=(bp.1 (c.cell _ _ _ a)).2
theorem yH(k:aP s S d lim m j D M C F B)(c:vf S d j nx r x y P aD E)(w:Live m r aH)
  (hF: ∀ u,aP s S u lim (e3 m r) j D M C F B→bD S d S u→ao aj 204 #[aa j,aw #[x,y]] u fun e l=> ∃ f,e=ap (ah f)∧aQ e l):
  ao aj 205 #[aa s.m,aa P,aa aD,aa E] d fun e l=> ∃ f,e=ap (ah f)∧aQ e l:=by
 have t:er d P 0 [O U ((r.i:Int)+1),(r.g:Int)]:=⟨fun i Q a=>by
  rcases i with _|_|i
  ·cases a;exact(bp.1 c.hR).2
  ·cases a;exact(bp.1 c.B5).2
  ·simp at a⟩
 have q:=N (wP k.mem w);have p:=N fun u (n:aX s S u lim (e3 m r)) (g:Mod [s.m,s.s] d u)=>by
  have o:bD S d S u:=g.av fun b v=>by
   simp only[bd,c0,db]at v;exact⟨k.mem.sub b (by rcases v with rfl|rfl <;> simp),.inr (aJ _)⟩
  exact And.intro (hF u (k.acc n g J) o) (And.intro (p9 o.aL c.c2) (And.intro (p9 o.aL c.sO) (p9 o.aL c.B6)))
 clear k c w hF;go_enter Tryz.func205,Tryz.ntmps205;go_upto_region 2 with(first|(with_reducible refine dc 78 (t) dm ?_)|(go_at_call 182;(with_reducible refine q.out.mono ?_);rintro e u ⟨rfl,n,g⟩))
 obtain⟨G,R,z,A⟩:=p.out u n g;have K:er u E 13 [O U x,y]:=⟨fun i Q a=>by
  rcases i with _|_|i
  ·cases a;exact z
  ·cases a;exact A
  ·simp at a⟩
 have I:=N G;clear G z A p q t n g;go_wp2_with(first|(with_reducible refine dc 78 (K) dm ?_)|(go_at_call 204;(with_reducible refine I.out.mono ?_);rintro e T ⟨f,rfl,L⟩));go_ret;exact⟨f,rfl,L⟩
theorem DF{p:Nat}{q:Option aA}(f:aP s S d lim m j D M C F B)(i:sd S d j nx (p:Int) E aD)(t:m.ax[p]?=Z (Z q))
  (hF: ∀ u,aP s S u lim (eC m (p:Int)) j D M C F B→bD S d S u→ao aj 176 #[aa j] u fun e l=> ∃ a,e=ap (ah a)∧aQ e l):
  ao aj 210 #[aa s.m,aa E,aa aD] d fun e l=> ∃ a,e=ap (ah a)∧aQ e l:=by
 have Q:=(bp.1 i.sO).2;have n:=N (wV f.mem t);have k:=N fun u (g:aX s S u lim (eC m (p:Int))) (c:Mod [s.m,s.p] d u)=>by
  have r:bD S d S u:=c.av fun b o=>by
   simp only[bd,c0,db]at o;exact⟨f.mem.sub b (by rcases o with rfl|rfl <;> simp),.inr (aJ _)⟩
  exact And.intro (hF u (f.acc g c J) r) (p9 r.aL i.c2)
 clear f i t hF;go_enter Tryz.func210,Tryz.ntmps210;go_upto_region 2 with(go_at_call 183;(with_reducible refine n.out.mono ?_);rintro e u ⟨rfl,g,c⟩)
 obtain⟨v,y⟩:=k.out u g c;have w:=N v;clear v k n g c;go_wp2_with(go_at_call 176;(with_reducible refine w.out.mono ?_);rintro e z ⟨a,rfl,x⟩);go_ret;exact⟨a,rfl,x⟩
end
section
variable {z : Nat} {am W : Option ai} {ag R T Q : Nat} {aW aM : List bK}
theorem Gw{x:bK}(b:d.cell? aU=Z (O U w))(a: (x.dF:Int) < w):
  ao aj 190 #[aw #[(x.dF:Int),aZ,a1,a2],aa aU,aa P,aa E] d fun e l=>e=ap (aa P)∧Y d l:=by
 have f:decide ((x.dF:Int) < w)=true:=eo a;have c: (H d (X #[O U (x.dF:Int),aZ,a1,a2] 284)).cell? aU=Z (O U w):=((Y.refl d).alloc _).I b;clear a;go_enter Tryz.func190,Tryz.ntmps190;go_wp2_with fail;go_ret;exact ⟨rfl,(Y.refl d).alloc _⟩
theorem Gx{x:bK}(b:d.cell? aU=Z (O U w))(a: ¬ (x.dF:Int) < w):
  ao aj 190 #[aw #[(x.dF:Int),aZ,a1,a2],aa aU,aa P,aa E] d fun e l=>e=ap (aa E)∧Y d l:=by
 have f:decide ((x.dF:Int) < w)=false:=dz a;have c: (H d (X #[O U (x.dF:Int),aZ,a1,a2] 284)).cell? aU=Z (O U w):=((Y.refl d).alloc _).I b;clear a;go_enter Tryz.func190,Tryz.ntmps190;go_wp2_with fail;go_ret;exact ⟨rfl,(Y.refl d).alloc _⟩
structure ib (aF d:ad) (z P:Nat) (am:Option ai) (ag R:Nat) (aW:List bK) (E:Nat) (W:Option ai) (T Q:Nat) (aM:List bK):Prop where
 aC:Y aF d
 n0:ae d P [ac am ag R]
 py:ae d E [ac W T Q]
 lh:bi iD 4 284 d z am ag R aW
 nQ:bi iD 4 284 d z W T Q aM
 ne: ∀ g,Value.ownBlock (ac am ag R)=Z g→Value.ownBlock (ac W T Q)≠Z g
 lo:P < z∧E < z∧P≠E
 le:aF.heap.size≤P∧aF.heap.size≤E
theorem ib.symm(a:ib aF d z P am ag R aW E W T Q aM):ib aF d z E W T Q aM P am ag R aW:=
 ⟨a.aC,a.py,a.n0,a.nQ,a.lh,fun g q r=>a.ne g r q,⟨a.lo.2.1,a.lo.1,fun e=>a.lo.2.2 e.symm⟩,⟨a.le.2,a.le.1⟩⟩
theorem ib.I(a:ib aF d z P am ag R aW E W T Q aM)(b:Y d l):ib aF l z P am ag R aW E W T Q aM:=
 ⟨a.aC.trans b,a.n0.I b,a.py.I b,a.lh.I fy b,a.nQ.I fy b,a.ne,a.lo,a.le⟩
theorem ib.app(a:ib aF d z P am ag R aW E W T Q aM)(s:aF.heap.size≤z){i:Option ai}{f c:Nat}{n:List bK}(u:bi iD 4 284 l z i f c n)(j:d.grownBy l (Value.ownBlock (ac am ag R)))
  (t:Value.ownBlock (ac i f c)=Value.ownBlock (ac am ag R)∨Value.ownBlock (ac i f c)=Z d.heap.size):
  ib aF (l.setCell ⟨P,0,V⟩ (ac i f c)) z P i f c n E W T Q aM:=by
 have m: ∀ b,b < z→Value.ownBlock (ac am ag R)≠Z b:=fun b y e=>by have:=(a.lh.lt b e).1;omega
 have o:Y aF l:=kP a.aC j a.aC.le fun q k=>bZ s (a.lh.lt q k).1;have w:=ej j (m P a.lo.1) a.n0;have x:=ej j (m E a.lo.2.1) a.py;have v:bi iD 4 284 l z W T Q aM:=a.nQ.to (fun g q=>by
  have k:=c9.1 q;exact j.block g (a.nQ.lt g k).2 fun e=>a.ne g e.symm k) fun _ _ q=>q
 exact ⟨o.setCell (p:=⟨P,0,V⟩) a.le.1 _,w.set 0 _,x.other a.lo.2.2 _,u.gi fy a.lo.1 fun _ _ q=>q,v.gi fy a.lo.1 fun _ _ q=>q,fun g q r=>by
  rcases t with e|e
  ·exact a.ne g (e ▸ q) r
  ·rw [e] at q;cases q;exact dk _ (a.nQ.lt _ r).2,a.lo,a.le⟩
end
abbrev gA (x:bK):List ak:=[O U (x.dF:Int),O U (a4 x.refs.head?).1,O U (a4 x.refs.head?).2,O U x.page]
abbrev l4:List ak:=[O U 0,O U 0,O U 0,O U 0]
def jq (w:Int) (av:List bK):List bK:=av.filter fun b=>decide ((b.dF:Int) < w)
def iQ (w:Int) (av:List bK):List bK:=av.filter fun b=>decide (¬ (b.dF:Int) < w)
section
theorem BL{x:bK}{r:Option Nat}(a:d.rangeAt b 0 (gA x))(e:r≠Z b):bo iD 4 (eb d r) (Z ⟨b,0,V⟩) 1 1 [x]:=
 bo.one bP (aG _) c4 rfl du rfl fun f g c=>hT.2 ⟨e,a f g c⟩
def qb (u d:ad) (z P E:Nat) (w:Int) (av:List bK):Prop:=∃ am ag R W T Q,ib u d z P am ag R (jq w av) E W T Q (iQ w av)
theorem GB{z:Nat}{x:bK}(n:d.cell? aU=Z (O U w))(y:qb u d z P E w av):
  ∃ g B A v k m t s o r,ao aj 190 #[aw (gA x),aa aU,aa P,aa E] d (fun e l=>e=ap (aa g)∧Y d l)∧ib u d z g B A v k m t s o r∧(∀ l f c b,ib u l z g f c b (k++[x]) m t s o r→qb u l z P E w (av++[x]))∧k.length≤av.length:=by
 obtain ⟨am,ag,R,W,T,Q,p⟩:=y;by_cases a: (x.dF:Int) < w
 ·refine ⟨P,am,ag,R,_,E,W,T,Q,_,Gw n a,p,fun l f c b q=>⟨f,c,b,W,T,Q,?_⟩,kg _ _⟩;have i:jq w (av++[x])=jq w av++[x]:=by simp [jq,gn,a]
  have j:iQ w (av++[x])=iQ w av:=by simp [iQ,gn,a]
  rw [i,j];exact q
 ·refine ⟨E,W,T,Q,_,P,am,ag,R,_,Gx n a,p.symm,fun l f c b q=>⟨am,ag,R,f,c,b,?_⟩,kg _ _⟩;have i:jq w (av++[x])=jq w av:=by simp [jq,gn,a]
  have j:iQ w (av++[x])=iQ w av++[x]:=by
   have:decide (¬ (x.dF:Int) < w)=true:=eo a;simp only [iQ,gn,h3,this,kb,List.filter_nil]
  rw [i,j];exact q.symm
def vp (s:aV) (S:List Nat) (lim:aK) (m:az) (j:Nat) (D:bU) (B:List ak) (w:Int) (d:ad) (e:Ending) (l:ad):Prop:=
 ∃ b no a g f c,e=ap (ac b no a)∧kl S l b no a (jq w D.bin)∧aP s S l lim m j {D with bin:=iQ w D.bin} g f c B∧bD S d S l
theorem Gz{z:Nat}(e:aP s S d lim m j D M C F B)(o:Y d u)(q:z=d.heap.size+3){am:Option ai}{ag R:Nat}{W:Option ai}{T Q:Nat}(a:ib u l z P am ag R (jq w D.bin) E W T Q (iQ w D.bin)):
  vp s S lim m j D B w d (ap (ac am ag R)) (l.setCell ⟨j,1,V⟩ (ac W T Q)):=by
 have k:=o.trans a.aC;have f:=e.aC k;have g: ∀ b∈S,b < z:=fun b c=>by have:=e.mem.old b c;omega
 have n:=f.y0 (r7.aL a.nQ g);have p:Mod [j] l (l.setCell ⟨j,1,V⟩ (ac W T Q)):=Mod.setCell _ _ _ J;have i:bD S l S (l.setCell ⟨j,1,V⟩ (ac W T Q)):=p.av fun b c=>by rw[aO.1 c];exact⟨f.cE,.inr (aJ _)⟩
 exact⟨am,ag,R,W,T,Q,rfl,bo.ex fy (r7.aL a.lh g) i.aL,n,(Y.av k).trans i⟩
theorem Gy(o:aP s S d lim m j D M C F B)(ce:C≤1000000)(w:Int):
  ao aj 175 #[au (Z ⟨j,1,V⟩),w] d (vp s S lim m j D B w d):=by
 obtain ⟨z,ar⟩: ∃ z,z=d.heap.size+3:=⟨_,rfl⟩;have aU:Y d (H d (X #[O U w] 3)):=(Y.refl d).alloc _;have a9:ae (H d (X #[O U w] 3)) d.heap.size [O U w]:=(ae.new d _ _ rfl).of J;obtain ⟨bd,ax,bo,br⟩:=o.bin.cells;have bw:=o.bin.len;have bF:=N fun k x (aE:D.bin[k]?=Z x)=>by
  obtain ⟨vs, -, -,aR,bK⟩:=br k x aE;have aR:vs=gA x:=aR;exact (⟨fun aW aZ aV=>(bp.1 (bK aW aZ (by rw [aR];exact aV))).2⟩:er d bd (ax+k * 4) (gA x))
 have bP:=N fun (k:Nat) (aE:k < C) (i:ad)=>GL (n:=C) F (fun q=>(bo q).1) aE i;have al:=N o;have an:=N bw;clear o bo br bw;go_enter Tryz.func175,Tryz.ntmps175;go_upto_region 3 with fail
 show Code.wp _ _ _ _ (H d (X #[O U w] 3));have aF: (H d (X #[O U w] 3)).heap.size=d.heap.size+1:=dL _ _;generalize H d (X #[O U w] 3)=u at *;have aS:ib u ((H u (X #[ac V 0 0] 90)).alloc (X #[ac V 0 0] 90)) z u V 0 0 [] (u.heap.size+1) V 0 0 []:=
  ⟨((Y.refl _).alloc _).alloc _,((ae.new u _ _ rfl).of J).I ((Y.refl _).alloc _),(ae.new (H u _) _ _ dW).of J,bi.nil _ _ _ _ _,bi.nil _ _ _ _ _,fun g q=>by simp [Value.ownBlock] at q,⟨K,K,K⟩,⟨K,K⟩⟩
 have a4:=N aF;have a2:=N ar;clear aF ar;go_upto_region 4 with fail
 have aF:=a4.out;have ar:=a2.out;show Code.wp _ _ _ _ ((H u (X #[ac V 0 0] 90)).alloc (X #[ac V 0 0] 90));have y:=aU.trans aS.aC;have b7:=(al.out.aC y).box.cell 1 rfl;generalize (H u (X #[ac V 0 0] 90)).alloc (X #[ac V 0 0] 90)=bH at *;have bJ:=N (a9.cell 0 rfl);have bV:u.heap.size≤z:=K;have aM:=N aS;have bX:z≤bH.heap.size:=by
  have:=aM.out.py.lt J;omega
 have aL:=N aU;clear aS a9 y aF aU ar a4;generalize bR:u.heap.size+1=E at *;generalize bs:u.heap.size=P at *;have bE:=N bs;clear bR bs;go_upto_region 6 with fail
 go_loopw [19] (fun aY wr=> ∃ k:Nat,k≤C∧aY=O U k∧Hid (qb u wr z P E w (D.bin.take k))∧Y u wr∧z≤wr.heap.size) (fun aY _=>C - (intOf aY).toNat)
 case atStart=>exact ⟨0,aJ _,rfl,N ⟨V,0,0,V,0,0,aM.out⟩,aM.out.aC,bX⟩
 case round=>
  obtain ⟨k,aE,rfl,r,az,bY⟩:=hrel;by_cases bT:k < C
  ·have aH:D.bin[k]?=Z (D.bin[k]'(by have:=an.out;omega)):=cP _;generalize (D.bin[k]'(by have:=an.out;omega))=x at aH;have a6:er wr bd (ax+k * 4) (gA x):=⟨fun aW aZ aV=>(aL.out.trans az).I ((bF.out k x aH).1 aW aZ aV)⟩;have bQ:=fun i=>bP.out k bT i;have bG:=N aH;have aO:ae (H wr (X l4 284)) wr.heap.size l4:=(ae.new wr _ _ rfl).of J;clear aH;go_upto_region 8 with (first|(with_reducible refine dc 284 (a6) rS ?_)|(with_reducible refine bq 284 (aO) ((gA x)) ?_))
   have aK:ae ((H wr (X l4 284)).setCells wr 0 (gA x)) wr.heap.size (gA x):=aO.aR rfl;have aC:Y wr ((H wr (X l4 284)).setCells wr 0 (gA x)):=((Y.refl wr).alloc _).setCells (aG _) _ _;have bl:qb u ((H wr (X l4 284)).setCells wr 0 (gA x)) z P E w (D.bin.take k):=by
    obtain ⟨am,ag,R,W,T,Q,b⟩:=r.out;exact ⟨am,ag,R,W,T,Q,b.I aC⟩
   obtain ⟨c,aX,A,aQ,ck,b5,cn,cm,b8,cl,bj,b,hF,bv⟩:=GB ((az.trans aC).I bJ.out) bl (x:=x);have bW:=N bj;have a3:=N hF;have bt:z≤((H wr (X l4 284)).setCells wr 0 (gA x)).heap.size:=bZ bY aC.le;clear a6 bQ aO r bl bj hF;(try simp only [Act.put]);show Code.wp _ _ _ _ ((H wr (X l4 284)).setCells wr 0 (gA x));clear az aC;generalize (H wr (X l4 284)).setCells wr 0 (gA x)=b3 at *;generalize wr.heap.size=bI at *;go_upto_region 9 with (first|(with_reducible refine b0 284 (aK) rS ?_)|(go_at_call 190;(with_reducible refine bW.out.mono ?_);rintro e i ⟨rfl,aA⟩))
   have av:=b.I aA;have a7:=aK.I aA;have bf:z≤i.heap.size:=bZ bt aA.le;have cf:A≤1000000:=by
    have bN:=av.lh.fv fy;have cc:=bN.len;have cd:=an.out;rw [fm] at bv;omega
   clear b aK bt aA bW;refine cZ (fun _=>True) (fun l=>l.cell? c=Z (ac aX A aQ)∧l.rangeAt bI 0 (gA x)) 6 G ?_;have p:True:=trivial;have L:=(Y.refl i).drew;have hKC:=And.intro (L.I (av.n0.cell 0 rfl)) (L.range a7.aM);have aT:=av.I L;have bg:z≤i.drew.heap.size:=bZ bf L.le;clear av a7 bf L;generalize i.drew=a at *;refine' a8 0 26 (aa c) rfl p ?_;refine' aI 1 27 (aa c) rfl p hKC ?_;refine' aI 2 28 (aa c) rfl p hKC ?_;refine' bc (v:=ac aX A aQ) 3 29 rfl (.inl ⟨aq,?_⟩) p hKC ?_
   ·(intro d bn;have ci:=bn.2.1;clear bn;go_simp)
   refine' bc 4 30 rfl (cj aq _ _ rfl _ _ rfl _ _ (fun d o=>o.2.2) rS rfl G) p hKC ?_;refine b4 5 (Z 31) rfl (fun I f=>?_);go_simp;have bb:ae (H a (X (gA x) 284)) a.heap.size (gA x):=(ae.new a _ _ rfl).of J;have ab:Y a (H a (X (gA x) 284)):=(Y.refl a).alloc _;have bB:Value.ownBlock (ac aX A aQ)≠Z a.heap.size:=fun e=>dk _ (aT.lh.lt _ e).2;have t:=aT.I ab;have bh:z≤(H a (X (gA x) 284)).heap.size:=bZ bg ab.le;have bk:=And.intro (ab.I hKC.1) (ab.range hKC.2);refine a5 f (trivial) (fun e=>by first|exact bk|exact bm e) ?_;clear f I;clear hKC bk aT bg ab;generalize H a (X (gA x) 284)=b2 at *;generalize a.heap.size=b6 at *;refine b4 6 (Z 32) rfl (fun I f=>?_);refine gF fy vK _ _ rfl (base:=z) bh rfl t.lh rfl (BL bb.aM bB) c4 K ?_;intro bC be a1 bA aD bx;have aN:=ej aD (fun e=>by have:=(t.lh.lt c e).1;have:=t.lo.1;omega) t.n0;have ay:=t.app (by rw [bE.out];exact bV) bA aD bx;have bO:z≤a1.heap.size:=bZ bh aD.size;refine a5 f (trivial) (fun e=>by first|exact ay|exact bm e) ?_;clear f I;have b1:=aN.cell 0 rfl;have bL:=aN.free 0 J;refine' a8 7 33 (aa c) rfl p ?_;refine cg 8 (V) rfl (fun I f=>?_);go_simp;refine bM f (trivial) ?_;clear f I;refine cC G ?_;have r:=a3.out _ _ _ _ ay;have bU:z≤(a1.setCell ⟨c,0,V⟩ (ac bC (A+1) be)).heap.size:=by unfold World.setCell;simpa using bO
   have bS:=ay.aC;have ch:IntKind.i64.wrap ((k:Int)+1)=(k:Int)+1:=e0 _ K;clear aN b1 bL t ay bb bB bA aD bx a3 bv;(try simp only [Act.put]);generalize a1.setCell ⟨c,0,V⟩ (ac bC (A+1) be)=co at *;go_wp2_with fail;go_roundw
   case rel=>exact ⟨k+1,K,rfl,N (by rw [kH,bG.out];exact r),bS,bU⟩
   case measure=>simp [intOf];omega
  ·obtain rfl:k=C:=by omega
   obtain ⟨am,ag,R,W,T,Q,b⟩:=r.out;rw [←an.out,mS] at b;have cp:=b.n0.cell 0 rfl;have cr:=b.py.cell 0 rfl;have y:=aL.out.trans az;have cb:=(al.out.aC y).box.free 1 J;have b9:=(al.out.aC y).box.cell 1 rfl;have bD:=N (Gz al.out aL.out a2.out b);clear r y;go_wp2_with fail;go_ret;exact bD.out
end
end Go.Proofs.YtbkmjhhpcinppaaGreatDoor
