import Derived.Test.YtbkmjhhpcinppaaGreatDoorQ25
namespace Go.Proofs.YtbkmjhhpcinppaaGreatDoor
set_option linter.unusedVariables false
set_option linter.defProp false
set_option linter.unusedSimpArgs false
set_option maxRecDepth 100000
set_option maxHeartbeats 40000000
open Go.BigFrame Go.RowKit Go.WideShapes
open Ending renaming returned→ap
open Go renaming Addr→ai,Calls→ao,Value→ak,World→ad
open Go.Proofs.Tryz renaming prog→aj
open IntKind renaming i64→U
open Obj renaming cells→X
open Option renaming none→V,some→Z
open Value renaming agg→aw,bool→ah,int→O,nilIface→aB,pointer→au,slice→ac,string→af,tuple→a0
open World renaming alloc→H,setCells→ba
variable {A : bQ} {B0 f aC B c cb F C t aE aH m nb I p : Nat} {D aM : bU} {u : aV} {z aN aL : az} {ax : cn} {T : Ending → ad → Prop} {S W aQ : List Nat} {k X' : eT} {a : bl} {ab : Option aY} {l r : aA} {av Q : ByteArray} {ag n aD : Int} {lim : aK} {w : aT} {o ob M E : Option ai} {am : dI} {R P : List ak} {d s aR j : ad} {wr : Bool} {y : ar}
theorem de.vt{ab b:Option bQ}(a:de lim av z wr n ab t ax b am): (∀ A,ab=Z A→0≤A.n)→∀ A,b=Z A→0≤A.n:=by
 induction a with
 |stop a l e=>exact fun q=>q
 |right a l d ih=>exact ih
 |down a g f l d ih=>
  intro _;refine ih fun A c=>?_;cases c;exact a.hU
theorem xp{q:Int×ByteArray}{p:Int}: ∀ {ag:List cw},gR ag p=Z q→∃ i,i < ag.length∧(bw ag i).key=q.2
 |[],c=>by cases c
 |[_],c=>by cases c
 |a::b::ag,c=>by
  unfold gR at c;by_cases d:b.page=p
  ·rw[a9 d]at c;cases c;exact⟨1,J,rfl⟩
  ·rw[aS d]at c;obtain⟨i,f,e⟩:=xp c;exact⟨i+1,by simpa using f,e⟩
theorem BK(a:kq w ab av wr= .post Q aD):Q=w.high:=by
 unfold kq at a;split at a
 ·cases a
 ·split at a
  ·split at a
   ·cases a;rfl
   ·cases a
  ·cases a
theorem BJ{p:Int}(a:kq w ab av wr= .hold p ag Q):False:=by
 unfold kq at a;split at a
 ·cases a
 ·split at a
  ·split at a <;> cases a
  ·cases a
theorem wE(a:ji w av= .post Q aD):False:=by
 unfold ji at a;split at a
 ·cases a
 ·split at a <;> cases a
theorem wD{p:Int}(a:ji w av= .hold p ag Q):False:=by
 unfold ji at a;split at a
 ·cases a
 ·split at a <;> cases a
theorem Ip(a:jx w aE n ab lim=Z (.post Q aD)):False:=by
 unfold jx at a;split at a
 ·cases a
 split at a
 ·cases a
 split at a
 ·cases a
 unfold lQ at a;split at a
 ·split at a
  ·simp only[Option.map_eq_some_iff]at a;obtain⟨q, -,b⟩:=a;cases b
  ·cases a
 ·cases a
theorem Ik{p:Int}(a:jx w aE n ab lim=Z (.hold p ag Q)): ∃ b,ab=Z b∧∃ i,i < b.ag.length∧(bw b.ag i).key=Q:=by
 unfold jx at a;split at a
 ·cases a
 split at a
 ·cases a
 split at a
 ·cases a
 unfold lQ at a;split at a
 ·rename_i v b;split at a
  ·simp only[Option.map_eq_some_iff]at a;obtain⟨q,c,d⟩:=a;cases d;exact⟨_,rfl,xp c⟩
  ·cases a
 ·cases a
theorem CU(a:dX w aE n ab av lim wr= .post Q aD):Q=w.high:=by
 unfold dX at a;split at a
 ·cases a
 split at a
 ·cases a
 split at a
 ·exact BK a
 split at a
 ·split at a
  ·rename_i x b;subst a;exact(Ip b).elim
  ·exact(wE a).elim
 ·exact(wE a).elim
theorem CS{p:Int}(a:dX w aE n ab av lim wr= .hold p ag Q): ∃ b,ab=Z b∧∃ i,i < b.ag.length∧(bw b.ag i).key=Q:=by
 unfold dX at a;split at a
 ·cases a
 split at a
 ·cases a
 split at a
 ·exact(BJ a).elim
 split at a
 ·split at a
  ·rename_i x c;subst a;exact Ik c
  ·exact(wD a).elim
 ·exact(wD a).elim
section
theorem AQ{ab:Option bQ}(k:de lim D.c.key z D.wr 0 V t ax ab .again)(b:aP u S d lim z B D ob nb cb R)(m:ff u S d B D 0)(c:D.ab=V):
  a7 u B t d (eh u lim B D D.bin (D.wr||ax.nd.eO) S d z):=by
 have a: {D with ab:=V,nx:=D.nx}=D:=by cases D;cases c;rfl
 refine mG (D:=D) (nb:=nb) (cb:=cb) (ob:=ob) k S d D.nx R rfl rfl (by rw[a];exact b) (by rw[a];exact m) bn.refl fun W s p r l P o n f g i j=>?_;exact(CC f g i).mono fun e v q=>⟨false,q.1,eh.from q j⟩
theorem yA(w:de lim D.c.key z D.wr 0 V t ax (Z A) am)(k:nM am=Z y)(x:aP u S d lim z B D ob nb cb R)(K:ff u S d B D 0)(C:D.ab=V):
  a7 u B t d fun e s=> ∃ m j,bD S d m j∧qa u lim B {D with ab:=Z A} m j z A.n.toNat (nx y A.head) e s:=by
 have r: {D with ab:=V,nx:=D.nx}=D:=by cases D;cases C;rfl
 have o:0≤A.n:=w.vt (fun A E=>by cases E) A rfl;refine mG (D:=D) (nb:=nb) (cb:=cb) (ob:=ob) w S d D.nx R rfl rfl (by rw[r];exact x) (by rw[r];exact K) bn.refl fun W s ae ar l P T N c f a n=>?_;cases am with
 |post Q aD=>
  cases k;have g:Q.size≤maxLen:=by rw[CU a];exact f.size.2
  exact(CM g (A:=A) rfl o c f a).mono fun e L q=>⟨false,q.1,W,s,n,q⟩
 |hold p ag Q=>
  cases k;have g:Q.size≤maxLen:=by
   obtain⟨aq,J,i,I,F⟩:=CS a;cases J;obtain⟨al,aa,M, -,v, -⟩:=c.ab;obtain⟨b,an, -,G⟩:=v.get;rw[←F];exact(G i (by rw[←v.len];exact I)).2.2
  exact(CK g (A:=A) rfl o c f a).mono fun e L q=>⟨false,q.1,W,s,n,q⟩
 |_=>cases k
theorem GJ(c:de lim D.c.key z D.wr 0 V t ax (Z A) am)(n:nM am=Z y)(b:z.ax[A.n.toNat]?=Z (Z (Z A.head)))(a:c8 lim.count z A.n (nx y A.head)= .ok r aL)(g:aP u S d lim z B D ob nb cb R)(m:ff u S d B D 0)(i:D.ab=V):
  a7 u B (t+2) d (eh u lim B D D.bin D.wr S d aL):=by
 have k:0≤A.n:=c.vt (fun A b=>by cases b) A rfl;refine a7.trans (yA c n g m i) fun e s ⟨w,j,o,p,v,x⟩=>⟨p,?_⟩;unfold c8 at a;split at a
 ·rename_i C f l;cases a;refine(v r f A.head b ⟨rfl,rfl⟩ l).mono fun e E q=>eh.from ?_ o;rw[Int.toNat_of_nonneg k]at q;exact q
 ·cases a
theorem GI{c:Int}(g:de lim D.c.key z D.wr 0 V t ax (Z A) am)(l:nM am=Z y)(a:c8 lim.count z A.n (nx y A.head)= .no c)(b:aP u S d lim z B D ob nb cb R)(k:ff u S d B D 0)(f:D.ab=V):
  a7 u B (t+1) d (cS u lim B D D.bin S d z ⟨#[]⟩ (Z c)):=by
 refine a7.trans (yA g l b k f) fun e s ⟨p,j,m,n,v,o⟩=>⟨n,?_⟩;unfold c8 at a;split at a
 ·cases a
 ·rename_i r i;cases a;exact(o c i).mono fun e w q=>cS.from (D:=D) q m
end
section
variable {T : ad → Prop} 
theorem Gp(a:ad):b3 a kB V 0 0 V 0 0:=⟨gD _,bo.nil _ _ _,⟨aJ _,aJ _,aJ _,aJ _,aJ _⟩⟩
abbrev qF (k:eT) (g:bl) (o:Option ai) (m c:Nat) (x y:Int):eT:={k with g:={g with gone:=true},go:=o,jW:=m,gc:=c,x:=x,y:=y}
theorem di.IP(a:di u S d lim z f k)(e:Mod [f] d s)(m:ae s f X'.L)(g:bk (ay d S) X'.go X'.jW X'.gc X'.g.rows)(i:eB X'.g)(j:X'.cq=k.cq):di u S s lim z f X':=by
 have l:fq S d S s:=e.aL (by intro b c;rw[aO.1 c];exact a.jf) fun _ q=> .inl q;exact⟨a.mem.step (e.ju fun b c=>by rw[aO.1 c];exact a.jf) (fun b c q=>a.iJ (by rw[←aO.1 q];exact c)) a.mem.sub,m,g.ex l,i,by rw[j];exact a.key,a.jf,a.e4⟩
theorem tf{g:bl}(b:di u S d lim z f k)(aL:bk (ay d S) o m c g.rows)(aR:eB g):
  ao aj 186 #[aa f,aw (b5 (p:Int) ((l.i:Int)+1) (l.g:Int) M t F E I C g o m c)] d fun e s=>if g.gone=true then oy u lim z f (qF k g o m c ((l.i:Int)+1) (l.g:Int)) k.left (nV f) S d e s else hM u lim z f (qF k g o m c ((l.i:Int)+1) (l.g:Int)) 200 p l (nx kB l) S d e s:=by
 obtain ⟨aN,ar,L⟩:=gv d 256 170 [aa f] (b5 (p:Int) ((l.i:Int)+1) (l.g:Int) M t F E I C g o m c);have aV:=N b;have aW:=N aL;have aF:=N aR;have hold:=b.mem.old;have be:=b.lt;clear b aL aR;go_enter Tryz.func186,Tryz.ntmps186;go_upto_region 1 with fail
 show Code.wp _ _ _ _ ((H d (X #[aa f] 256)).alloc (X (b5 (p:Int) ((l.i:Int)+1) (l.g:Int) M t F E I C g o m c) 170));generalize (H d (X #[aa f] 256)).alloc (X (b5 (p:Int) ((l.i:Int)+1) (l.g:Int) M t F E I C g o m c) 170)=aK at *;have aH:=L.ef 6 [af g.low,g.high,g.unb,g.right,ac o m c,g.gone] rfl;have aG:=L.ef 1 [O U ((l.i:Int)+1),(l.g:Int)] rfl;refine cZ (fun _=>True) (fun s=>s.cell? d=Z (aa f)∧s.rangeAt (d.heap.size+1) 6 [af g.low,g.high,g.unb,g.right,ac o m c,g.gone]∧s.rangeAt (d.heap.size+1) 1 [O U ((l.i:Int)+1),(l.g:Int)]) 11 G ?_;have a:True:=trivial;have j:=(Y.refl aK).drew;have hKC:=And.intro (j.I (ar.cell 0 rfl)) (And.intro (j.range aH.aM) (j.range aG.aM));refine' bc (v:=aa f) 0 5 rfl (.inl ⟨aq,?_⟩) a hKC ?_
 ·(intro d w;have bb:=w.2.1;clear w;go_simp)
 refine' bc (v:=aa f) 1 6 rfl (.inl ⟨aq,?_⟩) a hKC ?_
 ·(intro d w;have bb:=w.2.1;clear w;go_simp)
 refine' aI 2 7 (au (Z ⟨d.heap.size+1,6,V⟩)) rfl a hKC ?_;refine' bc 3 8 rfl (cj aq _ _ rfl _ _ rfl _ _ (fun d b=>b.2.2.1) dn rfl G) a hKC ?_;refine' aI 4 9 (au (Z ⟨d.heap.size+1,1,V⟩)) rfl a hKC ?_;refine' bc 5 10 rfl (cj aq _ _ rfl _ _ rfl _ _ (fun d b=>b.2.2.2) dm rfl G) a hKC ?_;refine' aI 6 11 (aa f) rfl a hKC ?_;refine' aI 7 12 (au (Z ⟨f,11,V⟩)) rfl a hKC ?_;have ax:=aN.trans j;have a1:=ar.I j;have a2:=L.I j;have A:=N (aV.out.aC ax);have aT:=A.out.box.fi 11 6 J;have aA:d.heap.size≠f:=K;have aC:d.heap.size+1≠f:=K;clear hKC aH aG ar L aN;generalize aK.drew=am at *;have Q:Mod [f] am (ba am f 11 [af g.low,g.high,g.unb,g.right,ac o m c,g.gone]):=Mod.setCells J _ _ _;have av:=Q.box (by simpa using aA) a1;have P:=Q.box (by simpa using aC) a2;have ab:=A.out.box.part 11 [af g.low,g.high,g.unb,g.right,ac o m c,g.gone] J;refine b4 8 (V) rfl (fun ag r=>?_);refine dQ _ _ _ rfl _ _ #[af g.low,g.high,g.unb,g.right,ac o m c,g.gone] rfl rfl aT G du ?_;(try simp only [bu]);have hKC:=And.intro (av.cell 0 rfl) (And.intro (P.ef 6 [af g.low,g.high,g.unb,g.right,ac o m c,g.gone] rfl).aM (P.ef 1 [O U ((l.i:Int)+1),(l.g:Int)] rfl).aM);refine a5 r (trivial) (fun _=>hKC) ?_;clear r ag;refine' aI 9 13 (aa f) rfl a hKC ?_;refine' aI 10 14 (au (Z ⟨f,17,V⟩)) rfl a hKC ?_;clear hKC;have aU:=ab.fi 17 2 J;generalize ba am f 11 [af g.low,g.high,g.unb,g.right,ac o m c,g.gone]=an at *;have R:Mod [f] an (ba an f 17 [O U ((l.i:Int)+1),(l.g:Int)]):=Mod.setCells J _ _ _;have aD:=ab.part 17 [O U ((l.i:Int)+1),(l.g:Int)] J;have al:=R.box (by simpa using aA) av;have aJ:=R.box (by simpa using aC) P;refine cg 11 (V) rfl (fun ag r=>?_);refine dQ _ _ _ rfl _ _ #[O U ((l.i:Int)+1),(l.g:Int)] rfl rfl aU G du ?_;(try simp only [bu]);refine bM r (trivial) ?_;clear r ag;refine cC G ?_;have aP:=Q.trans R;have u0:=al.cell 0 rfl;have x:=aD.of (us:=[O U k.n,k.a,k.b,k.hp,k.xm,k.cq,k.left,k.lo,k.gT,k.fU,k.eU,g.low,g.high,g.unb,g.right,ac o m c,g.gone,O U ((l.i:Int)+1),(l.g:Int),k.cQ,k.hS,k.gx]) rfl;have a6:=x.free 16 J;have a4:=x.cell 16 rfl;clear av P ab aD Q R aT aU;generalize ba an f 17 [O U ((l.i:Int)+1),(l.g:Int)]=B at *;go_upto_region 3 with fail
 have aE:=(x.set 16 (ah true)).of (us:=(qF k g o m c ((l.i:Int)+1) (l.g:Int)).L) rfl;have T:Mod [f] B (B.setCell ⟨f,16,V⟩ (ah true)):=Mod.setCell _ _ _ J;have az:=aP.trans T;have y:=A.out.IP (X':=qF k g o m c ((l.i:Int)+1) (l.g:Int)) az aE (aW.out.ex (bX ax S)) ⟨aF.out.low,aF.out.high⟩ rfl;have aZ:=T.box (by simpa using aA) al;have D:=T.box (by simpa using aC) aJ;have aM:bn u.l f S d S (B.setCell ⟨f,16,V⟩ (ah true)):=(Y.av ax).trans (A.out.own az);clear az aP T aE x al aJ a6 a4 u0;(try simp only [Act.put]);generalize B.setCell ⟨f,16,V⟩ (ah true)=i at *;have u0:=aZ.cell 0 rfl;have aS:i.cell? ⟨d.heap.size+1,11,V⟩=Z (ah g.gone):=D.cell 11 rfl;by_cases n:g.gone=true
 ·rw [n] at aS;have ae:=N (tZ y);have aX:=N n;clear y n;go_wp2_with (go_at_call 198;(with_reducible refine ae.out.mono ?_);rintro e bd ⟨rfl,a3,W,a7,a8⟩);go_ret;exact ⟨rfl,a3,W,a7,aM.trans a8⟩
 ·have aO:g.gone=false:=by simpa using n
  rw [aO] at aS;have bf:i.cell? ⟨d.heap.size+1,0,V⟩=Z (O U (p:Int)):=D.cell 0 rfl;have bg:i.cell? ⟨d.heap.size+1,1,V⟩=Z (O U ((l.i:Int)+1)):=D.cell 1 rfl;have bh:i.cell? ⟨d.heap.size+1,2,V⟩=Z (O U (l.g:Int)):=D.cell 2 rfl;have ae:=N (tq y p l kB V 0 0 V 0 0 (Gp _) 200 #[] #[aa d]);have aQ: (ay i S).cell? d=Z (aa f):=bp.2 ⟨fun q=>dk _ (hold _ q),u0⟩;have aY:=N aQ;have aX:=N n;clear y n aO aQ;go_wp2_with (go_at_call 199;(refine ae.out.mono ?_);rintro e bd ⟨rfl,a9⟩);go_ret;exact ⟨i,d.heap.size,aM,aY.out,rfl,a9⟩
theorem DM{B:List ak}{aG:Option ai}{q ag:Nat}{aH:Option ai}{aK al:Nat}{op:Option ai}{aF ae:Nat}{aJ:List Int}{no:Option ai}{aE aD:Nat}{T:List ar}{g:Nat}(w:di u S d lim z f k)(I:k.gT=aa aC)(F:hr u B0 lim z aC B y aG q ag aH aK al S d op aF ae aJ no aE aD T E 1 C [r])(ay:B[25]?=Z (ah true))(az:B[23]?=Z (ac E 1 C))(aA:d.cell? g=Z (aa f)):
  ao aj 200 #[ah true,aa g] d (oy u lim z f {k with x:=(r.i:Int)+1,y:=(r.g:Int)} k.left (nV f) S d):=by
 have P:=N fun (j:ad) (o:Y d j)=>D5 (F.aC o).now ay az;have ab:d.cell? ⟨f,8,V⟩=Z (aa aC):=by rw [←I];exact w.box.cell 8 rfl
 have M:=N w;clear w F I;go_enter Tryz.func200,Tryz.ntmps200;go_upto_region 3 with fail
 refine cZ (fun _=>True) (fun s=>s.cell? g=Z (aa f)∧s.cell? ⟨f,8,V⟩=Z (aa aC)) 8 G ?_;have c:True:=trivial;have n:=(Y.refl d).drew;have hKC:=And.intro (n.I aA) (n.I ab);refine' bc (v:=aa f) 0 8 rfl (.inl ⟨aq,?_⟩) c hKC ?_
 ·(intro d a;have K:=a.2.1;clear a;go_simp)
 refine' bc (v:=aa f) 1 9 rfl (.inl ⟨aq,?_⟩) c hKC ?_
 ·(intro d a;have K:=a.2.1;clear a;go_simp)
 refine' aI 2 10 (aa f) rfl c hKC ?_;refine' aI 3 11 (au (Z ⟨f,8,V⟩)) rfl c hKC ?_;refine' bc (v:=aa aC) 4 12 rfl (.inl ⟨aq,?_⟩) c hKC ?_
 ·(intro d a;have K:=a.2.2;clear a;go_simp)
 refine b4 5 (Z 13) rfl (fun t i=>?_);go_simp;go_at_call 201;refine (P.out _ n).mono ?_;rintro e m ⟨rfl,A⟩;have l:=And.intro (A.I hKC.1) (A.I hKC.2);refine a5 i (trivial) (fun _=>l) ?_;clear i t;have hKC:=l;have o:=n.trans A;have b:=M.out.aC o;have fU:=b.box.fi 17 2 J;refine' aI 6 14 (aa f) rfl c hKC ?_;refine' aI 7 15 (au (Z ⟨f,17,V⟩)) rfl c hKC ?_;refine cg 8 (V) rfl (fun t i=>?_);refine dQ _ _ _ rfl _ _ #[O U ((r.i:Int)+1),(r.g:Int)] rfl rfl fU G du ?_;(try simp only [bu]);refine bM i (trivial) ?_;clear i t;refine cC G ?_;have p:Mod [f] m (ba m f 17 [O U ((r.i:Int)+1),(r.g:Int)]):=Mod.setCells J _ _ _;have D:=b.wrote (X':={k with x:=(r.i:Int)+1,y:=(r.g:Int)}) p ((b.box.part 17 [O U ((r.i:Int)+1),(r.g:Int)] J).of rfl) ⟨rfl,rfl,rfl,rfl⟩ b.b6 rfl;have av:=(Y.av (L:=u.l) (B0:=f) (S:=S) o).trans (b.own p);have ax:g≠f:=fun e=>by
  subst e;have q:=b.box.cell 0 rfl;rw [l.1] at q;cases q
 have u0: (ba m f 17 [O U ((r.i:Int)+1),(r.g:Int)]).cell? g=Z (aa f):=p.cell (by simpa using ax) l.1;clear p b fU hKC l;generalize ba m f 17 [O U ((r.i:Int)+1),(r.g:Int)]=aL at *;have Q:=N (tZ D);clear D;go_wp2_with (go_at_call 198;(with_reducible refine Q.out.mono ?_);rintro e m ⟨rfl,R,W,am,an⟩);go_ret;exact ⟨rfl,R,W,am,av.trans an⟩
end
section
theorem CB(q:aP u S d lim z B D ob nb cb R)(i:cd (ay d S) n l t w P)(cT:dX w t n (D.ab.map bQ.view) D.c.key lim D.wr= .act)(r: ∀ j,Y d j→ao aj 123 #[aa B,aw P] j fun e o=> ∃ b,e=ap (ah b)∧T e o):
  ao aj 103 #[aa B,aw P,aw (bC lim)] d (fun e o=> ∃ b,e=ap (ah b)∧T e o):=by
 obtain ⟨a,f,p⟩:=gv d 170 23 P (bC lim);have c:=N (kz (q.aC a) (i.ex (bX a S)));rw [cT] at c;have E:=N i.len;have A:=N r;clear q cT i r;go_enter kL,kM;go_upto_region 1 with fail
 generalize (H d (X P 170)).alloc (X (bC lim) 23)=I at *;have s: (aj.info? 170).map (·.size)=Z P.length:=by rw [E.out];kernel_rfl
 have v:=dt;go_upto_region 2 with (first|((with_reducible refine dV (ty:=170) f ?_ ?_ v ?_ ?_ ?_);(focus (exact rfl));(focus (exact ⟨_,rfl,rfl⟩));(focus (exact rfl));(focus (exact s)))|(with_reducible refine b0 23 (p) fO ?_)|(go_at_call 120;(with_reducible refine c.out.mono ?_);rintro e j ⟨rfl,k⟩;have g:ae (H j (X bx 239)) j.heap.size bx:=(ae.new j _ _ rfl).of J)|(with_reducible refine bq 239 (g) ((bs 10 0 ⟨#[]⟩ 0 0 0 ⟨#[]⟩)) ?_))
 have y:ae ((H j (X bx 239)).setCells j 0 (bs 10 0 ⟨#[]⟩ 0 0 0 ⟨#[]⟩)) j.heap.size (bs 10 0 ⟨#[]⟩ 0 0 0 ⟨#[]⟩):=g.aR rfl;have m:Y j ((H j (X bx 239)).setCells j 0 (bs 10 0 ⟨#[]⟩ 0 0 0 ⟨#[]⟩)):=((Y.refl j).alloc _).setCells (aG _) _ _;have F:=(a.trans k).trans m;have x:=f.I (k.trans m);clear g k m c f p a;show Code.wp _ _ _ _ ((H j (X bx 239)).setCells j 0 (bs 10 0 ⟨#[]⟩ 0 0 0 ⟨#[]⟩));generalize (H j (X bx 239)).setCells j 0 (bs 10 0 ⟨#[]⟩ 0 0 0 ⟨#[]⟩)=K at *;generalize j.heap.size=L at *;have Q:=y.cell 0 rfl;have C:=N (A.out _ F);go_wp2_with (first|((with_reducible refine dV (ty:=170) x ?_ ?_ v ?_ ?_ ?_);(focus (exact rfl));(focus (exact ⟨_,rfl,rfl⟩));(focus (exact rfl));(focus (exact s)))|(go_at_call 123;(with_reducible refine C.out.mono ?_);rintro e M ⟨b,rfl,G⟩));go_ret;exact ⟨b,rfl,G⟩
theorem CJ(r:aP u S d lim z B D ob nb cb R)(k:cd (ay d S) n l t w P)(cT:dX w t n (D.ab.map bQ.view) D.c.key lim D.wr= .gQ)(s: ∀ j,Y d j→ao aj 122 #[aa B,aw P,aw #[O U (ea w).1,O U (ea w).2.1,af (ea w).2.2]] j fun e p=> ∃ b,e=ap (ah b)∧T e p):
  ao aj 103 #[aa B,aw P,aw (bC lim)] d (fun e p=> ∃ b,e=ap (ah b)∧T e p):=by
 obtain ⟨c,g,q⟩:=gv d 170 23 P (bC lim);have f:=N (kz (r.aC c) (k.ex (bX c S)));rw [cT] at f;have E:=N k.len;have A:=N s;clear r cT k s;go_enter kL,kM;go_upto_region 1 with fail
 generalize (H d (X P 170)).alloc (X (bC lim) 23)=I at *;have v: (aj.info? 170).map (·.size)=Z P.length:=by rw [E.out];kernel_rfl
 have x:=dt;go_upto_region 2 with (first|((with_reducible refine dV (ty:=170) g ?_ ?_ x ?_ ?_ ?_);(focus (exact rfl));(focus (exact ⟨_,rfl,rfl⟩));(focus (exact rfl));(focus (exact v)))|(with_reducible refine b0 23 (q) fO ?_)|(go_at_call 120;(with_reducible refine f.out.mono ?_);rintro e j ⟨rfl,m⟩;have i:ae (H j (X bx 239)) j.heap.size bx:=(ae.new j _ _ rfl).of J)|(with_reducible refine bq 239 (i) ((bs 5 0 ⟨#[]⟩ 0 (ea w).1 (ea w).2.1 (ea w).2.2)) ?_))
 have a:ae ((H j (X bx 239)).setCells j 0 (bs 5 0 ⟨#[]⟩ 0 (ea w).1 (ea w).2.1 (ea w).2.2)) j.heap.size (bs 5 0 ⟨#[]⟩ 0 (ea w).1 (ea w).2.1 (ea w).2.2):=i.aR rfl;have o:Y j ((H j (X bx 239)).setCells j 0 (bs 5 0 ⟨#[]⟩ 0 (ea w).1 (ea w).2.1 (ea w).2.2)):=((Y.refl j).alloc _).setCells (aG _) _ _;have F:=(c.trans m).trans o;have y:=g.I (m.trans o);clear i m o f g q c;show Code.wp _ _ _ _ ((H j (X bx 239)).setCells j 0 (bs 5 0 ⟨#[]⟩ 0 (ea w).1 (ea w).2.1 (ea w).2.2));generalize (H j (X bx 239)).setCells j 0 (bs 5 0 ⟨#[]⟩ 0 (ea w).1 (ea w).2.1 (ea w).2.2)=K at *;generalize j.heap.size=L at *;have ag:=a.cell 0 rfl;have M:=a.cell 4 rfl;have Q:=a.cell 5 rfl;have W:=a.cell 6 rfl;have C:=N (A.out _ F);go_wp2_with (first|((with_reducible refine dV (ty:=170) y ?_ ?_ x ?_ ?_ ?_);(focus (exact rfl));(focus (exact ⟨_,rfl,rfl⟩));(focus (exact rfl));(focus (exact v)))|(go_at_call 122;(with_reducible refine C.out.mono ?_);rintro e ab ⟨b,rfl,G⟩));go_ret;exact ⟨b,rfl,G⟩
theorem CO(q:aP u S d lim z B D ob nb cb R)(i:cd (ay d S) n l t w P)(cT:dX w t n (D.ab.map bQ.view) D.c.key lim D.wr= .tidy)(r: ∀ j,Y d j→ao aj 124 #[aa B,aw P,O U 6] j fun e o=> ∃ b,e=ap (ah b)∧T e o):
  ao aj 103 #[aa B,aw P,aw (bC lim)] d (fun e o=> ∃ b,e=ap (ah b)∧T e o):=by
 obtain ⟨a,f,p⟩:=gv d 170 23 P (bC lim);have c:=N (kz (q.aC a) (i.ex (bX a S)));rw [cT] at c;have E:=N i.len;have A:=N r;clear q cT i r;go_enter kL,kM;go_upto_region 1 with fail
 generalize (H d (X P 170)).alloc (X (bC lim) 23)=I at *;have s: (aj.info? 170).map (·.size)=Z P.length:=by rw [E.out];kernel_rfl
 have v:=dt;go_upto_region 2 with (first|((with_reducible refine dV (ty:=170) f ?_ ?_ v ?_ ?_ ?_);(focus (exact rfl));(focus (exact ⟨_,rfl,rfl⟩));(focus (exact rfl));(focus (exact s)))|(with_reducible refine b0 23 (p) fO ?_)|(go_at_call 120;(with_reducible refine c.out.mono ?_);rintro e j ⟨rfl,k⟩;have g:ae (H j (X bx 239)) j.heap.size bx:=(ae.new j _ _ rfl).of J)|(with_reducible refine bq 239 (g) ((bs 6 0 ⟨#[]⟩ 0 0 0 ⟨#[]⟩)) ?_))
 have y:ae ((H j (X bx 239)).setCells j 0 (bs 6 0 ⟨#[]⟩ 0 0 0 ⟨#[]⟩)) j.heap.size (bs 6 0 ⟨#[]⟩ 0 0 0 ⟨#[]⟩):=g.aR rfl;have m:Y j ((H j (X bx 239)).setCells j 0 (bs 6 0 ⟨#[]⟩ 0 0 0 ⟨#[]⟩)):=((Y.refl j).alloc _).setCells (aG _) _ _;have F:=(a.trans k).trans m;have x:=f.I (k.trans m);clear g k m c f p a;show Code.wp _ _ _ _ ((H j (X bx 239)).setCells j 0 (bs 6 0 ⟨#[]⟩ 0 0 0 ⟨#[]⟩));generalize (H j (X bx 239)).setCells j 0 (bs 6 0 ⟨#[]⟩ 0 0 0 ⟨#[]⟩)=K at *;generalize j.heap.size=L at *;have Q:=y.cell 0 rfl;have C:=N (A.out _ F);go_wp2_with (first|((with_reducible refine dV (ty:=170) x ?_ ?_ v ?_ ?_ ?_);(focus (exact rfl));(focus (exact ⟨_,rfl,rfl⟩));(focus (exact rfl));(focus (exact s)))|(go_at_call 124;(with_reducible refine C.out.mono ?_);rintro e M ⟨b,rfl,G⟩));go_ret;exact ⟨b,rfl,G⟩
theorem CN(q:aP u S d lim z B D ob nb cb R)(i:cd (ay d S) n l t w P)(cT:dX w t n (D.ab.map bQ.view) D.c.key lim D.wr= .split)(r: ∀ j,Y d j→ao aj 124 #[aa B,aw P,O U 7] j fun e o=> ∃ b,e=ap (ah b)∧T e o):
  ao aj 103 #[aa B,aw P,aw (bC lim)] d (fun e o=> ∃ b,e=ap (ah b)∧T e o):=by
 obtain ⟨a,f,p⟩:=gv d 170 23 P (bC lim);have c:=N (kz (q.aC a) (i.ex (bX a S)));rw [cT] at c;have E:=N i.len;have A:=N r;clear q cT i r;go_enter kL,kM;go_upto_region 1 with fail
 generalize (H d (X P 170)).alloc (X (bC lim) 23)=I at *;have s: (aj.info? 170).map (·.size)=Z P.length:=by rw [E.out];kernel_rfl
 have v:=dt;go_upto_region 2 with (first|((with_reducible refine dV (ty:=170) f ?_ ?_ v ?_ ?_ ?_);(focus (exact rfl));(focus (exact ⟨_,rfl,rfl⟩));(focus (exact rfl));(focus (exact s)))|(with_reducible refine b0 23 (p) fO ?_)|(go_at_call 120;(with_reducible refine c.out.mono ?_);rintro e j ⟨rfl,k⟩;have g:ae (H j (X bx 239)) j.heap.size bx:=(ae.new j _ _ rfl).of J)|(with_reducible refine bq 239 (g) ((bs 7 0 ⟨#[]⟩ 0 0 0 ⟨#[]⟩)) ?_))
 have y:ae ((H j (X bx 239)).setCells j 0 (bs 7 0 ⟨#[]⟩ 0 0 0 ⟨#[]⟩)) j.heap.size (bs 7 0 ⟨#[]⟩ 0 0 0 ⟨#[]⟩):=g.aR rfl;have m:Y j ((H j (X bx 239)).setCells j 0 (bs 7 0 ⟨#[]⟩ 0 0 0 ⟨#[]⟩)):=((Y.refl j).alloc _).setCells (aG _) _ _;have F:=(a.trans k).trans m;have x:=f.I (k.trans m);clear g k m c f p a;show Code.wp _ _ _ _ ((H j (X bx 239)).setCells j 0 (bs 7 0 ⟨#[]⟩ 0 0 0 ⟨#[]⟩));generalize (H j (X bx 239)).setCells j 0 (bs 7 0 ⟨#[]⟩ 0 0 0 ⟨#[]⟩)=K at *;generalize j.heap.size=L at *;have Q:=y.cell 0 rfl;have C:=N (A.out _ F);go_wp2_with (first|((with_reducible refine dV (ty:=170) x ?_ ?_ v ?_ ?_ ?_);(focus (exact rfl));(focus (exact ⟨_,rfl,rfl⟩));(focus (exact rfl));(focus (exact s)))|(go_at_call 124;(with_reducible refine C.out.mono ?_);rintro e M ⟨b,rfl,G⟩));go_ret;exact ⟨b,rfl,G⟩
theorem CH(q:aP u S d lim z B D ob nb cb R)(i:cd (ay d S) n l t w P)(cT:dX w t n (D.ab.map bQ.view) D.c.key lim D.wr= .grow)(r: ∀ j,Y d j→ao aj 124 #[aa B,aw P,O U 8] j fun e o=> ∃ b,e=ap (ah b)∧T e o):
  ao aj 103 #[aa B,aw P,aw (bC lim)] d (fun e o=> ∃ b,e=ap (ah b)∧T e o):=by
 obtain ⟨a,f,p⟩:=gv d 170 23 P (bC lim);have c:=N (kz (q.aC a) (i.ex (bX a S)));rw [cT] at c;have E:=N i.len;have A:=N r;clear q cT i r;go_enter kL,kM;go_upto_region 1 with fail
 generalize (H d (X P 170)).alloc (X (bC lim) 23)=I at *;have s: (aj.info? 170).map (·.size)=Z P.length:=by rw [E.out];kernel_rfl
 have v:=dt;go_upto_region 2 with (first|((with_reducible refine dV (ty:=170) f ?_ ?_ v ?_ ?_ ?_);(focus (exact rfl));(focus (exact ⟨_,rfl,rfl⟩));(focus (exact rfl));(focus (exact s)))|(with_reducible refine b0 23 (p) fO ?_)|(go_at_call 120;(with_reducible refine c.out.mono ?_);rintro e j ⟨rfl,k⟩;have g:ae (H j (X bx 239)) j.heap.size bx:=(ae.new j _ _ rfl).of J)|(with_reducible refine bq 239 (g) ((bs 8 0 ⟨#[]⟩ 0 0 0 ⟨#[]⟩)) ?_))
 have y:ae ((H j (X bx 239)).setCells j 0 (bs 8 0 ⟨#[]⟩ 0 0 0 ⟨#[]⟩)) j.heap.size (bs 8 0 ⟨#[]⟩ 0 0 0 ⟨#[]⟩):=g.aR rfl;have m:Y j ((H j (X bx 239)).setCells j 0 (bs 8 0 ⟨#[]⟩ 0 0 0 ⟨#[]⟩)):=((Y.refl j).alloc _).setCells (aG _) _ _;have F:=(a.trans k).trans m;have x:=f.I (k.trans m);clear g k m c f p a;show Code.wp _ _ _ _ ((H j (X bx 239)).setCells j 0 (bs 8 0 ⟨#[]⟩ 0 0 0 ⟨#[]⟩));generalize (H j (X bx 239)).setCells j 0 (bs 8 0 ⟨#[]⟩ 0 0 0 ⟨#[]⟩)=K at *;generalize j.heap.size=L at *;have Q:=y.cell 0 rfl;have C:=N (A.out _ F);go_wp2_with (first|((with_reducible refine dV (ty:=170) x ?_ ?_ v ?_ ?_ ?_);(focus (exact rfl));(focus (exact ⟨_,rfl,rfl⟩));(focus (exact rfl));(focus (exact s)))|(go_at_call 124;(with_reducible refine C.out.mono ?_);rintro e M ⟨b,rfl,G⟩));go_ret;exact ⟨b,rfl,G⟩
end
theorem oO:dH 143:=fun args j=>fj Tryz.func143 G rfl args j
section
theorem oB{b a:Nat}{bR:ByteArray}(c:aP u S d lim z B D ob nb cb R)(l:d.cell? b=Z (aa B))(k:ae d a [af bR,aB]):ao aj 143 #[ah true,aa b,aa a] d (cS u lim B D D.bin S d z bR V):=by
 have f:=N (tx c bR aB (.inl rfl));clear c;go_enter Tryz.func143,Tryz.ntmps143;go_wp2_with(first|(with_reducible refine b0 44 (k) kJ ?_)|(go_at_call 119;(with_reducible refine f.out.mono ?_);rintro e m ⟨rfl,nx,g,i,j⟩));go_ret;exact⟨rfl,aB,nx,S,D.wr,D.ab,ob,nb,cb,R,rfl,g,i,j.goes⟩
end
section
variable {T : ad → Prop} 
theorem Ht(n:di u S d lim z f k)(az:bk (ay d S) o m c a.rows)(aL:eB a)(aH:a.gone=false)(aJ: (aT.leaf a).has k.cq=true){q:Nat}{r:aA}(aK:k.n=(q:Int))(aC:k.a=(r.i:Int)+1)(aD:k.b=(r.g:Int)):
  ao aj 207 #[aa f,aw (b5 (p:Int) ((l.i:Int)+1) (l.g:Int) M t F E I C a o m c)] d (hM u lim z f k 214 q r (nx gS r) S d):=by
 obtain ⟨aE,am,L⟩:=gv d 256 170 [aa f] (b5 (p:Int) ((l.i:Int)+1) (l.g:Int) M t F E I C a o m c);have ax:cd (ay d S) (p:Int) l t (.leaf a) (b5 (p:Int) ((l.i:Int)+1) (l.g:Int) M t F E I C a o m c):=⟨M,F,E,I,C,o,m,c,rfl,az,aL⟩;have aN:=N fun (j:ad) (y:Y d j)=>kx (ax.ex (bX y S)) k.cq n.key j;have ag:=N n;have aQ:=N aJ;have aP:=N aH;clear n az aL ax aJ aH;go_enter pM,rR;go_upto_region 1 with fail
 show Code.wp _ _ _ _ ((H d (X #[aa f] 256)).alloc (X (b5 (p:Int) ((l.i:Int)+1) (l.g:Int) M t F E I C a o m c) 170));generalize ((H d (X #[aa f] 256)).alloc (X (b5 (p:Int) ((l.i:Int)+1) (l.g:Int) M t F E I C a o m c) 170))=b at *;have al:=L.ef 6 [af a.low,a.high,a.unb,a.right,ac o m c,a.gone] rfl;have Q:ae (H b (X fw 119)) b.heap.size fw:=(ae.new b _ _ rfl).of J;go_upto_region 2 with (first|(with_reducible refine dc 119 (al) dn ?_)|(with_reducible refine bq 119 (Q) ([af a.low,a.high,a.unb,a.right,ac o m c,a.gone]) ?_))
 have W:ae ((H b (X fw 119)).setCells b 0 [af a.low,a.high,a.unb,a.right,ac o m c,a.gone]) b.heap.size [af a.low,a.high,a.unb,a.right,ac o m c,a.gone]:=Q.aR rfl;have A:Y b ((H b (X fw 119)).setCells b 0 [af a.low,a.high,a.unb,a.right,ac o m c,a.gone]):=((Y.refl b).alloc _).setCells (aG _) _ _;have B:=aE.trans A;have P:=am.I A;have an:=L.I A;have av:=ag.out.aC B;clear Q al am L aE A;(try simp only [Act.put]);show Code.wp _ _ _ _ ((H b (X fw 119)).setCells b 0 [af a.low,a.high,a.unb,a.right,ac o m c,a.gone]);generalize (H b (X fw 119)).setCells b 0 [af a.low,a.high,a.unb,a.right,ac o m c,a.gone]=K at *;generalize b.heap.size=aS at *;have aV:K.cell? ⟨aS,5,V⟩=Z (ah false):=by rw [←aP.out];exact W.cell 5 rfl
 go_upto_region 4 with fail
 have ar:K.cell? ⟨f,5,V⟩=Z (af k.cq):=av.box.cell 5 rfl;refine cZ (fun _=>True) (fun s=>s.rangeAt (d.heap.size+1) 0 (b5 (p:Int) ((l.i:Int)+1) (l.g:Int) M t F E I C a o m c)∧s.cell? d=Z (aa f)∧s.cell? ⟨f,5,V⟩=Z (af k.cq)) 6 G ?_;have g:True:=trivial;have i:=(Y.refl K).drew;have hKC:=And.intro (i.range an.aM) (And.intro (i.I (P.cell 0 rfl)) (i.I ar));refine' bc 0 16 rfl (cj aq _ _ rfl _ _ rfl _ _ (fun d n=>n.2.1) dt rfl G) g hKC ?_;refine' bc (v:=aa f) 1 17 rfl (.inl ⟨aq,?_⟩) g hKC ?_
 ·(intro d x;have aU:=x.2.2.1;clear x;go_simp)
 refine' aI 2 18 (aa f) rfl g hKC ?_;refine' aI 3 19 (au (Z ⟨f,3,V⟩)) rfl g hKC ?_;refine' aI 4 20 (au (Z ⟨f,5,V⟩)) rfl g hKC ?_;refine' bc (v:=af k.cq) 5 21 rfl (.inl ⟨aq,?_⟩) g hKC ?_
 ·(intro d x;have aU:=x.2.2.2;clear x;go_simp)
 refine cg 6 (Z 22) rfl (fun D w=>?_);go_simp;go_at_call 154;refine (aN.out _ (B.trans i)).mono ?_;rw [aQ.out];rintro e aX ⟨rfl,aF⟩;refine bM w (trivial) ?_;clear w D;refine cg 7 (Z 15) rfl (fun D w=>?_);go_simp;refine bM w (trivial) ?_;clear w D;refine cC G ?_;have T:=i.trans aF;have y:=B.trans T;have ab:=ag.out.aC y;have aR:=P.I T;have u0:=aR.cell 0 rfl;clear hKC av P an W aV ar i aF T B;have aM:=N (um ab aK aC aD);clear ab aK aC aD;go_wp2_with (go_at_call 211;(with_reducible refine aM.out.mono ?_);rintro e aW R;(obtain rfl:=R.e);have aO:=N R;clear R);go_ret;exact aO.out.from (Y.av y)
theorem Hv(y:di u S d lim z f k)(aH:bk (ay d S) o m c a.rows)(aS:eB a)(aN:a.gone=false)(aO: (aT.leaf a).has k.cq=false){q:Nat}{r:aA}(aQ:k.n=(q:Int))(aJ:k.a=(r.i:Int)+1)(aK:k.b=(r.g:Int))(aR:a.unb=false)(aP:a.high=k.cq)(av:a.right≠k.hp):
  ao aj 207 #[aa f,aw (b5 (p:Int) ((l.i:Int)+1) (l.g:Int) M t F E I C a o m c)] d (hM u lim z f k 214 q r (nx gS r) S d):=by
 obtain ⟨aL,aC,ag⟩:=gv d 256 170 [aa f] (b5 (p:Int) ((l.i:Int)+1) (l.g:Int) M t F E I C a o m c);have aF:cd (ay d S) (p:Int) l t (.leaf a) (b5 (p:Int) ((l.i:Int)+1) (l.g:Int) M t F E I C a o m c):=⟨M,F,E,I,C,o,m,c,rfl,aH,aS⟩;have aV:=N fun (j:ad) (D:Y d j)=>kx (aF.ex (bX D S)) k.cq y.key j;have ax:=N y;have aY:=N aO;have aX:=N aN;clear y aH aS aF aO aN;have a2:=N aR;have aZ:=N aP;have a1:=N av;clear aR aP av;go_enter pM,rR;go_upto_region 1 with fail
 show Code.wp _ _ _ _ ((H d (X #[aa f] 256)).alloc (X (b5 (p:Int) ((l.i:Int)+1) (l.g:Int) M t F E I C a o m c) 170));generalize ((H d (X #[aa f] 256)).alloc (X (b5 (p:Int) ((l.i:Int)+1) (l.g:Int) M t F E I C a o m c) 170))=b at *;have az:=ag.ef 6 [af a.low,a.high,a.unb,a.right,ac o m c,a.gone] rfl;have am:ae (H b (X fw 119)) b.heap.size fw:=(ae.new b _ _ rfl).of J;go_upto_region 2 with (first|(with_reducible refine dc 119 (az) dn ?_)|(with_reducible refine bq 119 (am) ([af a.low,a.high,a.unb,a.right,ac o m c,a.gone]) ?_))
 have R:ae ((H b (X fw 119)).setCells b 0 [af a.low,a.high,a.unb,a.right,ac o m c,a.gone]) b.heap.size [af a.low,a.high,a.unb,a.right,ac o m c,a.gone]:=am.aR rfl;have P:Y b ((H b (X fw 119)).setCells b 0 [af a.low,a.high,a.unb,a.right,ac o m c,a.gone]):=((Y.refl b).alloc _).setCells (aG _) _ _;have Q:=aL.trans P;have al:=aC.I P;have aD:=ag.I P;have aE:=ax.out.aC Q;clear am az aC ag aL P;(try simp only [Act.put]);show Code.wp _ _ _ _ ((H b (X fw 119)).setCells b 0 [af a.low,a.high,a.unb,a.right,ac o m c,a.gone]);generalize (H b (X fw 119)).setCells b 0 [af a.low,a.high,a.unb,a.right,ac o m c,a.gone]=ab at *;generalize b.heap.size=g at *;have a5:ab.cell? ⟨g,5,V⟩=Z (ah false):=by rw [←aX.out];exact R.cell 5 rfl
 go_upto_region 4 with fail
 have an:ab.cell? ⟨f,5,V⟩=Z (af k.cq):=aE.box.cell 5 rfl;refine cZ (fun _=>True) (fun s=>s.rangeAt (d.heap.size+1) 0 (b5 (p:Int) ((l.i:Int)+1) (l.g:Int) M t F E I C a o m c)∧s.cell? d=Z (aa f)∧s.cell? ⟨f,5,V⟩=Z (af k.cq)) 6 G ?_;have w:True:=trivial;have x:=(Y.refl ab).drew;have hKC:=And.intro (x.range aD.aM) (And.intro (x.I (al.cell 0 rfl)) (x.I an));refine' bc 0 16 rfl (cj aq _ _ rfl _ _ rfl _ _ (fun d y=>y.2.1) dt rfl G) w hKC ?_;refine' bc (v:=aa f) 1 17 rfl (.inl ⟨aq,?_⟩) w hKC ?_
 ·(intro d B;have a4:=B.2.2.1;clear B;go_simp)
 refine' aI 2 18 (aa f) rfl w hKC ?_;refine' aI 3 19 (au (Z ⟨f,3,V⟩)) rfl w hKC ?_;refine' aI 4 20 (au (Z ⟨f,5,V⟩)) rfl w hKC ?_;refine' bc (v:=af k.cq) 5 21 rfl (.inl ⟨aq,?_⟩) w hKC ?_
 ·(intro d B;have a4:=B.2.2.2;clear B;go_simp)
 refine cg 6 (Z 22) rfl (fun T A=>?_);go_simp;go_at_call 154;refine (aV.out _ (Q.trans x)).mono ?_;rw [aY.out];rintro e i ⟨rfl,aM⟩;refine bM A (trivial) ?_;clear A T;refine cg 7 (Z 15) rfl (fun T A=>?_);go_simp;refine bM A (trivial) ?_;clear A T;refine cC G ?_;have L:=x.trans aM;have D:=Q.trans L;have K:=ax.out.aC D;have a3:=al.I L;have W:=R.I L;have u0:=a3.cell 0 rfl;clear hKC aE al aD R a5 an x aM L Q;have aU:=N fun (j:ad) (D:Y i j)=>um (K.aC D) aQ aJ aK;have a7:i.cell? ⟨g,1,V⟩=Z (af k.cq):=by rw [←aZ.out];exact W.cell 1 rfl
 have a8:i.cell? ⟨g,2,V⟩=Z (ah false):=by rw [←a2.out];exact W.cell 2 rfl
 have a9:i.cell? ⟨g,3,V⟩=Z (O U a.right):=W.cell 3 rfl;have an:i.cell? ⟨f,5,V⟩=Z (af k.cq):=K.box.cell 5 rfl;have a6:i.cell? ⟨f,3,V⟩=Z (O U k.hp):=K.box.cell 3 rfl;clear K aQ aJ aK;go_upto_region 6 with fail
 have av:=a1.out;go_region_held3 (fun n=>n.cell? ⟨g,1,V⟩=Z (af k.cq)∧n.cell? ⟨g,2,V⟩=Z (ah false)∧n.cell? ⟨g,3,V⟩=Z (O U a.right)∧n.cell? ⟨f,5,V⟩=Z (af k.cq)∧n.cell? ⟨f,3,V⟩=Z (O U k.hp)∧n.cell? d=Z (aa f)) ((first|(have kG:=(Y.refl i);exact b9)|exact b9)) (fail);all_goals
  go_wp2_with (go_at_call 211;(with_reducible refine (aU.out _ (bz)).mono ?_);rintro e bb ar;(obtain rfl:=ar.e);have aW:=N ar;clear ar);go_ret;exact aW.out.from (Y.av (bz))
theorem Hw(D:di u S d lim z f k)(a4:bk (ay d S) o m c a.rows)(bm:eB a)(be:a.gone=false)(bf: (aT.leaf a).has k.cq=false)(bj:a.unb=false)(bg:a.high=k.cq)(bi:a.right=k.hp)(ab:k.g.gone=true)(bd:k.jW≤1000000):
  ao aj 207 #[aa f,aw (b5 (p:Int) ((l.i:Int)+1) (l.g:Int) M t F E I C a o m c)] d (hM u lim z f k 213 p l (nx (hb k.g) l) S d):=by
 obtain ⟨a6,aZ,aL⟩:=gv d 256 170 [aa f] (b5 (p:Int) ((l.i:Int)+1) (l.g:Int) M t F E I C a o m c);have a3:cd (ay d S) (p:Int) l t (.leaf a) (b5 (p:Int) ((l.i:Int)+1) (l.g:Int) M t F E I C a o m c):=⟨M,F,E,I,C,o,m,c,rfl,a4,bm⟩;have bs:=N fun (j:ad) (B:Y d j)=>kx (a3.ex (bX B S)) k.cq D.key j;have aU:=N D;have hold:=D.mem.old;have bB:=N bf;have bA:=N be;clear D a4 bm a3 bf be;have bE:=N bj;have bC:=N bg;have bD:=N bi;have bw:=N ab;have bx:=N bd;clear bj bg bi ab bd;go_enter pM,rR;go_upto_region 1 with fail
 show Code.wp _ _ _ _ ((H d (X #[aa f] 256)).alloc (X (b5 (p:Int) ((l.i:Int)+1) (l.g:Int) M t F E I C a o m c) 170));generalize ((H d (X #[aa f] 256)).alloc (X (b5 (p:Int) ((l.i:Int)+1) (l.g:Int) M t F E I C a o m c) 170))=i at *;have aV:=aL.ef 6 [af a.low,a.high,a.unb,a.right,ac o m c,a.gone] rfl;have aO:ae (H i (X fw 119)) i.heap.size fw:=(ae.new i _ _ rfl).of J;go_upto_region 2 with (first|(with_reducible refine dc 119 (aV) dn ?_)|(with_reducible refine bq 119 (aO) ([af a.low,a.high,a.unb,a.right,ac o m c,a.gone]) ?_))
 have aD:ae ((H i (X fw 119)).setCells i 0 [af a.low,a.high,a.unb,a.right,ac o m c,a.gone]) i.heap.size [af a.low,a.high,a.unb,a.right,ac o m c,a.gone]:=aO.aR rfl;have az:Y i ((H i (X fw 119)).setCells i 0 [af a.low,a.high,a.unb,a.right,ac o m c,a.gone]):=((Y.refl i).alloc _).setCells (aG _) _ _;have aC:=a6.trans az;have aM:=aZ.I az;have aN:=aL.I az;have a1:=aU.out.aC aC;clear aO aV aZ aL a6 az;(try simp only [Act.put]);show Code.wp _ _ _ _ ((H i (X fw 119)).setCells i 0 [af a.low,a.high,a.unb,a.right,ac o m c,a.gone]);generalize (H i (X fw 119)).setCells i 0 [af a.low,a.high,a.unb,a.right,ac o m c,a.gone]=aK at *;generalize i.heap.size=A at *;have bO:aK.cell? ⟨A,5,V⟩=Z (ah false):=by rw [←bA.out];exact aD.cell 5 rfl
 go_upto_region 4 with fail
 have ax:aK.cell? ⟨f,5,V⟩=Z (af k.cq):=a1.box.cell 5 rfl;refine cZ (fun _=>True) (fun s=>s.rangeAt (d.heap.size+1) 0 (b5 (p:Int) ((l.i:Int)+1) (l.g:Int) M t F E I C a o m c)∧s.cell? d=Z (aa f)∧s.cell? ⟨f,5,V⟩=Z (af k.cq)) 6 G ?_;have K:True:=trivial;have L:=(Y.refl aK).drew;have hKC:=And.intro (L.range aN.aM) (And.intro (L.I (aM.cell 0 rfl)) (L.I ax));refine' bc 0 16 rfl (cj aq _ _ rfl _ _ rfl _ _ (fun d D=>D.2.1) dt rfl G) K hKC ?_;refine' bc (v:=aa f) 1 17 rfl (.inl ⟨aq,?_⟩) K hKC ?_
 ·(intro d T;have bJ:=T.2.2.1;clear T;go_simp)
 refine' aI 2 18 (aa f) rfl K hKC ?_;refine' aI 3 19 (au (Z ⟨f,3,V⟩)) rfl K hKC ?_;refine' aI 4 20 (au (Z ⟨f,5,V⟩)) rfl K hKC ?_;refine' bc (v:=af k.cq) 5 21 rfl (.inl ⟨aq,?_⟩) K hKC ?_
 ·(intro d T;have bJ:=T.2.2.2;clear T;go_simp)
 refine cg 6 (Z 22) rfl (fun aF R=>?_);go_simp;go_at_call 154;refine (bs.out _ (aC.trans L)).mono ?_;rw [bB.out];rintro e n ⟨rfl,a7⟩;refine bM R (trivial) ?_;clear R aF;refine cg 7 (Z 15) rfl (fun aF R=>?_);go_simp;refine bM R (trivial) ?_;clear R aF;refine cC G ?_;have W:=L.trans a7;have B:=aC.trans W;have Q:=aU.out.aC B;have ar:=aM.I W;have aY:=aN.I W;have av:=aD.I W;have u0:=ar.cell 0 rfl;clear hKC a1 aM aN aD bO ax L a7 W aC;have bK:n.cell? ⟨A,1,V⟩=Z (af k.cq):=by rw [←bC.out];exact av.cell 1 rfl
 have bL:n.cell? ⟨A,2,V⟩=Z (ah false):=by rw [←bE.out];exact av.cell 2 rfl
 have bN:n.cell? ⟨A,3,V⟩=Z (O U k.hp):=by rw [←bD.out];exact av.cell 3 rfl
 have ax:n.cell? ⟨f,5,V⟩=Z (af k.cq):=Q.box.cell 5 rfl;have bG:n.cell? ⟨f,3,V⟩=Z (O U k.hp):=Q.box.cell 3 rfl;have ab:=bw.out;have aE: ∀ j,Y n j→ao aj 212 #[eE k.g k.go k.jW k.gc] j fun e s=> ∃ o aH c,e=ap (a0 #[aW (jZ k.g) o aH c V 0 0,aB])∧br s j o aH c k.g.rows∧Y j s:=fun j B=>(Fm k.g k.go k.jW k.gc j (Q.aC B).rows.gP bx.out).mono fun e s q=>by unfold p5 at q;rw [a9 ab] at q;exact q
 have aE:=N aE;have aS:=N Q;clear Q ab;go_upto_region 6 with fail
 go_region_held3 (fun r=>r.cell? ⟨A,1,V⟩=Z (af k.cq)∧r.cell? ⟨A,2,V⟩=Z (ah false)∧r.cell? ⟨A,3,V⟩=Z (O U k.hp)∧r.cell? ⟨f,5,V⟩=Z (af k.cq)∧r.cell? ⟨f,3,V⟩=Z (O U k.hp)∧r.cell? d=Z (aa f)) ((first|(have kG:=(Y.refl n);exact b9)|exact b9)) (fail);have a8:Y n n.drew:=(Y.refl n).drew;generalize n.drew=aR at *;clear bK bL bN ax bG u0;go_upto_region 8 with fail
 go_region_held3 (fun r=>r.cell? ⟨A,1,V⟩=Z (af k.cq)∧r.cell? ⟨A,2,V⟩=Z (ah false)∧r.cell? ⟨f,5,V⟩=Z (af k.cq)∧r.cell? d=Z (aa f)) ((first|(have kG:=(Y.refl aR);exact b9)|exact b9)) (fail);have P:Y n aR.drew:=a8.drew;generalize aR.drew=bU at *;clear a8;have u0:=(ar.I P).cell 0 rfl;have aX:=(aS.out.aC P).box.ef 11 (ci k.g k.go k.jW k.gc) rfl;have bt:=N (aE.out _ P);go_upto_region 10 with (first|(with_reducible refine dc 119 (aX) dn ?_)|(go_at_call 212;(refine bt.out.mono ?_);rintro e g ⟨y,x,w,rfl,bh,bb⟩;have aP:ae (H g (X al 85)) g.heap.size al:=(ae.new g _ _ rfl).of J)|(with_reducible refine bq 85 (aP) ((an (jZ k.g) y x w V 0 0)) ?_))
 have bn:ae ((H g (X al 85)).setCells g 0 (an (jZ k.g) y x w V 0 0)) g.heap.size (an (jZ k.g) y x w V 0 0):=aP.aR rfl;have aQ:Y g ((H g (X al 85)).setCells g 0 (an (jZ k.g) y x w V 0 0)):=((Y.refl g).alloc _).setCells (aG _) _ _;have a5:bk (ay g S) y x w k.g.rows:=bh.aL fun b bI=>by have:=hold b bI;have:=B.le;have:=P.le;omega
 have aA:=(P.trans bb).trans aQ;have am:=aS.out.aC aA;have a2:b3 (ay ((H g (X al 85)).setCells g 0 (an (jZ k.g) y x w V 0 0)) S) (hb k.g) y x w V 0 0:=⟨a5.ex (bX aQ S),bo.nil _ _ _,⟨aJ _,am.b6.high,am.b6.low,aJ _,aJ _⟩⟩;have cl:=ar.I aA;have cx:=aY.I aA;clear aP aQ a5 u0 aX bh ar aY av bb P;(try simp only [Act.put]);show Code.wp _ _ _ _ ((H g (X al 85)).setCells g 0 (an (jZ k.g) y x w V 0 0));generalize (H g (X al 85)).setCells g 0 (an (jZ k.g) y x w V 0 0)=ag at *;generalize g.heap.size=bP at *;have u0:=cl.cell 0 rfl;have bQ:ag.cell? ⟨d.heap.size+1,0,V⟩=Z (O U (p:Int)):=cx.cell 0 rfl;have bR:ag.cell? ⟨d.heap.size+1,1,V⟩=Z (O U ((l.i:Int)+1)):=cx.cell 1 rfl;have bS:ag.cell? ⟨d.heap.size+1,2,V⟩=Z (O U (l.g:Int)):=cx.cell 2 rfl;have bv:=N (tq am p l (hb k.g) y x w V 0 0 a2 213 #[] #[aa d]);have bl: (ay ag S).cell? d=Z (aa f):=bp.2 ⟨fun q=>dk _ (hold _ q),u0⟩;have bF:=N bl;clear am a2 bl;go_wp2_with (first|(with_reducible refine b0 85 (bn) cG ?_)|(go_at_call 199;(refine bv.out.mono ?_);rintro e bT ⟨rfl,bH⟩));go_ret;exact ⟨ag,d.heap.size,Y.av (B.trans aA),bF.out,rfl,bH⟩
theorem Hu(P:di u S d lim z f k)(a2:bk (ay d S) o m c a.rows)(aJ:eB a)(a7:a.gone=false)(a8: (aT.leaf a).has k.cq=false)(bb:a.unb=false)(a9:a3.cmp (aF a.high) (aF k.cq) < 0):
  ao aj 207 #[aa f,aw (b5 (p:Int) ((l.i:Int)+1) (l.g:Int) M t F E I C a o m c)] d (oy u lim z f {k with left:=a.right} a.right (nV f) S d):=by
 obtain ⟨a4,aW,aA⟩:=gv d 256 170 [aa f] (b5 (p:Int) ((l.i:Int)+1) (l.g:Int) M t F E I C a o m c);have a1:cd (ay d S) (p:Int) l t (.leaf a) (b5 (p:Int) ((l.i:Int)+1) (l.g:Int) M t F E I C a o m c):=⟨M,F,E,I,C,o,m,c,rfl,a2,aJ⟩;have be:=N fun (j:ad) (T:Y d j)=>kx (a1.ex (bX T S)) k.cq P.key j;have aR:=N P;have bh:=N a8;have bg:=N a7;have bd:=aJ;clear P a2 aJ a1 a8 a7;have bi:=N bb;have aS:=N a9;have bj:=N bd;clear bb a9 bd;go_enter pM,rR;go_upto_region 1 with fail
 show Code.wp _ _ _ _ ((H d (X #[aa f] 256)).alloc (X (b5 (p:Int) ((l.i:Int)+1) (l.g:Int) M t F E I C a o m c) 170));generalize ((H d (X #[aa f] 256)).alloc (X (b5 (p:Int) ((l.i:Int)+1) (l.g:Int) M t F E I C a o m c) 170))=n at *;have aU:=aA.ef 6 [af a.low,a.high,a.unb,a.right,ac o m c,a.gone] rfl;have aD:ae (H n (X fw 119)) n.heap.size fw:=(ae.new n _ _ rfl).of J;go_upto_region 2 with (first|(with_reducible refine dc 119 (aU) dn ?_)|(with_reducible refine bq 119 (aD) ([af a.low,a.high,a.unb,a.right,ac o m c,a.gone]) ?_))
 have ar:ae ((H n (X fw 119)).setCells n 0 [af a.low,a.high,a.unb,a.right,ac o m c,a.gone]) n.heap.size [af a.low,a.high,a.unb,a.right,ac o m c,a.gone]:=aD.aR rfl;have ag:Y n ((H n (X fw 119)).setCells n 0 [af a.low,a.high,a.unb,a.right,ac o m c,a.gone]):=((Y.refl n).alloc _).setCells (aG _) _ _;have am:=a4.trans ag;have aC:=aW.I ag;have aX:=aA.I ag;have aZ:=aR.out.aC am;clear aD aU aW aA a4 ag;(try simp only [Act.put]);show Code.wp _ _ _ _ ((H n (X fw 119)).setCells n 0 [af a.low,a.high,a.unb,a.right,ac o m c,a.gone]);generalize (H n (X fw 119)).setCells n 0 [af a.low,a.high,a.unb,a.right,ac o m c,a.gone]=az at *;generalize n.heap.size=q at *;have bs:az.cell? ⟨q,5,V⟩=Z (ah false):=by rw [←bg.out];exact ar.cell 5 rfl
 go_upto_region 4 with fail
 have D:az.cell? ⟨f,5,V⟩=Z (af k.cq):=aZ.box.cell 5 rfl;refine cZ (fun _=>True) (fun s=>s.rangeAt (d.heap.size+1) 0 (b5 (p:Int) ((l.i:Int)+1) (l.g:Int) M t F E I C a o m c)∧s.cell? d=Z (aa f)∧s.cell? ⟨f,5,V⟩=Z (af k.cq)) 6 G ?_;have b:True:=trivial;have i:=(Y.refl az).drew;have hKC:=And.intro (i.range aX.aM) (And.intro (i.I (aC.cell 0 rfl)) (i.I D));refine' bc 0 16 rfl (cj aq _ _ rfl _ _ rfl _ _ (fun d P=>P.2.1) dt rfl G) b hKC ?_;refine' bc (v:=aa f) 1 17 rfl (.inl ⟨aq,?_⟩) b hKC ?_
 ·(intro d g;have x:=g.2.2.1;clear g;go_simp)
 refine' aI 2 18 (aa f) rfl b hKC ?_;refine' aI 3 19 (au (Z ⟨f,3,V⟩)) rfl b hKC ?_;refine' aI 4 20 (au (Z ⟨f,5,V⟩)) rfl b hKC ?_;refine' bc (v:=af k.cq) 5 21 rfl (.inl ⟨aq,?_⟩) b hKC ?_
 ·(intro d g;have x:=g.2.2.2;clear g;go_simp)
 refine cg 6 (Z 22) rfl (fun w r=>?_);go_simp;go_at_call 154;refine (be.out _ (am.trans i)).mono ?_;rw [bh.out];rintro e y ⟨rfl,a6⟩;refine bM r (trivial) ?_;clear r w;refine cg 7 (Z 15) rfl (fun w r=>?_);go_simp;refine bM r (trivial) ?_;clear r w;refine cC G ?_;have ab:=i.trans a6;have T:=am.trans ab;have av:=aR.out.aC T;have aV:=aC.I ab;have ax:=ar.I ab;have u0:=aV.cell 0 rfl;clear hKC aZ aC aX ar bs D i a6 ab am;have bA: (a.high.toList==k.cq.toList)=false:=by
  rw [ey,pu,pu];intro e;have bx:=aS.out;have aY:a3.cmp (aF a.high) (aF k.cq)=0:=a3.sR.2 e;omega
 have aK:y.cell? ⟨q,1,V⟩=Z (af a.high):=ax.cell 1 rfl;have aL:y.cell? ⟨q,2,V⟩=Z (ah false):=by rw [←bi.out];exact ax.cell 2 rfl
 have D:y.cell? ⟨f,5,V⟩=Z (af k.cq):=av.box.cell 5 rfl;have aP:=N av;clear av;go_upto_region 6 with fail
 refine cZ (fun _=>True) (fun s=>s.cell? ⟨q,1,V⟩=Z (af a.high)∧s.cell? ⟨q,2,V⟩=Z (ah false)∧s.cell? ⟨f,5,V⟩=Z (af k.cq)∧s.cell? d=Z (aa f)) 23 G ?_;have b:True:=trivial;have i:=(Y.refl y).drew;have hKC:=And.intro (i.I aK) (And.intro (i.I aL) (And.intro (i.I D) (i.I u0)));refine' aI 0 26 (au (Z ⟨q,2,V⟩)) rfl b hKC ?_;refine' bc (v:=ah false) 1 27 rfl (.inl ⟨aq,?_⟩) b hKC ?_
 ·(intro d g;have x:=g.2.2.1;clear g;go_simp)
 refine' aI 2 28 (ah true) rfl b hKC ?_;refine' aI 3 29 (ah true) rfl b hKC ?_;refine' aI 4 30 (au (Z ⟨q,1,V⟩)) rfl b hKC ?_;refine' bc (v:=af a.high) 5 31 rfl (.inl ⟨aq,?_⟩) b hKC ?_
 ·(intro d g;have x:=g.2.1;clear g;go_simp)
 refine' bc (v:=aa f) 6 32 rfl (.inl ⟨aq,?_⟩) b hKC ?_
 ·(intro d g;have x:=g.2.2.2.2;clear g;go_simp)
 refine' aI 7 33 (aa f) rfl b hKC ?_;refine' aI 8 34 (au (Z ⟨f,3,V⟩)) rfl b hKC ?_;refine' aI 9 35 (au (Z ⟨f,5,V⟩)) rfl b hKC ?_;refine' bc (v:=af k.cq) 10 36 rfl (.inl ⟨aq,?_⟩) b hKC ?_
 ·(intro d g;have x:=g.2.2.2.1;clear g;go_simp)
 refine' aI 11 37 (ah false) rfl b hKC ?_;refine' aI 12 38 (ah false) rfl b hKC ?_;refine' aI 13 39 (ah false) rfl b hKC ?_;refine' bc (v:=undef) 14 40 rfl (.inr ⟨aq,rfl⟩) b hKC ?_;refine' bc (v:=undef) 15 41 rfl (.inr ⟨aq,rfl⟩) b hKC ?_;refine' bc (v:=undef) 16 42 rfl (.inr ⟨aq,rfl⟩) b hKC ?_;refine' bc (v:=undef) 17 43 rfl (.inr ⟨aq,rfl⟩) b hKC ?_;refine' bc (v:=undef) 18 44 rfl (.inr ⟨aq,rfl⟩) b hKC ?_;refine' bc (v:=undef) 19 45 rfl (.inr ⟨aq,rfl⟩) b hKC ?_;refine' bc (v:=undef) 20 46 rfl (.inr ⟨aq,rfl⟩) b hKC ?_;refine' bc (v:=undef) 21 47 rfl (.inr ⟨aq,rfl⟩) b hKC ?_;refine' aI 22 48 (ah false) rfl b hKC ?_;refine cg 23 (Z 25) rfl (fun w r=>?_);go_simp;refine bM r (trivial) ?_;clear r w;refine cC G ?_;clear hKC b i;have K:Y y y.drew:=(Y.refl y).drew;have aM:=K.I aK;have aN:=K.I aL;have aO:=K.I D;have c7:=K.I u0;generalize y.drew=B at *;clear aK aL D u0;go_upto_region 8 with fail
 go_region_held3 (fun R=>R.cell? ⟨q,1,V⟩=Z (af a.high)∧R.cell? ⟨q,2,V⟩=Z (ah false)∧R.cell? ⟨f,5,V⟩=Z (af k.cq)∧R.cell? d=Z (aa f)) ((first|(have kG:=(Y.refl B);exact b9)|exact b9)) (fail);have bp:Y y B.drew:=K.drew;have aM:=(Y.refl B).drew.I aM;have aN:=(Y.refl B).drew.I aN;have aO:=(Y.refl B).drew.I aO;have c7:=(Y.refl B).drew.I c7;generalize B.drew=bt at *;clear K;go_upto_region 13 with fail
 refine cZ (fun _=>True) (fun s=>s.cell? ⟨q,1,V⟩=Z (af a.high)∧s.cell? ⟨q,2,V⟩=Z (ah false)∧s.cell? ⟨f,5,V⟩=Z (af k.cq)∧s.cell? d=Z (aa f)) 14 G ?_;have b:True:=trivial;have i:=(Y.refl bt).drew;have hKC:=And.intro (i.I aM) (And.intro (i.I aN) (And.intro (i.I aO) (i.I c7)));refine' aI 0 87 (au (Z ⟨q,2,V⟩)) rfl b hKC ?_;refine' bc (v:=ah false) 1 88 rfl (.inl ⟨aq,?_⟩) b hKC ?_
 ·(intro d g;have x:=g.2.2.1;clear g;go_simp)
 refine' aI 2 89 (ah true) rfl b hKC ?_;refine' aI 3 90 (ah true) rfl b hKC ?_;refine' aI 4 91 (au (Z ⟨q,1,V⟩)) rfl b hKC ?_;refine' bc (v:=af a.high) 5 92 rfl (.inl ⟨aq,?_⟩) b hKC ?_
 ·(intro d g;have x:=g.2.1;clear g;go_simp)
 refine' bc (v:=aa f) 6 93 rfl (.inl ⟨aq,?_⟩) b hKC ?_
 ·(intro d g;have x:=g.2.2.2.2;clear g;go_simp)
 refine' aI 7 94 (aa f) rfl b hKC ?_;refine' aI 8 95 (au (Z ⟨f,3,V⟩)) rfl b hKC ?_;refine' aI 9 96 (au (Z ⟨f,5,V⟩)) rfl b hKC ?_;refine' bc (v:=af k.cq) 10 97 rfl (.inl ⟨aq,?_⟩) b hKC ?_
 ·(intro d g;have x:=g.2.2.2.1;clear g;go_simp)
 refine b4 11 (Z 98) rfl (fun w r=>?_);go_simp;go_at_call 93;refine (gO a.high k.cq _ bj.out.high aP.out.key).mono ?_;rintro e an ⟨rfl,bo⟩;have Q:=bo.aC;have aE:=And.intro (Q.I hKC.1) (And.intro (Q.I hKC.2.1) (And.intro (Q.I hKC.2.2.1) (Q.I hKC.2.2.2)));refine a5 r (trivial) (fun _=>aE) ?_;clear r w;have hKC:=aE;have br:decide (a3.cmp (aF a.high) (aF k.cq) < 0)=true:=eo aS.out;refine' aI 12 99 (ah true) rfl b hKC ?_;refine' aI 13 100 (ah true) rfl b hKC ?_;refine cg 14 (Z 86) rfl (fun w r=>?_);go_simp;refine bM r (trivial) ?_;clear r w;refine cC G ?_;have al:=bp.trans (i.trans Q);have A:=aP.out.aC al;have u0:=(aV.I al).cell 0 rfl;have bB:an.cell? ⟨q,3,V⟩=Z (O U a.right):=(ax.I al).cell 3 rfl;have bw:=A.box.free 6 J;have bv:an.cell? ⟨f,6,V⟩=Z (O U k.left):=A.box.cell 6 rfl;have aH:Mod [f] an (an.setCell ⟨f,6,V⟩ (O U a.right)):=Mod.setCell _ _ _ J;have aQ:=A.wrote (X':={k with left:=a.right}) aH ((A.box.set 6 (O U a.right)).of rfl) ⟨rfl,rfl,rfl,rfl⟩ A.b6 rfl;have bn:=(Y.av (L:=u.l) (B0:=f) (S:=S) (T.trans al)).trans (A.own aH);have bf:=N (tZ aQ);clear hKC aE A aQ aH br;go_wp2_with (go_at_call 198;(with_reducible refine bf.out.mono ?_);rintro e bC ⟨rfl,bl,W,aY,bm⟩);go_ret;exact ⟨rfl,bl,W,aY,bn.trans bm⟩
end
end Go.Proofs.YtbkmjhhpcinppaaGreatDoor
