import Derived.Test.YtbkmjhhpcinppaaGreatDoorQ19
namespace Go.Proofs.YtbkmjhhpcinppaaGreatDoor
set_option linter.unusedVariables false
set_option linter.defProp false
set_option linter.unusedSimpArgs false
set_option maxRecDepth 100000
set_option maxHeartbeats 40000000
open Go.BigFrame Go.RowKit Go.WideShapes
open Ending renaming returned→ap
open Go renaming Addr→ai,Calls→ao,Value→ak,World→ad
open Go.Proofs.Tryz renaming prog→aj
open IntKind renaming i64→U
open Obj renaming cells→X
open Option renaming none→V,some→Z
open Value renaming agg→aw,bool→ah,int→O,nilIface→aB,pointer→au,slice→ac,string→af,tuple→a0
open World renaming alloc→H
variable {aC d w' : ad} {h : aV} {w : az} {S am : List Nat} {b y k z off : Nat} {u : aA} {lim : aK} {n : Int} {l : aT} {oa A : Option ai} {vs : List ak}
def aT.eO:aT→Bool| .leaf _=>true| .aU _=>false
theorem cd.at(b:cd aC n u k l vs):vs[0]?=Z (O U n)∧(∃ d a,vs[3]?=Z (ac d k a))∧vs[5]?=Z (ah l.eO):=by
 obtain⟨d,a,W,s,P,b⟩:=b;cases l with
 |leaf v=>obtain⟨o,m,c,rfl,e,f⟩:=b;exact⟨rfl,⟨d,a,rfl⟩,rfl⟩
 |aU v=>obtain⟨o,m,c,rfl,e,f⟩:=b;exact⟨rfl,⟨d,a,rfl⟩,rfl⟩
theorem rv{c:Program}{f:Array Oper}{rest:List Oper}{op:Oper}{a:Act}{g:Exit→Act→ad→Prop}{ty:TypeId}(m:ae d b vs){e:TypeDesc}(q:Region.wanted op (yielded f a.tmps)=true)
  (o: ∃ x,op.op= .load ty x∧a.eval x=au (Z b))(p:c.underlying ty=Z e)(u:e.isRow=true)(n: (c.info? ty).map (·.size)=Z vs.length)
  (i:wpList c f g rest (a.put op.dst (aw vs)) d):wpList c f g (op::rest) a d:=by
 obtain⟨x,j,k⟩:=o;exact wpList_step fun h l=>by rw[a9 q];exact wp_load_mid ty x j b 0 k vs e m.aM p u n (l _ _ i)
def qJ (l:aT) (n:Int) (b:Bool) (a:aY):Option dI:=
 match l with
 | .leaf v=>if b=true∧v.rows.length=0∧a.held=false then(gR a.ag n).map (fun q=> .hold n q.1 q.2)else V
 | .aU _=>V
def iT (l:aT) (a:Nat) (n:Int) (b:Bool) (c:aY) (lim:aK):Option dI:=
 if lim.chain < a then Z .tidy
 else if lim.rows < l.size∧n=0 then Z .grow
 else if lim.rows < l.size then Z .split
 else qJ l n b c
def k3 (l:aT) (r:Option dI) (d:ad) (e:Ending) (w':ad):Prop:=
 (match r with
 |some b=>e=ap (a0 #[aw (fS l b).toArray,ah true])
 |none=> ∃ a,e=ap (a0 #[aw (bs a 0 ⟨#[]⟩ 0 0 0 ⟨#[]⟩).toArray,ah false]))∧Y d w'
theorem hQ(d:ad)(b cl cx c:TypeId)(vs T a:List ak):
  Y d ((((H d (X vs b)).alloc (X T cl)).alloc (X a cx)).alloc (X bx c))∧ae ((((H d (X vs b)).alloc (X T cl)).alloc (X a cx)).alloc (X bx c)) d.heap.size vs∧ae ((((H d (X vs b)).alloc (X T cl)).alloc (X a cx)).alloc (X bx c)) (d.heap.size+1) T∧ae ((((H d (X vs b)).alloc (X T cl)).alloc (X a cx)).alloc (X bx c)) (d.heap.size+2) a∧ae ((((H d (X vs b)).alloc (X T cl)).alloc (X a cx)).alloc (X bx c)) (d.heap.size+3) bx:=
 ⟨((((Y.refl d).alloc _).alloc _).alloc _).alloc _,((ae.new d _ _ rfl).of J).I ((((Y.refl _).alloc _).alloc _).alloc _),((ae.new (H d _) _ _ dW).of J).I (((Y.refl _).alloc _).alloc _),((ae.new ((H d _).alloc _) _ _ kT).of J).I ((Y.refl _).alloc _),(ae.new (((H d _).alloc _).alloc _) _ _ pU).of J⟩
section
theorem HR(j:cd aC n u k l vs)(h:Bool)(g a b:Int)(e:aY)(p:Option ai)(q c:Nat)(d:ad)(o:aZ d p q c e.ag)(lim:aK)(z:lim.chain < k):
  ao aj 156 #[aw vs,aw (cB h g a b e p q c),aw (bC lim)] d (k3 l (Z .tidy) d):=by
 obtain⟨A,⟨E,y,r⟩,B⟩:=j.at;obtain⟨s,f,w,m,i⟩:=hQ d 170 97 23 239 vs (cB h g a b e p q c) (bC lim);generalize v:l.size=I at *;generalize t:l.eO=D at *;clear j o v t;go_enter mb,mc;go_upto_region 1 with fail
 generalize(((H d (X vs 170)).alloc (X (cB h g a b e p q c) 97)).alloc (X (bC lim) 23)).alloc (X bx 239)=x at *;have C:=m.cell 4 rfl;have F:=f.cell 3 r;go_wp2_with(with_reducible refine bq 239 (i) ((bs 6 0 ⟨#[]⟩ 0 0 0 ⟨#[]⟩)) ?_);refine bH ((i.aR (us:=bs 6 0 ⟨#[]⟩ 0 0 0 ⟨#[]⟩) rfl).cK rfl _ rfl rfl eG rfl G) rfl ?_;exact⟨rfl,(s).setCells K _ _⟩
theorem HL(g:cd aC n u k l vs)(y:Bool)(x a b:Int)(w:aY)(p:Option ai)(q s:Nat)(d:ad)(L:aZ d p q s w.ag)(lim:aK)(av: ¬lim.chain < k)(ax:lim.rows < l.size)(B:n=0):
  ao aj 156 #[aw vs,aw (cB y x a b w p q s),aw (bC lim)] d (k3 l (Z .grow) d):=by
 obtain ⟨M,⟨aD,ar,P⟩,ay⟩:=g.at;have F:=N fun al=>mE g al;obtain ⟨Q,f,an,z,E⟩:=hQ d 170 97 23 239 vs (cB y x a b w p q s) (bC lim);have I:=N g.len;generalize W:l.size=aE at *;generalize T:l.eO=aA at *;clear g L W T;go_enter mb,mc;go_upto_region 1 with fail
 generalize (((H d (X vs 170)).alloc (X (cB y x a b w p q s) 97)).alloc (X (bC lim) 23)).alloc (X bx 239)=j at *;have R: (aj.info? 170).map (·.size)=Z vs.length:=by rw [I.out];kernel_rfl
 have aa:=dt;have ae:=z.cell 4 rfl;have ag:=f.cell 3 P;go_upto_region 3 with fail
 clear ae ag;have az: (n==0)=true:=by rw [ma];exact B
 clear B;refine gG (S:=fun w'=>w'.rangeAt d 0 vs∧w'.cell? ⟨d.heap.size+2,3,V⟩=Z (O U (lim.rows:Int))∧w'.cell? d=Z (O U n)) G ⟨(Y.refl j).drew.range f.aM,(Y.refl j).drew.I (z.cell 3 rfl),(Y.refl j).drew.I (f.cell 0 M)⟩ (fun c=>?_);refine' fX (i:=0) (oi:=⟨Z 19,_,_,_,_,_⟩) (v:=_) rfl G G G (fun _ _ _ g=>g) (cj aq _ _ rfl _ _ rfl _ _ (fun d g=>g.1) aa rfl R) c ?_;(try simp only [bu]);refine' bV 2 21 (au (Z ⟨d.heap.size+1+1,3,V⟩)) rfl c ?_;refine' dA (v:=O U (lim.rows:Int)) 3 22 rfl (.inl ⟨aq,?_⟩) c ?_
 ·(intro d m;have ab:=m.2.1;clear m;go_simp)
 refine cL (rs:=[1]) G J ?_;refine cy (o:=⟨Z 20,_,_,_,_,_⟩) rfl (fun h C=>?_) cM;refine a6 aq ?_;go_simp;go_at_call 178;with_reducible refine (F.out _).mono ?_
 rintro e am ⟨rfl,r⟩;have t:=c;refine C.out _ _ ⟨r.range t.1,r.I t.2.1,r.I t.2.2⟩ (fun c=>?_);clear C h t;(try simp only [bu]);refine' bV 4 23 (ah true) rfl c ?_;refine' bV 5 24 (ah true) rfl c ?_;refine' bV 6 25 (au (Z d)) rfl c ?_;refine' dA (v:=O U n) 7 26 rfl (.inl ⟨aq,?_⟩) c ?_
 ·(intro d m;have ab:=m.2.2;clear m;go_simp)
 refine' bV 8 27 (ah true) rfl c ?_;refine' bV 9 28 (ah true) rfl c ?_;refine' bV 10 18 (ah true) rfl c ?_;refine fx G ?_ _;clear c;have D:Y j am:=(Y.refl j).drew.trans r;clear r;have A:=E.I D;go_wp2_with (with_reducible refine bq 239 (A) ((bs 8 0 ⟨#[]⟩ 0 0 0 ⟨#[]⟩)) ?_);refine bH ((A.aR (us:=bs 8 0 ⟨#[]⟩ 0 0 0 ⟨#[]⟩) rfl).cK rfl _ rfl rfl eG rfl G) rfl ?_;exact ⟨rfl,(Q.trans D).setCells K _ _⟩
theorem HQ(g:cd aC n u k l vs)(C:Bool)(B a b:Int)(A:aY)(p:Option ai)(q y:Nat)(d:ad)(W:aZ d p q y A.ag)(lim:aK)(az: ¬lim.chain < k)(aA:lim.rows < l.size)(F:n≠0):
  ao aj 156 #[aw vs,aw (cB C B a b A p q y),aw (bC lim)] d (k3 l (Z .split) d):=by
 obtain ⟨aa,⟨aG,ay,ab⟩,aD⟩:=g.at;have E:=N fun ar=>mE g ar;obtain ⟨ae,f,ax,s,Q⟩:=hQ d 170 97 23 239 vs (cB C B a b A p q y) (bC lim);have T:=N g.len;generalize al:l.size=aH at *;generalize ag:l.eO=aF at *;clear g W al ag;go_enter mb,mc;go_upto_region 1 with fail
 generalize (((H d (X vs 170)).alloc (X (cB C B a b A p q y) 97)).alloc (X (bC lim) 23)).alloc (X bx 239)=t at *;have L: (aj.info? 170).map (·.size)=Z vs.length:=by rw [T.out];kernel_rfl
 have M:=dt;have am:=s.cell 4 rfl;have an:=f.cell 3 ab;go_upto_region 3 with fail
 clear am an;have aE: (n==0)=false:=by rw [ey];exact F
 clear F;refine gG (S:=fun w'=>w'.rangeAt d 0 vs∧w'.cell? ⟨d.heap.size+2,3,V⟩=Z (O U (lim.rows:Int))∧w'.cell? d=Z (O U n)) G ⟨(Y.refl t).drew.range f.aM,(Y.refl t).drew.I (s.cell 3 rfl),(Y.refl t).drew.I (f.cell 0 aa)⟩ (fun c=>?_);refine' fX (i:=0) (oi:=⟨Z 19,_,_,_,_,_⟩) (v:=_) rfl G G G (fun _ _ _ g=>g) (cj aq _ _ rfl _ _ rfl _ _ (fun d g=>g.1) M rfl L) c ?_;(try simp only [bu]);refine' bV 2 21 (au (Z ⟨d.heap.size+1+1,3,V⟩)) rfl c ?_;refine' dA (v:=O U (lim.rows:Int)) 3 22 rfl (.inl ⟨aq,?_⟩) c ?_
 ·(intro d m;have P:=m.2.1;clear m;go_simp)
 refine cL (rs:=[1]) G J ?_;refine cy (o:=⟨Z 20,_,_,_,_,_⟩) rfl (fun h w=>?_) cM;refine a6 aq ?_;go_simp;go_at_call 178;with_reducible refine (E.out _).mono ?_
 rintro e x ⟨rfl,j⟩;have r:=c;refine w.out _ _ ⟨j.range r.1,j.I r.2.1,j.I r.2.2⟩ (fun c=>?_);clear w h r;(try simp only [bu]);refine' bV 4 23 (ah true) rfl c ?_;refine' bV 5 24 (ah true) rfl c ?_;refine' bV 6 25 (au (Z d)) rfl c ?_;refine' dA (v:=O U n) 7 26 rfl (.inl ⟨aq,?_⟩) c ?_
 ·(intro d m;have P:=m.2.2;clear m;go_simp)
 refine' bV 8 27 (ah false) rfl c ?_;refine' bV 9 28 (ah false) rfl c ?_;refine' bV 10 18 (ah false) rfl c ?_;refine fx G ?_ _;clear c;have z:Y t x:=(Y.refl t).drew.trans j;clear j;have R:=Q.I z;have f:=f.I z;have s:=s.I z;go_upto_region 5 with fail
 refine gG (S:=fun w'=>w'.rangeAt d 0 vs∧w'.cell? ⟨d.heap.size+2,3,V⟩=Z (O U (lim.rows:Int))) G ⟨(Y.refl x).drew.range f.aM,(Y.refl x).drew.I (s.cell 3 rfl)⟩ (fun c=>?_);refine' fX (i:=0) (oi:=⟨Z 31,_,_,_,_,_⟩) (v:=_) rfl G G G (fun _ _ _ g=>g) (cj aq _ _ rfl _ _ rfl _ _ (fun d g=>g.1) M rfl L) c ?_;(try simp only [bu]);refine' bV 2 33 (au (Z ⟨d.heap.size+1+1,3,V⟩)) rfl c ?_;refine' dA (v:=O U (lim.rows:Int)) 3 34 rfl (.inl ⟨aq,?_⟩) c ?_
 ·(intro d m;have P:=m.2;clear m;go_simp)
 refine cL (rs:=[1]) G J ?_;refine cy (o:=⟨Z 32,_,_,_,_,_⟩) rfl (fun h w=>?_) cM;refine a6 aq ?_;go_simp;go_at_call 178;with_reducible refine (E.out _).mono ?_
 rintro e av ⟨rfl,j⟩;have r:=c;refine w.out _ _ ⟨j.range r.1,j.I r.2⟩ (fun c=>?_);clear w h r;(try simp only [bu]);refine' bV 4 35 (ah true) rfl c ?_;refine' bV 5 30 (ah true) rfl c ?_;refine fx G ?_ _;clear c;have I:Y x av:=(Y.refl x).drew.trans j;clear j;have D:=R.I I;go_wp2_with (with_reducible refine bq 239 (D) ((bs 7 0 ⟨#[]⟩ 0 0 0 ⟨#[]⟩)) ?_);refine bH ((D.aR (us:=bs 7 0 ⟨#[]⟩ 0 0 0 ⟨#[]⟩) rfl).cK rfl _ rfl rfl eG rfl G) rfl ?_;exact ⟨rfl,((ae.trans z).trans I).setCells K _ _⟩
theorem HO(g:cd aC n u k l vs)(E:Bool)(D a b:Int)(C:aY)(p:Option ai)(q B:Nat)(d:ad)(W:aZ d p q B C.ag)(lim:aK)(aA: ¬lim.chain < k)(aD: ¬lim.rows < l.size)(T:l.eO=false):
  ao aj 156 #[aw vs,aw (cB E D a b C p q B),aw (bC lim)] d (k3 l V d):=by
 obtain ⟨aa,⟨aF,az,ab⟩,ae⟩:=g.at;have I:=N fun av=>mE g av;obtain ⟨L,f,F,r,A⟩:=hQ d 170 97 23 239 vs (cB E D a b C p q B) (bC lim);have R:=N g.len;generalize al:l.size=aH at *;generalize P:l.eO=aE at *;have ay:=N P;clear g W al P;go_enter mb,mc;go_upto_region 1 with fail
 generalize (((H d (X vs 170)).alloc (X (cB E D a b C p q B) 97)).alloc (X (bC lim) 23)).alloc (X bx 239)=t at *;have M: (aj.info? 170).map (·.size)=Z vs.length:=by rw [R.out];kernel_rfl
 have Q:=dt;have an:=r.cell 4 rfl;have ar:=f.cell 3 ab;go_upto_region 3 with fail
 clear an ar;refine gG (S:=fun w'=>w'.rangeAt d 0 vs∧w'.cell? ⟨d.heap.size+2,3,V⟩=Z (O U (lim.rows:Int))∧w'.cell? d=Z (O U n)) G ⟨(Y.refl t).drew.range f.aM,(Y.refl t).drew.I (r.cell 3 rfl),(Y.refl t).drew.I (f.cell 0 aa)⟩ (fun c=>?_);refine' fX (i:=0) (oi:=⟨Z 19,_,_,_,_,_⟩) (v:=_) rfl G G G (fun _ _ _ g=>g) (cj aq _ _ rfl _ _ rfl _ _ (fun d g=>g.1) Q rfl M) c ?_;(try simp only [bu]);refine' bV 2 21 (au (Z ⟨d.heap.size+1+1,3,V⟩)) rfl c ?_;refine' dA (v:=O U (lim.rows:Int)) 3 22 rfl (.inl ⟨aq,?_⟩) c ?_
 ·(intro d x;have am:=x.2.1;clear x;go_simp)
 refine cL (rs:=[1]) G J ?_;refine cy (o:=⟨Z 20,_,_,_,_,_⟩) rfl (fun h w=>?_) cM;refine a6 aq ?_;go_simp;go_at_call 178;with_reducible refine (I.out _).mono ?_
 rintro e z ⟨rfl,j⟩;have m:=c;refine w.out _ _ ⟨j.range m.1,j.I m.2.1,j.I m.2.2⟩ (fun c=>?_);clear w h m;(try simp only [bu]);refine' bV 4 23 (ah false) rfl c ?_;refine' bV 5 24 (ah false) rfl c ?_;refine' dA (v:=undef) 6 25 rfl (.inr ⟨aq,rfl⟩) c ?_;refine' dA (v:=undef) 7 26 rfl (.inr ⟨aq,rfl⟩) c ?_;refine' dA (v:=undef) 8 27 rfl (.inr ⟨aq,rfl⟩) c ?_;refine' bV 9 28 (ah false) rfl c ?_;refine' bV 10 18 (ah false) rfl c ?_;refine fx G ?_ _;clear c;have s:Y t z:=(Y.refl t).drew.trans j;clear j;have f:=f.I s;have r:=r.I s;go_upto_region 5 with fail
 refine gG (S:=fun w'=>w'.rangeAt d 0 vs∧w'.cell? ⟨d.heap.size+2,3,V⟩=Z (O U (lim.rows:Int))) G ⟨(Y.refl z).drew.range f.aM,(Y.refl z).drew.I (r.cell 3 rfl)⟩ (fun c=>?_);refine' fX (i:=0) (oi:=⟨Z 31,_,_,_,_,_⟩) (v:=_) rfl G G G (fun _ _ _ g=>g) (cj aq _ _ rfl _ _ rfl _ _ (fun d g=>g.1) Q rfl M) c ?_;(try simp only [bu]);refine' bV 2 33 (au (Z ⟨d.heap.size+1+1,3,V⟩)) rfl c ?_;refine' dA (v:=O U (lim.rows:Int)) 3 34 rfl (.inl ⟨aq,?_⟩) c ?_
 ·(intro d x;have am:=x.2;clear x;go_simp)
 refine cL (rs:=[1]) G J ?_;refine cy (o:=⟨Z 32,_,_,_,_,_⟩) rfl (fun h w=>?_) cM;refine a6 aq ?_;go_simp;go_at_call 178;with_reducible refine (I.out _).mono ?_
 rintro e ax ⟨rfl,j⟩;have m:=c;refine w.out _ _ ⟨j.range m.1,j.I m.2⟩ (fun c=>?_);clear w h m;(try simp only [bu]);refine' bV 4 35 (ah false) rfl c ?_;refine' bV 5 30 (ah false) rfl c ?_;refine fx G ?_ _;clear c;have y:Y z ax:=(Y.refl z).drew.trans j;clear j;have f:=f.I y;have F:=(F.I s).I y;have A:=(A.I s).I y;have ag:=(L.trans s).trans y;clear r s y L;have aG:=f.cell 5 ae;subst T;go_wp2_with (with_reducible refine bq 239 (A) (bx) ?_);refine bH ((A.aR (us:=bx) rfl).cK rfl _ rfl rfl eG rfl G) rfl ?_;exact ⟨⟨0,rfl⟩,(ag).setCells K _ _⟩
theorem HK(g:cd aC n u k l vs)(P:Bool)(I a b:Int)(D:aY)(p:Option ai)(q C:Nat)(d:ad)(ae:aZ d p q C D.ag)(lim:aK)(aG: ¬lim.chain < k)(aH: ¬lim.rows < l.size)(ab:l.eO=true)(aJ:0 < l.size):
  ao aj 156 #[aw vs,aw (cB P I a b D p q C),aw (bC lim)] d (k3 l V d):=by
 obtain ⟨R,⟨aN,aF,ag⟩,al⟩:=g.at;have F:=N fun ay=>mE g ay;obtain ⟨T,f,B,r,E⟩:=hQ d 170 97 23 239 vs (cB P I a b D p q C) (bC lim);have aa:=N g.len;generalize an:l.size=aP at *;generalize W:l.eO=aL at *;have aA:=N W;clear g ae an W;go_enter mb,mc;go_upto_region 1 with fail
 generalize (((H d (X vs 170)).alloc (X (cB P I a b D p q C) 97)).alloc (X (bC lim) 23)).alloc (X bx 239)=w at *;have L: (aj.info? 170).map (·.size)=Z vs.length:=by rw [aa.out];kernel_rfl
 have M:=dt;have av:=r.cell 4 rfl;have ax:=f.cell 3 ag;go_upto_region 3 with fail
 clear av ax;refine gG (S:=fun w'=>w'.rangeAt d 0 vs∧w'.cell? ⟨d.heap.size+2,3,V⟩=Z (O U (lim.rows:Int))∧w'.cell? d=Z (O U n)) G ⟨(Y.refl w).drew.range f.aM,(Y.refl w).drew.I (r.cell 3 rfl),(Y.refl w).drew.I (f.cell 0 R)⟩ (fun c=>?_);refine' fX (i:=0) (oi:=⟨Z 19,_,_,_,_,_⟩) (v:=_) rfl G G G (fun _ _ _ g=>g) (cj aq _ _ rfl _ _ rfl _ _ (fun d g=>g.1) M rfl L) c ?_;(try simp only [bu]);refine' bV 2 21 (au (Z ⟨d.heap.size+1+1,3,V⟩)) rfl c ?_;refine' dA (v:=O U (lim.rows:Int)) 3 22 rfl (.inl ⟨aq,?_⟩) c ?_
 ·(intro d y;have ar:=y.2.1;clear y;go_simp)
 refine cL (rs:=[1]) G J ?_;refine cy (o:=⟨Z 20,_,_,_,_,_⟩) rfl (fun h x=>?_) cM;refine a6 aq ?_;go_simp;go_at_call 178;with_reducible refine (F.out _).mono ?_
 rintro e A ⟨rfl,j⟩;have m:=c;refine x.out _ _ ⟨j.range m.1,j.I m.2.1,j.I m.2.2⟩ (fun c=>?_);clear x h m;(try simp only [bu]);refine' bV 4 23 (ah false) rfl c ?_;refine' bV 5 24 (ah false) rfl c ?_;refine' dA (v:=undef) 6 25 rfl (.inr ⟨aq,rfl⟩) c ?_;refine' dA (v:=undef) 7 26 rfl (.inr ⟨aq,rfl⟩) c ?_;refine' dA (v:=undef) 8 27 rfl (.inr ⟨aq,rfl⟩) c ?_;refine' bV 9 28 (ah false) rfl c ?_;refine' bV 10 18 (ah false) rfl c ?_;refine fx G ?_ _;clear c;have t:Y w A:=(Y.refl w).drew.trans j;clear j;have f:=f.I t;have r:=r.I t;go_upto_region 5 with fail
 refine gG (S:=fun w'=>w'.rangeAt d 0 vs∧w'.cell? ⟨d.heap.size+2,3,V⟩=Z (O U (lim.rows:Int))) G ⟨(Y.refl A).drew.range f.aM,(Y.refl A).drew.I (r.cell 3 rfl)⟩ (fun c=>?_);refine' fX (i:=0) (oi:=⟨Z 31,_,_,_,_,_⟩) (v:=_) rfl G G G (fun _ _ _ g=>g) (cj aq _ _ rfl _ _ rfl _ _ (fun d g=>g.1) M rfl L) c ?_;(try simp only [bu]);refine' bV 2 33 (au (Z ⟨d.heap.size+1+1,3,V⟩)) rfl c ?_;refine' dA (v:=O U (lim.rows:Int)) 3 34 rfl (.inl ⟨aq,?_⟩) c ?_
 ·(intro d y;have ar:=y.2;clear y;go_simp)
 refine cL (rs:=[1]) G J ?_;refine cy (o:=⟨Z 32,_,_,_,_,_⟩) rfl (fun h x=>?_) cM;refine a6 aq ?_;go_simp;go_at_call 178;with_reducible refine (F.out _).mono ?_
 rintro e az ⟨rfl,j⟩;have m:=c;refine x.out _ _ ⟨j.range m.1,j.I m.2⟩ (fun c=>?_);clear x h m;(try simp only [bu]);refine' bV 4 35 (ah false) rfl c ?_;refine' bV 5 30 (ah false) rfl c ?_;refine fx G ?_ _;clear c;have z:Y A az:=(Y.refl A).drew.trans j;clear j;have f:=f.I z;have B:=(B.I t).I z;have E:=(E.I t).I z;have am:=(T.trans t).trans z;clear r t z T;have aO:=f.cell 5 al;subst ab;go_wp2_with (first|((with_reducible refine rv (ty:=170) f ?_ ?_ M ?_ ?_ ?_);(focus (exact rfl));(focus (exact ⟨_,rfl,rfl⟩));(focus (exact rfl));(focus (exact L)))|(go_at_call 178;(with_reducible refine (F.out _).mono ?_);rintro e aQ ⟨rfl,s⟩;have Q:=E.I s;have aD:=(B.I s).cell 0 rfl;have aE:=(B.I s).cell 9 rfl;have aM:=(f.I s).cell 0 R;have aI:=s.le)|(with_reducible refine bq 239 (Q) (bx) ?_));refine bH ((Q.aR (us:=bx) rfl).cK rfl _ rfl rfl eG rfl G) rfl ?_;exact ⟨⟨0,rfl⟩,(am.trans s).setCells K _ _⟩
end
theorem bi.at{h:Type}{a:dK h}(y:fQ a){k:Nat}{p:TypeId}{d:ad}{q:Nat}{oa:Option ai}{n l:Nat}{o:List h}(f:bi a k p d q oa n l o){i:Nat}{x:h}(m:o[i]?=Z x):
  ∃ g vs,oa=Z ⟨g,0,V⟩∧g∈bg oa n l∧vs.length=k∧a d x vs∧d.rangeAt g (i * k) vs:=by
 obtain⟨b,off,u,v⟩:=(f.fv y).cells;obtain⟨vs,r,I,s,t⟩:=v i x m;have A:0 < n:=by have:=(c3.1 m).1;have:=f.len;omega
 obtain⟨B,D⟩:=u A;obtain⟨J,K, -, -,⟨-,w⟩, -⟩:=f;rcases w with⟨e,G⟩|⟨g,E,F,e, -⟩
 ·omega
 ·simp only[iA]at e;have c:=e.1;rw[B]at c;simp only[eS,Addr.mk.injEq]at c;obtain⟨rfl,rfl, -⟩:=c;exact⟨b,vs,B,c9.2 (by rw[B];rfl),r,s,fun j C z=>by have:=t j C z;rwa[cv]at this⟩
theorem tW{n:Nat}(a:Nat)(c:0 < n→oa=Z ⟨b,off,V⟩){k:Nat}(e:k < n)(d:ad):
  (Instr.indexAt 115 (ac oa n a) (O U (k:Int))).run aj d= .ok (au (Z ⟨b,off+k * 2,V⟩)) d:=by
 rw[c K];go_simp
theorem yU{n:Nat}(a:Nat)(c:0 < n→oa=Z ⟨b,off,V⟩){k:Nat}(e:k < n)(d:ad):
  (Instr.indexAt 62 (ac oa n a) (O U (k:Int))).run aj d= .ok (au (Z ⟨b,off+k,V⟩)) d:=by
 rw[c K];go_simp
section
variable {f : Nat} {aD : List Nat} {aH : ad} {R : Nat} {page av ax : Int} {ag : Nat} {ab : ak} {u : ar} {L : Option ai} {B F : Nat} {M : Option ai} {D I : Nat} {op : Option ai} {C E : Nat} {aF : List Int} {aE : List ar} {W : Option ai} {s P : Nat} {rs : List aA} {done : Bool} {al : ak}
def vg (h:aV) (f:Nat) (aD:List Nat) (aH:ad) (lim:aK) (w:az) (R:Nat) (page av ax:Int) (ag:Nat) (ab:ak) (l:Int) (u:ar) (L:Option ai) (B F:Nat) (M:Option ai) (D I:Nat) (S:List Nat) (op:Option ai) (C E:Nat) (aF:List Int) (A:Option ai) (z y:Nat) (aE:List ar) (W:Option ai) (s P:Nat) (rs:List aA) (k j:Nat) (done:Bool) (al:ak) (a:jJ) (e:Ending) (w':ad):Prop:=
 match a with
 | .ok r i=>e=ap (ah false)∧∃ am d b,bI h f aD aH lim i R (bE page av ax ag ab l op C E A z y u.x L B F M D I d (s+1) b k done al) u L B F M D I am w' op C E aF A z y aE d (s+1) b (rs++[r])
 | .no c=> ∃ t g,e=ap (ah (gE C s==7))∧cm (ay w' S) (.iface t g) c∧bI h f aD aH lim w R (bE page av ax ag ab (gE C s) op C E A z y u.x L B F M D I W s P j done (.iface t g)) u L B F M D I S w' op C E aF A z y aE W s P rs
theorem cm.aL{v:ak}{c:Int}(a:cm (ay d S) v c)(b:fq S d am w'):cm (ay w' am) v c:=cm.ex a b
theorem lK(j:bI h f aD aH lim w R (bE page av ax ag ab 3 op C E A z y u.x L B F M D I W s P k done al) u L B F M D I S d op C E aF A z y aE W s P rs)(n: ∀ b∈h.l,b < f)(T:s≤1000)(aI:C≤1000)(aG:bT u):
  ao aj 184 #[aa R,aa h.m] d (vg h f aD aH lim w R page av ax ag ab 4 u L B F M D I S op C E aF A z y aE W s P rs k k done al (b2 lim.count w u)):=by
 have p:=N (yz j n T u L B F M D I j.aL aG);have aL:=j.box.cell 5 rfl;have x:er d R 8 (an u.x L B F M D I):=⟨fun i m K=>by
  have:=j.box.aM (8+i) m (by
   have aP:=(c3.1 K).1;rw[show bE page av ax ag ab 3 op C E A z y u.x L B F M D I W s P k done al=[O U page,O U av,O U ax,O U (ag:Int),ab,O U 3,ac op C E,ac A z y]++(an u.x L B F M D I++[ac W s P,O U (k:Int),ah done,al])from rfl,jE (by show 8≤8+i;omega)];rw[kN (by show 8+i - 8 < _;omega),show 8+i - [Value.int IntKind.i64 page,O U av,O U ax,O U (ag:Int),ab,O U 3,ac op C E,ac A z y].length=i by show 8+i - 8=i;omega];exact K)
  rwa[cv]at this⟩
 have o:=N n;clear j n;generalize b2 lim.count w u=a at *;go_enter pI,pJ;cases a with
 |ok r aK=>
  go_wp2_with(first|(with_reducible refine dc 85 (x) cG ?_)|(go_at_call 195;(with_reducible refine p.out.mono ?_);rintro e aJ ⟨rfl,am,aq,G,g⟩;have aN:=g.box.cell 5 rfl;have aM:=g.box.free 5 J;have l:=N ((g.set o.out 5 (O U 4)).of (inl':=bE page av ax ag ab 4 op C E A z y u.x L B F M D I aq (s+1) G k done al) rfl);have ar:=N (gh l.out.box (b:=false) rfl);clear g)|(go_at_call 181;(with_reducible refine ar.out.mono ?_);rintro e w' ⟨rfl,rfl⟩));go_ret;exact⟨rfl,am,aq,G,l.out⟩
 |no c=>
  go_wp2_with(first|(with_reducible refine dc 85 (x) cG ?_)|(go_at_call 195;(with_reducible refine p.out.mono ?_);rintro e aJ ⟨t,m,rfl,ae,g⟩;have ay:=N (uq g.box T aI t m);have v:=N g;have az:=N ae;clear g ae)|(go_at_call 197;(with_reducible refine ay.out.mono ?_);rintro e aQ ⟨rfl,aA,Q⟩));go_ret;have l:=v.out.wrote o.out Q aA;exact⟨t,m,rfl,az.out.aL (Q.aL (by intro b aC;rw[aO.1 aC];exact v.out.fJ.1) fun _ q=> .inl q),l⟩
theorem qC{p:Nat}{q:Option aA}{r:aA}(a:bI h f aD aH lim w R (bE p (a4 q).1 (a4 q).2 ag ab 4 op C E A z y u.x L B F M D I W s P k done al) u L B F M D I S d op C E aF A z y aE W s P rs)(l: ∀ b∈h.l,b < f)(aW:s≤1000)(Q:rs[s - 1]?=Z r)(av:w.ax[p]?=Z (Z q)):
  ao aj 184 #[aa R,aa h.m] d fun e w'=>e=ap (ah true)∧bI h f aD aH lim (b1 w (p:Int) (Z r)) R (bE p (a4 q).1 (a4 q).2 ag ab 7 op C E A z y u.x L B F M D I W s P k true al) u L B F M D I S w' op C E aF A z y aE W s P rs:=by
 have az:rs.length=s:=by rw[←a.s.ir.len,fM]
 have aY:0 < s:=by have:=(c3.1 Q).1;omega
 obtain⟨g,vs,rfl,ay,aV,m,T⟩:=a.s.ir.at fb (i:=s - 1) (x:=dE r) (by rw[mW,Q];rfl);have m:vs=[O U ((r.i:Int)+1),(r.g:Int)]:=m;subst m;have aM:d.cell? ⟨g,(s - 1) * 2,V⟩=Z (O U ((r.i:Int)+1)):=T 0 _ rfl;have aN:=T 1 _ rfl;have aG:=a.box.cell 0 rfl;have aI:=a.box.cell 1 rfl;have aJ:=a.box.cell 2 rfl;have aL:=a.box.cell 5 rfl;have aK:=a.box.cell 23 rfl;have aS:R∉[h.m,h.p]:=fun e=>by
  have:=a.fJ.2.1;simp only[bd,c0,db]at e;rcases e with e|e
  ·have:=l h.m J;omega
  ·have:=l h.p J;omega
 have aT:g∉[h.m,h.p]:=fun e=>by
  have:=(a.s.ft g (by simp only[bd,cu];exact .inr (.inr (.inr ay)))).2.1;simp only[bd,c0,db]at e;rcases e with e|e
  ·have:=l h.m J;omega
  ·have:=l h.p J;omega
 have aC:IntKind.i64.wrap ((s:Int) - 1)=(s:Int) - 1:=e0 _ K;have aZ:wrap64 ((s:Int) - 1)=(s:Int) - 1:=(uK _).symm.trans aC;have aU: ∀ o,(Instr.indexAt 115 (ac (Z ⟨g,0,V⟩) s P) (O U ((s:Int) - 1))).run aj o= .ok (au (Z ⟨g,(s - 1) * 2,V⟩)) o:=fun o=>by
  have:=tW P (oa:=Z ⟨g,0,V⟩) (n:=s) (b:=g) (off:=0) (fun _=>rfl) (k:=s - 1) K o;rw[cv,show((s - 1:Nat):Int)=(s:Int) - 1 by omega]at this;exact this
 have am:=N fun ae (m:aX h S ae lim w)=>zg m av (Z r);have t:=N l;have v:=N a;clear a l av T Q az;go_enter pI,pJ;go_upto_region 4 with fail
 go_region_held3(fun j=>j.cell? R=Z (O U (p:Int))∧j.cell? ⟨R,1,V⟩=Z (O U (a4 q).1)∧j.cell? ⟨R,2,V⟩=Z (O U (a4 q).2)∧j.cell? ⟨R,23,V⟩=Z (ac (Z ⟨g,0,V⟩) s P)∧j.cell? ⟨g,(s - 1) * 2,V⟩=Z (O U ((r.i:Int)+1))∧j.cell? ⟨g,(s - 1) * 2+1,V⟩=Z (O U (r.g:Int))) (first|(first|(have kG:=G;exact ky)|exact ky)) (first|(go_at_call 196;(refine(am.out _ ?_).mono ?_);(focus(exact v.out.mem.I dh));rintro e ae ⟨rfl,aq,G⟩;(have ar:Mod [h.m,h.p] d ae:=Mod.trans (Y.mod dh _) G)));all_goals
  have c:=v.out.acc t.out aq ar J;have aR:=c.box.cell 5 rfl;have aP:=c.box.free 5 J;have aQ:=c.box.cell 25 rfl;have aO:=c.box.free 25 J;have an:=N (((c.set t.out 5 (O U 7)).set t.out 25 (ah true)).of (inl':=bE p (a4 q).1 (a4 q).2 ag ab 7 op C E A z y u.x L B F M D I (Z ⟨g,0,V⟩) s P k true al) rfl);have ax:=N (gh an.out.box (b:=true) rfl);clear c aq G ar v am;go_wp2_with(go_at_call 181;(with_reducible refine ax.out.mono ?_);rintro e w' ⟨rfl,rfl⟩);go_ret;exact⟨rfl,an.out⟩
end
section
theorem HP(g:cd aC n u k l vs)(P:Bool)(I a b:Int)(D:aY)(p:Option ai)(q C:Nat)(d:ad)(ag:aZ d p q C D.ag)(lim:aK)(aJ: ¬lim.chain < k)(aL: ¬lim.rows < l.size)(ae:l.eO=true)(ar:l.size=0)(av:P=false):
  ao aj 156 #[aw vs,aw (cB P I a b D p q C),aw (bC lim)] d (k3 l V d):=by
 obtain ⟨R,⟨aP,aI,al⟩,am⟩:=g.at;have F:=N fun aA=>mE g aA;obtain ⟨T,f,B,r,E⟩:=hQ d 170 97 23 239 vs (cB P I a b D p q C) (bC lim);have ab:=N g.len;generalize aa:l.size=aR at *;generalize W:l.eO=aN at *;have aF:=N aa;have aE:=N W;clear g ag aa W;subst ae;subst ar;subst av;go_enter mb,mc;go_upto_region 1 with fail
 generalize (((H d (X vs 170)).alloc (X (cB false I a b D p q C) 97)).alloc (X (bC lim) 23)).alloc (X bx 239)=w at *;have L: (aj.info? 170).map (·.size)=Z vs.length:=by rw [ab.out];kernel_rfl
 have M:=dt;have ay:=r.cell 4 rfl;have az:=f.cell 3 al;go_upto_region 3 with fail
 clear ay az;refine gG (S:=fun w'=>w'.rangeAt d 0 vs∧w'.cell? ⟨d.heap.size+2,3,V⟩=Z (O U (lim.rows:Int))∧w'.cell? d=Z (O U n)) G ⟨(Y.refl w).drew.range f.aM,(Y.refl w).drew.I (r.cell 3 rfl),(Y.refl w).drew.I (f.cell 0 R)⟩ (fun c=>?_);refine' fX (i:=0) (oi:=⟨Z 19,_,_,_,_,_⟩) (v:=_) rfl G G G (fun _ _ _ g=>g) (cj aq _ _ rfl _ _ rfl _ _ (fun d g=>g.1) M rfl L) c ?_;(try simp only [bu]);refine' bV 2 21 (au (Z ⟨d.heap.size+1+1,3,V⟩)) rfl c ?_;refine' dA (v:=O U (lim.rows:Int)) 3 22 rfl (.inl ⟨aq,?_⟩) c ?_
 ·(intro d y;have ax:=y.2.1;clear y;go_simp)
 refine cL (rs:=[1]) G J ?_;refine cy (o:=⟨Z 20,_,_,_,_,_⟩) rfl (fun h x=>?_) cM;refine a6 aq ?_;go_simp;go_at_call 178;with_reducible refine (F.out _).mono ?_
 rintro e A ⟨rfl,j⟩;have m:=c;refine x.out _ _ ⟨j.range m.1,j.I m.2.1,j.I m.2.2⟩ (fun c=>?_);clear x h m;(try simp only [bu]);refine' bV 4 23 (ah false) rfl c ?_;refine' bV 5 24 (ah false) rfl c ?_;refine' dA (v:=undef) 6 25 rfl (.inr ⟨aq,rfl⟩) c ?_;refine' dA (v:=undef) 7 26 rfl (.inr ⟨aq,rfl⟩) c ?_;refine' dA (v:=undef) 8 27 rfl (.inr ⟨aq,rfl⟩) c ?_;refine' bV 9 28 (ah false) rfl c ?_;refine' bV 10 18 (ah false) rfl c ?_;refine fx G ?_ _;clear c;have t:Y w A:=(Y.refl w).drew.trans j;clear j;have f:=f.I t;have r:=r.I t;go_upto_region 5 with fail
 refine gG (S:=fun w'=>w'.rangeAt d 0 vs∧w'.cell? ⟨d.heap.size+2,3,V⟩=Z (O U (lim.rows:Int))) G ⟨(Y.refl A).drew.range f.aM,(Y.refl A).drew.I (r.cell 3 rfl)⟩ (fun c=>?_);refine' fX (i:=0) (oi:=⟨Z 31,_,_,_,_,_⟩) (v:=_) rfl G G G (fun _ _ _ g=>g) (cj aq _ _ rfl _ _ rfl _ _ (fun d g=>g.1) M rfl L) c ?_;(try simp only [bu]);refine' bV 2 33 (au (Z ⟨d.heap.size+1+1,3,V⟩)) rfl c ?_;refine' dA (v:=O U (lim.rows:Int)) 3 34 rfl (.inl ⟨aq,?_⟩) c ?_
 ·(intro d y;have ax:=y.2;clear y;go_simp)
 refine cL (rs:=[1]) G J ?_;refine cy (o:=⟨Z 32,_,_,_,_,_⟩) rfl (fun h x=>?_) cM;refine a6 aq ?_;go_simp;go_at_call 178;with_reducible refine (F.out _).mono ?_
 rintro e aD ⟨rfl,j⟩;have m:=c;refine x.out _ _ ⟨j.range m.1,j.I m.2⟩ (fun c=>?_);clear x h m;(try simp only [bu]);refine' bV 4 35 (ah false) rfl c ?_;refine' bV 5 30 (ah false) rfl c ?_;refine fx G ?_ _;clear c;have z:Y A aD:=(Y.refl A).drew.trans j;clear j;have f:=f.I z;have B:=(B.I t).I z;have E:=(E.I t).I z;have an:=(T.trans t).trans z;clear r t z T;have aQ:=f.cell 5 am;go_wp2_with (first|((with_reducible refine rv (ty:=170) f ?_ ?_ M ?_ ?_ ?_);(focus (exact rfl));(focus (exact ⟨_,rfl,rfl⟩));(focus (exact rfl));(focus (exact L)))|(go_at_call 178;(with_reducible refine (F.out _).mono ?_);rintro e aS ⟨rfl,s⟩;have Q:=E.I s;have aG:=(B.I s).cell 0 rfl;have aH:=(B.I s).cell 9 rfl;have aO:=(f.I s).cell 0 R;have aM:=s.le)|(with_reducible refine bq 239 (Q) (bx) ?_));refine bH ((Q.aR (us:=bx) rfl).cK rfl _ rfl rfl eG rfl G) rfl ?_;exact ⟨⟨0,rfl⟩,(an.trans s).setCells K _ _⟩
theorem HM(g:cd aC n u k l vs)(P:Bool)(I a b:Int)(A:aY)(p:Option ai)(q D:Nat)(d:ad)(am:aZ d p q D A.ag)(lim:aK)(aL: ¬lim.chain < k)(aM: ¬lim.rows < l.size)(al:l.eO=true)(ax:l.size=0)(ay:P=true)(j:A.held=true):
  ao aj 156 #[aw vs,aw (cB P I a b A p q D),aw (bC lim)] d (k3 l V d):=by
 obtain ⟨R,⟨aQ,aJ,an⟩,ar⟩:=g.at;have F:=N fun aE=>mE g aE;obtain ⟨T,f,C,r,E⟩:=hQ d 170 97 23 239 vs (cB P I a b A p q D) (bC lim);have ae:=N g.len;generalize aa:l.size=aS at *;generalize W:l.eO=aO at *;have aH:=N aa;have aG:=N W;clear g am aa W;subst al;subst ax;subst ay;have ab:=N j;clear j;go_enter mb,mc;go_upto_region 1 with fail
 generalize (((H d (X vs 170)).alloc (X (cB true I a b A p q D) 97)).alloc (X (bC lim) 23)).alloc (X bx 239)=w at *;have L: (aj.info? 170).map (·.size)=Z vs.length:=by rw [ae.out];kernel_rfl
 have M:=dt;have aA:=r.cell 4 rfl;have aD:=f.cell 3 an;go_upto_region 3 with fail
 clear aA aD;refine gG (S:=fun w'=>w'.rangeAt d 0 vs∧w'.cell? ⟨d.heap.size+2,3,V⟩=Z (O U (lim.rows:Int))∧w'.cell? d=Z (O U n)) G ⟨(Y.refl w).drew.range f.aM,(Y.refl w).drew.I (r.cell 3 rfl),(Y.refl w).drew.I (f.cell 0 R)⟩ (fun c=>?_);refine' fX (i:=0) (oi:=⟨Z 19,_,_,_,_,_⟩) (v:=_) rfl G G G (fun _ _ _ g=>g) (cj aq _ _ rfl _ _ rfl _ _ (fun d g=>g.1) M rfl L) c ?_;(try simp only [bu]);refine' bV 2 21 (au (Z ⟨d.heap.size+1+1,3,V⟩)) rfl c ?_;refine' dA (v:=O U (lim.rows:Int)) 3 22 rfl (.inl ⟨aq,?_⟩) c ?_
 ·(intro d y;have az:=y.2.1;clear y;go_simp)
 refine cL (rs:=[1]) G J ?_;refine cy (o:=⟨Z 20,_,_,_,_,_⟩) rfl (fun h x=>?_) cM;refine a6 aq ?_;go_simp;go_at_call 178;with_reducible refine (F.out _).mono ?_
 rintro e B ⟨rfl,m⟩;have j:=c;refine x.out _ _ ⟨m.range j.1,m.I j.2.1,m.I j.2.2⟩ (fun c=>?_);clear x h j;(try simp only [bu]);refine' bV 4 23 (ah false) rfl c ?_;refine' bV 5 24 (ah false) rfl c ?_;refine' dA (v:=undef) 6 25 rfl (.inr ⟨aq,rfl⟩) c ?_;refine' dA (v:=undef) 7 26 rfl (.inr ⟨aq,rfl⟩) c ?_;refine' dA (v:=undef) 8 27 rfl (.inr ⟨aq,rfl⟩) c ?_;refine' bV 9 28 (ah false) rfl c ?_;refine' bV 10 18 (ah false) rfl c ?_;refine fx G ?_ _;clear c;have t:Y w B:=(Y.refl w).drew.trans m;clear m;have f:=f.I t;have r:=r.I t;go_upto_region 5 with fail
 refine gG (S:=fun w'=>w'.rangeAt d 0 vs∧w'.cell? ⟨d.heap.size+2,3,V⟩=Z (O U (lim.rows:Int))) G ⟨(Y.refl B).drew.range f.aM,(Y.refl B).drew.I (r.cell 3 rfl)⟩ (fun c=>?_);refine' fX (i:=0) (oi:=⟨Z 31,_,_,_,_,_⟩) (v:=_) rfl G G G (fun _ _ _ g=>g) (cj aq _ _ rfl _ _ rfl _ _ (fun d g=>g.1) M rfl L) c ?_;(try simp only [bu]);refine' bV 2 33 (au (Z ⟨d.heap.size+1+1,3,V⟩)) rfl c ?_;refine' dA (v:=O U (lim.rows:Int)) 3 34 rfl (.inl ⟨aq,?_⟩) c ?_
 ·(intro d y;have az:=y.2;clear y;go_simp)
 refine cL (rs:=[1]) G J ?_;refine cy (o:=⟨Z 32,_,_,_,_,_⟩) rfl (fun h x=>?_) cM;refine a6 aq ?_;go_simp;go_at_call 178;with_reducible refine (F.out _).mono ?_
 rintro e aF ⟨rfl,m⟩;have j:=c;refine x.out _ _ ⟨m.range j.1,m.I j.2⟩ (fun c=>?_);clear x h j;(try simp only [bu]);refine' bV 4 35 (ah false) rfl c ?_;refine' bV 5 30 (ah false) rfl c ?_;refine fx G ?_ _;clear c;have z:Y B aF:=(Y.refl B).drew.trans m;clear m;have f:=f.I z;have C:=(C.I t).I z;have E:=(E.I t).I z;have av:=(T.trans t).trans z;clear r t z T;have aR:=f.cell 5 ar;go_wp2_with (first|((with_reducible refine rv (ty:=170) f ?_ ?_ M ?_ ?_ ?_);(focus (exact rfl));(focus (exact ⟨_,rfl,rfl⟩));(focus (exact rfl));(focus (exact L)))|(go_at_call 178;(with_reducible refine (F.out _).mono ?_);rintro e aT ⟨rfl,s⟩;have Q:=E.I s;have aI:=(C.I s).cell 0 rfl;have ag:=(C.I s).cell 9 rfl;rw [ab.out] at ag;have aP:=(f.I s).cell 0 R;have aN:=s.le)|(with_reducible refine bq 239 (Q) (bx) ?_));refine bH ((Q.aR (us:=bx) rfl).cK rfl _ rfl rfl eG rfl G) rfl ?_;exact ⟨⟨0,rfl⟩,(av.trans s).setCells K _ _⟩
theorem HN(r:cd aC n u k l vs)(aF:Bool)(ay a b:Int)(z:aY)(p:Option ai)(q L:Nat)(d:ad)(aL:aZ d p q L z.ag)(lim:aK)(bo: ¬lim.chain < k)(bp: ¬lim.rows < l.size)(a2:l.eO=true)(bb:l.size=0)(bd:aF=true)(t:z.held=false):
  ao aj 156 #[aw vs,aw (cB aF ay a b z p q L),aw (bC lim)] d (k3 l ((gR z.ag n).map fun q=> .hold n q.1 q.2) d):=by
 obtain ⟨aN,⟨bw,bn,a4⟩,a5⟩:=r.at;have ax:=N fun am=>mE r am;have aU:=N fun am (a9:Y d am)=>Es z p q L n am (aZ.I aL a9);obtain ⟨aO,f,P,I,an⟩:=hQ d 170 97 23 239 vs (cB aF ay a b z p q L) (bC lim);have aW:=N r.len;generalize aT:l.size=bA at *;generalize aR:l.eO=bt at *;have bm:=N aT;have bl:=N aR;clear r aL aT aR;subst a2;subst bb;subst bd;have aV:=N t;clear t;go_enter mb,mc;go_upto_region 1 with fail
 generalize (((H d (X vs 170)).alloc (X (cB true ay a b z p q L) 97)).alloc (X (bC lim) 23)).alloc (X bx 239)=Q at *;have aD: (aj.info? 170).map (·.size)=Z vs.length:=by rw [aW.out];kernel_rfl
 have aE:=dt;have bg:=I.cell 4 rfl;have bi:=f.cell 3 a4;go_upto_region 3 with fail
 clear bg bi;refine gG (S:=fun w'=>w'.rangeAt d 0 vs∧w'.cell? ⟨d.heap.size+2,3,V⟩=Z (O U (lim.rows:Int))∧w'.cell? d=Z (O U n)) G ⟨(Y.refl Q).drew.range f.aM,(Y.refl Q).drew.I (I.cell 3 rfl),(Y.refl Q).drew.I (f.cell 0 aN)⟩ (fun g=>?_);refine' fX (i:=0) (oi:=⟨Z 19,_,_,_,_,_⟩) (v:=_) rfl G G G (fun _ _ _ r=>r) (cj aq _ _ rfl _ _ rfl _ _ (fun d r=>r.1) aE rfl aD) g ?_;(try simp only [bu]);refine' bV 2 21 (au (Z ⟨d.heap.size+1+1,3,V⟩)) rfl g ?_;refine' dA (v:=O U (lim.rows:Int)) 3 22 rfl (.inl ⟨aq,?_⟩) g ?_
 ·(intro d R;have be:=R.2.1;clear R;go_simp)
 refine cL (rs:=[1]) G J ?_;refine cy (o:=⟨Z 20,_,_,_,_,_⟩) rfl (fun h m=>?_) cM;refine a6 aq ?_;go_simp;go_at_call 178;with_reducible refine (ax.out _).mono ?_
 rintro e W ⟨rfl,w⟩;have t:=g;refine m.out _ _ ⟨w.range t.1,w.I t.2.1,w.I t.2.2⟩ (fun g=>?_);clear m h t;(try simp only [bu]);refine' bV 4 23 (ah false) rfl g ?_;refine' bV 5 24 (ah false) rfl g ?_;refine' dA (v:=undef) 6 25 rfl (.inr ⟨aq,rfl⟩) g ?_;refine' dA (v:=undef) 7 26 rfl (.inr ⟨aq,rfl⟩) g ?_;refine' dA (v:=undef) 8 27 rfl (.inr ⟨aq,rfl⟩) g ?_;refine' bV 9 28 (ah false) rfl g ?_;refine' bV 10 18 (ah false) rfl g ?_;refine fx G ?_ _;clear g;have M:Y Q W:=(Y.refl Q).drew.trans w;clear w;have f:=f.I M;have I:=I.I M;go_upto_region 5 with fail
 refine gG (S:=fun w'=>w'.rangeAt d 0 vs∧w'.cell? ⟨d.heap.size+2,3,V⟩=Z (O U (lim.rows:Int))) G ⟨(Y.refl W).drew.range f.aM,(Y.refl W).drew.I (I.cell 3 rfl)⟩ (fun g=>?_);refine' fX (i:=0) (oi:=⟨Z 31,_,_,_,_,_⟩) (v:=_) rfl G G G (fun _ _ _ r=>r) (cj aq _ _ rfl _ _ rfl _ _ (fun d r=>r.1) aE rfl aD) g ?_;(try simp only [bu]);refine' bV 2 33 (au (Z ⟨d.heap.size+1+1,3,V⟩)) rfl g ?_;refine' dA (v:=O U (lim.rows:Int)) 3 34 rfl (.inl ⟨aq,?_⟩) g ?_
 ·(intro d R;have be:=R.2;clear R;go_simp)
 refine cL (rs:=[1]) G J ?_;refine cy (o:=⟨Z 32,_,_,_,_,_⟩) rfl (fun h m=>?_) cM;refine a6 aq ?_;go_simp;go_at_call 178;with_reducible refine (ax.out _).mono ?_
 rintro e bk ⟨rfl,w⟩;have t:=g;refine m.out _ _ ⟨w.range t.1,w.I t.2⟩ (fun g=>?_);clear m h t;(try simp only [bu]);refine' bV 4 35 (ah false) rfl g ?_;refine' bV 5 30 (ah false) rfl g ?_;refine fx G ?_ _;clear g;have T:Y W bk:=(Y.refl W).drew.trans w;clear w;have f:=f.I T;have P:=(P.I M).I T;have an:=(an.I M).I T;have aQ:=(aO.trans M).trans T;clear I M T aO;have bh:=f.cell 5 a5;have aM:=P.ef 4 (bf z p q L) rfl;go_upto_region 9 with (first|((with_reducible refine rv (ty:=170) f ?_ ?_ aE ?_ ?_ ?_);(focus (exact rfl));(focus (exact ⟨_,rfl,rfl⟩));(focus (exact rfl));(focus (exact aD)))|(go_at_call 178;(with_reducible refine (ax.out _).mono ?_);rintro e aa ⟨rfl,A⟩;have ab:=an.I A;have a1:=(P.I A).cell 0 rfl;have aJ:=(P.I A).cell 9 rfl;rw [aV.out] at aJ;have bv:=(f.I A).cell 0 aN;have br:=A.le))
 have ag:=aU.out aa (aQ.trans A);have al:=aM.I A;have aP:=aQ.trans A;generalize aS:gR z.ag n=bj at *;have aH:=N aS;clear aS;clear bh aM a1 aJ;rcases bj with _|q
 ·as_aux_lemma=>
   go_upto_region 10 with (first|(with_reducible refine dc 95 (al) dB ?_)|(go_at_call 179;(with_reducible refine ag.mono ?_);rintro e c ⟨rfl,D⟩;have C:ae (H c (X fl 83)) c.heap.size fl:=(ae.new c _ _ rfl).of J)|(with_reducible refine bq 83 (C) (fl) ?_))
   have av:ae ((H c (X fl 83)).setCells c 0 fl) c.heap.size fl:=C.aR rfl;have E:Y c ((H c (X fl 83)).setCells c 0 fl):=((Y.refl c).alloc _).setCells (aG _) _ _;have x:=(ab.I D).I E;have F:=(aP.trans D).trans E;have a7:aa.heap.size≤c.heap.size:=D.le;have a3:d.heap.size+3 < aa.heap.size:=ab.lt J;show Code.wp _ _ _ _ ((H c (X fl 83)).setCells c 0 fl);generalize (H c (X fl 83)).setCells c 0 fl=s at *;generalize c.heap.size=az at *;clear C E ag al;refine cZ (fun _=>True) (fun w'=>w'.rangeAt az 0 fl) 4 G ?_;have y:True:=trivial;have hKC:=(Y.refl s).drew.range av.aM;have x:=x.I (Y.refl s).drew;have F:Y d s.drew:=F.trans (Y.refl s).drew;generalize s.drew=aX at *;refine' bc 0 65 rfl (cj aq _ _ rfl _ _ rfl _ _ (fun d r=>r.2) od rfl G) y hKC ?_;refine' aI 1 66 (aw #[O U 9,O U 0,af ⟨#[]⟩,O U 0,O U 0,O U 0,af ⟨#[]⟩]) rfl y hKC ?_;refine' a8 2 67 (fR 6) rfl y ?_;refine' a8 3 68 (ah false) rfl y ?_;refine j9 (j:=4) (o:={dst:=V,op:= .store 239 (.tmp 6) (.tmp 66),type:=_,pos:=_,after:=_,guard:=V}) rfl G G (fun B m=>?_);refine a6 aq ?_;refine dQ _ _ _ rfl _ _ ((bs 9 0 ⟨#[]⟩ 0 0 0 ⟨#[]⟩)).toArray rfl rfl x.may G du ?_;simp only [Act.put,uQ,List.set_cons_zero,List.set_cons_succ,List.toList_toArray];refine bM m (trivial) ?_;clear m B;refine cg 5 (Z 7) rfl (fun B m=>?_);go_simp;refine bM m (trivial) ?_;clear m B;refine cC G ?_;go_wp2_with fail;have aA:=F.setCells (b:=d.heap.size+3) K (bs 9 0 ⟨#[]⟩ 0 0 0 ⟨#[]⟩) 0;have ar:=x.aR (us:=(bs 9 0 ⟨#[]⟩ 0 0 0 ⟨#[]⟩)) rfl;refine bH (ar.cK rfl _ rfl rfl eG rfl G) rfl ?_;exact ⟨by rw [aH.out];exact ⟨9,rfl⟩,aA⟩
 ·as_aux_lemma=>
   go_upto_region 10 with (first|(with_reducible refine dc 95 (al) dB ?_)|(go_at_call 179;(with_reducible refine ag.mono ?_);rintro e c ⟨rfl,D⟩;have C:ae (H c (X fl 83)) c.heap.size fl:=(ae.new c _ _ rfl).of J)|(with_reducible refine bq 83 (C) ([O U n,O U q.1,af q.2]) ?_))
   have av:ae ((H c (X fl 83)).setCells c 0 [O U n,q.1,q.2]) c.heap.size [O U n,q.1,q.2]:=C.aR rfl;have E:Y c ((H c (X fl 83)).setCells c 0 [O U n,q.1,q.2]):=((Y.refl c).alloc _).setCells (aG _) _ _;have x:=(ab.I D).I E;have F:=(aP.trans D).trans E;have a7:aa.heap.size≤c.heap.size:=D.le;have a3:d.heap.size+3 < aa.heap.size:=ab.lt J;show Code.wp _ _ _ _ ((H c (X fl 83)).setCells c 0 [O U n,q.1,q.2]);generalize (H c (X fl 83)).setCells c 0 [O U n,q.1,q.2]=s at *;generalize c.heap.size=az at *;clear C E ag al;refine cZ (fun _=>True) (fun w'=>w'.rangeAt az 0 [O U n,q.1,q.2]) 4 G ?_;have y:True:=trivial;have hKC:=(Y.refl s).drew.range av.aM;have x:=x.I (Y.refl s).drew;have F:Y d s.drew:=F.trans (Y.refl s).drew;generalize s.drew=aX at *;refine' bc 0 65 rfl (cj aq _ _ rfl _ _ rfl _ _ (fun d r=>r.2) od rfl G) y hKC ?_;refine' aI 1 66 (aw #[O U 9,O U 0,af ⟨#[]⟩,O U 0,n,q.1,q.2]) rfl y hKC ?_;refine' a8 2 67 (aB) rfl y ?_;refine' a8 3 68 (ah true) rfl y ?_;refine j9 (j:=4) (o:={dst:=V,op:= .store 239 (.tmp 6) (.tmp 66),type:=_,pos:=_,after:=_,guard:=V}) rfl G G (fun B m=>?_);refine a6 aq ?_;refine dQ _ _ _ rfl _ _ ((bs 9 0 ⟨#[]⟩ 0 n q.1 q.2)).toArray rfl rfl x.may G du ?_;simp only [Act.put,uQ,List.set_cons_zero,List.set_cons_succ,List.toList_toArray];refine bM m (trivial) ?_;clear m B;refine cg 5 (Z 7) rfl (fun B m=>?_);go_simp;refine bM m (trivial) ?_;clear m B;refine cC G ?_;go_wp2_with fail;have aA:=F.setCells (b:=d.heap.size+3) K (bs 9 0 ⟨#[]⟩ 0 n q.1 q.2) 0;have ar:=x.aR (us:=(bs 9 0 ⟨#[]⟩ 0 n q.1 q.2)) rfl;refine bH (ar.cK rfl _ rfl rfl eG rfl G) rfl ?_;exact ⟨by rw [aH.out];rfl,aA⟩
end
theorem Ix{x:Option (Option aA)}(a:w.ax[k]?=Z x): ((w.ax.take (k+1)).filter fun q=>q.isSome).length=((w.ax.take k).filter fun q=>q.isSome).length+(if x.isSome=true then 1 else 0):=by
 rw[kH,a,Option.toList_some,gn,dG,h3];cases x <;> rfl
section
theorem F3(n:aX h S d lim w):ao aj 66 #[aa h.t] d fun e w'=> ∃ oa c,e=ap (ac oa (eY w) c)∧Y d w':=by
 obtain ⟨c,aN,Q⟩:=n.h1;have aL:=n.lim.ax;have aK:=Q.cell 0 rfl;have L:=N n.fB;have al:=N n;clear n Q;unfold eY;go_enter Tryz.func66,Tryz.ntmps66;go_upto_region 5 with fail
 go_loopw [3,13] (fun aH F wr=> ∃ (k:Nat) (o:Option ai) (b g:Nat) (E:List Int),k≤lim.ax∧aH=ac o b g∧F=O U (k:Int)∧Hid (bi h9 1 3 wr d o b g E)∧Hid (b=((w.ax.take k).filter fun q=>q.isSome).length)∧Y d wr) (fun _ F _=>lim.ax - (intOf F).toNat)
 case atStart=>exact ⟨0,V,0,0,[],aJ _,rfl,rfl,N (bi.nil _ _ _ _ _),N rfl,Y.refl _⟩
 case round=>
  obtain ⟨k,o,b,g,E,aO,rfl,rfl,t,y,i⟩:=hrel;by_cases T:k < lim.ax
  ·have aM:=tV h.p lim.ax c T;have aC:k < w.ax.length:=by rw [L.out];exact T
   have r:w.ax[k]?=Z w.ax[k]:=cP aC;have aQ:IntKind.i64.wrap ((k:Int)+1)=(k:Int)+1:=e0 _ K;have aP:b≤1000:=by
    rw [y.out];refine bZ (kg _ _) ?_;rw [fm];omega
   have p:=Ix r;rw [←y.out] at p;obtain ⟨vs,ab,s,z⟩:=(al.out.I i).ax.at' k _ r;generalize w.ax[k]=x at r s p;have M:=N p;have m:ae (H wr (X #[ah false,O U 0,O U 0] 147)) wr.heap.size [ah false,O U 0,O U 0]:=(ae.new wr _ _ rfl).of J;have u: ∀ vs:List ak,vs.length=3→ae ((H wr (X #[ah false,O U 0,O U 0] 147)).setCells wr 0 vs) wr.heap.size vs∧Y wr ((H wr (X #[ah false,O U 0,O U 0] 147)).setCells wr 0 vs):=fun vs aD=>⟨m.aR aD,((Y.refl wr).alloc _).setCells (aG _) _ _⟩;cases x with
   |some q=>
    have D:vs=[ah true,O U (a4 q).1,O U (a4 q).2]:=s;subst D;have l:er wr h.p (k * 3) [ah true,O U (a4 q).1,O U (a4 q).2]:=⟨z⟩;obtain ⟨j,f⟩:=u [ah true,O U (a4 q).1,O U (a4 q).2] rfl;clear z r s p ab u;go_upto_region 7 with (first|(with_reducible refine dc 147 (l) Tryz.underlying147 ?_)|(with_reducible refine bq 147 (m) ([ah true,O U (a4 q).1,O U (a4 q).2]) ?_))
    have A:=t.out.I fz f;have v:=i.trans f;clear m l f i;(try simp only [Act.put]);show Code.wp _ _ _ _ ((H wr (X #[ah false,O U 0,O U 0] 147)).setCells wr 0 [ah true,O U (a4 q).1,O U (a4 q).2]);generalize (H wr (X #[ah false,O U 0,O U 0] 147)).setCells wr 0 [ah true,O U (a4 q).1,O U (a4 q).2]=a at *;generalize wr.heap.size=ax at *;have ag:=j.cell 0 rfl;have B:Y a (H a (X #[O U (k:Int)] 3)):=(Y.refl a).alloc _;have P:ae (H a (X #[O U (k:Int)] 3)) a.heap.size [O U (k:Int)]:=(ae.new a _ _ rfl).of J;have G:=N (A.I fz B);have av:Hid (Value.ownBlock (ac o b g)≠Z a.heap.size):=N fun e=>dk _ (A.lt _ e).2;have am:=N P;have I:=N (v.trans B);clear A P B t j;go_upto_region 8 with fail
    clear v ag;go_wp2_with (at_builtin;refine uw fz oZ rfl _ _ rfl (base:=d.heap.size) (Y.le I.out) rfl G.out rfl (bo.one bP (aG _) c4 (vs:=[O U (k:Int)]) rfl du rfl fun aE aI aA=>hT.2 ⟨av.out,by have:=am.out.aM aE aI aA;exact this⟩) c4 K ?_;intro aF ay aR W R);have an:=N W;have az:=G.out.aC R I.out (aG _);clear W R;(try simp only [bu]);go_roundw
    case rel=>exact ⟨k+1,aF,b+1,ay,_,K,rfl,rfl,an,N (by rw [M.out];rfl),az⟩
    case measure=>simp [intOf];omega
   |none=>
    have D:vs=[ah false,O U 0,O U 0]:=s;subst D;have l:er wr h.p (k * 3) [ah false,O U 0,O U 0]:=⟨z⟩;obtain ⟨j,f⟩:=u [ah false,O U 0,O U 0] rfl;clear z r s p ab u;go_upto_region 7 with (first|(with_reducible refine dc 147 (l) Tryz.underlying147 ?_)|(with_reducible refine bq 147 (m) ([ah false,O U 0,O U 0]) ?_))
    have aq:=N (t.out.I fz f);have v:=i.trans f;clear m l f i;(try simp only [Act.put]);show Code.wp _ _ _ _ ((H wr (X #[ah false,O U 0,O U 0] 147)).setCells wr 0 [ah false,O U 0,O U 0]);generalize (H wr (X #[ah false,O U 0,O U 0] 147)).setCells wr 0 [ah false,O U 0,O U 0]=a at *;generalize wr.heap.size=ax at *;have ag:=j.cell 0 rfl;clear t j;go_wp2_with fail;go_roundw
    case rel=>exact ⟨k+1,o,b,g,E,K,rfl,rfl,aq,N (by rw [M.out];rfl),v⟩
    case measure=>simp [intOf];omega
  ·obtain rfl:k=lim.ax:=by omega
   have C:=y.out;rw [←L.out,mS] at C;have ar:=N C;clear y C;go_wp2_with fail;go_ret;exact ⟨o,g,by rw [←ar.out];rfl,i⟩
theorem yn(a:aX h S d lim w):ao aj 39 #[aa h.m] d fun e w'=> ∃ oa c,e=ap (ac oa (eY w) c)∧Y d w':=by
 obtain⟨j,b⟩:=a.mem;have i:=b.cell 8 rfl;have f:=N (F3 a);clear a b;go_enter Tryz.func39,Tryz.ntmps39;go_wp2_with(go_at_call 66;(with_reducible refine f.out.mono ?_);rintro e k ⟨oa,c,rfl,g⟩);go_ret;exact⟨oa,c,rfl,g⟩
end
theorem yx(f: ∀ c∈S,c < b)(e:ae w' b vs)(a:Nat){d:ak}(g:vs[a]?=Z d): (ay w' S).cell? ⟨b,a,V⟩=Z d:=bp.2 ⟨fun q=>by have:=f b q;omega,e.cell a g⟩
section
variable {aN : az} {bt : Nat} {Q aM : bU} {T : List ak}
theorem IW(b:Fn)(first a:Array ak)(d:ad): (Instr.makeFunc b first a).run aj d= .ok (.func b first a) d:=rfl
def sl (S:List Nat) (d:ad) (bt:Nat) (Q:bU):Prop:=∃ b,Q.nx= .func (.func 127) #[] #[aa b]∧(ay d S).cell? ⟨b,0,V⟩=Z (aa bt)
structure AE (h:aV) (S:List Nat) (d:ad) (bt:Nat) (nx:ak) (n:Int) (a e c:Nat):Prop where
 nx:nx= .func (.func 99) #[] #[aa e,aa c]
 hR: (ay d S).cell? ⟨e,0,V⟩=Z (aa a)
 c2: (ay d S).cell? ⟨c,0,V⟩=Z (aa bt)
 box:ae d a (gB n false false 0 0 0 0 V 0 0 V 0 0 aB)
 e2:a∈S
 e4: ∀ b∈h.l,b < a
 cH:bt < a
def ff (h:aV) (S:List Nat) (d:ad) (bt:Nat) (Q:bU) (n:Int):Prop:=∃ c b a,AE h S d bt Q.nx n c b a
theorem tx(k:aP h S d lim w bt Q A z y T)(bR:ByteArray)(bF:ak)(v:bF=aB∨∃ t r,bF= .iface t r):
  ao aj 119 #[aa bt,aw #[bR,bF]] d fun e w'=>e=ap (ah false)∧∃ nx,aP h S w' lim w bt {Q with bR:=bR,bF:=bF,nx:=nx} A z y T∧sl S w' bt {Q with bR:=bR,bF:=bF,nx:=nx}∧bn [bt] (bt+1) S d S w':=by
 have p:Y d ((H d (X #[aa bt] 35)).alloc (X #[af bR,bF] 44)):=((Y.refl d).alloc _).alloc _;have m:ae ((H d (X #[aa bt] 35)).alloc (X #[af bR,bF] 44)) d.heap.size [aa bt]:=((ae.new d _ _ rfl).of J).I ((Y.refl _).alloc _);have s:ae ((H d (X #[aa bt] 35)).alloc (X #[af bR,bF] 44)) (d.heap.size+1) [af bR,bF]:=(ae.new (H d _) _ _ dW).of J;have u:=k.aC p;have D:=k.lt;have bh:=N (zu u bR bF v);have E:=m.cell 0 rfl;have l:=N k.mem.old;clear k u;rcases v with rfl|⟨t,r,rfl⟩
 ·go_enter Tryz.func119,Tryz.ntmps119;go_upto_region 1 with fail
  generalize (H d (X #[aa bt] 35)).alloc (X #[af bR,aB] 44)=x at *;go_wp2_with (first|(with_reducible refine b0 44 (s) kJ ?_)|(go_at_call 54;(with_reducible refine bh.out.mono ?_);rintro e j ⟨rfl,a,g⟩;have f:=g.box (.inl (fun q=>by have:=l.out _ q;omega)) m;have C:=f.cell 0 rfl;have c:=N a;have n:=N (iS a 127 #[] #[aa d]);clear a)|(go_at_call 57;(with_reducible refine n.out.mono ?_);rintro e B ⟨rfl,rfl⟩));go_ret;have i:=Mod.setCell (S:=[bt]) j ⟨bt,11,V⟩ (.func (.func 127) #[] #[aa d]) J;exact ⟨rfl,_,c.out.next _,⟨d.heap.size,rfl,yx (w':=j.setCell ⟨bt,11,V⟩ (.func (.func 127) #[] #[aa d])) l.out (i.box cJ f) 0 rfl⟩,(p.av.trans g).trans (i.av fun b o=>by rw [aO.1 o];exact ⟨c.out.cE,.inl J⟩)⟩
 ·go_enter Tryz.func119,Tryz.ntmps119;go_upto_region 1 with fail
  generalize (H d (X #[aa bt] 35)).alloc (X #[af bR,.iface t r] 44)=x at *;go_wp2_with (first|(with_reducible refine b0 44 (s) kJ ?_)|(go_at_call 54;(with_reducible refine bh.out.mono ?_);rintro e j ⟨rfl,a,g⟩;have f:=g.box (.inl (fun q=>by have:=l.out _ q;omega)) m;have C:=f.cell 0 rfl;have c:=N a;have n:=N (iS a 127 #[] #[aa d]);clear a)|(go_at_call 57;(with_reducible refine n.out.mono ?_);rintro e B ⟨rfl,rfl⟩));go_ret;have i:=Mod.setCell (S:=[bt]) j ⟨bt,11,V⟩ (.func (.func 127) #[] #[aa d]) J;exact ⟨rfl,_,c.out.next _,⟨d.heap.size,rfl,yx (w':=j.setCell ⟨bt,11,V⟩ (.func (.func 127) #[] #[aa d])) l.out (i.box cJ f) 0 rfl⟩,(p.av.trans g).trans (i.av fun b o=>by rw [aO.1 o];exact ⟨c.out.cE,.inl J⟩)⟩
def iE (h:aV) (S:List Nat) (lim:aK) (w:az) (bt:Nat) (Q:bU) (A:Option ai) (z y:Nat) (T:List ak) (d:ad) (c:Int) (e:Ending) (w':ad):Prop:=
 e=ap (ah false)∧∃ bF nx,cm (ay w' S) bF c∧aP h S w' lim w bt {Q with bR:=⟨#[]⟩,bF:=bF,nx:=nx} A z y T∧sl S w' bt {Q with bR:=⟨#[]⟩,bF:=bF,nx:=nx}∧bn [bt] (bt+1) S d S w'
theorem mv(a:aP h S d lim w bt Q A z y T)(v:ak)(c:Int)(j:cm (ay d S) v c):
  ao aj 102 #[aa bt,v] d (iE h S lim w bt Q A z y T d c):=by
 have k:=N fun p r=>oG p r v c d S a.mem.old j;have s:=a.box.cell 0 rfl;have l:=N a;clear a j;go_enter Tryz.func102,Tryz.ntmps102;go_wp2_with(first|(go_at_call 55;(with_reducible refine(k.out _ _).mono ?_);rintro e x ⟨u,rfl,b,i⟩;(obtain⟨t,f,rfl⟩:=cm.iface b);have m:=N (tx (l.out.aC i) ⟨#[]⟩ (.iface t f) (.inr ⟨t,f,rfl⟩));have n:=N b;clear b)|(go_at_call 119;(with_reducible refine m.out.mono ?_);rintro e B ⟨rfl,nx,o,q,g⟩));go_ret;exact⟨rfl,.iface t f,nx,n.out.aL g.aL,o,q,i.av.trans g⟩
theorem uu(r:aP h S d lim w bt Q A z y T)(n:Int):
  ao aj 81 #[aa bt,n] d fun e w'=>e=ap (ah false)∧∃ nx am,aP h am w' lim w bt {Q with nx:=nx} A z y T∧ff h am w' bt {Q with nx:=nx} n∧bn [bt] (bt+1) S d am w':=by
 have P:Y d (H d (X #[aa bt] 35)):=(Y.refl d).alloc _;have u:ae (H d (X #[aa bt] 35)) d.heap.size [aa bt]:=(ae.new d _ _ rfl).of J;have L:=r.lt;have ab: (H d (X #[aa bt] 35)).heap.size=d.heap.size+1:=dL _ _;have i:=N r;have D:=N (vI n (H d (X #[aa bt] 35)));clear r;go_enter Tryz.func81,Tryz.ntmps81;go_upto_region 1 with fail
 generalize H d (X #[aa bt] 35)=ag at *;go_upto_region 2 with (go_at_call 98;(with_reducible refine D.out.mono ?_);rintro e a ⟨rfl,j,s⟩)
 have C:ae (H a (X #[aa (d.heap.size+1)] 224)) a.heap.size [aa (d.heap.size+1)]:=(ae.new a _ _ rfl).of J;have m:Y a (H a (X #[aa (d.heap.size+1)] 224)):=(Y.refl a).alloc _;rw [ab] at j;have v:=u.I (s.trans m);have t:=j.I m;have R:=(P.trans s).trans m;have al:d.heap.size+1 < a.heap.size:=j.lt J;have W:=t.lt J;show Code.wp _ _ _ _ (H a (X #[aa (d.heap.size+1)] 224));generalize H a (X #[aa (d.heap.size+1)] 224)=B at *;generalize a.heap.size=k at *;have aq:=v.cell 0 rfl;have g:=i.out.mem.old;have l:bn [] d.heap.size S d ([d.heap.size+1]++S) B:=(Y.av R).more [d.heap.size+1] fun b f=>by rw [aO.1 f];exact .inr ⟨gl _,W⟩
 have p:=N (i.out.av l (i.out.mem.av l fun b f=>⟨J,g b (i.out.mem.sub b f)⟩) ⟨J,L⟩);have F:=N (l.wide (L':=[bt]) (B1:=bt+1) fun b f q=> .inr (by rcases q with q|q;cases q;omega));have E:=N g;clear g l;have G:=N (iS p.out 99 #[] #[aa k,aa d]);clear m s u j;go_wp2_with (go_at_call 57;(with_reducible refine G.out.mono ?_);rintro e an ⟨rfl,rfl⟩);go_ret;have o:=Mod.setCell (S:=[bt]) B ⟨bt,11,V⟩ (.func (.func 99) #[] #[aa k,aa d]) J;have I:=F.out.trans (o.av fun b f=>by rw [aO.1 f];exact ⟨p.out.cE,.inl J⟩);have g:=E.out;have x: ∀ c∈(d.heap.size+1)::S,c≠k∧c≠d.heap.size:=fun c M=>by
  rcases bd.1 M with q|q
  ·omega
  ·have:=g c q;omega
 refine ⟨rfl,_,(d.heap.size+1)::S,p.out.next _,⟨d.heap.size+1,k,d.heap.size,rfl,bp.2 ⟨fun q=>(x _ q).1 rfl,(o.box cJ C).cell 0 rfl⟩,bp.2 ⟨fun q=>(x _ q).2 rfl,(o.box cJ v).cell 0 rfl⟩,o.box cJ t,J,fun b f=>by have:=g b (i.out.mem.sub b f);omega,K⟩,I⟩
end
end Go.Proofs.YtbkmjhhpcinppaaGreatDoor
