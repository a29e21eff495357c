import Derived.Test.YtbkmjhhpcinppaaGreatDoorQ8
namespace Go.Proofs.YtbkmjhhpcinppaaGreatDoor
set_option linter.unusedVariables false
set_option linter.defProp false
set_option linter.unusedSimpArgs false
set_option maxRecDepth 100000
set_option maxHeartbeats 40000000
open Ending renaming returned→ap
open Go renaming Addr→ai,Calls→ao,Value→ak,World→ad
open Go.Proofs.Tryz renaming prog→aj
open IntKind renaming i64→U
open Obj renaming cells→X
open Option renaming none→V,some→Z
open Value renaming agg→aw,bool→ah,int→O,slice→ac,string→af
open World renaming alloc→H
variable {A d : List aN} {B : List bK} {s : Int → List aA} {P : Type} {C : List ByteArray} {z : LT} {M : az} {h : cn} {R : Int → List ar} {w : ee} {L : ad} {ab F : Option bQ} {T S cnt I : Nat} {c : cV} {held wr : Bool} {k n p : Int} {key : ByteArray} {lim : aK} {u : aT} {D : dI} {r : g2} {v : bl} {y : ar}
section
open Go.BigFrame Go.RowKit Go.ChangeShapes Go.WideShapes Go.ChangeAt Go.Joins Go.Deep
open Go.ChangeMaps (open_string shut_string)
instance:Inhabited cV:=⟨⟨0,ByteArray.empty,ByteArray.empty⟩⟩
def r8:dK cV:=fun _ c a=>a=[O U c.kind,af c.key,af c.val]∧c.key.size≤maxLen∧c.val.size≤maxLen
theorem vd:fQ r8:=fun _ _ _ _ _ a=>a
abbrev kU (c:ad) (b:Option ai) (n a:Nat) (d:List cV):Prop:=bo r8 3 c b n a d
structure g1 where
 oa:Option ai
 n:Nat
 cap:Nat
 l:List cV
instance:Inhabited g1:=⟨⟨V,0,0,[]⟩⟩
def sq:dK g1:=fun b q a=>a=[ac q.oa q.n q.cap]∧kU b q.oa q.n q.cap q.l
theorem vo:fQ sq:=fun _ _ _ _ b a=>⟨a.1,a.2.ex vd b⟩
abbrev lz (c:ad) (b:Option ai) (n a:Nat) (d:List g1):Prop:=bo sq 1 c b n a d
section
variable {Q : TypeId × ak → P} {h : Program} 
theorem zK{h:Program}{e:TypeId}{c:DataW P}: ∀ {d:List (DataW P)},c∈d→∀ b∈c.weights h e,b∈DataW.weightsAll h e d
 |[],a,_,_=>by cases a
 |x::d,a,b,f=>by
  simp only[DataW.weightsAll,cu];rcases bd.1 a with rfl|a
  ·exact .inl f
  ·exact .inr (zK a b f)
theorem tF{α:Type}[Inhabited α]{E:dK α}(w:DataW P→α→Prop){k:Nat}{t e:TypeId}{ca:Nat}{G:List ak}{x:DataW P×List MemPlace}(F:h.underlying t=Z (.slice e))(ae:h.cellsOf e=k)(aI:0 < k)
  (ax: ∀ (n:Nat) (j:List ak) (y:DataW P×List MemPlace),j.length=k→DataW.trod Q h L T (fun _=>true) held n e j=Z y→∃ a:α,(∀ f∈j,f.oneCell'=true)∧E L a j∧w y.1 a)
  (aq:DataW.trod Q h L T (fun _=>true) held ca t G=Z x):
  ∃ (ab:Option ai) (n z:Nat) (d:List α),G=[ac ab n z]∧bo E k L ab n z d∧(0 < n→∃ aD,(n+aD) * h.bytesOf e∈x.1.weights h t)∧
   ∀ (i:Nat) (y:α),d[i]?=Z y→∃ p:DataW P,w p y∧∀ o∈p.weights h e,o∈x.1.weights h t:=by
 rcases open_slice F aq with⟨r,_⟩|⟨a,I,z,o,n,p,aF,rfl,aG,ay,C,aa,rfl,aA⟩
 ·exact⟨V,0,0,[],r,bo.nil _ _ _,fun q=>absurd q K,fun i y c=>by simp at c⟩
 ·simp only[kb]at aa;subst aa;have an: ∀ i,i < I→∃ q:α×List ak,q.2.length=k∧(∀ l f,q.2[l]?=Z f→L.cell? (a.add (i * k+l))=Z f)∧(∀ f∈q.2,f.oneCell'=true)∧E L q.1 q.2∧w (p i) q.1:=by
   intro i c;obtain⟨j,m,ar⟩:=aA i K;rw[ae]at m;obtain⟨_,W,av⟩:=World.cells?_some m;obtain⟨y,ag,al,am⟩:=ax n j _ W ar;refine⟨(y,j),W,fun l f u=>?_,ag,al,am⟩;have aH:l < j.length:=(c3.1 u).1;have g:=av l K;rw[add_add]at g;rw[g];exact u
  have:Inhabited (α×List ak):=⟨(default,[])⟩;obtain⟨q,D⟩:=choose_lt an;have S: ∀ (i:Nat) (y:α),((List.range I).map fun i=>(q i).1)[i]?=Z y→i < I∧y=(q i).1:=fun i y c=>by
   have m:=(c3.1 c).1;simp only[fM,mM]at m;rw[mW,uW m]at c;exact⟨m,by simpa using c.symm⟩
  refine⟨Z a,I,o,(List.range I).map fun i=>(q i).1,rfl,⟨J,ay,C,fun q=>(by cases q),?_⟩,fun _=>⟨o - I,?_⟩,fun i y c=>?_⟩
  ·obtain⟨b,aC,aE⟩:=a;rcases gm I with r|r
   ·subst r;exact⟨0,0,fun q=>absurd q K,fun i x c=>by simp at c⟩
   ·obtain⟨B,s, -, -, -⟩:=D 0 r;have A:=s 0 ((q 0).2[0]'K) (cP _);have az:aE=none:=by simpa[Addr.add]using World.cell?_spot A
    subst az;rw[qj]at A;refine⟨b,aC,fun _=>⟨rfl,gN A⟩,fun i x c=>?_⟩;obtain⟨v,rfl⟩:=S i x c;obtain⟨B,s,M,N,R⟩:=D i v;refine⟨(q i).2,B,M,N,fun l f u=>?_⟩;have:=s l f u;rw[qj,←rA]at this;exact this
  ·simp only[DataW.weights,F];rw[bd];exact .inl (by rw[fM,mM,fM,mM])
  ·obtain⟨v,rfl⟩:=S i y c;obtain⟨B,s,M,N,R⟩:=D i v;refine⟨p i,R,fun o C=>?_⟩;simp only[DataW.weights,F];rw[bd,cu];exact .inr (.inl (zK (List.mem_map_of_mem (lm.2 v)) o C))
end
theorem vS:aj.cellsOf 40=3:=by kernel_rfl
theorem B4:aj.bytesOf 40=40:=by kernel_rfl
theorem vT:aj.cellsOf 3=1:=by kernel_rfl
theorem Cf:aj.cellsOf 5=1:=by kernel_rfl
theorem Ca:aj.cellsOf 38=1:=by kernel_rfl
theorem Cb:aj.cellsOf 24=1:=by kernel_rfl
theorem Cg:aj.cellsOf 25=1:=by kernel_rfl
theorem Cc:aj.cellsOf 23=6:=by kernel_rfl
theorem Cd:aj.cellsOf 27=8:=by kernel_rfl
section
variable {Q : TypeId × ak → P} {ca : Nat} {G : List ak} {x : DataW P × List MemPlace}
theorem FR(q:DataW.trod Q aj L S (fun _=>true) held ca 38 G=Z x):
  ∃ (b:Option ai) (n a:Nat) (d:List cV),G=[ac b n a]∧kU L b n a d∧(0 < n→∃ v,(n+v) * 40∈x.1.weights aj 38):=by
 obtain⟨b,n,a,d,r,s,o, -⟩:=tF (E:=r8) (fun _ _=>True) Tryz.underlying38 vS K (fun n G y e u=>by
  obtain⟨C,k,_,J,e,t,c⟩:=uD pF u;rw[vS]at e;match G,e with
  |[D,F,I],_=>
   match C,t with
   |[c7,N,P],_=>
    have j:=c 0 _ rfl;have l:=c 1 _ rfl;have m:=c 2 _ rfl;simp[Ce,vT]at j l m;obtain⟨i,f, -⟩:=l7 jA j;obtain⟨w,g, -,A⟩:=DataW.trod_string Tryz.underlying9 l;obtain⟨z,h, -,B⟩:=DataW.trod_string Tryz.underlying9 m;simp only[n7,and_true]at f g h;subst f g h;refine⟨⟨i,w,z⟩,?_,⟨rfl,A,B⟩,trivial⟩;intro M p;simp only[bd,c0,db]at p;rcases p with rfl|rfl|rfl <;> rfl) q
 rw[B4]at o;exact⟨b,n,a,d,r,s,o⟩
theorem FT(m:DataW.trod Q aj L S (fun _=>true) held ca 24 G=Z x):
  ∃ (b:Option ai) (n a:Nat) (d:List g1),G=[ac b n a]∧lz L b n a d∧∀ (i:Nat) (q:g1),d[i]?=Z q→0 < q.n→∃ c,(q.n+c) * 40∈x.1.weights aj 24:=by
 obtain⟨b,n,a,d,o,p, -,r⟩:=tF (E:=sq) (fun e q=>0 < q.n→∃ c,(q.n+c) * 40∈e.weights aj 38) Tryz.underlying24 Ca K (fun n G y z v=>by
  obtain⟨b,w,a,d,j,k,l⟩:=FR v;subst j;refine⟨⟨b,w,a,d⟩,?_,⟨rfl,k⟩,l⟩;intro A f;rw[aO]at f;subst f;rfl) m
 exact⟨b,n,a,d,o,p,fun i q s t=>by
  obtain⟨e,g,h⟩:=r i q s;obtain⟨c,u⟩:=g t;exact⟨c,h _ u⟩⟩
theorem FV(g:DataW.trod Q aj L S (fun _=>true) held ca 25 G=Z x):
  ∃ (b:Option ai) (n a:Nat),G=[ac b n a]∧n≤a∧a≤maxLen:=by
 obtain⟨b,n,a,d,h,c, -, -⟩:=tF (α:=Nat) (E:=fun _ _ _=>True) (fun _ _=>True) Tryz.underlying25 Cf K (fun n G y k j=>by
  obtain⟨i,f, -⟩:=l7 Tryz.underlying5 j;subst f;exact⟨0,fun l e=>by rw[aO]at e;subst e;rfl,trivial,trivial⟩) g
 exact⟨b,n,a,h,c.dj,c.dr⟩
end
theorem FU{Q:TypeId×ak→P}{v:ak}{t:DataW P}{p:List MemPlace}{am:List TypeId}{x:List (DataW P)}{j:Nat}
  (aI:Value.okWide aj L .any T 27 v)(an:DataW.Trod Q aj L S (fun _=>true) held 27 v t p)
  (aG: (DataW.weightsEach aj am x).all (· ≤reachBytes)=true)(aH:am[j]?=Z 27)(av:x[j]?=Z t):
  ∃ (h l m o r s:Int) (g:Option ai) (n e:Nat) (d:List g1) (w:Option ai) (f b:Nat),v=aw #[O U h,l,m,o,r,s,ac g n e,ac w f b]∧
   lz L g n e d∧(f≤b∧b≤maxLen)∧∀ q∈d,q.n≤4000000000000:=by
 obtain ⟨G,rfl,M⟩:=okWide_struct rK aI;rw [Cd] at M;obtain ⟨ca,c⟩:=an;obtain ⟨aK,n,_,aJ,aU,ay,c⟩:=uD rK c;obtain ⟨G⟩:=G;match G,M with
 |[aM,aN,aO,aP,aQ,aR,aS,aT],_=>
  match aK,ay with
  |[c7,aY,aZ],_=>
   have I:=c 0 _ rfl;have J:=c 1 _ rfl;have K:=c 2 _ rfl;simp [Value.cells,Cc,Cb,Cg] at I J K;obtain ⟨aL,aX,_,aW,aV,az,a⟩:=uD fO I;match aL,az with
   |[a1,a2,a3,a4,a5,a6],_=>
    have W:=a 0 _ rfl;have aa:=a 1 _ rfl;have ab:=a 2 _ rfl;have ae:=a 3 _ rfl;have ag:=a 4 _ rfl;have al:=a 5 _ rfl;simp [vT] at W aa ab ae ag al;obtain ⟨h,y, -⟩:=l7 jA W;obtain ⟨l,z, -⟩:=l7 jA aa;obtain ⟨m,A, -⟩:=l7 jA ab;obtain ⟨o,B, -⟩:=l7 jA ae;obtain ⟨r,C, -⟩:=l7 jA ag;obtain ⟨s,D, -⟩:=l7 jA al;obtain ⟨g,k,e,d,E,aq,ar⟩:=FT J;obtain ⟨w,f,b,F,aA,aC⟩:=FV K;simp only [n7,and_true] at y z A B C D E F;subst y z A B C D E F;refine ⟨h,l,m,o,r,s,g,k,e,d,w,f,b,rfl,aq,⟨aA,aC⟩,fun q aE=>?_⟩;obtain ⟨i,ax⟩:=List.mem_iff_getElem?.1 aE;rcases gm q.n with u|u
    ·rw [u];omega
    ·obtain ⟨R,aF⟩:=ar i q ax u;have aD: (q.n+R) * 40∈t.weights aj 27:=by
      have N:=bB Prod.fst aJ;dsimp only at N;rw [N];simp only [DataW.weights,rK];exact DataW.weights_mem_each (j:=1) rfl rfl _ aF
     have:=mT.1 aG _ (DataW.weights_mem_each aH av _ aD);have this: (q.n+R) * 40≤reachBytes:=by simpa using this
     unfold reachBytes at this;omega
end
section
structure kj (u:aT) (key:ByteArray) (wr:Bool):Prop where
 gone:u.g9=false
 held:wr=true→u.hB=false
 has:u.has key=true
def pY (u:aT) (I:Nat) (n:Int) (ab:Option aY) (key:ByteArray) (lim:aK) (wr:Bool):dI→Prop
 | .again=>u.g9=true∨(u.has key=false∧a3.cmp (aF key) (aF u.low) < 0)∨(kj u key wr∧∃ v,u= .aU v∧hx v key=V)
 | .gM dst=>u.g9=false∧u.has key=false∧¬a3.cmp (aF key) (aF u.low) < 0∧dst=u.right
 | .down dst=>kj u key wr∧∃ v e,u= .aU v∧hx v key=Z e∧dst=e.page
 | .post k p=>wr=true∧u.has key=false∧¬a3.cmp (aF key) (aF u.low) < 0∧k=u.high∧p=u.right∧∃ v,ab=Z v∧v.held=false∧gz v u.high=true∧cY u.high v.ag=false
 | .hold p left k=>wr=true∧kj u key wr∧p=n∧∃ v a,u= .leaf v∧v.rows=[]∧ab=Z a∧a.held=false∧gR a.ag n=Z (left,k)
 | .gQ=>wr=true∧u.hB=true
 | .tidy=>wr=true∧kj u key wr
 | .split=>wr=true∧kj u key wr∧lim.rows < u.size∧n≠0
 | .grow=>wr=true∧kj u key wr∧lim.rows < u.size∧n=0
 | .act=>kj u key wr∧∃ v,u= .leaf v
theorem wF{ab:Option aY}(a:kj u key wr):pY u I n ab key lim wr (ji u key):=by
 unfold ji;cases u with
 |leaf v=>exact⟨a,v,rfl⟩
 |aU v=>
  simp only[];cases b:hx v key with
  |none=>exact .inr (.inr ⟨a,v,rfl,b⟩)
  |some e=>exact⟨a,v,e,rfl,b,rfl⟩
theorem Eu{ab:Option aY}(e:kj u key wr)(f:wr=true){D:dI}(a:lQ u n ab=Z D):pY u I n ab key lim wr D:=by
 unfold lQ at a;split at a
 ·rename_i v d;split at a
  ·rename_i c;cases b:gR d.ag n with
   |none=>rw[b]at a;cases a
   |some q=>
    rw[b]at a;simp only[iz,eS]at a;subst a;exact⟨f,e,rfl,v,d,rfl,gH.1 c.1,rfl,c.2,b⟩
  ·cases a
 ·cases a
theorem v9(u:aT)(I:Nat)(n:Int)(ab:Option aY)(key:ByteArray)(lim:aK)(wr:Bool):pY u I n ab key lim wr (dX u I n ab key lim wr):=by
 unfold dX;by_cases e:u.g9=true
 ·rw[a9 e];exact .inl e
 ·rw[aS e];have i:u.g9=false:=by simpa using e
  by_cases f:wr=true∧u.hB=true
  ·rw[a9 f];exact f
  ·rw[aS f];by_cases a:u.has key=false
   ·rw[a9 a];unfold kq;by_cases b:a3.cmp (aF key) (aF u.low) < 0
    ·rw[a9 b];exact .inr (.inl ⟨a,b⟩)
    ·rw[aS b];split
     ·rename_i v;split
      ·rename_i q;exact⟨q.1,a,b,rfl,rfl,v,rfl,q.2.1,q.2.2.1,q.2.2.2⟩
      ·exact⟨i,a,b,rfl⟩
     ·exact⟨i,a,b,rfl⟩
   ·rw[aS a];have d:kj u key wr:=⟨i,fun q=>by
     cases j:u.hB with
     |false=>rfl
     |true=>exact absurd ⟨q,j⟩ f,by simpa using a⟩
    by_cases c:wr=true
    ·rw[a9 c];unfold jx;by_cases k:lim.chain < I
     ·rw[a9 k];exact⟨c,d⟩
     ·rw[aS k];by_cases g:lim.rows < u.size∧n=0
      ·rw[a9 g];exact⟨c,d,g⟩
      ·rw[aS g];by_cases h:lim.rows < u.size
       ·rw[a9 h];exact⟨c,d,h,fun q=>g ⟨h,q⟩⟩
       ·rw[aS h];cases j:lQ u n ab with
        |none=>exact wF d
        |some D=>exact Eu d c j
    ·rw[aS c];exact wF d
theorem xZ(a:bT y)(o:Option aA):bT (h0 y o):=⟨a.rows,a.ag⟩
theorem x0(y:ar)(o:Option aA): ((h0 y o).x.slot,(h0 y o).x.gen)=a4 o:=rfl
theorem H7(a:r.kind=2):dg v r=if gf ⟨r.key,r.val⟩=true∧v.gone=false∧gg v r.key=true then Z {v with rows:=ec v.rows ⟨r.key,r.val⟩}else none:=by
 unfold dg;rw[a9 a]
theorem H8(a:r.kind=3):dg v r=if v.gone=false∧gg v r.key=true then Z {v with rows:=et v.rows r.key}else none:=by
 unfold dg;rw[aS (by rw[a];decide),a9 a]
theorem H9(a:r.kind=4):dg v r=if v.gone=false∧gg v r.key=true∧a3.cmp (aF v.low) (aF r.key) < 0 then Z {v with rows:=v.rows.take (place r.key v.rows),high:=r.key,unb:=false,right:=r.page}else none:=by
 unfold dg;rw[aS (by rw[a];decide),aS (by rw[a];decide),a9 a]
theorem Ia(a:r.kind=5):dg v r=if v.gone=false then Z {v with gone:=true}else none:=by
 unfold dg;rw[aS (by rw[a];decide),aS (by rw[a];decide),aS (by rw[a];decide),aS (by rw[a];decide),a9 a]
theorem Ib(a:r.kind=6):dg v r=if v.gone=false∧v.unb=false∧v.high=r.key∧hf r.rows r.key r.high r.unb=true∧(r.unb=true∨a3.cmp (aF r.key) (aF r.high) < 0)∧lR v.rows r.rows=true then Z {v with rows:=v.rows++r.rows,high:=r.high,unb:=r.unb,right:=r.right}else none:=by
 unfold dg;rw[aS (by rw[a];decide),aS (by rw[a];decide),aS (by rw[a];decide),a9 a]
theorem pv(b:y.x.r.kind=k)(a:1≤k∧k≤6):fD (.leaf v) y=(dg v y.x.r).map .leaf:=by
 unfold fD;dsimp only;rw[b,a9 a]
theorem rp{v:aY}(b:y.x.r.kind=k)(a:7≤k∧k≤11):fD (.aU v) y=(hh v y).map .aU:=by
 unfold fD;dsimp only;rw[b,a9 a]
theorem H4{a:ByteArray}(b:v.gone=false)(c:gg v key=true)(d:gf ⟨key,a⟩=true):fD (.leaf v) (eP key a)=Z (.leaf {v with rows:=ec v.rows ⟨key,a⟩}):=by
 rw[pv (k:=2) rfl bP,H7 rfl];exact(bB (Option.map aT.leaf) (a9 ⟨d,b,c⟩)).trans rfl
theorem HX(a:v.gone=false)(b:gg v key=true):fD (.leaf v) (lI key)=Z (.leaf {v with rows:=et v.rows key}):=by
 rw[pv (k:=3) rfl bP,H8 rfl];exact(bB (Option.map aT.leaf) (a9 ⟨a,b⟩)).trans rfl
theorem H5(a:v.gone=false):fD (.leaf v) kB=Z (.leaf {v with gone:=true}):=by
 rw[pv (k:=5) rfl bP,Ia rfl,a9 a];rfl
theorem H6(a:v.gone=false)(b:gg v key=true)(c:a3.cmp (aF v.low) (aF key) < 0):fD (.leaf v) ⟨hZ key p,[]⟩=Z (.leaf {v with rows:=v.rows.take (place key v.rows),high:=key,unb:=false,right:=p}):=by
 rw[pv (k:=4) rfl bP,H9 rfl];exact(bB (Option.map aT.leaf) (a9 ⟨a,b,c⟩)).trans rfl
theorem H2{g:bl}(b:v.gone=false)(c:v.unb=false)(d:v.high=g.low)(a:g.rows=[])(e:g.unb=true→g.high=b8)(f:g.unb=true∨a3.cmp (aF g.low) (aF g.high) < 0):fD (.leaf v) (hb g)=Z (.leaf ⟨v.low,g.high,g.unb,g.right,v.rows++g.rows,false⟩):=by
 rw[pv (k:=6) rfl bP,Ib rfl];have i:hf g.rows g.low g.high g.unb=true:=by
  rw[y8];refine y6.2 ⟨?_,e,?_⟩
  ·rw[a];decide
  ·rw[a];intro x j;cases j
 have h:lR v.rows g.rows=true:=by
  unfold lR;rw[dp];exact .inr (.inl a)
 refine(bB (Option.map aT.leaf) (a9 ⟨b,c,d,i,f,h⟩)).trans ?_;cases v;cases b;rfl
theorem HV{v:aY}(a:y.x.r.kind=8)(b:v.held=false):hh v y=if cY y.x.r.key v.ag=true∨gz v y.x.r.key=false then V
   else Z {v with ag:=v.ag.take (bG y.x.r.key v.ag)++[⟨y.x.r.key,y.x.r.page⟩]++v.ag.drop (bG y.x.r.key v.ag)}:=by
 unfold hh;rw[a9 ⟨a,b⟩]
theorem HW{v:aY}(a:y.x.r.kind=9)(b:v.held=false):hh v y=if cY y.x.r.key v.ag=false∨bG y.x.r.key v.ag=0 then V
   else Z {v with ag:=v.ag.take (bG y.x.r.key v.ag),high:=y.x.r.key,unb:=false,right:=y.x.r.page}:=by
 unfold hh;rw[aS (by rw[a];exact fun q=>absurd q.1 bP),a9 ⟨a,b⟩]
theorem HT{v:aY}(a:y.x.r.kind=10)(b:v.held=false):hh v y=if cY y.x.aD v.ag=false∨bG y.x.aD v.ag=0∨(bw v.ag (bG y.x.aD v.ag)).page≠y.x.aH∨(bw v.ag (bG y.x.aD v.ag - 1)).page≠y.x.bb then V
   else Z {v with held:=true,aH:=y.x.aH,bb:=y.x.bb,aD:=y.x.aD}:=by
 unfold hh;rw[aS (by rw[a];exact fun q=>absurd q.1 bP),aS (by rw[a];exact fun q=>absurd q.1 bP),a9 ⟨a,b⟩]
theorem HU{v:aY}(a:y.x.r.kind=11)(b:v.held=true):hh v y=Z {v with ag:=v.ag.take (bG v.aD v.ag)++v.ag.drop (bG v.aD v.ag+1),held:=false,aH:=0,bb:=0,aD:=ByteArray.empty}:=by
 unfold hh;rw[aS (by rw[a];exact fun q=>absurd q.1 bP),aS (by rw[a];exact fun q=>absurd q.1 bP),aS (by rw[a];exact fun q=>absurd q.1 bP),a9 ⟨a,b⟩]
theorem H3{v:aY}(a:v.held=false)(b:cY key v.ag=false)(c:gz v key=true):fD (.aU v) (qR key p)=Z (.aU {v with ag:=v.ag.take (bG key v.ag)++[⟨key,p⟩]++v.ag.drop (bG key v.ag)}):=by
 rw[rp (k:=8) rfl bP,HV rfl a];exact(bB (Option.map aT.aU) (aS (show ¬ (cY key v.ag=true∨gz v key=false)by rw[b,c];decide))).trans rfl
theorem H0{v:aY}(a:v.held=false)(b:cY key v.ag=true)(c:bG key v.ag≠0):fD (.aU v) (jn key p)=Z (.aU {v with ag:=v.ag.take (bG key v.ag),high:=key,unb:=false,right:=p}):=by
 rw[rp (k:=9) rfl bP,HW rfl a];exact(bB (Option.map aT.aU) (aS (show ¬ (cY key v.ag=false∨bG key v.ag=0)from fun q=>q.elim (fun q=>by rw[b]at q;cases q) c))).trans rfl
theorem HZ{v:aY}{left:Int}{A B:List cw}{x y:cw}(e:v.held=false)(a:v.ag=A++x::y::B)(c:bG key v.ag=A.length+1)(f:y.key=key)(g:y.page=p)(h:x.page=left):fD (.aU v) (qL p left key)=Z (.aU {v with held:=true,aH:=p,bb:=left,aD:=key}):=by
 have b:bw v.ag (A.length+1)=y:=by
  rw[a,jg J];simp
 have d:bw v.ag A.length=x:=by
  rw[a,jg J];simp
 have i:cY key v.ag=true:=by
  unfold cY;rw[c,b];exact eo ⟨by rw[a];simp,f⟩
 rw[rp (k:=10) rfl bP,HT rfl e];have j: ¬ (cY key v.ag=false∨bG key v.ag=0∨(bw v.ag (bG key v.ag)).page≠p∨(bw v.ag (bG key v.ag - 1)).page≠left):=by
  rw[i,c,rY,b,d];rintro(q|q|q|q)
  ·cases q
  ·omega
  ·exact q g
  ·exact q h
 exact(bB (Option.map aT.aU) (aS j)).trans rfl
theorem HY{v:aY}(a:v.held=true):fD (.aU v) gS=Z (.aU {v with ag:=v.ag.take (bG v.aD v.ag)++v.ag.drop (bG v.aD v.ag+1),held:=false,aH:=0,bb:=0,aD:=b8}):=by
 rw[rp (k:=11) rfl bP,HU rfl a];rfl
theorem o9(b:dO v.rows=true)(c:v.unb=true→v.high=b8)(d: ∀ x∈v.rows,cU v.low v.high v.unb x=true):dw [⟨bY v,[]⟩]=Z (.leaf {v with gone:=false}):=by
 have a:dw [⟨bY v,[]⟩]=(g8 (eQ [⟨bY v,[]⟩])).1.map .leaf:=by
  unfold dw;dsimp only[List.getLast?_singleton];exact a9 rfl
 rw[a];unfold g8;have e:lb (eQ [⟨bY v,[]⟩]):=fun r g=>by
  have:r=(bY v).r:=by simpa using g
  subst this;exact⟨by show(1:Int)≤1;decide,by show(1:Int)≤6;decide⟩
 rw[a9 e];have f: (eQ [⟨bY v,[]⟩]).getLast?=Z (bY v).r:=rfl;rw[f];dsimp only;have h: (bY v).r.kind=1∧hf (bY v).r.rows (bY v).r.low (bY v).r.high (bY v).r.unb=true:=⟨rfl,by rw[y8];exact y6.2 ⟨b,c,d⟩⟩;rw[a9 h];rfl
theorem GU{v:aY}(a:h8 v)(f:v.low.size≤16)(e:v.high.size≤16)(h:v.unb=true→v.high=b8):lA v:=by
 obtain⟨k,l,d,j⟩:=a.first;refine⟨by rw[d];simp,by rw[d];exact j,h,fun i b=>⟨?_,fun m=>?_⟩⟩
 ·have c:bw v.ag i∈v.ag:=by rw[jg b];exact hI b
  exact(iM f e (a.ok.b6 _ c)).2 ⟨a.lo c,a.high _ c⟩
 ·have c:bw v.ag i∈v.ag:=by rw[jg b];exact hI b
  have g:bw v.ag (i - 1)∈v.ag:=by rw[jg K];exact hI _
  refine(gC (a.ok.b6 _ g) (a.ok.b6 _ c)).2 ?_;have:=lp.1 a.ok.ord (i - 1) i K b K;rw[jg b,jg (show i - 1 < v.ag.length by omega)];exact this
theorem o8{v:aY}(e:y=bA v∨(y.x=eW ⟨v.low,v.high,v.unb,v.right,[],false⟩∧y.ag=v.ag))(a:h8 v)(g:v.low.size≤16)(f:v.high.size≤16)(i:v.unb=true→v.high=b8):dw [y]=Z (.aU {v with held:=false,aH:=0,bb:=0,aD:=b8}):=by
 have b:y.x.r.kind=7:=by
  rcases e with rfl|⟨q, -⟩
  ·rfl
  ·rw[q]
 have c:hO y={v with held:=false,aH:=0,bb:=0,aD:=b8}:=by
  rcases e with rfl|⟨j,k⟩
  ·rfl
  ·unfold hO;rw[j,k]
 unfold dw;simp only[uE];rw[aS (by rw[b];decide)];unfold foldI;rw[a9 (fun r d=>by
  rw[aO]at d;subst d;rw[b];decide)]
 simp only[uE];have h:lA (hO y):=by
  rw[c];exact GU (v:={v with held:=false,aH:=0,bb:=0,aD:=b8}) ⟨a.ok,a.first,a.high⟩ g f i
 rw[a9 ⟨b,h⟩,c];rfl
structure ck (lim:aK) (C:List ByteArray) (M:az) (B:List bK) (w:ee) (z:LT) (s:Int→List aA) (R:Int→List ar) (d:List aN):Prop where
 bj:cD w z d
 mem:cX M s R B
 eZ: ∀ p a x,w p=Z (a,x)→s p≠[]∧dw (R p)=Z x
 im: ∀ p g,z p=Z g→s p≠[]∧dw (R p)=Z (.leaf g)
 ls:M.aQ.length=lim.aQ
 fB:M.ax.length=lim.ax
 jr: ∀ x∈d,x.key∈C
section
theorem zD(M:az):b7 M≤M.aQ.length:=kg _ _
theorem ck.yi(a:ck lim C M B w z s R d){n:Int}{x:aT}(c:s n≠[])(g:dw (R n)=Z x):dS lim M ⟨n,s n,R n,x⟩:=by
 obtain⟨e,f⟩:=a.mem.cc n c;refine⟨c,e,f,a.mem.gw n,g,?_,a.mem.k8 n⟩;have:=a.mem.count (vs:=[n]) J;simp only[kc,rz,l8,List.sum_nil,gI]at this;have b:=zD M;rw[a.ls]at b;exact bZ this b
theorem ck.page(b:ck lim C M B w z s R d){n:Int}{a:Nat}{x:aT}(c:w n=Z (a,x)):dS lim M ⟨n,s n,R n,x⟩:=b.yi (b.eZ n a x c).1 (b.eZ n a x c).2
theorem ck.yk(a:ck lim C M B w z s R d){n:Int}{g:bl}(b:z n=Z g):dS lim M ⟨n,s n,R n,.leaf g⟩:=a.yi (a.im n g b).1 (a.im n g b).2
theorem zf(f:Int→Nat): ∀ a:List Int,(a.map fun p=>1+f p).sum=a.length+(a.map f).sum
 |[]=>rfl
 |p::a=>by
  rw[kc,l8,zf f a,kc,l8,fY];omega
theorem ck.cost(a:ck lim C M B w z s R d){vs:List Int}(f:vs.Nodup)(b: ∀ p∈vs,s p≠[]): (vs.map fun p=>1+(s p).length).sum≤lim.ax+b7 M:=by
 rw[zf];have n:=a.mem.count f;have g: (vs.map Int.toNat).Nodup:=by
  rw[h4,l6];refine(h4.1 f).imp_of_mem fun {p q} c l k e=>k ?_;have:=(a.mem.cc p (b p c)).1;have:=(a.mem.cc q (b q l)).1;omega
 have h:=mA (m:=List.range lim.ax) g fun i j=>by
  obtain⟨p,c,rfl⟩:=kE.1 j;have:=(a.mem.cc p (b p c)).2;rw[lm,←a.fB];exact(c3.1 this).1
 rw[fM,mM]at h;omega
def oA (ab:Option bQ):Option (Int×aY):=ab.map fun A=>(A.n,A.view)
def r4 (s:Int→List aA) (ab:Option bQ):Prop:=∀ A,ab=Z A→(s A.n).head?=Z A.head
structure gd (lim:aK) (key:ByteArray) (M:az) (wr:Bool) (w:ee) (z:LT) (s:Int→List aA) (R:Int→List ar) (n:Int) (ab:Option bQ) (k:Nat) (h:cn) (F:Option bQ) (pl:dI):Prop where
 walk:de lim key M wr n ab k h F pl
 ok:r4 s F
 dec:dX h.nd h.refs.length h.n (F.map bQ.view) key lim wr=pl
 fin:pl.final=true
 refs:h.refs=s h.n
 ek:h.ek=R h.n
 pl: (∃ a,hL w key wr h.n (oA F) a h.nd)∨va w z wr h.n (oA F) h.nd
theorem gd.page{k:Nat}(b:ck lim C M B w z s R d)(f:gd lim key M wr w z s R n ab k h F D):s h.n≠[]∧dw (R h.n)=Z h.nd:=by
 rcases f.pl with⟨a,q⟩|q
 ·exact b.eZ _ _ _ q.cc
 ·obtain⟨g,c,e, -⟩:=q.cc;rw[e];exact b.im _ _ c
theorem IA(m:ck lim C M B w z s R d){key:ByteArray}(T:key.size≤16){wr:Bool}: ∀ (Q:Nat) (n:Int) (ab:Option bQ) (a:Nat) (u:aT),a * (eL+1)+(eL - u.lo)≤Q→hL w key wr n (oA ab) a u→r4 s ab→
  ∃ (k:Nat) (h:cn) (F:Option bQ) (D:dI) (o:List Int),gd lim key M wr w z s R n ab k h F D∧k=(o.map fun p=>1+(s p).length).sum∧o.Nodup∧∀ p∈o,s p≠[]∧((∃ b y,w p=Z (b,y)∧(b < a∨(b=a∧u.lo≤y.lo)))∨∃ g,z p=Z g):=by
 intro Q;induction Q with
 |zero=>
  intro n ab a u aK c;have aM:u.lo < eL:=hX _;omega
 |succ Q ih=>
  intro n ab a u aK c ax;have N:=m.page c.cc;have G:=(m.eZ _ _ _ c.cc).1;have aC:=m.bj.b6 _ _ _ c.cc;have aP:u.lo < eL:=hX _;have P:=v9 u (s n).length n (ab.map bQ.view) key lim wr;have t: ∀ D,dX u (s n).length n (ab.map bQ.view) key lim wr=D→D.final=true→
    ∃ (k:Nat) (h:cn) (F:Option bQ) (D:dI) (o:List Int),gd lim key M wr w z s R n ab k h F D∧k=(o.map fun p=>1+(s p).length).sum∧o.Nodup∧∀ p∈o,s p≠[]∧((∃ b y,w p=Z (b,y)∧(b < a∨(b=a∧u.lo≤y.lo)))∨∃ g,z p=Z g):=fun D f aA=>
   ⟨_,⟨n,s n,R n,u⟩,ab,D,[n],⟨.stop N f aA,ax,f,aA,rfl,rfl,.inl ⟨a,c⟩⟩,J,J,fun p j=>by
    rw[aO]at j;subst j;exact⟨G,.inl ⟨a,u,c.cc,.inr ⟨rfl,aG _⟩⟩⟩⟩
  cases f:dX u (s n).length n (ab.map bQ.view) key lim wr with
  |gM dst=>
   rw[f]at P;obtain⟨ag,al,aV,rfl⟩:=P;have aR: ¬ (u.lo≤aE key∧aE key < u.hi):=fun q=>by
    have:=(nu aC T).2 q;rw[al]at this;cases this
   have aN:=c.le;obtain⟨x,E,aW⟩:=c.gM m.bj K;have aS:=m.bj.span _ _ _ c.cc;have aL:x.lo < eL:=hX _;obtain⟨k,h,F,D,o,i,am,an,I⟩:=ih u.right ab a x K E ax;refine⟨_,h,F,D,n::o,⟨.right N f i.walk,i.ok,i.dec,i.fin,i.refs,i.ek,i.pl⟩,by rw[kc,l8,am],fN.2 ⟨fun W=>?_,an⟩,fun p j=>?_⟩
   ·rcases(I n W).2 with⟨b,y,l,ae⟩|⟨g,l⟩
    ·rw[c.cc]at l;obtain⟨rfl,rfl⟩:=cs l;omega
    ·have:=(m.bj.lim _ _ l).1;rw[c.cc]at this;cases this
   ·rcases bd.1 j with rfl|j
    ·exact⟨G,.inl ⟨a,u,c.cc,.inr ⟨rfl,aG _⟩⟩⟩
    ·obtain⟨aa,q⟩:=I p j;refine⟨aa,?_⟩;rcases q with⟨b,y,l,ae⟩|q
     ·exact .inl ⟨b,y,l,K⟩
     ·exact .inr q
  |down dst=>
   rw[f]at P;obtain⟨ag,v,e,rfl,al,rfl⟩:=P;obtain⟨cT,S⟩: ∃ r,(s n).head?=Z r:=by
    cases aJ:s n with
    |nil=>exact absurd aJ G
    |cons r aU=>exact⟨r,rfl⟩
   have ay:r4 s (Z ⟨n,cT,v⟩):=fun A ar=>by cases ar;exact S
   obtain⟨ar,av,aF⟩:=c.down m.bj T ((nu aC T).1 ag.has).2 (fun q=>ag.held q);rw[al]at av;cases av;rcases aF with⟨b,x,rfl,E⟩|⟨x,E⟩
   ·have aL:x.lo < eL:=hX _;have aQ: (b+1) * (eL+1)=b * (eL+1)+(eL+1):=Nat.succ_mul _ _;obtain⟨k,h,aD,D,o,i,am,an,I⟩:=ih e.page (Z ⟨n,cT,v⟩) b x K E ay;refine⟨_,h,aD,D,n::o,⟨.down N rfl S f i.walk,i.ok,i.dec,i.fin,i.refs,i.ek,i.pl⟩,by rw[kc,l8,am],fN.2 ⟨fun W=>?_,an⟩,fun p j=>?_⟩
    ·rcases(I n W).2 with⟨aq,y,l,ae⟩|⟨g,l⟩
     ·rw[c.cc]at l;obtain⟨rfl,rfl⟩:=cs l;omega
     ·have:=(m.bj.lim _ _ l).1;rw[c.cc]at this;cases this
    ·rcases bd.1 j with rfl|j
     ·exact⟨G,.inl ⟨b+1,_,c.cc,.inr ⟨rfl,aG _⟩⟩⟩
     ·obtain⟨aa,q⟩:=I p j;refine⟨aa,?_⟩;rcases q with⟨aq,y,l,ae⟩|q
      ·exact .inl ⟨aq,y,l,K⟩
      ·exact .inr q
   ·obtain⟨g,L,rfl,aH⟩:=E.cc;have aI:=m.yk L;have az:dX (.leaf g) (s e.page).length e.page ((Z (⟨n,cT,v⟩:bQ)).map bQ.view) key lim wr= .again:=by
     unfold dX;rw[a9 (show(aT.leaf g).g9=true from aH)]
    refine⟨_,⟨e.page,s e.page,R e.page,.leaf g⟩,Z ⟨n,cT,v⟩,.again,[n,e.page],⟨.down N rfl S f (.stop aI az rfl),ay,az,rfl,rfl,rfl,.inr E⟩,J,?_,fun p j=>?_⟩
    ·rw[fN];refine⟨fun q=>?_,J⟩;rw[aO]at q;have:=(m.bj.lim _ _ L).1;rw[←q,c.cc]at this;cases this
    ·simp only[bd,c0,db]at j;rcases j with rfl|rfl
     ·exact⟨G,.inl ⟨a,_,c.cc,.inr ⟨rfl,aG _⟩⟩⟩
     ·exact⟨(m.im _ _ L).1,.inr ⟨g,L⟩⟩
  |again=>exact t _ f rfl
  |post k p=>exact t _ f rfl
  |hold p q k=>exact t _ f rfl
  |gQ=>exact t _ f rfl
  |tidy=>exact t _ f rfl
  |split=>exact t _ f rfl
  |grow=>exact t _ f rfl
  |act=>exact t _ f rfl
theorem IB(b:ck lim C M B w z s R d){key:ByteArray}(f:key.size≤16)(wr:Bool): ∃ k h F D,gd lim key M wr w z s R 0 V k h F D∧k≤lim.ax+b7 M:=by
 obtain⟨a,u,c⟩:=b.bj.start key wr;obtain⟨k,h,F,D,n,i,j,l,m⟩:=IA b f _ 0 V a u (aG _) c (fun A e=>by cases e);exact⟨k,h,F,D,i,by rw[j];exact b.cost l fun p g=>(m p g).1⟩
end
end
section
open Go.BigFrame Go.RowKit Go.WideShapes
abbrev o4 (a b c d e f:Int):List ak:=[O U a,O U b,O U c,O U d,O U e,O U f]
abbrev iP (a b c d e f:Int) (j:Option ai) (n g:Nat) (k:Option ai) (i h:Nat):List ak:=[O U a,O U b,O U c,O U d,O U e,O U f,ac j n g,ac k i h]
def vb (h:Prop) (a:ad) (e:Ending) (c:ad):Prop:=∃ b,e=ap (ah b)∧(b=true→h)∧Y a c
theorem Gt(a b c f g i:Int)(d:ad):ao aj 21 #[aw (o4 a b c f g i)] d (vb (4≤a∧3≤b∧1≤c∧(2≤f∧f≤64)∧(2≤g∧g≤64)∧(8≤i∧i≤1099511627776)) d):=by
 have q:Y d (H d (X (o4 a b c f g i) 23)):=(Y.refl d).alloc _;have e:ae (H d (X (o4 a b c f g i) 23)) d.heap.size (o4 a b c f g i):=(ae.new d _ _ rfl).of J;have c7:=e.cell 0 rfl;have z:=e.cell 1 rfl;have A:=e.cell 2 rfl;have B:=e.cell 3 rfl;have C:=e.cell 4 rfl;have D:=e.cell 5 rfl;clear e;by_cases p:4≤a∧a≤4096∧3≤b∧b≤256∧1≤c∧c≤64
 ·obtain ⟨r,w,s,x,t,y⟩:=p;have j:decide (a < 4)=false:=dz K;have k:decide (4096 < a)=false:=dz K;have m:decide (b < 3)=false:=dz K;have n:decide (256 < b)=false:=dz K;have o:decide (c < 1)=false:=dz K;have u:decide (64 < c)=false:=dz K;have h:=N (And.intro r (And.intro s t));clear r w s x t y;go_enter Tryz.func21,Tryz.ntmps21;go_wp2_with fail;all_goals
   go_ret;have:=h.out;refine ⟨_,rfl,fun l=>?_,q⟩;first
    |(cases l;done)
    |(have l:=uJ l;omega)
 ·have v:decide (a < 4)=true∨(decide (a < 4)=false∧decide (4096 < a)=true)∨(decide (a < 4)=false∧decide (4096 < a)=false∧decide (b < 3)=true)∨(decide (a < 4)=false∧decide (4096 < a)=false∧decide (b < 3)=false∧decide (256 < b)=true)∨(decide (a < 4)=false∧decide (4096 < a)=false∧decide (b < 3)=false∧decide (256 < b)=false∧decide (c < 1)=true)∨(decide (a < 4)=false∧decide (4096 < a)=false∧decide (b < 3)=false∧decide (256 < b)=false∧decide (c < 1)=false∧decide (64 < c)=true):=by
   simp only [ke,hH];omega
  clear p;rcases v with j|⟨j,k⟩|⟨j,k,m⟩|⟨j,k,m,n⟩|⟨j,k,m,n,o⟩|⟨j,k,m,n,o,u⟩
  all_goals
   go_enter Tryz.func21,Tryz.ntmps21;go_wp2_with fail;go_ret;exact ⟨false,rfl,fun l=>(by cases l),q⟩
end
section
theorem sH{M s:List aN}(a:gp key d A M s){r:aN}(f:r.key=key):
  ec d r=A++[r]++s∧et d key=A++s∧(hasB key d=true↔M≠[])∧ds key d=(M.head?.map aN.val).getD b8:=by
 have e:=a.place;have c:=a.eq;cases M with
 |nil=>
  have b:=a.xa;unfold ec et ds;rw[f,b,e,c];simp
 |cons x M=>
  have g:=a.one;obtain rfl:M=[]:=by
   cases M with
   |nil=>rfl
   |cons y M=>simp at g
  obtain⟨b,i⟩:=a.has;have h:dx d (place key d)=x.val:=by unfold dx;rw[i]
  unfold ec et ds;rw[f,b,h,e,c];simp[lq]
theorem vz(a:dO d=true): ∃ A M s,gp key d A M s:=by
 obtain⟨A,M,s,q, -⟩:=yy (r:=⟨key,b8⟩) ((js d).1 a).2;exact⟨A,M,s,q⟩
theorem A4{M s:List aN}(a:gp key d A M s)(c:aN→Bool):gp key (d.filter c) (A.filter c) (M.filter c) (s.filter c):=by
 refine⟨by rw[a.eq,gn,gn],fun r b=>a.low r (gW.1 b).1,fun r b=>a.fi r (gW.1 b).1,bZ (kg _ _) a.one,fun r b=>a.high r (gW.1 b).1⟩
theorem xW{M s:List aN}(e:gp key d A M s){c:aN→Bool}{b:Bool}(f: ∀ x,x.key=key→c x=b):M.filter c=if b=true then M else[]:=by
 cases b
 ·rw[aS bP];exact pE.2 fun x a=>by rw[f x (e.fi x a)];decide
 ·rw[a9 rfl];exact rL.2 fun x a=>f x (e.fi x a)
theorem Dq(n:dO d=true){a:aN→Bool}{r:aN}(f: ∀ x,x.key=r.key→a x=true):
  hasB r.key (d.filter a)=hasB r.key d∧ds r.key (d.filter a)=ds r.key d∧ec (d.filter a) r=(ec d r).filter a∧et (d.filter a) r.key=(et d r.key).filter a:=by
 obtain⟨A,M,s,b⟩:=vz (key:=r.key) n;obtain⟨h,i,j,k⟩:=sH b (r:=r) rfl;obtain⟨l,m,c,e⟩:=sH (A4 b a) (r:=r) rfl;have g:=xW b f;rw[a9 rfl]at g;rw[g]at c e;refine⟨?_,by rw[k,e],?_,?_⟩
 ·rw[iY,j,c]
 ·rw[h,l,gn,gn];rw[show([r]:List aN).filter a=[r]by rw[h3,f r rfl];rfl]
 ·rw[i,m,gn]
theorem wB(i:dO d=true){a:aN→Bool}{r:aN}(c: ∀ x,x.key=r.key→a x=false):
  (ec d r).filter a=d.filter a∧(et d r.key).filter a=d.filter a:=by
 obtain⟨A,M,s,b⟩:=vz (key:=r.key) i;obtain⟨f,g,j,k⟩:=sH b (r:=r) rfl;have e:=xW b c;rw[aS bP]at e;have h:d.filter a=(A++M++s).filter a:=bB (List.filter a) b.eq;rw[f,g,h];simp only[gn,e,me];rw[show([r]:List aN).filter a=[]by rw[h3,c r rfl];rfl];simp
def ei (c:cV) (d:List aN):List aN×ByteArray×Int:=
 if hasB c.key d=true∧c.kind=2 then(d,b8,7)
 else if hasB c.key d=false∧c.kind≠2∧c.kind≠4 then(d,b8,6)
 else if c.kind=1 then(d,ds c.key d,0)
 else if c.kind=5 then(et d c.key,ds c.key d,0)
 else(ec d ⟨c.key,c.val⟩,ds c.key d,0)
structure ga (c:cV):Prop where
 kind:1≤c.kind∧c.kind≤5
 key:j3 c.key=true
 val:c.kind≠1→c.kind≠5→c.val.size≤16
theorem ga.b6(a:ga c):c.key.size≤16:=by
 have:=a.key;unfold j3 at this;rw[dp]at this;exact this.2
theorem ga.fits(a:ga c)(b:c.kind≠1)(d:c.kind≠5):gf ⟨c.key,c.val⟩=true:=by
 unfold gf;rw[fZ,dp];exact⟨a.key,a.val b d⟩
section
theorem xy{c:az}{r:aA}(a:c8 cnt M p y= .ok r c): ∃ b,b2 cnt M y= .ok r b∧c=b1 b p (Z r):=by
 unfold c8 at a;cases d:b2 cnt M y with
 |ok fC b=>
  rw[d]at a;simp only[jJ.ok.injEq]at a;obtain⟨rfl,rfl⟩:=a;exact⟨b,rfl,rfl⟩
 |no e=>rw[d]at a;cases a
theorem iO{e:Int}(a:c8 cnt M p y= .no e):e=3∨e=5:=by
 unfold c8 at a;cases b:b2 cnt M y with
 |ok fC c=>rw[b]at a;cases a
 |no d=>
  rw[b]at a;simp only[jJ.no.injEq]at a;subst a;exact mn b
theorem jP{a:az}{r:aA}(b:b2 cnt M y= .ok r a):a.aQ.length=M.aQ.length:=by
 obtain⟨rfl, -⟩:=k4 b;exact jz ..
theorem hA(M:az)(p:Int)(r:Option aA): (b1 M p r).ax.length=M.ax.length:=jz ..
theorem ck.lS(a:ck lim C M B w z s R d){b:az}{c:List bK}(g:cX b s R c)(e:b.aQ.length=M.aQ.length)(f:b.ax.length=M.ax.length):ck lim C b c w z s R d:=
 ⟨a.bj,g,a.eZ,a.im,by rw[e];exact a.ls,by rw[f];exact a.fB,a.jr⟩
theorem ck.views(i:ck lim C M B w z s R d){p:Int}{x':aT}{C':Int→List aA}{R':Int→List ar}(h: ∀ q,q≠p→C' q=s q∧R' q=R q)(o:C' p≠[]∧dw (R' p)=Z x'){l:ee}{k:LT}
  (n: ∀ q a c,l q=Z (a,c)→(q=p∧c=x')∨(q≠p∧∃ b,w q=Z (b,c)))(m: ∀ q g,k q=Z g→q≠p∧(z q=Z g∨∃ b,w q=Z (b,.leaf g))):
  (∀ q a c,l q=Z (a,c)→C' q≠[]∧dw (R' q)=Z c)∧∀ q g,k q=Z g→C' q≠[]∧dw (R' q)=Z (.leaf g):=by
 refine⟨fun q a c j=>?_,fun q g j=>?_⟩
 ·rcases n q a c j with⟨rfl,rfl⟩|⟨f,b,e⟩
  ·exact o
  ·rw[(h q f).1,(h q f).2];exact i.eZ q b c e
 ·obtain⟨f,e⟩:=m q g j;rw[(h q f).1,(h q f).2];rcases e with e|⟨b,e⟩
  ·exact i.im q g e
  ·exact i.eZ q b _ e
structure st (lim:aK) (C:List ByteArray) (M a:az) (B:List bK) (c:ee) (b:LT) (s:Int→List aA) (R:Int→List ar) (p:Int) (r:aA) (y:ar) (d:List aN):Prop where
 inv:ck lim C a B c b (dM s p (r::s p)) (dM R p (y::R p)) d
 used:b7 a=b7 M+1
 now:a.now=M.now
 ins:a.ins=M.ins
theorem ck.pc(e:ck lim C M B w z s R d){p:Int}{x x':aT}(t:s p≠[])(G:dw (R p)=Z x){c:aA}(u: (s p).head?=Z c){y:ar}(I:bT y)(F:fD x y=Z x'){r:aA}{k:az}(v:c8 lim.count M p (nx y c)= .ok r k){h:ee}{f:LT}{i:List aN}(E:cD h f i)(A: ∀ x∈i,x.key∈C)
  (o: ∀ q a j,h q=Z (a,j)→(q=p∧j=x')∨(q≠p∧∃ b,w q=Z (b,j)))(n: ∀ q g,f q=Z g→q≠p∧(z q=Z g∨∃ b,w q=Z (b,.leaf g))):
  st lim C M k B h f s R p r (nx y c) i:=by
 obtain⟨aa,l,rfl⟩:=xy v;obtain⟨J,K,L,N,P,Q,S,ab⟩:=e.mem.alloc l;have D:=J.push t (xZ I (Z c)) K L (by rw[u];exact x0 y (Z c));obtain⟨T,W⟩:=e.views (p:=p) (x':=x') (C':=dM s p (r::s p)) (R':=dM R p (nx y c::R p)) (fun q m=>⟨cz m,cz m⟩) ⟨by rw[ew];simp,by rw[ew,tD G];exact F⟩ o n;refine⟨⟨E,D,T,W,?_,?_,A⟩,S,P,Q⟩
 ·rw[←e.ls];have:=jP l;exact this
 ·rw[hA,N];exact e.fB
theorem ck.Bx(c:ck lim C M B w z s R d){p:Int}{x':aT}(o:s p≠[]){y:ar}(x:bT y)(A: (y.x.slot,y.x.gen)=(0,0))(v:dw [y]=Z x'){r:aA}{i:az}(j:b2 lim.count M y= .ok r i){f:ee}{e:LT}(u:cD f e d)
  (n: ∀ q a h,f q=Z (a,h)→(q=p∧h=x')∨(q≠p∧∃ b,w q=Z (b,h)))(m: ∀ q g,e q=Z g→q≠p∧(z q=Z g∨∃ b,w q=Z (b,.leaf g)))(l:Nat):
  ck lim C (b1 i p (Z r)) (B++[⟨l,s p, -1⟩]) f e (dM s p [r]) (dM R p [y]) d:=by
 obtain⟨D,E,F,G,K,L,N,P⟩:=c.mem.alloc j;have t:=D.zt o x E F A l;obtain⟨I,J⟩:=c.views (p:=p) (x':=x') (C':=dM s p [r]) (R':=dM R p [y]) (fun q k=>⟨cz k,cz k⟩) ⟨by rw[ew];simp,by rw[ew];exact v⟩ n m;refine⟨u,t,I,J,?_,?_,c.jr⟩
 ·rw[←c.ls];have:=jP j;exact this
 ·rw[hA,G];exact c.fB
theorem pw{a:Nat}{f:aT}: ∀ q b d,bL w p (Z (a,f)) q=Z (b,d)→(q=p∧d=f)∨(q≠p∧∃ c,w q=Z (c,d)):=fun q b d j=>by
 rcases dJ j with⟨e,g⟩|⟨h,i⟩
 ·exact .inl ⟨e,(cs g).2.symm⟩
 ·exact .inr ⟨h,b,i⟩
theorem cD.nA(f:cD w z d){p:Int}{a:Nat}{x:aT}(h:w p=Z (a,x)): ∀ q g,z q=Z g→q≠p∧(z q=Z g∨∃ b,w q=Z (b,.leaf g)):=fun q g c=>by
 refine⟨fun e=>?_,.inl c⟩;have:=(f.lim q g c).1;rw[e,h]at this;cases this
end
def Inv (lim:aK) (C:List ByteArray) (M:az) (B:List bK) (d:List aN):Prop:=∃ w z s R,ck lim C M B w z s R d
def kn (lim:aK) (C:List ByteArray) (c:cV) (M:az) (B:List bK) (wr:Bool) (d:List aN):Prop:=
 ∃ k a f e g b,One lim c M B wr k a f e g∧k≤2 * (lim.ax+b7 M)+11∧Inv lim C a f b∧a.now=M.now∧a.ins=M.ins∧
  match g with
  |none=>b=d∧((e=wr∧b7 M < b7 a)∨(wr=false∧e=true∧b7 M≤b7 a))
  |some r=>((r.code=3∨r.code=5)∧b=d)∨ei c d=(b,r.val,r.code)
section
theorem Inv.mk(a:ck lim C M B w z s R d):Inv lim C M B d:=⟨w,z,s,R,a⟩
theorem oV{a:List aA}(b:a≠[]): ∃ r,a.head?=Z r:=by
 cases a with
 |nil=>exact absurd rfl b
 |cons r a=>exact⟨r,rfl⟩
theorem cD.ua(c:cD w z d){p:Int}{a:Nat}{v v':aY}(f:w p=Z (a,.aU v))(s:v'.low=v.low)(t:v'.high=v.high)(u:v'.unb=v.unb)(k:v'.right=v.right)(F:v.held=false)
  (D:h8 v')(C:h7 w z a v')(G:si (bL w p (Z (a,.aU v'))) a v'):cD (bL w p (Z (a,.aU v'))) z d:=by
 refine c.set (x':= .aU v') f s t u k (fun v e=>by cases e) (fun v e=>c.aU p a _ f) c.ok (fun q b n h=>?_) (fun n e=>?_) (fun q b n K h B o=>?_) (fun q b g h E=>?_)
 ·rcases dJ h with⟨e,j⟩|⟨I,e⟩
  ·cases(cs j).2
  ·exact c.rows q b n e
 ·cases e;exact⟨D,C,G⟩
 ·rcases c.aH h B with⟨x,i, -⟩|⟨x,i, -⟩
  ·rw[o,f]at i;cases(cs i).2
  ·rw[o]at i;have:=(c.lim _ _ i).1;rw[f]at this;cases this
 ·rcases dJ h with⟨e,j⟩|⟨I,e⟩
  ·cases(cs j).2
  ·obtain⟨r,J,l,m,y,A⟩:=c.gone q b g e E;refine⟨r,J,?_,m,y,A⟩;rw[fk]
   ·exact l
   ·rintro rfl;rw[f]at l;obtain⟨-,k⟩:=cs l;cases k;rw[F]at m;cases m
theorem cD.GN(i:cD w z d){p:Int}{v a:bl}(n:w p=Z (0,.leaf v))(s:a.low=v.low)(t:a.high=v.high)(u:a.unb=v.unb)(x:a.right=v.right)(F:a.gone=false)
  (G: ∀ q b c,w q=Z (b,.aU c)→c.held=true→c.aH≠p){j:List aN}(K:dO j=true)(J:a.rows=j.filter (cU a.low a.high a.unb))(I: ∀ q f,q≠p→w q=Z (0,.leaf f)→j.filter (cU f.low f.high f.unb)=d.filter (cU f.low f.high f.unb)):
  cD (bL w p (Z (0,.leaf a))) z j:=by
 refine i.set (x':= .leaf a) n s t u x (fun v e=>rfl) (fun v e=>by cases e) K (fun q b c h=>?_) (fun c e=>by cases e) (fun q b c M h C D=>absurd D (G q b c h C)) (fun q b g h m=>?_)
 ·rcases dJ h with⟨e,k⟩|⟨o,e⟩
  ·cases(cs k).2;exact J
  ·have E:=i.leaf q b c e;subst E;rw[I q c o e];exact i.rows q 0 c e
 ·rcases dJ h with⟨e,k⟩|⟨o,e⟩
  ·cases(cs k).2;rw[F]at m;cases m
  ·obtain⟨r,L,l,y,A,B⟩:=i.gone q b g e m;refine⟨r,L,?_,y,A,B⟩;rw[fk]
   ·exact l
   ·rintro rfl;rw[n]at l;cases(cs l).2
theorem gd.at(i:ck lim C M B w z s R d){key:ByteArray}{wr:Bool}{n:Int}{ab F:Option bQ}{k:Nat}{h:cn}{D:dI}(f:gd lim key M wr w z s R n ab k h F D)(b:h.nd.g9=false): ∃ a,hL w key wr h.n (oA F) a h.nd:=by
 rcases f.pl with q|q
 ·exact q
 ·obtain⟨g, -,c,e⟩:=q.cc;rw[c]at b;rw[show(aT.leaf g).g9=g.gone from rfl,e]at b;cases b
theorem gd.ng(c:ck lim C M B w z s R d){key:ByteArray}{n:Int}{ab F:Option bQ}{k:Nat}{h:cn}{D:dI}(b:gd lim key M true w z s R n ab k h F D): ∃ a,hL w key true h.n (oA F) a h.nd:=by
 rcases b.pl with q|q
 ·exact q
 ·cases q.wr
theorem gd.spec{k:Nat}(a:gd lim key M wr w z s R n ab k h F D):pY h.nd h.refs.length h.n (F.map bQ.view) key lim wr D:=by
 have:=v9 h.nd h.refs.length h.n (F.map bQ.view) key lim wr;rwa[a.dec]at this
theorem xN(h:dO d=true)(f: ∀ x∈d,x.key∈C):d.length≤C.length:=by
 have i: (d.map aN.key).Nodup:=by
  rw[h4,l6];refine((js d).1 h).2.imp fun {a b} c e=>?_;unfold gU at c;rw[e,a3.before_irrefl]at c;cases c
 have:=mA (m:=C) i fun k g=>by
  obtain⟨x,j,rfl⟩:=kE.1 g;exact f x j
 rwa[fM]at this
theorem A1(e:c.key∈C)(a: ∀ x∈d,x.key∈C): ∀ x∈(ei c d).1,x.key∈C:=by
 unfold ei;split
 ·exact a
 ·split
  ·exact a
  ·split
   ·exact a
   ·split
    ·exact fun x b=>a x ((sV d c.key).subset b)
    ·intro x b;rcases Fl b with rfl|b
     ·exact e
     ·exact a x b
theorem AJ(b:ck lim C M B w z s R d){c:cV}(D:ga c)(ax:c.key∈C){wr:Bool}{k:Nat}{h:cn}{ab:Option bQ}(j:gd lim c.key M wr w z s R 0 V k h ab .act)(aG:k≤lim.ax+b7 M)(aD:wr=false→c.kind=1):kn lim C c M B wr d:=by
 obtain ⟨L,v,o⟩:=j.spec;obtain ⟨a,T⟩:=j.at b L.gone;have J:=j.page b;have m:=T.cc;rw [o] at m J;obtain rfl:=b.bj.leaf _ _ _ m;have F:v.gone=false:=by have:=L.gone;rw [o] at this;exact this
 have al:=b.bj.b6 _ _ _ m;have I:gg v c.key=true:=by have:=L.has;rw [o] at this;exact this
 have ar: ∀ x:aN,x.key=c.key→cU v.low v.high v.unb x=true:=fun x P=>by
  unfold cU;rw [P];exact I
 have aA:=b.bj.rows _ _ _ m;obtain ⟨y,A,Q,S⟩:=Dq (r:=⟨c.key,c.val⟩) b.bj.ok ar;rw [←aA] at y A Q S;have y:hasB c.key v.rows=hasB c.key d:=y;have A:ds c.key v.rows=ds c.key d:=A;obtain ⟨W,aa⟩:=oV J.1;have ae:h.refs.head?=Z W:=by rw [j.refs];exact aa
 cases g:dq c v.rows with
 |some e=>
  refine ⟨k,M,B,wr,Z ⟨b8,e⟩,d,.dq j.walk o g,K,Inv.mk b,rfl,rfl,.inr ?_⟩;unfold dq at g;rw [y] at g;unfold ei;split at g
  ·rename_i q;rw [a9 q];cases g;rfl
  ·rename_i q;rw [aS q];split at g
   ·rename_i u;rw [a9 u];cases g;rfl
   ·cases g
 |none=>
  have n:ei c d=if c.kind=1 then (d,ds c.key d,0) else if c.kind=5 then (et d c.key,ds c.key d,0) else (ec d ⟨c.key,c.val⟩,ds c.key d,0):=by
   unfold dq at g;rw [y] at g;unfold ei;split at g
   ·cases g
   ·rename_i q;rw [aS q];split at g
    ·cases g
    ·rename_i u;rw [aS u]
  by_cases i:c.kind=1
  ·rw [a9 i] at n;exact ⟨k,M,B,wr,Z ⟨ds c.key v.rows,0⟩,d,.sC j.walk o g i,K,Inv.mk b,rfl,rfl,.inr (by rw [n,A])⟩
  ·rw [aS i] at n;have aF:wr=true:=by
    cases wr with
    |true=>rfl
    |false=>exact absurd (aD rfl) i
   subst aF;cases G:c8 lim.count M h.n (nx (fs c) W) with
   |no e=>exact ⟨k+1,M,B,true,Z ⟨b8,e⟩,d,.sB j.walk o ae g i G,K,Inv.mk b,rfl,rfl,.inl ⟨iO G,rfl⟩⟩
   |ok r aq=>
    have ag: ∀ q f,q≠h.n→w q=Z (0,.leaf f)→∀ x:aN,x.key=c.key→cU f.low f.high f.unb x=false:=fun q f E t x P=>by
     unfold cU;rw [P];cases av:iL f.low f.high f.unb c.key with
     |false=>rfl
     |true=>
      have am:=b.bj.b6 _ _ _ t;have an:=(iM am.low am.high D.b6).1 av;have u:=(iM al.low al.high D.b6).1 I;exact absurd (b.bj.hg q h.n 0 _ _ (aE c.key) t m an.1 an.2 u.1 u.2) E
    have az:=T.tC b.bj D.b6;have ay: ∃ l:bl,fD (.leaf v) (fs c)=Z (.leaf l)∧l.low=v.low∧l.high=v.high∧l.unb=v.unb∧l.right=v.right∧l.gone=false∧l.rows=(ei c d).1.filter (cU v.low v.high v.unb)∧dO (ei c d).1=true∧
      (∀ q f,q≠h.n→w q=Z (0,.leaf f)→(ei c d).1.filter (cU f.low f.high f.unb)=d.filter (cU f.low f.high f.unb))∧bT (fs c)∧ei c d=((ei c d).1,ds c.key d,0):=by
     by_cases p:c.kind=5
     ·rw [a9 p] at n;rw [n];unfold fs;rw [a9 p];refine ⟨_,HX F I,rfl,rfl,rfl,rfl,F,S,q5 b.bj.ok (sV _ _),fun q f E t=>(wB (r:=⟨c.key,c.val⟩) b.bj.ok (ag q f E t)).2,⟨gY,gX⟩,rfl⟩
     ·rw [aS p] at n;rw [n];unfold fs;rw [aS p];refine ⟨_,H4 F I (D.fits i p),rfl,rfl,rfl,rfl,F,Q,(keeps b.bj.ok (D.fits i p)).1,fun q f E t=>(wB (r:=⟨c.key,c.val⟩) b.bj.ok (ag q f E t)).1,⟨gY,gX⟩,rfl⟩
    obtain ⟨l,u1,u2,u3,u4,u5,u6,u7,u8,u9,u10,u11⟩:=ay;have aC:=b.bj.GN m u2 u3 u4 u5 u6 az u8 (by rw [u2,u3,u4];exact u7) u9;have N:=b.pc J.1 J.2 aa u10 u1 G aC (A1 ax b.jr) pw (b.bj.nA m);exact ⟨k+2,aq,B,true,Z ⟨ds c.key v.rows,0⟩,(ei c d).1,.act j.walk o ae g i G,K,Inv.mk N.inv,N.now,N.ins,.inr (by rw [u11,A])⟩
theorem yR(b:ck lim C M B w z s R d){c:cV}{k:Nat}{h:cn}{A:bQ}{D:dI}{y:ar}(j:gd lim c.key M true w z s R 0 V k h (Z A) D)(x:k≤lim.ax+b7 M)(o:nM D=Z y)(t:bT y)
  {a:Nat}{p:aY}(m:w A.n=Z (a,.aU A.view))(v:fD (.aU A.view) y=Z (.aU p))(u:cD (bL w A.n (Z (a,.aU p))) z d):kn lim C c M B true d:=by
 have i:=b.eZ _ _ _ m;have n:=j.ok A rfl;have l:=(b.mem.cc A.n i.1).2;rw[n]at l;cases f:c8 lim.count M A.n (nx y A.head)with
 |no e=>exact⟨k+1,M,B,true,Z ⟨b8,e⟩,d,.tU j.walk o f,K,Inv.mk b,rfl,rfl,.inl ⟨iO f,rfl⟩⟩
 |ok r q=>
  have g:=b.pc i.1 i.2 n t v f u b.jr pw (b.bj.nA m);exact⟨k+2,q,B,true,V,d,.tT j.walk o l f,K,Inv.mk g.inv,g.now,g.ins,rfl,.inl ⟨rfl,by rw[g.used];omega⟩⟩
theorem zH{v:aY}(a:ab.map bQ.view=Z v): ∃ A,ab=Z A∧A.view=v:=by
 cases ab with
 |none=>cases a
 |some A=>exact⟨A,rfl,by simpa using a⟩
theorem Gd(j:ck lim C M B w z s R d){c:cV}(ar:ga c){wr:Bool}{k:Nat}{h:cn}{ab:Option bQ}{key:ByteArray}{aA:Int}(G:gd lim c.key M wr w z s R 0 V k h ab (.post key aA))(ax:k≤lim.ax+b7 M):kn lim C c M B wr d:=by
 obtain⟨rfl,aF,aN,rfl,rfl,v,aG,D,T,W⟩:=G.spec;obtain⟨A,rfl,rfl⟩:=zH aG;obtain⟨a,r⟩:=G.ng j;obtain⟨u1,u2,u3,u4,e,u5,u6,u7,u8⟩:=r.m8 A.n A.view rfl;have u:=j.bj.b6 _ _ _ r.cc;have aK:=r.le;have ay:=hX c.key;have av:h.nd.hi≤aE c.key:=by
  have aM: ¬ (h.nd.lo≤aE c.key∧aE c.key < h.nd.hi):=fun q=>by
   have:=(nu u ar.b6).2 q;rw[aF]at this;cases this
  omega
 have az:h.nd.unb=false:=tp.1 (show df h.nd.high h.nd.unb < eL from jB av ay);have aJ:h.nd.hi=aE h.nd.high:=by unfold aT.hi df;rw[az];rfl
 obtain⟨aa,aH,aP⟩:=j.bj.right _ _ _ r.cc K;have P:=j.bj.b6 _ _ _ u1;have L:=(iM P.low P.high u.high).1 T;have n:=j.bj.ag _ _ _ u1;rcases n.ok.vy (key:=h.nd.high) u.high with⟨q, -⟩|⟨-,i,o,b,ag,al,J⟩
 ·rw[W]at q;cases q
 ·have aL:aE A.view.low≤aE h.nd.high:=L.1;have aq: ∃ l m,i=l::m∧l.key=A.view.low:=by
   obtain⟨ae,aI,Q,S⟩:=n.first;cases i with
   |nil=>
    rw[Q]at b;have:=J ae (by rw[gJ]at b;rw[←b];simp);rw[S]at this;omega
   |cons l m=>
    rw[Q]at b;simp only[pQ,n7]at b;exact⟨l,m,rfl,by rw[←b.1];exact S⟩
  have E: ∀ f,f∈i++[⟨h.nd.high,h.nd.right⟩]++o→f∈A.view.ag∨f=⟨h.nd.high,h.nd.right⟩:=fun f g=>by
   rw[b];simp only[cu,aO]at g ⊢;rcases g with(q|q)|q
   ·exact .inl (.inl q)
   ·exact .inr q
   ·exact .inl (.inr q)
  have F:=H3 (p:=h.nd.right) D W T;rw[ag]at F;have an:A.view.ag.take i.length=i:=by rw[b];exact List.take_left
  have am:A.view.ag.drop i.length=o:=by rw[b];exact List.drop_left
  rw[an,am]at F;refine yR j G ax rfl ⟨gY,gX⟩ u1 F (j.bj.ua u1 rfl rfl rfl rfl D ⟨⟨fun f g=>?_,?_⟩,?_,fun f g=>?_⟩ (fun f g=>?_) fun q=>?_)
  ·rcases E f g with q|rfl
   ·exact n.ok.b6 f q
   ·exact u.high
  ·have t:=n.ok.ord;rw[b,h6]at t;show(i++[(⟨h.nd.high,h.nd.right⟩:cw)]++o).Pairwise _;rw[lq,h6];refine⟨t.1,hJ.2 ⟨fun f g=>J f g,t.2.1⟩,fun x N y I=>?_⟩;rcases bd.1 I with rfl|I
   ·exact al x N
   ·exact t.2.2 x N y I
  ·obtain⟨l,m,aC,aD⟩:=aq;exact⟨l,m++[⟨h.nd.high,h.nd.right⟩]++o,by show i++_++_=_;rw[aC];simp,aD⟩
  ·rcases E f g with q|rfl
   ·exact n.high f q
   ·exact L.2
  ·rcases E f g with q|rfl
   ·exact .inl (j.bj.below u1 q (.inl D))
   ·exact .inl ⟨a,aa,rfl,aH,by show aa.lo=aE h.nd.high;omega⟩
  ·have q:A.view.held=true:=q;rw[D]at q;cases q
theorem Et(l:ck lim C M B w z s R d){c:cV}(aq:ga c){wr:Bool}{k:Nat}{h:cn}{ab:Option bQ}{aa left:Int}{key:ByteArray}(v:gd lim c.key M wr w z s R 0 V k h ab (.hold aa left key))(N:k≤lim.ax+b7 M):kn lim C c M B wr d:=by
 obtain⟨rfl,ar,rfl,g,av,ae,ag,al,F,am⟩:=v.spec;obtain⟨A,rfl,rfl⟩:=zH al;obtain⟨a,K⟩:=v.ng l;obtain⟨u1,u2,u3,u4,e,u5,u6,u7,u8⟩:=K.m8 A.n A.view rfl;have n:=K.cc;rw[ae]at n;obtain rfl:=l.bj.leaf _ _ _ n;obtain⟨m,x,y,p,i,G,I,t⟩:=xr am;have j:=l.bj.ag _ _ _ u1;have u:=j.ok.ord;rw[i,h6]at u;have W:y∈A.view.ag:=by rw[i];simp
 have S:x∈A.view.ag:=by rw[i];simp
 have r:=j.ok.b6 y W;have T:aE x.key < aE y.key:=(hJ.1 u.2.1).1 y J;have P:bG key A.view.ag=m.length+1:=by
  rw[←t,i,show m++x::y::p=(m++[x])++y::p by simp];have:=tL (key:=y.key) (A:=m++[x]) (B:=y::p) (fun f o=>?_) (fun f o=>?_)
  ·rw[this];simp
  ·rcases cu.1 o with q|q
   ·exact(gC (j.ok.b6 f (by rw[i];simp[q])) r).2 (u.2.2 f q y J)
   ·rw[aO]at q;subst q;exact(gC (j.ok.b6 _ S) r).2 T
  ·have:f=y:=by simpa using o.symm
   subst this;intro q;have:=(gC r r).1 q;omega
 have Q:=HZ (left:=left) F i P t G I;refine yR l v N rfl ⟨gY,gX⟩ u1 Q (l.bj.ua u1 rfl rfl rfl rfl F ⟨j.ok,j.first,j.high⟩ (fun f o=> .inl (l.bj.below u1 o (.inl F))) fun q=>⟨rfl,⟨m,x,y,p,i,t,G,I⟩,fun b an D=>?_⟩);have D:bL w A.n _ h.n=Z (b,an):=D;rcases dJ D with⟨L,E⟩|⟨L,E⟩
 ·rw[L,u1]at n;cases(cs n).2
 ·rw[n]at E;obtain⟨-,rfl⟩:=cs E;exact⟨g,rfl,ag⟩
end
end
end Go.Proofs.YtbkmjhhpcinppaaGreatDoor
