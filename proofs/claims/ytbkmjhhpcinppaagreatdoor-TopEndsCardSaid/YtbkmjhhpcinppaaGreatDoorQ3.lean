import Derived.Test.YtbkmjhhpcinppaaGreatDoorQ2
namespace Go.Proofs.YtbkmjhhpcinppaaGreatDoor
set_option linter.unusedVariables false
set_option linter.defProp false
set_option linter.unusedSimpArgs false
set_option maxRecDepth 100000
set_option maxHeartbeats 40000000
open Ending renaming returned→ap
open Go renaming Addr→ai,Calls→ao,Value→ak,World→ad
open Go.Proofs.Tryz renaming prog→aj
open IntKind renaming i64→U
open Obj renaming cells→X
open Option renaming none→V,some→Z
open Value renaming agg→aw,bool→ah,int→O,nilIface→aB,pointer→au,slice→ac,string→af,tuple→a0
open World renaming alloc→H
variable {B : Prop} {z : Act → ad → Prop} {y : Exit → Act → ad → Prop} {a : Act} {b base s cap cap2 i k m n j : Nat} {c lim : Int} {high low : ByteArray} {l xs : List aN} {o : Oper} {d h : Option ai} {A : Array Oper} {rest : List Oper} {rev u : Bool} {v : ak} {w f w0 : ad}
section
open Go.BigFrame Go.RowKit Go.WideShapes Go.Extern.Stop Go.Stop Go.Extern
theorem Bo(v:ak)(w:ad): (ReflectliteType.typeOf #[.iface 194 v]).run aj w= .ok (.iface 199 (aw #[bh 194])) w:=by kernel_rfl
theorem A6(w:ad): (ReflectliteType.relation "AssignableTo" ReflectliteType.assignableTo #[aw #[bh 194],.iface 199 (aw #[bh 48])]).run aj w= .ok (ah false) w:=by kernel_rfl
theorem FD(v:ak)(a:TypeId)(w:ad): (Instr.typeAssert (.iface 194 v) a 204 true).run aj w= .ok (a0 #[aB,false]) w:=run_typeAssert_lacksB Tryz.underlying204 G G v a w
theorem D3(v:ak)(a:TypeId)(w:ad): (Instr.typeAssert (.iface 194 v) a 207 true).run aj w= .ok (a0 #[.iface 194 v,true]) w:=run_typeAssert_hasB Tryz.underlying207 G v a w
theorem Fp(v:ak)(w:ad): (Go.method 446 194 v "Unwrap").run aj w= .ok (240,v) w:=by kernel_rfl
theorem Bs(d:Nat)(v:ak)(c:Int)(a ab:Nat)(u:ak)(w:ad)(j:ja w d v c)(A:w.cell? ab=Z (au (Z a)))(p:w.cell? a=Z u)(C:w.frozen? a=false):
  ao aj 64 #[v,.iface 104 (au (Z a)),aw #[bh 104,au (Z ab),O .u64 150],.iface 199 (aw #[bh 48])] w fun e f=>e=ap (ah true)∧∃ i,Y w i∧f=i.setCell ⟨a,0,V⟩ (O U c):=by
 have S:= @kf aj 82 _ ReflectliteType.typeOf Tryz.func82 G G G G;have aa:= @kf aj 242 _ (ReflectliteType.relation "AssignableTo" ReflectliteType.assignableTo) Tryz.func242 G G G G;have am:=Bf;have ag:= @kf aj 61 _ (fun args=>ReflectliteValue.unpack (args.getD 0 (a0 #[]))) Tryz.func61 G G G G;have T:= @kf aj 83 _ (ReflectliteValue.method (ReflectliteValue.valueError "reflectlite.Value.Elem" 0) ReflectliteValue.elem) Tryz.func83 G G G G;have W:= @kf aj 84 _ ReflectliteValue.set Tryz.func84 G G G G;have av:=Bo;have Q:=A6;have aq:=FD;have al:=D3;have an:=Fp;have x:=N j;clear j;go_enter Tryz.func64,Tryz.ntmps64;go_wp2_with fail;go_loopw [0] (fun q wr=> ∃ (n:Nat),Hid (ja wr n q c)∧n≤d∧Hid (Y (H w (X #[bh 104,au (Z ab),O .u64 150] 160)) wr)) (fun q wr=>qx wr d q)
 case atStart=>exact ⟨d,N (x.out.I ((Y.refl w).alloc _)),aG _,N (Y.refl _)⟩
 case round=>
  obtain ⟨n,g,E,k⟩:=hrel;cases n with
  |zero=>
   obtain rfl:u0= .iface 48 (O U c):=by cases g.out;rfl
   have ax:=Bn;have P:=A5;have ay:=Bq;have h:Y w wr:=((Y.refl w).alloc _).trans k.out;have B:=h.I A;have R:=Ba ⟨ab,0,V⟩ ⟨a,0,V⟩ wr B;have ar:=Bm ⟨a,0,V⟩ ⟨wr,0,V⟩ c u (H wr (X #[O U c] 48)) (by rw [World.cell?_alloc_at _ _ _ _ J];rfl) (((Y.refl wr).alloc _).I (h.I p)) (((Y.refl wr).alloc _).ta (h.I p) (h.ta p C));have m:=k.out.range (ae.new w #[bh 104,au (Z ab),O .u64 150] 160 rfl).aM;have L:=m 0 _ rfl;have x1:=m 1 _ rfl;have M:=m 2 _ rfl;simp only [cv] at L x1 M;clear g k;go_wp2_with fail;go_ret;exact ⟨rfl,_,h.alloc _,rfl⟩
  |succ n=>
   obtain ⟨b,place,slot,l,I,t,o⟩: ∃ b place slot l,u0= .iface 194 (au (Z ⟨b,0,V⟩))∧wr.rangeAt b 0 [af place,O U slot,l]∧ja wr n l c:=by
    cases g.out with
    |fault n b place slot v c j F=>exact ⟨b,place,slot,v,rfl,j,F⟩
   subst I;obtain ⟨r,u2,rfl⟩: ∃ r u2,l= .iface r u2:=by cases o <;> exact ⟨_,_,rfl⟩
   have s:=N o;have z:=N (g.out.depth d E);have y:=N fun i (D:Y wr i)=>HS b place slot (.iface r u2) i (D.range t);clear g o t;go_wp2_with (go_at_call 240;(with_reducible refine (y.out _ (Y.refl _)).mono ?_);rintro e az ⟨rfl,rfl⟩);go_roundw
   case rel=>exact ⟨n,s,K,k⟩
   case measure=>
    rw [z.out,s.out.depth d K];omega
theorem Bu(a:Nat)(k:ak)(g:cm w v c)(p:w.cell? ⟨0,0,V⟩=Z mx)(j:w.cell? a=Z k)(o:w.frozen? a=false):
  ao aj 34 #[v,.iface 104 (au (Z a))] w fun e f=>e=ap (ah true)∧∃ d,Y w d∧f=d.setCell ⟨a,0,V⟩ (O U c):=by
 have B:= @kf aj 61 _ (fun args=>ReflectliteValue.unpack (args.getD 0 (a0 #[]))) Tryz.func61 G G G G;have C:= @kf aj 62 _ (ReflectliteValue.methodAny (ReflectliteValue.valueError "reflectlite.Value.Type" 0) (fun t _ _ _=>ReflectliteType.toType t)) Tryz.func62 G G G G;have D:= @kf aj 63 _ (ReflectliteValue.method (ReflectliteValue.valueError "reflectlite.Value.IsNil" 0) ReflectliteValue.isNil) Tryz.func63 G G G G;have y:= @kf aj 229 _ (ReflectliteType.abiMethod fun t=>do pure (O .u8 (←Rtype.kind t))) Tryz.func229 G G G G;have z:= @kf aj 244 _ (ReflectliteType.method ReflectliteType.elem) Tryz.func244 G G G G;have A:= @kf aj 245 _ (ReflectliteType.relation "Implements" ReflectliteType.implements_) Tryz.func245 G G G G;have s:=Br;have x:=Bp;have M:=Bi;have K:=Bg;have L:=Bh;have J:=Be;have I:=Bd;have r:=A9;have F:=Bb;obtain ⟨n,h⟩:=g.depth;obtain ⟨t,u,rfl⟩: ∃ t u,v= .iface t u:=by cases g <;> exact ⟨_,_,rfl⟩
 have b:Y w ((H w (X #[au (Z a)] 104)).alloc (X #[bh 104,au (Z w),O .u64 150] 160)):=((Y.refl w).alloc _).alloc _;have i: ((H w (X #[au (Z a)] 104)).alloc (X #[bh 104,au (Z w),O .u64 150] 160)).cell? w=Z (au (Z a)):=((Y.refl _).alloc _).I (jD w _ _ 0);have P:=Bc ⟨w,0,V⟩ ⟨a,0,V⟩ _ i;have E:=b.I p;have l:=N (Bs n (.iface t u) c a w k _ (h.I b) i (b.I j) (b.ta j o));have m:=N b;clear g h b;go_enter Tryz.func34,Tryz.ntmps34;go_wp2_with (go_at_call 64;(with_reducible refine l.out.mono ?_);rintro e Q ⟨rfl,d,q,rfl⟩);go_ret;exact ⟨rfl,d,m.out.trans q,rfl⟩
theorem Cp(b:cm w v c)(g:w.cell? ⟨0,0,V⟩=Z mx):ao aj 13 #[v] w fun e f=>e=ap (O U c)∧Y w f:=by
 have d:Y w (H w (X #[O U 0] 48)):=(Y.refl w).alloc _;have a:=ae.new w #[O U 0] 48 rfl;have i:=N (Bu w (O U 0) (b.I d) (d.I g) (a.cell 0 rfl) (a.free 0 J));obtain ⟨t,u,rfl⟩: ∃ t u,v= .iface t u:=by cases b <;> exact ⟨_,_,rfl⟩
 have ed:=N (show ae (H w (X #[O U 0] 48)) w.heap.size [O U 0] from a.of J);clear b g a;go_enter Tryz.func13,Tryz.ntmps13;go_wp2_with (go_at_call 34;(with_reducible refine i.out.mono ?_);rintro e k ⟨rfl,j,h,rfl⟩;have c7:=((ed.out.I h).set 0 (O U c)).cell 0 rfl);go_ret;exact ⟨rfl,(d.trans h).setCell (p:=⟨w,0,V⟩) (aG _) _⟩
end
section
open Go.BigFrame Go.RowKit Go.WideShapes
def flat:List aN→List ak
 |[]=>[]
 |r::l=>af r.key::af r.val::flat l
theorem s5(a b:List aN):flat (a++b)=flat a++flat b:=by
 induction a with
 |nil=>rfl
 |cons r a ih=>simp[flat,ih]
theorem qA(l:List aN): (flat l).length=l.length * 2:=by
 induction l with
 |nil=>rfl
 |cons r l ih=>simp[flat,ih];omega
theorem wH(l:List aN)(i:Nat)(a:i < l.length): (flat l)[i * 2]?=Z (af (bJ l i))∧(flat l)[i * 2+1]?=Z (af (dx l i)):=by
 induction l generalizing i with
 |nil=>simp at a
 |cons r l ih=>
  cases i with
  |zero=>exact⟨rfl,rfl⟩
  |succ i=>
   have:=ih i (by simpa using a);rw[show(i+1) * 2=i * 2+1+1 by omega];exact this
theorem s7: ∀ u∈flat l,u.oneCell'=true:=by
 induction l with
 |nil=>intro u a;cases a
 |cons r l ih=>
  intro u a;simp only[flat,bd]at a;rcases a with rfl|rfl|a
  ·rfl
  ·rfl
  ·exact ih u a
theorem s6(q:l.length=n)(m: ∀ i,i < n→w.cell? ⟨b,j+i * 2,V⟩=Z (af (bJ l i))∧w.cell? ⟨b,j+i * 2+1,V⟩=Z (af (dx l i))):
  ∀ a u,(flat l)[a]?=Z u→w.cell? ((⟨b,j,V⟩:ai).add a)=Z u:=by
 intro a u g;have p:a < (flat l).length:=by
  rcases dC a (flat l).length with d|d
  ·exact d
  ·rw[List.getElem?_eq_none d]at g;cases g
 rw[qA,q]at p;have k: (⟨b,j,V⟩:ai).add a=⟨b,j+a,V⟩:=by unfold Addr.add;split <;> simp_all
 rw[k];have o:a / 2 < l.length:=K;have c:=wH l (a / 2) o;have f:=m (a / 2) K;rcases Nat.mod_two_eq_zero_or_one a with d|d
 ·have e:a / 2 * 2=a:=by omega
  rw[e]at c f;rw[g]at c;rw[f.1];exact c.1.symm
 ·have e:a / 2 * 2+1=a:=by omega
  have h:j+a / 2 * 2+1=j+a:=K;rw[e]at c;rw[h]at f;rw[g]at c;rw[f.2];exact c.2.symm
structure br (w:ad) (base:Nat) (d:Option ai) (n cap:Nat) (l:List aN):Prop where
 own:w.ownsRow base 108 2 (ac d n cap) n (flat l)
 rows:bk w d n cap l
theorem tH(k:l.length=n)(e:w.ownsRow base 108 2 v n (flat l))(m: ∀ i,i < n→(bJ l i).size≤maxLen∧(dx l i).size≤maxLen):
  ∃ d cap,v=ac d n cap∧br w base d n cap l:=by
 have f:=e;obtain⟨u,p⟩:=e;rcases p with⟨rfl,rfl⟩|⟨g,cap,o,rfl,x,b,s,r,z,t⟩
 ·exact⟨V,0,rfl,f,⟨k,aG _,aJ _,fun _=>rfl,⟨0,0,fun q=>absurd q K,fun i j=>absurd j K⟩,m⟩⟩
 ·refine⟨Z ⟨g,0,V⟩,cap,rfl,f,⟨k,s,r,fun q=>(by cases q),⟨g,0,fun q=>⟨rfl,?_⟩,fun i j=>?_⟩,m⟩⟩
  ·rcases dC g w with q|q
   ·exact q
   ·rw[hj q]at b;cases b
  ·have h: ∀ c,w.cell? ⟨g,c,V⟩=o[c]?:=by intro c;unfold World.cell?;rw[b];simp
   have a:=wH l i K;have y:i * 2+1 < n * 2:=K;rw[←t]at a;rw[cv,h,h];rw[rU K,rU K]at a;simpa using a
theorem tS: (aj.info? 108).map (fun i=>(i.zero,i.size,i.bytes))=Z (Z (aw #[af ⟨#[]⟩,af ⟨#[]⟩]),2,32):=by kernel_rfl
theorem Gh{a b:List aN}(c:i < a.length):cN (a++b) i=cN a i:=by
 unfold cN;rw[h2,h2,kN c]
theorem Gi{a b:List aN}(c:a.length≤i):cN (a++b) i=cN b (i - a.length):=by
 unfold cN;rw[h2,h2,jE c]
def oz (l:List aN):Prop:=∀ i,i < l.length→(bJ l i).size≤maxLen∧(dx l i).size≤maxLen
theorem oz.append{a b:List aN}(d:oz a)(e:oz b):oz (a++b):=by
 intro i f;unfold bJ dx;rcases dC i a.length with c|c
 ·rw[Gh c];exact d i c
 ·rw[Gi c];exact e (i - a.length) (by simp at f;omega)
theorem bk.sized(a:bk w d n cap l):oz l:=fun i b=>a.eD i (by rw[←a.len];exact b)
theorem bk.I(h:bk w d n cap l)(a:Y w f):bk f d n cap l:=by
 obtain⟨k,m,o,p,⟨b,j,c,e⟩,r⟩:=h;exact⟨k,m,o,p,⟨b,j,fun q=>⟨(c q).1,dR (c q).2 a.le⟩,fun i g=>⟨a.I (e i g).1,a.I (e i g).2⟩⟩,r⟩
theorem zO(E:o.guard=V)(B x:Operand)
  (I:o.op= .call {callee:= .builtin .append,args:= #[B,x],argTypes:= #[37,37]})
  {base:Nat}{d:Option ai}{n cap:Nat}{l:List aN}(L:a.eval B=ac d n cap)(q:br w base d n cap l)
  {h:Option ai}{m cap2:Nat}{k:List aN}(M:a.eval x=ac h m cap2)(c:bk w h m cap2 k)(am:n+m≤1099511627776)(Q:base≤w.heap.size)
  (D: ∀ z s f,br f base z (n+m) s (l++k)→w.grownBy f (Value.ownBlock (ac d n cap))→wpList aj A y rest (a.put o.dst (ac z (n+m) s)) f):wpList aj A y (o::rest) a w:=by
 obtain⟨i,F,al,ae,R⟩:=kO tS;obtain⟨b,j,P,S⟩:=c.cells;have ag:=q.rows.sized.append c.sized;have G: (l++k).length=n+m:=by rw[dG,q.rows.len,c.len]
 have N: ∀ g,h=Z g→(∀ r u,(flat k)[r]?=Z u→w.cell? (g.add r)=Z u)→wpList aj A y (o::rest) a w:=by
  rintro g rfl aa;refine wpList_append_own w E B x 37 I base 108 i _ 2 32 oj F al ae R rfl bP _ n (flat l) L q.own g m cap2 (flat k) M (by rw[qA,c.len]) aa s7
   c4 K Q ?_
  intro an f J W _;rw[←s5]at J;obtain⟨z,s,rfl,ab⟩:=tH G J (fun r t=>ag r (by rw[G];exact t));exact D z s f ab W
 cases v:h with
 |none=>
  subst v;have p:m=0:=by
   have:=c.none rfl;have:=c.dj;omega
  have T:=c.none rfl;subst p;subst T;have C:k=[]:=gH.1 c.len;subst C;refine wpList_append_own_none E B x 37 I base 108 i 2 oj F _ n (flat l) L q.own M ?_;have:=D d cap w (by simpa using q) ⟨rfl,rfl,rfl,aG _,fun _ _ _=>rfl⟩;simpa using this
 |some g=>
  rcases gm m with p|p
  ·have C:k=[]:=gH.1 (by rw[c.len,p]);exact N g v (fun r u t=>by rw[C]at t;simp[flat]at t)
  ·have e:=(P p).1;rw[v]at e;obtain rfl:g=⟨b,j,V⟩:=by simpa using e
   exact N _ v (s6 c.len S)
structure Part where
 oa:Option ai
 n:Nat
 cap:Nat
 l:List aN
def gV (a:List Part) (i:Nat):Part:=a.getD i ⟨V,0,0,[]⟩
def upto (a:List Part) (k:Nat):List aN:=((a.take k).map Part.l).flatten
theorem Iv{a:List Part}(b:k < a.length):upto a (k+1)=upto a k++(gV a k).l:=by
 unfold upto gV;rw[om b,uN,oo,h2,cP b];simp
theorem Iu(a:List Part)(k:Nat): (upto a k).length≤(upto a a.length).length:=by
 unfold upto;rw[mS];conv=>rhs;rw[←jF k a]
 rw[uN,oo,dG];omega
structure At (w:ad) (s:Nat) (a:List Part):Prop where
 cell: ∀ i,i < a.length→w.cell? ⟨s,i,Option.none⟩=Z (ac (gV a i).oa (gV a i).n (gV a i).cap)
 rows: ∀ i,i < a.length→bk w (gV a i).oa (gV a i).n (gV a i).cap (gV a i).l
def Aq (w:ad) (l:List aN) (e:Ending) (f:ad):Prop:=∃ d cap,e=ap (ac d l.length cap)∧br f w.heap.size d l.length cap l∧Y w f
theorem q8(w:ad)(base:Nat):br w base V 0 0 []:=
 ⟨World.ownsRow_nil _ _ _ _,⟨rfl,aG _,aJ _,fun _=>rfl,⟨0,0,fun q=>absurd q K,fun i a=>absurd a K⟩,fun i a=>absurd a K⟩⟩
theorem E7(s n:Nat)(a:List Part)(w:ad)(E:n=a.length)(ab:n≤8)(y:At w s a)(d: (upto a a.length).length≤1099511627776):
  ao aj 87 #[ac (Z ⟨s,0,V⟩) n n] w (Aq w (upto a a.length)):=by
 have t:=N E;have r:=N y;have J:=N d;clear E y d;go_enter Tryz.func87,Tryz.ntmps87;go_wp2;go_loopw[3,8] (fun Q i wr=> ∃ k:Nat,k≤n∧i=O U k∧Y w wr∧∃ f m c,Q=ac f m c∧m=(upto a k).length∧br wr w f m c (upto a k)) (fun _ i _=>n - (intOf i).toNat)
 case atStart=>exact⟨0,aJ _,rfl,Y.refl _,V,0,0,rfl,rfl,q8 _ _⟩
 case round=>
  obtain⟨k,W,rfl,b,f,m,c,rfl,D,j⟩:=hrel;have g:=N D;clear D;by_cases aa:k < n
  ·have h:k < a.length:=by have:=t.out;omega
   have T:=b.I (r.out.cell k h);have l:=(r.out.rows k h).I b;have o:=Iv h;have C:=Iu a (k+1);have d:m+(gV a k).n≤1099511627776:=by
    rw[o,dG,l.len,←g.out]at C;have:=J.out;omega
   have z:=b.le;have x:=N o;have v:=N l;have u:=N j;clear o C l j;generalize gV a k=p at *;go_wp2_with(at_builtin;refine zO rfl _ _ rfl rfl u.out rfl v.out d z ?_;intro ae S R F A);have I:=N F;have M:Y w R:=kP b A z (fun q P=>(u.out.own.lt q P).1);clear F A;go_wp2;go_roundw
   case rel=>exact⟨k+1,K,e9,M,_,_,_,rfl,by rw[x.out,dG,←g.out,v.out.len],by rw[x.out];exact I.out⟩
   case measure=>simp[intOf];omega
  ·have B:k=a.length:=by have:=t.out;omega
   have G:=N B;clear B;go_wp2;go_ret;have e:=G.out;subst e;have L:=g.out;subst L;exact⟨f,c,rfl,j,b⟩
def en (d:Option ai) (k cap:Nat):Option ai:=if cap=k then d else d.map (·.add (k * 2))
theorem qj(b j k:Nat): (⟨b,j,V⟩:ai).add k=⟨b,j+k,V⟩:=by unfold Addr.add;split <;> simp_all
theorem nN(d:Option ai)(n cap k:Nat)(a:k≤cap)(w:ad):
  (Instr.sliceAt 37 (ac d n cap) V (Z (O U (k:Int))) V).run aj w= .ok (ac d k cap) w:=by
 go_simp
theorem lY(d:Option ai)(n cap k:Nat)(a:k≤n)(w:ad):
  (Instr.sliceAt 37 (ac d n cap) (Z (O U (k:Int))) V V).run aj w= .ok (ac (en d k cap) (n - k) (cap - k)) w:=by
 unfold en;go_simp
theorem yD(a:i < k):cN (l.take k) i=cN l i:=by
 unfold cN;rw[h2,h2,rU a]
theorem yC(l:List aN)(k i:Nat):cN (l.drop k) i=cN l (k+i):=by
 unfold cN;rw[h2,h2,rV]
theorem bk.head(c:bk w d n cap l){k:Nat}(r:k≤n):bk w d k cap (l.take k):=by
 obtain⟨o,p,e,f,⟨b,j,g,h⟩,m⟩:=c;refine⟨lu,K,e,f,⟨b,j,fun q=>g K,fun i a=>?_⟩,fun i a=>?_⟩
 ·unfold bJ dx;rw[yD a];exact h i K
 ·unfold bJ dx;rw[yD a];exact m i K
theorem bk.tail(c:bk w d n cap l){k:Nat}(u:k≤n):bk w (en d k cap) (n - k) (cap - k) (l.drop k):=by
 obtain⟨r,s,t,f,⟨b,j,g,h⟩,m⟩:=c;refine⟨by rw[hl];omega,K,K,fun q=>?_,⟨b,j+k * 2,fun q=>?_,fun i p=>?_⟩,fun i p=>?_⟩
 ·unfold en at q;split at q
  ·omega
  ·cases d with
   |none=>have:=f rfl;omega
   |some a=>cases q
 ·obtain⟨e,o⟩:=g K;subst e;refine⟨?_,o⟩;unfold en;rw[aS K,iz,qj]
 ·have e:j+k * 2+i * 2=j+(k+i) * 2:=by omega
  unfold bJ dx;rw[yC,e];exact h (k+i) K
 ·unfold bJ dx;rw[yC];exact m (k+i) K
theorem cF(w:ad)(a:Nat)(c:Array ak)(t:TypeId)(i:Nat): ((w.drewN a).alloc (X c t)).cell? ⟨w.heap.size,i,V⟩=c[i]?:=jD (w.drewN a) c t i
def ly (w:ad) (l:List aN) (e:Ending) (f:ad):Prop:=∃ d n cap,e=ap (ac d n cap)∧bk f d n cap l∧Y w f∧∃ base,w.heap.size≤base∧br f base d n cap l
theorem tz(w:ad)(s:Nat)(a:List Part)(g:a.length≤8)(k: ∀ i,i < a.length→w.cell? ⟨s,i,V⟩=Z (ac (gV a i).oa (gV a i).n (gV a i).cap))
  (h: ∀ i,i < a.length→bk w (gV a i).oa (gV a i).n (gV a i).cap (gV a i).l)(j: (upto a a.length).length≤1099511627776):
  ao aj 87 #[ac (Z ⟨s,0,V⟩) a.length a.length] w (ly w (upto a a.length)):=by
 refine(E7 s a.length a _ rfl g ⟨k,h⟩ j).mono ?_;rintro e f ⟨d,cap,rfl,b,c⟩;exact⟨d,_,cap,rfl,b.rows,c,_,aG _,b⟩
theorem nB(c:w.cell? s=Z (ac d n cap))(b:bk w d n cap l)(g:n≤1000000):
  ao aj 87 #[ac (Z ⟨s,0,V⟩) 1 1] w (ly w l):=by
 have e:upto [⟨d,n,cap,l⟩] 1=l:=by simp[upto]
 have:=tz w s [⟨d,n,cap,l⟩] J (fun i a=>by
   have f:i < 1:=a;obtain rfl:i=0:=K;exact c)
  (fun i a=>by
   have f:i < 1:=a;obtain rfl:i=0:=K;exact b) (by show(upto _ 1).length≤_;rw[e,b.len];omega)
 rw[show([⟨d,n,cap,l⟩]:List Part).length=1 from rfl,e]at this;exact this
theorem o5{k:List aN}(f:w.cell? s=Z (ac d n cap))(g:w.cell? ⟨s,1,V⟩=Z (ac h m cap2))
  (b:bk w d n cap l)(p:n≤1000000)(c:bk w h m cap2 k)(o:m≤1000000):
  ao aj 87 #[ac (Z ⟨s,0,V⟩) 2 2] w (ly w (l++k)):=by
 have e:upto [⟨d,n,cap,l⟩,⟨h,m,cap2,k⟩] 2=l++k:=by simp[upto]
 have:=tz w s [⟨d,n,cap,l⟩,⟨h,m,cap2,k⟩] J (fun i a=>by
   have j:i < 2:=a;obtain rfl|rfl:i=0∨i=1:=K
   ·exact f
   ·exact g)
  (fun i a=>by
   have j:i < 2:=a;obtain rfl|rfl:i=0∨i=1:=K
   ·exact b
   ·exact c) (by show(upto _ 2).length≤_;rw[e,dG,b.len,c.len];omega)
 rw[show([⟨d,n,cap,l⟩,⟨h,m,cap2,k⟩]:List Part).length=2 from rfl,e]at this;exact this
theorem xP{k:List aN}{b:Option ai}{p cap3:Nat}{a:List aN}
  (o:w.cell? s=Z (ac d n cap))(q:w.cell? ⟨s,1,V⟩=Z (ac h m cap2))(r:w.cell? ⟨s,2,V⟩=Z (ac b p cap3))
  (f:bk w d n cap l)(v:n≤1000000)(g:bk w h m cap2 k)(u:m≤1000000)(j:bk w b p cap3 a)(x:p≤1000000):
  ao aj 87 #[ac (Z ⟨s,0,V⟩) 3 3] w (ly w (l++k++a)):=by
 have e:upto [⟨d,n,cap,l⟩,⟨h,m,cap2,k⟩,⟨b,p,cap3,a⟩] 3=l++k++a:=by simp[upto]
 have:=tz w s [⟨d,n,cap,l⟩,⟨h,m,cap2,k⟩,⟨b,p,cap3,a⟩] J (fun i c=>by
   have t:i < 3:=c;obtain rfl|rfl|rfl:i=0∨i=1∨i=2:=K
   ·exact o
   ·exact q
   ·exact r)
  (fun i c=>by
   have t:i < 3:=c;obtain rfl|rfl|rfl:i=0∨i=1∨i=2:=K
   ·exact f
   ·exact g
   ·exact j) (by show(upto _ 3).length≤_;rw[e,dG,dG,f.len,g.len,j.len];omega)
 rw[show([⟨d,n,cap,l⟩,⟨h,m,cap2,k⟩,⟨b,p,cap3,a⟩]:List Part).length=3 from rfl,e]at this;exact this
theorem sT(d:Option ai)(n cap:Nat)(l:List aN)(w:ad)(a:bk w d n cap l)(c:n≤1000000):
  ao aj 69 #[ac d n cap] w (ly w l):=by
 go_enter Tryz.func69,Tryz.ntmps69;go_wp2_with fail;refine(nB (jD w _ _ 0) (a.I (bz)) c).mono ?_;rintro e m ⟨k,j,h,rfl,g,i,base,b,f⟩;go_wp2_with fail;go_ret;exact⟨_,_,_,rfl,g,bz,base,bZ (Y.le (bz)) b,f⟩
theorem zP(F x:Operand)
  (L:o.op= .call {callee:= .builtin .append,args:= #[F,x],argTypes:= #[37,37]})
  (A:Y w0 w){d:Option ai}{n cap:Nat}{l:List aN}(N:a.eval F=ac d n cap)(p:br w w0 d n cap l)
  {h:Option ai}{m cap2:Nat}{k:List aN}(Q:a.eval x=ac h m cap2)(c:bk w h m cap2 k)(av:n+m≤1099511627776)
  (G: ∀ D v f,br f w0 D (n+m) v (l++k)→Y w0 f→z (a.put o.dst (ac D (n+m) v)) f):Oper.wp aj o a w z y:=by
 obtain⟨i,I,ar,an,T⟩:=kO tS;obtain⟨b,j,S,W⟩:=c.cells;have aq:=p.rows.sized.append c.sized;have J: (l++k).length=n+m:=by rw[dG,p.rows.len,c.len]
 have R: ∀ g,h=Z g→(∀ s u,(flat k)[s]?=Z u→w.cell? (g.add s)=Z u)→Oper.wp aj o a w z y:=by
  rintro g rfl ae;refine wp_append_own w F x 37 L w0 108 i _ 2 32 oj I ar an T rfl bP _ n (flat l) N p.own g m cap2 (flat k) Q (by rw[qA,c.len]) ae s7
   c4 K A.le ?_
  intro ax f M ab _;rw[←s5]at M;obtain⟨D,v,rfl,ag⟩:=tH J M (fun s B=>aq s (by rw[J];exact B));exact G D v f ag (kP A ab A.le (fun q al=>(p.own.lt q al).1))
 cases C:h with
 |none=>
  subst C;have r:m=0:=by
   have:=c.none rfl;have:=c.dj;omega
  have aa:=c.none rfl;subst r;subst aa;have E:k=[]:=gH.1 c.len;subst E;have am:=uO (P:=aj) (w:=w) w0.heap.size 37 o.type 108 i 2 oj I _ n (flat l) p.own;have:=G d cap w (by simpa using p) A;unfold Oper.wp;have t:z (a.put o.dst (ac d n cap)) w:=by simpa using this
  simp[execOp,L,resolve,invoke,builtin,N,Q,am,Result.andThen];exact t
 |some g=>
  rcases gm m with r|r
  ·have E:k=[]:=gH.1 (by rw[c.len,r]);exact R g C (fun s u B=>by rw[E]at B;simp[flat]at B)
  ·have e:=(S r).1;rw[C]at e;obtain rfl:g=⟨b,j,V⟩:=by simpa using e
   exact R _ C (s6 c.len W)
theorem ux(r:o.guard=V)(e x:Operand)
  (s:o.op= .call {callee:= .builtin .append,args:= #[e,x],argTypes:= #[37,37]})
  (q:Y w0 w){d:Option ai}{n cap:Nat}{l:List aN}(v:a.eval e=ac d n cap)(t:br w w0 d n cap l)
  {h:Option ai}{m cap2:Nat}{k:List aN}(B:a.eval x=ac h m cap2)(u:bk w h m cap2 k)(z:n+m≤1099511627776)
  (g: ∀ c b f,br f w0 c (n+m) b (l++k)→Y w0 f→wpList aj A y rest (a.put o.dst (ac c (n+m) b)) f):wpList aj A y (o::rest) a w:=
 rW r fun _ p=>zP e x s q v t B u z fun c b f i j=>p _ _ (g c b f i j)
theorem nU(j:o.guard=V)(b x:Operand)
  (p:o.op= .call {callee:= .builtin .append,args:= #[b,x],argTypes:= #[37,37]})
  (i:Y w0 w){d:Option ai}{n cap:Nat}{l:List aN}(s:a.eval b=ac d n cap)(q:br w w0 d n cap l)
  {h:Option ai}{m cap2:Nat}{k:List aN}(v:a.eval x=ac h m cap2)(r:bk w h m cap2 k)(t:n+m≤1099511627776)
  (g: ∀ e c f,br f w0 e (n+m) c (l++k)→Y w0 f→z (a.put o.dst (ac e (n+m) c)) f):if Region.wanted o (yielded A a.tmps)=true then Oper.wp aj o a w z y else B:=by
 have u:Region.wanted o (yielded A a.tmps)=true:=by simp[Region.wanted,j]
 rw[a9 u];exact zP b x p i s q v r t g
theorem yh(b:Y w0 w):br (H w (X #[] 108)) w0.heap.size (Z ⟨w,0,V⟩) 0 0 []:=
 ⟨⟨rfl,.inr ⟨w.heap.size,0,#[],rfl,b.le,(by show(w.heap.push (X #[] 108))[w.heap.size]?=_;simp),aG _,aJ _,rfl,rfl⟩⟩,
  ⟨rfl,aG _,aJ _,fun q=>(by cases q),⟨0,0,fun q=>absurd q K,fun i a=>absurd a K⟩,fun i a=>absurd a K⟩⟩
theorem row_one{k v:ByteArray}(e:1≤cap)(h:cap≤maxLen)(a:w.cell? b=Z (af k))(c:w.cell? ⟨b,1,V⟩=Z (af v))(g:k.size≤maxLen)(j:v.size≤maxLen):
  bk w (Z ⟨b,0,V⟩) 1 cap [⟨k,v⟩]:=by
 have d:b < w.heap.size:=by
  rcases dC b w with q|q
  ·exact q
  ·unfold World.cell? at a;rw[show w.heap[b]?=V from hj q]at a;simp at a
 refine⟨rfl,e,h,fun q=>(by cases q),⟨b,0,fun _=>⟨rfl,d⟩,fun i f=>?_⟩,fun i f=>?_⟩
 ·obtain rfl:i=0:=by omega
  exact⟨a,c⟩
 ·obtain rfl:i=0:=by omega
  exact⟨g,j⟩
theorem br.I(a:br w base d n cap l)(c:Y w f):br f base d n cap l:=by
 refine⟨⟨a.own.1,?_⟩,a.rows.I c⟩;rcases a.own.2 with⟨e,k⟩|⟨g,cap,h,e,i,b,rest⟩
 ·exact .inl ⟨e,k⟩
 ·refine .inr ⟨g,cap,h,e,i,?_,rest⟩;have j:g < w.heap.size:=by
   rcases dC g w with q|q
   ·exact q
   ·rw[hj q]at b;cases b
  rw[c.block g j];exact b
theorem pg{a:Func}{t u b r:Tmp}(d:a.results= #[.tmp t,.tmp u,.tmp b,.tmp r])(tmps:Array ak)(c:Program)(w:ad):
  (results a tmps).run c w= .ok (a0 #[tmps.getD t undef,tmps.getD u undef,tmps.getD b undef,tmps.getD r undef]) w:=by simp[results,d]
theorem DZ(d:Option ai)(n cap:Nat)(l:List aN)(w:ad)(a:bk w d n cap l)(c:n < 2):
  ao aj 202 #[ac d n cap] w fun e f=>e=ap (a0 #[af ByteArray.empty,ac V 0 0,ac V 0 0,fR 2])∧Y w f:=by
 clear a;have b:n / 2=0:=K;go_enter Tryz.func202,Tryz.ntmps202;go_wp2_with fail;all_goals
  ((try simp only[Exit.inBlock,Exit.then]);refine bH (pg rfl _ _ _) rfl ?_);exact⟨rfl,bz⟩
theorem D0(d:Option ai)(n cap p:Nat)(l:List aN)(w:ad)(a:bk w d n cap l)(D:2≤n)(F:n≤1000000)(u:p=n / 2)(j: ¬a3.cmp (aF (bJ l (p - 1))) (aF (bJ l p)) < 0):
  ao aj 202 #[ac d n cap] w fun e f=>e=ap (a0 #[af ByteArray.empty,ac V 0 0,ac V 0 0,fR 1])∧Y w f:=by
 have G:1≤p:=K;have b:p < n:=K;obtain⟨B,I,o,m⟩:=a.cells;have g:=N m;have h:=N (fun q=>(o q).1);have c:=N a;have E:=a.dj;have t:=a.dr;unfold maxLen at t;clear m o a;have z:=(g.out p b).1;have A:=(g.out (p - 1) K).1;have x:=(c.out.eD p b).1;have y:=(c.out.eD (p - 1) K).1;have C:=iR cap h.out b;have s:=fun w=>nP cap h.out (k:=(p:Int) - 1) K K w;have r: ((p:Int) - 1).toNat=p - 1:=K;rw[r]at s;have v:=N (show((n:Int) / 2)=(p:Int)by omega);clear u;have i:=N (fun w=>BH (bJ l (p - 1)) (bJ l p) w y x j);clear j;go_enter Tryz.func202,Tryz.ntmps202;go_wp2_with fail;rw[v.out];go_big_quiet((go_at_call 209;(first|(with_reducible exact pe (i.out _))|(with_reducible exact pd (i.out _)))));go_wp2_with fail;((try simp only[Exit.inBlock,Exit.then]);refine bH (pg rfl _ _ _) rfl ?_);exact⟨rfl,bz⟩
def et (l:List aN) (a:ByteArray):List aN:=if hasB a l=true then l.take (place a l)++l.drop (place a l+1)else l
def ec (l:List aN) (r:aN):List aN:=l.take (place r.key l)++[r]++l.drop (if hasB r.key l=true then place r.key l+1 else place r.key l)
theorem Ge(d:Option ai)(n cap:Nat)(k v:ByteArray)(w:ad)(c:k.size≤maxLen)(g:v.size≤maxLen)(a:gf ⟨k,v⟩=false):
  ao aj 90 #[ac d n cap,aw #[k,v]] w fun e f=>e=ap (a0 #[ac V 0 0,false,fR 1])∧Y w f:=by
 have hF:=fun w=>s4 k v w c g;rw[a]at hF;have b:=N hF;clear hF a;go_enter Tryz.func90,Tryz.ntmps90;go_wp2_with(go_at_call 108;(with_reducible refine(b.out _).mono ?_);rintro e i ⟨rfl,h⟩);go_ret3;exact⟨rfl,bz⟩
theorem br.e6{b:Nat}(a:br w base d n cap l)(f:b≤base):br w b d n cap l:=by
 refine⟨⟨a.own.1,?_⟩,a.rows⟩;rcases a.own.2 with⟨e,i⟩|⟨g,cap,c,e,h,rest⟩
 ·exact .inl ⟨e,i⟩
 ·exact .inr ⟨g,cap,c,e,bZ f h,rest⟩
theorem C3(d:Option ai)(n cap:Nat)(l:List aN)(a:ByteArray)(w:ad)(c:bk w d n cap l)(L:n≤1000000)(B:a.size≤maxLen):
  ao aj 92 #[ac d n cap,a] w fun e f=> ∃ r o j,e=ap (a0 #[ac r o j,(hasB a l)])∧br f w r o j (et l a)∧Y w f:=by
 have hF:=N (s3 d n cap l a w c B);have C:=lf a l;rw [c.len] at C;have t:hasB a l=true→place a l < n:=fun q=>by
  unfold hasB at q;rw [dp,c.len] at q;exact q.1
 have i:=N c;have J:=c.dj;clear c;unfold et;generalize place a l=p at *;cases g:hasB a l
 ·rw [g] at hF;rw [aS bP];clear t g;have y:=N (fun b (h:Y w b)=>i.out.I h);go_enter Tryz.func92,Tryz.ntmps92;go_wp2_with (first
   |(go_at_call 111;(with_reducible refine hF.out.mono ?_);rintro e f ⟨rfl,x,rfl⟩)
   |(go_at_call 87;(refine Calls.mono (nB (n:=n) (cap:=cap) ?_ (y.out _ ?_) K) ?_;(focus (first|(simp [go_sem,cF];done)|(refine Y.I ch ?_;simp [go_sem,cF];done)));(focus ((exact bz);done)));rintro e b ⟨r,o,j,rfl,D,z,v,s,u⟩))
  go_ret2;exact ⟨_,_,_,rfl,u.e6 (bZ (Y.le (bz)) s),bz⟩
 ·rw [g] at hF;have t:=t g;rw [a9 rfl];clear g;have A:=N (fun b (h:Y w b)=>(i.out.I h).head (k:=p) K);have E:=N (fun b (h:Y w b)=>(i.out.I h).tail (k:=p+1) K);have M:=nN d n cap p K;have F:=lY d n cap (p+1) K;have I:IntKind.i64.wrap ((p:Int)+1)=(p:Int)+1:=e0 _ (by have:=i.out.dr;unfold maxLen at this;omega);have G: ((p+1:Nat):Int)=(p:Int)+1:=K;rw [G] at F;go_enter Tryz.func92,Tryz.ntmps92;go_wp2_with (go_at_call 111;(with_reducible refine hF.out.mono ?_);rintro e f ⟨rfl,x,rfl⟩);go_region_with (go_at_call 87;(refine Calls.mono (o5 (n:=p) (cap:=cap) (m:=n - (p+1)) (cap2:=cap - (p+1)) ?_ ?_ (A.out _ ?_) K (E.out _ ?_) K) ?_;(focus (first|(simp [go_sem,cF];done)|(refine Y.I ch ?_;simp [go_sem,cF];done)));(focus (first|(simp [go_sem,cF];done)|(refine Y.I ch ?_;simp [go_sem,cF];done)));(focus ((exact bz);done));(focus ((exact bz);done)));rintro e b ⟨r,o,j,rfl,D,z,v,s,u⟩);all_goals
   go_wp2_with fail;go_ret2;exact ⟨_,_,_,rfl,u.e6 (bZ (Y.le (bz)) s),bz⟩
theorem Gg(d:Option ai)(n cap:Nat)(l:List aN)(k v:ByteArray)(w:ad)(c:bk w d n cap l)(al:n≤1000000)(D:k.size≤maxLen)(T:v.size≤maxLen)(B:gf ⟨k,v⟩=true):
  ao aj 90 #[ac d n cap,aw #[k,v]] w fun e f=> ∃ F E j,e=ap (a0 #[ac F E j,(hasB k l),aB])∧br f w F E j (ec l ⟨k,v⟩)∧Y w f:=by
 have z:=oK w k v;have A:=qn w k v;have hF:=fun w=>s4 k v w D T;rw [B] at hF;have y:=N hF;clear hF B;have o:=N (fun a (g:Y w a)=>s3 d n cap l k a (c.I g) D);have Q:=lf k l;rw [c.len] at Q;have t:hasB k l=true→place k l < n:=fun q=>by
  unfold hasB at q;rw [dp,c.len] at q;exact q.1
 have r:=N c;have ag:=c.dj;have R:=c.dr;unfold maxLen at R;clear c;unfold ec;dsimp only;generalize place k l=p at *;have C:=N (fun a (g:Y w a)=>(r.out.I g).head (k:=p) K);have am:=nN d n cap p K;cases h:hasB k l
 ·rw [h] at o;rw [aS bP];clear t h;have x:=N (fun a (g:Y w a)=>(r.out.I g).tail (k:=p) K);have G:=lY d n cap p K;go_enter Tryz.func90,Tryz.ntmps90;go_wp2_with (first
   |(go_at_call 108;(with_reducible refine (y.out _).mono ?_);rintro e a ⟨rfl,i⟩;have J:=i.I z;have j:=i.I A)
   |(go_at_call 111;(refine (o.out _ iB).mono ?_);rintro e f ⟨rfl,M,rfl⟩))
  go_region_with (go_at_call 87;(refine Calls.mono (xP (n:=p) (cap:=cap) (m:=1) (cap2:=1) (k:=[⟨k,v⟩]) (p:=n - p) (cap3:=cap - p) ?_ ?_ ?_ (C.out _ ?_) K (row_one (b:=a.heap.size) K c4 ?_ ?_ ch ch) K (x.out _ ?_) K) ?_;(focus (first|(simp [go_sem,cF];done)|(refine Y.I ch ?_;simp [go_sem,cF];done)));(focus (first|(simp [go_sem,cF];done)|(refine Y.I ch ?_;simp [go_sem,cF];done)));(focus (first|(simp [go_sem,cF];done)|(refine Y.I ch ?_;simp [go_sem,cF];done)));(focus ((exact bz);done));(focus (first|(simp [go_sem,cF];done)|(refine Y.I ch ?_;simp [go_sem,cF];done)));(focus (first|(simp [go_sem,cF];done)|(refine Y.I ch ?_;simp [go_sem,cF];done)));(focus ((exact bz);done)));rintro e ae ⟨aa,W,L,rfl,S,P,I,s,u⟩);all_goals
   go_wp2_with fail;go_ret3;exact ⟨_,_,_,rfl,u.e6 (bZ (Y.le (bz)) s),bz⟩
 ·rw [h] at o;have t:=t h;rw [a9 rfl];clear h;have x:=N (fun a (g:Y w a)=>(r.out.I g).tail (k:=p+1) K);have G:=lY d n cap (p+1) K;have ab: ((p+1:Nat):Int)=(p:Int)+1:=K;rw [ab] at G;go_enter Tryz.func90,Tryz.ntmps90;go_wp2_with (first
   |(go_at_call 108;(with_reducible refine (y.out _).mono ?_);rintro e a ⟨rfl,i⟩;have J:=i.I z;have j:=i.I A)
   |(go_at_call 111;(refine (o.out _ iB).mono ?_);rintro e f ⟨rfl,M,rfl⟩))
  go_region_with (go_at_call 87;(refine Calls.mono (xP (n:=p) (cap:=cap) (m:=1) (cap2:=1) (k:=[⟨k,v⟩]) (p:=n - (p+1)) (cap3:=cap - (p+1)) ?_ ?_ ?_ (C.out _ ?_) K (row_one (b:=a.heap.size) K c4 ?_ ?_ ch ch) K (x.out _ ?_) K) ?_;(focus (first|(simp [go_sem,cF];done)|(refine Y.I ch ?_;simp [go_sem,cF];done)));(focus (first|(simp [go_sem,cF];done)|(refine Y.I ch ?_;simp [go_sem,cF];done)));(focus (first|(simp [go_sem,cF];done)|(refine Y.I ch ?_;simp [go_sem,cF];done)));(focus ((exact bz);done));(focus (first|(simp [go_sem,cF];done)|(refine Y.I ch ?_;simp [go_sem,cF];done)));(focus (first|(simp [go_sem,cF];done)|(refine Y.I ch ?_;simp [go_sem,cF];done)));(focus ((exact bz);done)));rintro e ae ⟨aa,W,L,rfl,S,P,I,s,u⟩);all_goals
   go_wp2_with fail;go_ret3;exact ⟨_,_,_,rfl,u.e6 (bZ (Y.le (bz)) s),bz⟩
theorem tX(cap:Nat)(e:0 < n→d=Z ⟨b,j,V⟩)(c:0 < n)(w:ad):
  (Instr.indexAt 37 (ac d n cap) (O U 0)).run aj w= .ok (au (Z ⟨b,j,V⟩)) w:=by
 have a:=iR cap e c w;rw[jG,gI]at a;exact a
theorem EO(d h:Option ai)(n cap m cap2:Nat)(l k:List aN)(w:ad)(a:bk w d n cap l)(b:bk w h m cap2 k)(J:n≤1000000)(I:m≤1000000)(L:0 < n)(c:0 < m)
  (G:0≤a3.cmp (aF (bJ l (n - 1))) (aF (bJ k 0))):
  ao aj 95 #[ac d n cap,ac h m cap2] w fun e f=>e=ap (a0 #[ac V 0 0,fR 2])∧Y w f:=by
 obtain⟨D,M,j,g⟩:=a.cells;have s:=N g;have u:=N (fun q=>(j q).1);have p:=N a;have A:=a.dr;unfold maxLen at A;clear g j a;obtain⟨E,P,o,i⟩:=b.cells;have t:=N i;have v:=N (fun q=>(o q).1);have r:=N b;have B:=b.dr;unfold maxLen at B;clear i o b;have C:=(s.out (n - 1) K).1;have x:=(t.out 0 c).1;have Q:=(p.out.eD (n - 1) K).1;have R:=(r.out.eD 0 c).1;have z:=fun w=>nP cap u.out (k:=(n:Int) - 1) K K w;have y: ((n:Int) - 1).toNat=n - 1:=K;rw[y]at z;have F:=tX cap2 v.out c;rw[jG,gI]at x;go_enter pN,pO;go_wp2_with fail;go_big_quiet((go_at_call 93;(first|(with_reducible exact pe (gO _ _ _ ch ch))|(with_reducible exact pd (gO _ _ _ ch ch)))));go_wp2_with fail;go_ret2;exact⟨rfl,bz⟩
def xE (l k:List aN):Prop:=0 < l.length→0 < k.length→a3.cmp (aF (bJ l (l.length - 1))) (aF (bJ k 0)) < 0
theorem Cy(d:Option ai)(n cap:Nat)(l:List aN)(a:ByteArray)(w:ad)(b:bk w d n cap l)(F:n≤1000000)(x:a.size≤maxLen):
  ao aj 94 #[ac d n cap,a] w fun e f=> ∃ o k h q m i,e=ap (a0 #[ac o k h,ac q m i])∧br f w o k h (l.take (place a l))∧bk f q m i (l.drop (place a l))∧Y w f:=by
 have s:=N (yq d n cap l a w b x);have c:=lf a l;rw [b.len] at c;have r:=N b;have D:=b.dj;clear b;generalize place a l=p at *;have I:=nN d n cap p K;have J:=lY d n cap p c;have v:=N (fun g (j:Y w g)=>(r.out.I j).head c);have A:=N (fun g (j:Y w g)=>(r.out.I j).tail c);go_enter Tryz.func94,Tryz.ntmps94;go_wp2_with (go_at_call 113;refine s.out.mono ?_;rintro e f ⟨rfl,C,rfl⟩);go_region_with (first
  |(go_at_call 87;(refine Calls.mono (nB (n:=p) (cap:=cap) ?_ (v.out _ ?_) K) ?_;(focus (simp [go_sem,cF];done));(focus ((exact bz);done)));rintro e g ⟨o,k,h,rfl,G,u,B,t,y⟩)
  |(go_at_call 87;(refine Calls.mono (nB (n:=n - p) (cap:=cap - p) ?_ (A.out _ ?_) K) ?_;(focus (first|(simp [go_sem,cF];done)|exact u.I (by simp [go_sem,cF];done)));(focus ((exact bz);done)));rintro e L ⟨q,m,i,rfl,z,E, -⟩))
 all_goals
  go_wp2_with fail;go_ret2;exact ⟨_,_,_,_,_,_,rfl,(y.e6 (bZ (Y.le (bz)) t)).I (bz),z,bz⟩
theorem EL(d h:Option ai)(n cap m cap2:Nat)(l k:List aN)(w:ad)(c:bk w d n cap l)(o:bk w h m cap2 k)(y:n≤1000000)(x:m≤1000000)(p:n=0):
  ao aj 95 #[ac d n cap,ac h m cap2] w fun e f=> ∃ j i a,e=ap (a0 #[ac j i a,aB])∧br f w j i a (l++k)∧Y w f:=by
 have s:=N (fun b (g:Y w b)=>c.I g);have r:=N (fun b (g:Y w b)=>o.I g);have a:=c.dj;clear c o;subst p;go_enter pN,pO;go_wp2_with fail;go_big_quiet (fail);go_wp2_with (go_at_call 87;(refine Calls.mono (o5 (n:=0) (cap:=cap) (m:=m) (cap2:=cap2) ?_ ?_ (s.out _ ?_) K (r.out _ ?_) K) ?_;(focus (first|(simp [go_sem,cF];done)|(refine Y.I ch ?_;simp [go_sem,cF];done)));(focus (first|(simp [go_sem,cF];done)|(refine Y.I ch ?_;simp [go_sem,cF];done)));(focus ((exact bz);done));(focus ((exact bz);done)));rintro e b ⟨j,i,a,rfl,z,v,u,q,t⟩);go_ret2;exact ⟨_,_,_,rfl,t.e6 (bZ (Y.le (bz)) q),bz⟩
theorem EM(d h:Option ai)(n cap m cap2:Nat)(l k:List aN)(w:ad)(c:bk w d n cap l)(g:bk w h m cap2 k)(z:n≤1000000)(y:m≤1000000)(A:0 < n)(p:m=0):
  ao aj 95 #[ac d n cap,ac h m cap2] w fun e f=> ∃ o j a,e=ap (a0 #[ac o j a,aB])∧br f w o j a (l++k)∧Y w f:=by
 have s:=N (fun b (i:Y w b)=>c.I i);have r:=N (fun b (i:Y w b)=>g.I i);have a:=c.dj;have v:=g.dj;clear c g;subst p;go_enter pN,pO;go_wp2_with fail;go_big_quiet (fail);go_wp2_with (go_at_call 87;(refine Calls.mono (o5 (n:=n) (cap:=cap) (m:=0) (cap2:=cap2) ?_ ?_ (s.out _ ?_) K (r.out _ ?_) K) ?_;(focus (first|(simp [go_sem,cF];done)|(refine Y.I ch ?_;simp [go_sem,cF];done)));(focus (first|(simp [go_sem,cF];done)|(refine Y.I ch ?_;simp [go_sem,cF];done)));(focus ((exact bz);done));(focus ((exact bz);done)));rintro e b ⟨o,j,a,rfl,B,x,u,q,t⟩);go_ret2;exact ⟨_,_,_,rfl,t.e6 (bZ (Y.le (bz)) q),bz⟩
theorem EN(d h:Option ai)(n cap m cap2:Nat)(l k:List aN)(w:ad)(a:bk w d n cap l)(b:bk w h m cap2 k)(ae:n≤1000000)(ab:m≤1000000)(ag:0 < n)(o:0 < m)
  (W:a3.cmp (aF (bJ l (n - 1))) (aF (bJ k 0)) < 0):
  ao aj 95 #[ac d n cap,ac h m cap2] w fun e f=> ∃ r p i,e=ap (a0 #[ac r p i,aB])∧br f w r p i (l++k)∧Y w f:=by
 have L:=N (fun g (j:Y w g)=>a.I j);have J:=N (fun g (j:Y w g)=>b.I j);obtain ⟨Q,am,c,u⟩:=a.cells;have A:=N u;have C:=N (fun q=>(c q).1);have y:=N a;have M:=a.dr;unfold maxLen at M;clear u c a;obtain ⟨R,an,x,v⟩:=b.cells;have B:=N v;have D:=N (fun q=>(x q).1);have z:=N b;have P:=b.dr;unfold maxLen at P;clear v x b;have T:decide (0≤a3.cmp (aF (bJ l (n - 1))) (aF (bJ k 0)))=false:=cJ;have E:=(A.out (n - 1) K).1;have s:=(B.out 0 o).1;have aq:=(y.out.eD (n - 1) K).1;have ar:=(z.out.eD 0 o).1;have t:=fun w=>nP cap C.out (k:=(n:Int) - 1) K K w;have F: ((n:Int) - 1).toNat=n - 1:=K;rw [F] at t;have G:=tX cap2 D.out o;rw [jG,gI] at s;go_enter pN,pO;go_wp2_with fail;go_big_quiet ((go_at_call 93;(first|(with_reducible exact pe (gO _ _ _ ch ch))|(with_reducible exact pd (gO _ _ _ ch ch)))));clear E s t G;go_wp2_with (go_at_call 87;(refine Calls.mono (o5 (n:=n) (cap:=cap) (m:=m) (cap2:=cap2) ?_ ?_ (L.out _ ?_) K (J.out _ ?_) K) ?_;(focus (first|(simp [go_sem,cF];done)|(refine Y.I ch ?_;simp [go_sem,cF];done)));(focus (first|(simp [go_sem,cF];done)|(refine Y.I ch ?_;simp [go_sem,cF];done)));(focus ((exact bz);done));(focus ((exact bz);done)));rintro e g ⟨r,p,i,rfl,al,aa,S,I,c⟩);go_ret2;exact ⟨_,_,_,rfl,c.e6 (bZ (Y.le (bz)) I),bz⟩
theorem EP(d h:Option ai)(n cap m cap2:Nat)(l k:List aN)(w:ad)(a:bk w d n cap l)(g:bk w h m cap2 k)(j:n≤1000000)(i:m≤1000000)(r:xE l k):
  ao aj 95 #[ac d n cap,ac h m cap2] w fun e f=> ∃ q p o,e=ap (a0 #[ac q p o,aB])∧br f w q p o (l++k)∧Y w f:=by
 rcases gm n with b|b
 ·exact EL d h n cap m cap2 l k w a g j i b
 ·rcases gm m with c|c
  ·exact EM d h n cap m cap2 l k w a g j i b c
  ·have:=r (by rw[a.len];exact b) (by rw[g.len];exact c);rw[a.len]at this;exact EN d h n cap m cap2 l k w a g j i b c this
end
section
open Go.BigFrame Go.RowKit Go.ChangeShapes Go.WideShapes Go.ChangeAt Go.Joins Go.Deep
open Go.ChangeMaps (open_string shut_string)
theorem Ce:aj.cellsOf 9=1:=by kernel_rfl
instance:Inhabited (ByteArray×ByteArray):=⟨(ByteArray.empty,ByteArray.empty)⟩
end
section
def cU (low high:ByteArray) (u:Bool) (r:aN):Bool:=iL low high u r.key
def visit (l:List aN) (rev:Bool):List aN:=if rev=true then l.reverse else l
theorem ur(l:List aN)(rev:Bool): (visit l rev).length=l.length:=by unfold visit;split <;> simp
theorem zI(a:k < l.length):cN (visit l rev) k=cN l (if rev=true then l.length - 1 - k else k):=by
 unfold visit;split
 ·rw[fL (by simpa using a),fL K,List.getElem_reverse]
 ·rfl
def ix (low high:ByteArray) (u:Bool) (lim:Int) (rev:Bool) (l:List aN):List aN:=
 if 1≤lim then((visit l rev).filter (cU low high u)).take lim.toNat else(visit l rev).filter (cU low high u)
def found (low high:ByteArray) (u:Bool) (xs:List aN) (k:Nat):List aN:=(xs.take k).filter (cU low high u)
theorem wM(a:k < xs.length)(b:cU low high u (cN xs k)=true):found low high u xs (k+1)=found low high u xs k++[cN xs k]:=by
 unfold found;rw[om a,gn,←fL a];simp[b]
theorem wO(a:k < xs.length)(b:cU low high u (cN xs k)=false):found low high u xs (k+1)=found low high u xs k:=by
 unfold found;rw[om a,gn,←fL a];simp[b]
theorem wN(low high:ByteArray)(u:Bool)(xs:List aN)(k:Nat): (found low high u xs k).length≤xs.length:=by
 unfold found;exact bZ (kg _ _) lu
theorem DC(low high:ByteArray)(u:Bool)(xs:List aN)(k:Nat):xs.filter (cU low high u)=found low high u xs k++(xs.drop k).filter (cU low high u):=by
 unfold found;rw[←gn,jF]
theorem zi(b:l.length≤k)(a:1≤lim→((found low high u (visit l rev) k).length:Int) < lim):
  ix low high u lim rev l=found low high u (visit l rev) k:=by
 have e:found low high u (visit l rev) k=(visit l rev).filter (cU low high u):=by
  unfold found;rw[pP (by rw[ur];exact b)]
 unfold ix;rw[e]at a ⊢;split
 ·rename_i q;have:=a q;rw[pP K]
 ·rfl
theorem zj(a:1≤lim)(b: ((found low high u (visit l rev) k).length:Int)=lim):
  ix low high u lim rev l=found low high u (visit l rev) k:=by
 unfold ix;rw[a9 a,DC low high u (visit l rev) k];exact rX K
end
section
open Go.BigFrame Go.RowKit Go.WideShapes
theorem zR(D x:Operand)
  (I:o.op= .call {callee:= .builtin .append,args:= #[D,x],argTypes:= #[37,37]})
  (base:Nat)(R:base≤w.heap.size){d:Option ai}{n cap:Nat}{l:List aN}(L:a.eval D=ac d n cap)(q:br w base d n cap l)
  {h:Option ai}{m cap2:Nat}{k:List aN}(M:a.eval x=ac h m cap2)(c:bk w h m cap2 k)(aq:n+m≤1099511627776)
  (E: ∀ B s f,br f base B (n+m) s (l++k)→w.grownBy f (Value.ownBlock (ac d n cap))→z (a.put o.dst (ac B (n+m) s)) f):Oper.wp aj o a w z y:=by
 obtain⟨i,F,an,al,S⟩:=kO tS;obtain⟨b,j,Q,T⟩:=c.cells;have am:=q.rows.sized.append c.sized;have G: (l++k).length=n+m:=by rw[dG,q.rows.len,c.len]
 have N: ∀ g,h=Z g→(∀ r u,(flat k)[r]?=Z u→w.cell? (g.add r)=Z u)→Oper.wp aj o a w z y:=by
  rintro g rfl ab;refine wp_append_own w D x 37 I base 108 i _ 2 32 oj F an al S rfl bP _ n (flat l) L q.own g m cap2 (flat k) M (by rw[qA,c.len]) ab s7
   c4 K R ?_
  intro ar f J aa _;rw[←s5]at J;obtain⟨B,s,rfl,ae⟩:=tH G J (fun r v=>am r (by rw[G];exact v));exact E B s f ae aa
 cases A:h with
 |none=>
  subst A;have p:m=0:=by
   have:=c.none rfl;have:=c.dj;omega
  have W:=c.none rfl;subst p;subst W;have C:k=[]:=gH.1 c.len;subst C;have ag:=uO (P:=aj) (w:=w) base 37 o.type 108 i 2 oj F _ n (flat l) q.own;have:=E d cap w (by simpa using q) ⟨rfl,rfl,rfl,aG _,fun _ _ _=>rfl⟩;unfold Oper.wp;have t:z (a.put o.dst (ac d n cap)) w:=by simpa using this
  simp[execOp,I,resolve,invoke,builtin,L,M,ag,Result.andThen];exact t
 |some g=>
  rcases gm m with p|p
  ·have C:k=[]:=gH.1 (by rw[c.len,p]);exact N g A (fun r u v=>by rw[C]at v;simp[flat]at v)
  ·have e:=(Q p).1;rw[A]at e;obtain rfl:g=⟨b,j,V⟩:=by simpa using e
   exact N _ A (s6 c.len T)
theorem IL(r:o.guard=V)(e x:Operand)
  (s:o.op= .call {callee:= .builtin .append,args:= #[e,x],argTypes:= #[37,37]})
  (base:Nat)(q:base≤w.heap.size){d:Option ai}{n cap:Nat}{l:List aN}(v:a.eval e=ac d n cap)(t:br w base d n cap l)
  {h:Option ai}{m cap2:Nat}{k:List aN}(B:a.eval x=ac h m cap2)(u:bk w h m cap2 k)(z:n+m≤1099511627776)
  (g: ∀ c b f,br f base c (n+m) b (l++k)→w.grownBy f (Value.ownBlock (ac d n cap))→wpList aj A y rest (a.put o.dst (ac c (n+m) b)) f):wpList aj A y (o::rest) a w:=
 rW r fun _ p=>zR e x s base q v t B u z fun c b f i j=>p _ _ (g c b f i j)
theorem rj(j:o.guard=V)(b x:Operand)
  (p:o.op= .call {callee:= .builtin .append,args:= #[b,x],argTypes:= #[37,37]})
  (base:Nat)(i:base≤w.heap.size){d:Option ai}{n cap:Nat}{l:List aN}(s:a.eval b=ac d n cap)(q:br w base d n cap l)
  {h:Option ai}{m cap2:Nat}{k:List aN}(v:a.eval x=ac h m cap2)(r:bk w h m cap2 k)(t:n+m≤1099511627776)
  (g: ∀ e c f,br f base e (n+m) c (l++k)→w.grownBy f (Value.ownBlock (ac d n cap))→z (a.put o.dst (ac e (n+m) c)) f):if Region.wanted o (yielded A a.tmps)=true then Oper.wp aj o a w z y else B:=by
 have u:Region.wanted o (yielded A a.tmps)=true:=by simp[Region.wanted,j]
 rw[a9 u];exact zR b x p base i s q v r t g
theorem qG(c:w.grownBy f (Value.ownBlock (ac d n cap)))(e:br w base d n cap l)(a:Y w0 w)(b:w0.heap.size≤base):Y w0 f:=
 kP a c a.le (fun q g=>bZ b (e.own.lt q g).1)
theorem DX(b:w.grownBy f (Value.ownBlock (ac d n cap)))(c:br w base d n cap l)(a:base≤w.heap.size):Below base w f:=
 kP (Below.refl _ _) b a (fun q e=>(c.own.lt q e).1)
theorem hz{o g:Nat}(e:w.grownBy f (Value.ownBlock (ac (Z ⟨g,0,V⟩) n cap)))(c:w.cell? ⟨b,o,V⟩=Z v)(h:b≠g):f.cell? ⟨b,o,V⟩=Z v:=by
 have d:b < w.heap.size:=by
  rcases dC b w with q|q
  ·exact q
  ·unfold World.cell? at c;rw[show w.heap[b]?=V from hj q]at c;simp at c
 rw[uT (w:=w) (a:=⟨b,o,V⟩) (e.block b d (by simp[Value.ownBlock];exact h)),c]
end
end Go.Proofs.YtbkmjhhpcinppaaGreatDoor
