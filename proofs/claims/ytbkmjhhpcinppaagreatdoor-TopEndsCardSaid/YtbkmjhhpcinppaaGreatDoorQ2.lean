import Derived.Test.YtbkmjhhpcinppaaGreatDoorQ1
namespace Go.Proofs.YtbkmjhhpcinppaaGreatDoor
set_option linter.unusedVariables false
set_option linter.defProp false
set_option linter.unusedSimpArgs false
set_option maxRecDepth 100000
set_option maxHeartbeats 40000000
open Ending renaming returned→ap
open Go renaming Addr→ai,Calls→ao,Value→ak,World→ad
open Go.Proofs.Tryz renaming prog→aj
open IntKind renaming i64→U
open Obj renaming cells→X
open Option renaming none→V,some→Z
open Value renaming agg→aw,bool→ah,int→O,nilIface→aB,pointer→au,slice→ac,string→af,tuple→a0
open World renaming alloc→H,setCells→ba
variable {z A T : ad → Prop} {E : DataW ak} {m : Array Bool} {P : Program} {B : Exit → Act → ad → Prop} {S S' : List Nat} {L w u : ad} {a : Act} {b ca j k l n : Nat} {c : Int} {key x y : ByteArray} {s : Region.Mode} {o ok : Oper} {h : Array Oper} {v : ak}
section
open Go.RowKit Go.Extern.Stop Go.Stop Go.Extern
abbrev bh (t:TypeId):ak:=au (Z ⟨1,t,V⟩)
abbrev mx:ak:= .iface 199 (aw #[bh 32])
theorem Bt(t:ak)(w:ad):
  ao aj 34 #[aB,t] w fun e u=>e=ap (ah false)∧u=w:=by
 go_enter Tryz.func34,Tryz.ntmps34;go_wp2_with fail;go_ret;exact⟨rfl,rfl⟩
theorem Br(t:ai)(w:ad): (ReflectliteValue.unpack (.iface 104 (au (Z t)))).run aj w
  = .ok (aw #[bh 104,au (Z w),O .u64 150]) (H w (X #[au (Z t)] 104)):=G
theorem Bp(a:ai)(w:ad): (ReflectliteValue.methodAny (ReflectliteValue.valueError "reflectlite.Value.Type" 0) (fun t _ _ _=>ReflectliteType.toType t) #[aw #[bh 104,au (Z a),O .u64 150]]).run aj w
  = .ok (.iface 199 (aw #[bh 104])) w:=G
theorem Bi(a:ak)(w:ad): (Go.method 446 199 (aw #[a]) "Kind").run aj w= .ok (229,a) w:=by kernel_rfl
theorem Be(w:ad): ((ReflectliteType.abiMethod fun t=>Functor.map (fun a:Nat=>Value.int IntKind.u8 (a:Int)) (Rtype.kind t)) #[bh 104]).run aj w= .ok (O .u8 22) w:=by kernel_rfl
theorem Bd(w:ad): ((ReflectliteType.abiMethod fun t=>Functor.map (fun a:Nat=>Value.int IntKind.u8 (a:Int)) (Rtype.kind t)) #[bh 48]).run aj w= .ok (O .u8 2) w:=by kernel_rfl
theorem yO(c:Sem ak)(f:TypeId→ai→Nat→Nat→Sem ak)(v:ak):
  ReflectliteValue.method c f #[v]=(do match ←ReflectliteValue.parts v with|none=>c|some (t,a,b)=>f t a b (b % 32)):=rfl
theorem vD(a:ai)(w:ad): (ReflectliteValue.parts (aw #[bh 104,au (Z a),O .u64 150])).run aj w= .ok (Z (104,a,150)) w:=by kernel_rfl
theorem Bc(a p:ai)(L:ad)(b:L.cell? a=Z (au (Z p))):
  (ReflectliteValue.method (ReflectliteValue.valueError "reflectlite.Value.IsNil" 0) ReflectliteValue.isNil #[aw #[bh 104,au (Z a),O .u64 150]]).run aj L= .ok (ah false) L:=by
 rw[yO];simp only[n4,vD,Result.andThen];simp[ReflectliteValue.isNil,loadVar,isAgg,underlying,Tryz.underlying104,b,Result.andThen]
theorem Bg(a:ak)(w:ad): (Go.method 446 199 (aw #[a]) "Elem").run aj w= .ok (244,aw #[a]) w:=by kernel_rfl
theorem Bh(a:ak)(w:ad): (Go.method 446 199 (aw #[a]) "Implements").run aj w= .ok (245,aw #[a]) w:=by kernel_rfl
theorem Bf(a:ak)(w:ad): (Go.method 446 199 (aw #[a]) "AssignableTo").run aj w= .ok (242,aw #[a]) w:=by kernel_rfl
theorem A9(w:ad): (ReflectliteType.method ReflectliteType.elem #[aw #[bh 104]]).run aj w= .ok (.iface 199 (aw #[bh 48])) w:=by kernel_rfl
theorem Bb(w:ad): (ReflectliteType.relation "Implements" ReflectliteType.implements_ #[aw #[bh 48],.iface 199 (aw #[bh 32])]).run aj w= .ok (ah true) w:=by kernel_rfl
theorem Bn(v:ak)(w:ad): (ReflectliteType.typeOf #[.iface 48 v]).run aj w= .ok (.iface 199 (aw #[bh 48])) w:=by kernel_rfl
theorem A5(w:ad): (ReflectliteType.relation "AssignableTo" ReflectliteType.assignableTo #[aw #[bh 48],.iface 199 (aw #[bh 48])]).run aj w= .ok (ah true) w:=by kernel_rfl
theorem Bq(n:Int)(w:ad): (ReflectliteValue.unpack (.iface 48 (O U n))).run aj w
  = .ok (aw #[bh 48,au (Z w),O .u64 130]) (H w (X #[O U n] 48)):=G
theorem A8(w:ad): (Rtype.elem? 104).run aj w= .ok (Z 48) w:=by kernel_rfl
theorem Bj(p:ai)(w:ad): (ReflectliteValue.mk 48 p ReflectliteValue.flagAddr).run aj w= .ok (aw #[bh 48,au (Z p),O .u64 386]) w:=by kernel_rfl
theorem Ba(a p:ai)(L:ad)(b:L.cell? a=Z (au (Z p))):
  (ReflectliteValue.method (ReflectliteValue.valueError "reflectlite.Value.Elem" 0) ReflectliteValue.elem #[aw #[bh 104,au (Z a),O .u64 150]]).run aj L
   = .ok (aw #[bh 48,au (Z p),O .u64 386]) L:=by
 rw[yO];simp only[n4,vD,Result.andThen];simp[ReflectliteValue.elem,loadVar,isAgg,underlying,Tryz.underlying104,b,Result.andThen,A8,Bj]
theorem GC(v x:ak):ReflectliteValue.set #[v,x]=(do
  let (Z (dst,a,e),Z (c,b,_)):=(←ReflectliteValue.parts v,←ReflectliteValue.parts x)
   |unsupported (.noEntry "extern/(internal/reflectlite.Value).Set.zeroValue")
  if e / ReflectliteValue.flagAddr % 2==0 then unsupported (.noEntry "extern/(internal/reflectlite.Value).Set.unaddressable")
  let d ←loadVar c b
  if ←Rtype.directlyAssignable dst c then storeVar dst a d
  else if ←Rtype.implements dst c then
   if(←Rtype.kind c)==20 then
    match d with
    |aB=>unsupported (.noEntry "extern/reflectlite: a nil value of one interface type handed on as a value of another")
    |_=>storeVar dst a d
   else storeVar dst a (.iface c d)
  else panicString ("reflectlite.Set: value of type " ++(←Rtype.spelt c)++ " is not assignable to type " ++(←Rtype.spelt dst))
  pure (a0 #[])):=rfl
theorem Bk(a:ai)(w:ad): (ReflectliteValue.parts (aw #[bh 48,au (Z a),O .u64 386])).run aj w= .ok (Z (48,a,386)) w:=by kernel_rfl
theorem Bl(a:ai)(w:ad): (ReflectliteValue.parts (aw #[bh 48,au (Z a),O .u64 130])).run aj w= .ok (Z (48,a,130)) w:=by kernel_rfl
theorem A7(w:ad): (Rtype.directlyAssignable 48 48).run aj w= .ok true w:=by kernel_rfl
theorem Bm(a b:ai)(n:Int)(f:ak)(L:ad)(c:L.cell? b=Z (O U n))(e:L.cell? a=Z f)(d:L.frozen? a=false):
  (ReflectliteValue.set #[aw #[bh 48,au (Z a),O .u64 386],aw #[bh 48,au (Z b),O .u64 130]]).run aj L
   = .ok (a0 #[]) (L.setCell a (O U n)):=by
 rw[GC];simp only[n4,Bk,Bl,Result.andThen];simp[ReflectliteValue.flagAddr,loadVar,isAgg,underlying,Tryz.underlying48,c,Result.andThen,A7,storeVar,Value.cells,storeCells,Addr.add];rw[run_store aj L a _ _ aq];simp[e,d]
theorem Cq(w:ad):ao aj 13 #[aB] w fun e u=>e=ap (O U 0)∧Y w u:=by
 go_enter Tryz.func13,Tryz.ntmps13;go_wp2_with(go_at_call 34;refine(Bt _ _).mono ?_;rintro e u ⟨rfl,rfl⟩);go_ret;exact⟨rfl,bz⟩
end
section
section
variable {D : List Nat} 
def gL (z A:ad→Prop) (D:List Nat) (l:Nat) (m:Array Bool) (w:ad):Prop:=z w∧(∀ i∈D,m.getD i true=false→m.getD l true=false)∧(m.getD l true=false→A w)
theorem Az(e:k≠l){m:Array Bool}{w:ad}(d:gL z A D l m w):gL z A D l (m.setIfInBounds k true) w:=by
 obtain⟨a,b,c⟩:=d;refine⟨a,fun i f q=>?_,fun q=>c (td q).1⟩;rw[jC true e];exact b i f (td q).1
theorem Ax(o:k≠l)(p: ∀ i∈D,lN s h l i=true)(m:Array Bool)(j:Nat)(v w:ad)(n:gL z A D l m v)(r:j∈Region.ready s h m)
  (g:gL z A D l ((m.setIfInBounds j true).setIfInBounds k true) w):gL z A D l (m.setIfInBounds j true) w:=by
 obtain⟨a,b,c⟩:=g;refine⟨a,fun i d q=>?_,fun q=>c (by rw[jC true o];exact q)⟩;obtain⟨f,x⟩:=td q;have u:=n.2.1 i d f;have t:j≠l:=fun e=>by subst e;exact E8 (w9 (p i d) r) f
 rw[jC true t];exact u
def oL (D:List Nat) (l:Nat) (m:Array Bool):Bool:=D.all fun i=>m.getD i true|| !m.getD l true
theorem qe(b:z w)(c:A w)(a:oL D l m=true):gL z A D l m w:=by
 refine⟨b,fun i d q=>?_,fun _=>c⟩;have:=mT.1 a i d;rw[q]at this;simpa using this
def th (D:List Nat) (l:Nat) (m:Array Bool):Bool:=m.getD l true && D.all fun i=>m.getD i true
theorem Ay(b:z w)(a:th D l m=true):gL z A D l m w:=by
 unfold th at a;rw[fZ]at a;refine⟨b,fun i c q=>?_,fun q=>?_⟩
 ·have:=mT.1 a.2 i c;rw[q]at this;cases this
 ·rw[a.1]at q;cases q
theorem eF(b:h[k]?=Z ok)(G:Region.noSelect h=true)(y:Region.free s h m k=true)(F: (Region.ready s h m).contains k=true)
  (f: (k !=l && (D.all fun i=>lN s h l i) && oL D l m)=true)(u: ∀ c a w,B (.panic c) (a.put ok.dst v) w→B (.panic c) a w)
  (x: ∀ w,z w→(k∈D→A w)→T w)(I:YieldsIf P h T ok v a)(r:z w)(t:A w)
  (o:dy P s h B (gL z A D l) ca (m.setIfInBounds k true) (a.put ok.dst v) w):dy P s h B (gL z A D l) (ca+1) m a w:=by
 simp only[fZ,bne_iff_ne,ne_eq]at f;obtain⟨⟨d,g⟩,n⟩:=f;refine IH b (uH G) u (fun m w q=>Az d q) (fun m j J w p b E _ q=>Ax d (fun i C=>mT.1 g i C) m j J w p E q) (fun m w q b=>x w q.1 fun e=>?_) ca m a w (uI b y) (by simpa using F) I (qe r t n) o;exact q.2.2 (q.2.1 k e (mO.1 b).1)
theorem lj(p:h[j]?=Z o)(d:Region.ready s h m=[j])(n:oL D l (m.setIfInBounds j true)=true)
  (c: ∀ b:Act→ad→Prop,Shut (∀ a w,z w→A w→dy P s h B (gL z A D l) ca (m.setIfInBounds j true) a w→b a w)→if Region.wanted o (yielded h a.tmps)=true then Oper.wp P o a w b B else b (a.put o.dst undef) w):
  dy P s h B (gL z A D l) (ca+1) m a w:=by
 refine⟨fun c=>(by rw[c]at d;cases d),fun k e=>?_⟩;rw[d,aO]at e;subst e;exact l9 p fun b C=>c b fun a w f g i=>C a w ⟨qe f g n,i⟩
theorem iU(n:h[j]?=Z o)(d:Region.ready s h m=[j])(i:th D l (m.setIfInBounds j true)=true)
  (c: ∀ b:Act→ad→Prop,Shut (∀ a w,z w→dy P s h B (gL z A D l) ca (m.setIfInBounds j true) a w→b a w)→if Region.wanted o (yielded h a.tmps)=true then Oper.wp P o a w b B else b (a.put o.dst undef) w):
  dy P s h B (gL z A D l) (ca+1) m a w:=by
 refine⟨fun c=>(by rw[c]at d;cases d),fun k e=>?_⟩;rw[d,aO]at e;subst e;exact l9 n fun b C=>c b fun a w f g=>C a w ⟨Ay f i,g⟩
theorem ru(c:Region.ready s h m=[])(b:B .normal a w):dy P s h B (gL z A D l) ca m a w:=by
 cases ca with
 |zero=>exact⟨c,b⟩
 |succ f=>exact⟨fun _=>b,fun j d=>by rw[c]at d;cases d⟩
theorem zQ(z A:ad→Prop)(D:List Nat)(l:Nat){id:Nat}{a:Act}{w:ad}(c:P.follows .mixedOrders=true)
  (b:dy P .any h B (gL z A D l) h.size (Array.replicate h.size false) a w.drew): (Code.region id h true).wp P B a w:=
 wp_region_any c (uv _ _ _ _ b)
end
end
section
open Go.BigFrame Go.RowKit
def gf (r:aN):Bool:=j3 r.key && decide (r.val.size≤16)
theorem s4(k v:ByteArray)(w:ad)(d:k.size≤maxLen)(a:v.size≤maxLen):
  ao aj 108 #[aw #[k,v]] w fun e u=>e=ap (ah (gf ⟨k,v⟩))∧Y w u:=by
 unfold gf;have b:=a;unfold maxLen at b;cases f:j3 k;all_goals
  go_enter Tryz.func108,Tryz.ntmps108;go_wp2_with(go_at_call 52;(with_reducible refine(tR _ _ ch).mono ?_);rintro e u ⟨rfl,c,rfl⟩);go_ret;refine⟨lW ?_,bz⟩;first|rfl|(rw[iY];simp;omega)
abbrev k6 (w:ad) (k v:ByteArray):ad:=H w (X #[af k,af v] 108)
theorem oK(w:ad)(k v:ByteArray): (k6 w k v).cell? w=Z (af k):=jD w _ _ 0
theorem qn(w:ad)(k v:ByteArray): (k6 w k v).cell? ⟨w,1,V⟩=Z (af v):=jD w _ _ 1
theorem BQ(k v:ByteArray){b o:Nat}{x:ak}(a:w.cell? ⟨b,o,V⟩=Z x): (k6 w k v).cell? ⟨b,o,V⟩=Z x:=((Y.refl w).alloc _).I a
def sw (l:List aN):Prop:=∀ i,i < l.length→gf (cN l i)=true∧(0 < i→a3.cmp (aF (bJ l (i - 1))) (aF (bJ l i)) < 0)
instance (l:List aN):Decidable (sw l):=by unfold sw;infer_instance
def dO (l:List aN):Bool:=decide (sw l)
theorem yP{l:List aN}(d:k < l.length)(a:gf (cN l k)=false∨(0 < k∧0≤a3.cmp (aF (bJ l (k - 1))) (aF (bJ l k)))):dO l=false:=by
 unfold dO;rw[hH];intro q;obtain⟨b,e⟩:=q k d;rcases a with a|⟨c,a⟩
 ·rw[a]at b;cases b
 ·have:=e c;omega
theorem pk(l:List aN)(k:Nat): (⟨bJ l k,dx l k⟩:aN)=cN l k:=rfl
theorem GF(C:Option ai)(n m:Nat)(l:List aN)(w:ad)(f:bk w C n m l):
  ao aj 88 #[ac C n m] w fun e u=>e=ap (ah (dO l))∧Y w u:=by
 obtain ⟨b,am,A,o⟩:=f.cells;have p:=N o;have z:=N (fun q=>(A q).1);have c:=N f;have ag:=f.dj;have M:=f.dr;unfold maxLen at M;clear o A f;go_enter Tryz.func88,Tryz.ntmps88;go_wp2;go_loopw [7] (fun i wr=> ∃ k:Nat,k≤n∧i=O U k∧Hid (∀ j,j < k→gf (cN l j)=true∧(0 < j→a3.cmp (aF (bJ l (j - 1))) (aF (bJ l j)) < 0))∧Y w wr) (fun i _=>n - (intOf i).toNat)
 case atStart=>exact ⟨0,aJ _,rfl,N fun j h=>K,Y.refl _⟩
 case round=>
  obtain ⟨k,W,rfl,B,t⟩:=hrel;by_cases a:k < n
  ·have aa:=t.I (p.out k a).1;have ab:=t.I (p.out k a).2;have P:=(c.out.eD k a).1;have Q:=(c.out.eD k a).2;have T:=iR m z.out a;have R:=e1.cell (oK wr (bJ l k) (dx l k));have S:=e1.cell (qn wr (bJ l k) (dx l k));have hF:=fun w=>s4 (bJ l k) (dx l k) w P Q;rw [pk] at hF;by_cases g:gf (cN l k)=true
   ·rw [g] at hF;have d:=N hF;have y:=N g;clear hF g;by_cases r:k=0
    ·have L:decide (0 < k)=false:=by simp;omega
     have D:=N r;clear r;go_wp2_with fail;refine nZ G G ?_;repeat (go_big_quiet_step ((go_at_call 108;(with_reducible exact m9 (d.out _)))))
     refine oh ?_;rintro _ ⟨⟨x,v⟩,rfl⟩;go_wp2_with fail;go_roundw
     case rel=>exact ⟨k+1,K,e9,N fun j h=>by
      have r:=D.out;obtain rfl:j=k:=K;exact ⟨y.out,fun q=>absurd q K⟩,bz⟩
     case measure=>simp [intOf];omega
    ·have L:decide (0 < k)=true:=by simp;omega
     have ae:=e1.cell (BQ (bJ l k) (dx l k) (t.I (p.out (k - 1) K).1));have al:=(c.out.eD (k - 1) K).1;have I:=fun w=>nP m z.out (k:=(k:Int) - 1) K K w;have F: ((k:Int) - 1).toNat=k - 1:=K;rw [F] at I;by_cases o:a3.cmp (aF (bJ l (k - 1))) (aF (bJ l k)) < 0
     ·have J:decide (0≤a3.cmp (aF (bJ l (k - 1))) (aF (bJ l k)))=false:=by simp;omega
      go_wp2_with fail;refine nZ G G ?_;repeat (go_big_quiet_step ((first|(go_at_call 108;(with_reducible exact m9 (d.out _)))|(go_at_call 93;(with_reducible exact vw (gO _ _ _ ch ch))))))
      refine oh ?_;rintro _ ⟨⟨x,v⟩,rfl⟩;go_wp2_with fail;go_roundw
      case rel=>exact ⟨k+1,K,e9,N fun j h=>by
       rcases dC j k with q|q
       ·exact B.out j q
       ·obtain rfl:j=k:=by omega
        exact ⟨y.out,fun _=>o⟩,bz⟩
      case measure=>simp [intOf];omega
     ·have J:decide (0≤a3.cmp (aF (bJ l (k - 1))) (aF (bJ l k)))=true:=by simp;omega
      have e:=N (yP (by rw [c.out.len];exact a) (.inr ⟨K,K⟩));go_wp2_with fail;refine nZ G G ?_;repeat (go_big_quiet_step ((first|(go_at_call 108;(with_reducible exact m9 (d.out _)))|(go_at_call 93;(with_reducible exact vw (gO _ _ _ ch ch))))))
      refine oh ?_;rintro _ ⟨⟨x,v⟩,rfl⟩;go_wp2_with fail;go_ret;exact ⟨by rw [e.out];rfl,bz⟩
   ·have s:gf (cN l k)=false:=by simpa using g
    rw [s] at hF;have d:=N hF;have e:=N (yP (by rw [c.out.len];exact a) (.inl s));clear hF g s;go_wp2_with fail;refine nZ G G ?_;repeat (go_big_quiet_step ((go_at_call 108;(with_reducible exact m9 (d.out _)))))
    refine oh ?_;rintro _ ⟨⟨x,v⟩,rfl⟩;go_wp2_with fail;go_ret;exact ⟨by rw [e.out];rfl,bz⟩
  ·obtain rfl:k=n:=by omega
   have e:dO l=true:=by
    unfold dO;rw [dp];intro j h;exact B.out j (by rw [c.out.len] at h;exact h)
   have E:=N e;clear e;go_wp2;go_ret;exact ⟨by rw [E.out];rfl,bz⟩
end
section
open Go.RowKit
def ay (w:ad):List Nat→ad
 |[]=>w
 |g::S=>eb (ay w S) (Z g)
theorem jj(w:ad): ∀ S:List Nat,(ay w S).heap.size=w.heap.size
 |[]=>rfl
 |g::S=>by unfold ay;rw[lP,jj w S]
theorem bp{w:ad}{b o:Nat}{v:ak}: ∀ {S:List Nat},(ay w S).cell? ⟨b,o,V⟩=Z v↔b∉S∧w.cell? ⟨b,o,V⟩=Z v
 |[]=>by simp[ay]
 |g::S=>by
  unfold ay;rw[hT,bp (S:=S)];simp only[bd,not_or,eS,ne_eq];constructor
  ·rintro⟨a,c,d⟩;exact⟨⟨fun e=>a e.symm,c⟩,d⟩
  ·rintro⟨⟨a,c⟩,d⟩;exact⟨fun e=>a e.symm,c,d⟩
theorem dv(w:ad)(S:List Nat):dD (ay w S) w:=⟨fun _ _ _ a=>(bp.1 a).2,by rw[jj];exact aG _⟩
theorem oW(a:Y w u){S S':List Nat}(d: ∀ b∈S',b∈S∨w.heap.size≤b):dD (ay w S) (ay u S'):=
 ⟨fun b o v q=>by
  obtain⟨f,c⟩:=bp.1 q;refine bp.2 ⟨fun e=>?_,a.I c⟩;rcases d b e with k|k
  ·exact f k
  ·have:=gN c;omega,by rw[jj,jj];exact a.le⟩
theorem bX(b:Y w u)(S:List Nat):dD (ay w S) (ay u S):=oW b fun _ a=> .inl a
theorem oX(w:ad){S S':List Nat}(a: ∀ b∈S',b∈S):dD (ay w S) (ay w S'):=oW (Y.refl w) fun b q=> .inl (a b q)
structure Mod (S:List Nat) (w u:ad):Prop where
 os:u.os=w.os
 tape:u.tape=w.tape
 output:u.output=w.output
 size:w.heap.size≤u.heap.size
 block: ∀ b,b < w.heap.size→b∉S→u.heap[b]?=w.heap[b]?
theorem Mod.refl(S:List Nat)(w:ad):Mod S w w:=⟨rfl,rfl,rfl,aG _,fun _ _ _=>rfl⟩
theorem Mod.then{a b c:ad}(d:Mod S a b)(k:Mod S' b c)(i: ∀ g∈S',g∈S∨a.heap.size≤g):Mod S a c:=
 ⟨k.os.trans d.os,k.tape.trans d.tape,k.output.trans d.output,bZ d.size k.size,fun g f h=>
  (k.block g (dR f d.size) (fun e=>by rcases i g e with q|q;exact h q;omega)).trans (d.block g f h)⟩
theorem Mod.trans{a b c:ad}(d:Mod S a b)(k:Mod S b c):Mod S a c:=d.then k fun _ q=> .inl q
theorem Mod.sub(a:Mod S w u)(f: ∀ g∈S,g∈S'):Mod S' w u:=⟨a.os,a.tape,a.output,a.size,fun b c d=>a.block b c fun e=>d (f b e)⟩
theorem Y.mod(a:Y w u)(S:List Nat):Mod S w u:=⟨Below.os a,Below.tape a,Below.output a,Below.size a,fun b c _=>Below.block a b c⟩
theorem Mod.FP(a:Mod [] w u):Y w u:=⟨a.os,a.tape,a.output,a.size,fun b c=>a.block b c J⟩
theorem Mod.aC(c:Y L w)(a:Mod S w u)(d: ∀ b∈S,L.heap.size≤b):Y L u:=
 ((c.mod []).then a fun b q=> .inr (d b q)).FP
theorem Mod.ex(a:Mod S w u):dD (ay w S) (ay u S):=
 ⟨fun b o v q=>by
  obtain⟨c,d⟩:=bp.1 q;refine bp.2 ⟨c,?_⟩;rw[cell_of_block (a.block b (gN d) c) o];exact d,by rw[jj,jj];exact a.size⟩
theorem Mod.jT(a:Mod S w u)(b: ∀ g∈S,g∈S'):dD (ay w S') (ay u S'):=(a.sub b).ex
theorem Mod.setCell(w:ad)(a:ai)(v:ak)(c:a.block∈S):Mod S w (w.setCell a v):=
 ⟨rfl,rfl,rfl,uZ,fun b _ d=>by
  unfold World.setCell;rw[rD,aS (fun e:a.block=b=>d (by rw[←e];exact c))]⟩
theorem Mod.setCells{S:List Nat}{b:Nat}(c:b∈S): ∀ (a:List ak) (o:Nat) (w:ad),Mod S w (ba w b o a)
 |[],_,w=>Mod.refl S w
 |v::a,o,w=>by
  rw [World.setCells];exact (Mod.setCell w ⟨b,o,V⟩ v c).trans (Mod.setCells c a (o+1) _)
theorem Mod.grown{r:Option Nat}(a:w.grownBy u r)(f: ∀ b,r=Z b→b∈S):Mod S w u:=
 ⟨a.os,a.tape,a.output,a.size,fun b c d=>a.block b c fun e=>d (f b e.symm)⟩
theorem Mod.cell(c:Mod S w u){b o:Nat}{v:ak}(d:b∉S)(a:w.cell? ⟨b,o,V⟩=Z v):u.cell? ⟨b,o,V⟩=Z v:=by
 rw[cell_of_block (c.block b (gN a) d) o];exact a
theorem Mod.box(a:Mod S w u){b:Nat}(c:b∉S){f:List ak}(d:ae w b f):ae u b f:=
 ⟨fun j v k=>a.cell c (d.aM j v k),fun j i=>by
  obtain⟨g,h⟩:=d.may j i;obtain⟨l,e⟩:=pC.1 g;exact⟨by rw[a.cell c e];rfl,by rw[World.frozen?_of_block (w:=w) (a.block b (gN e) c)];exact h⟩⟩
theorem bo.gP{d:Type}{a:dK d}(f:fQ a){k:Nat}{w:ad}{S:List Nat}{c:Option ai}{n b:Nat}{l:List d}(e:bo a k (ay w S) c n b l):bo a k w c n b l:=e.ex f (dv w S)
end
section
section
def m0 (s:Region.Mode) (h:Array Oper) (m:Array Bool):Prop:=∀ x y,lN s h x y=true→m.getD x false=true→m.getD y false=true
theorem getD_set_true(a:m.getD k false=true): (m.setIfInBounds j true).getD k false=true:=by
 by_cases e:j=k
 ·subst e;rcases dC j m.size with q|q
  ·simp[q]
  ·simp[hj q]at a
 ·rw[jC false e];exact a
theorem DI(a: (m.setIfInBounds j true).getD k false=true):m.getD k false=true∨k=j:=by
 by_cases e:j=k
 ·exact .inr e.symm
 ·rw[jC false e]at a;exact .inl a
theorem m0.set(b:m0 s h m)(c:j∈Region.ready s h m):m0 s h (m.setIfInBounds j true):=fun x y a d=>by
 rcases DI d with q|q
 ·exact getD_set_true (b x y a q)
 ·subst q;exact getD_set_true (w9 a c)
def mB (s:Region.Mode) (h:Array Oper):Nat→Nat→Nat→Bool
 |0,x,y=>x==y
 |f+1,x,y=>x==y||((h[x]?).map fun o=>o.after.any fun e=>Region.binds s e && mB s h f e.on y).getD false
theorem yG{m:Array Bool}(g:m0 s h m): ∀ (f x y:Nat),mB s h f x y=true→m.getD x false=true→m.getD y false=true
 |0,x,y,a,b=>by
  have e:x=y:=by simpa[mB]using a
  exact e ▸ b
 |f+1,x,y,a,b=>by
  unfold mB at a;rw[Bool.or_eq_true]at a;rcases a with a|a
  ·have e:x=y:=by simpa using a
   exact e ▸ b
  ·cases d:h[x]? with
   |none=>rw[d]at a;simp at a
   |some o=>
    rw[d]at a;simp only[iz,kF]at a;rw[rO]at a;obtain⟨e,i,c⟩:=a;rw[fZ]at c;refine yG g f e.on y c.2 (g x e.on ?_ b);unfold lN;rw[d];simp only[iz,kF];rw[rO];exact⟨e,i,by simp[c.1]⟩
def fe (s:Region.Mode) (h:Array Oper) (z A:ad→Prop) (l:Nat) (m:Array Bool) (w:ad):Prop:=z w∧m0 s h m∧(m.getD l false=false→A w)
def ii (s:Region.Mode) (h:Array Oper) (m:Array Bool):Bool:=
 (List.range h.size).all fun x=>!m.getD x false||((h[x]?).map fun o=>o.after.all fun e=>!Region.binds s e||m.getD e.on false).getD true
theorem nk(c:ii s h m=true):m0 s h m:=fun x y a j=>by
 unfold ii at c;have f:x < h.size:=by
  rcases dC x h.size with q|q
  ·exact q
  ·unfold lN at a;rw[hj q]at a;simp at a
 have b:=mT.1 c x (lm.2 f);rw[j]at b;simp only[pD,Bool.false_or]at b;unfold lN at a;rw[zU f]at a b;simp only[iz,kF]at a b;rw[rO]at a;obtain⟨e,i,d⟩:=a;rw[fZ,ma]at d;obtain⟨g,rfl⟩:=d;rw[Array.all_eq_true']at b;have:=b e i;rw[g]at this;simpa using this
theorem zN{S:Array Bool→ad→Prop}(A:h[k]?=Z ok)(L: ∀ (j:Nat) (o:Oper) q b,h[j]?=Z o→o.op≠ .select q b)
  (R: ∀ c a w,B (.panic c) (a.put ok.dst v) w→B (.panic c) a w)(K: ∀ m w,S m w→k∈Region.ready s h m→S (m.setIfInBounds k true) w)
  (ab: ∀ (m:Array Bool) (j:Nat) (av w:ad),S m av→k∈Region.ready s h m→j∈Region.ready s h m→j≠k→S ((m.setIfInBounds j true).setIfInBounds k true) w→S (m.setIfInBounds j true) w)
  (F: ∀ m w,S m w→k∈Region.ready s h m→T w):
  ∀ (ca:Nat) (m:Array Bool) (a:Act) (w:ad),
   (∀ j i,h[j]?=Z i→j≠k→m.getD j true=false→(∀ e∈i.after,Region.binds s e=true→e.on≠k)→ok.apart h i=true)→
   k∈Region.ready s h m→YieldsIf P h T ok v a→S m w→
   dy P s h B S ca (m.setIfInBounds k true) (a.put ok.dst v) w→dy P s h B S (ca+1) m a w:=by
 intro ca;induction ca with
 |zero=>
  intro m a w _ d x l n;refine ⟨fun y=>(by rw [y] at d;cases d),fun j r=>?_⟩;by_cases f:j=k
  ·subst f;exact x.wpOp A (F m w l d) ⟨K m w l d,n⟩
  ·have:=n9 r f;rw [n.1] at this;cases this
 |succ ca ih=>
  intro m a w G d x l n;refine ⟨fun y=>(by rw [y] at d;cases d),fun j r=>?_⟩;by_cases f:j=k
  ·subst f;exact x.wpOp A (F m w l d) ⟨K m w l d,n⟩
  ·have g:=n.2 j (n9 r f);obtain ⟨J,i,C,W⟩:=mO.1 r;have an: ∀ e∈i.after,Region.binds s e=true→e.on≠k:=fun e ae aa ag=>by
    have g:=W e ae aa;have D:=(mO.1 d).1;rw [ag] at g;rcases dC k m.size with z|z
    ·simp [z] at D g;rw [D] at g;cases g
    ·simp [hj z] at g
   have Q:=wpOp_putIf C (G j i C f J an) (fun q b=>L k ok q b A) (fun q b=>L j i q b C) R x g;have al: ∀ p op,h[p]?=Z op→p≠k→(m.setIfInBounds j true).getD p true=false→(∀ e∈op.after,Region.binds s e=true→e.on≠k)→ok.apart h op=true:=fun p op aq ar M am=>by
    refine G p op aq ar ?_ am;by_cases I:j=p
    ·subst I;exact J
    ·rw [jC true I] at M;exact M
   refine wpOp_mono (fun N u t=>?_) Q;rw [Array.setIfInBounds_comm _ _ (Ne.symm f)] at t;have E:=ab m j w u l d r f t.2.1;exact ⟨E,ih (m.setIfInBounds j true) N u al (n9 d (Ne.symm f)) t.1 E t.2.2⟩
theorem l3(b:h[k]?=Z ok)(I:Region.noSelect h=true)(E:Region.free s h m k=true)(g: (Region.ready s h m).contains k=true)
  (n: (k !=l && ii s h m && mB s h h.size l k)=true)(L:m.getD l false=false)(C: ∀ c a w,B (.panic c) (a.put ok.dst v) w→B (.panic c) a w)
  (D: ∀ w,z w→A w→T w)(J:YieldsIf P h T ok v a)(x:z w)(y:A w)
  (t:dy P s h B (fe s h z A l) ca (m.setIfInBounds k true) (a.put ok.dst v) w):dy P s h B (fe s h z A l) (ca+1) m a w:=by
 simp only[fZ,bne_iff_ne,ne_eq]at n;obtain⟨⟨i,p⟩,r⟩:=n;refine zN b (uH I) C (fun m w q g=>⟨q.1,q.2.1.set g,fun e=>q.2.2 (by rw[jC false i]at e;exact e)⟩) (fun m j M w u K G _ q=>⟨q.1,u.2.1.set G,fun e=>q.2.2 (by rw[jC false i];exact e)⟩) (fun m w q b=>D w q.1 (q.2.2 ?_)) ca m a w (uI b E) (by simpa using g) J ⟨x,nk p,fun _=>y⟩ t;have o:=(mO.1 b).1;cases F:m.getD l false with
 |false=>rfl
 |true=>
  have d:=yG q.2.1 _ _ _ r F;rcases dC k m.size with f|f
  ·simp[f]at o d;rw[o]at d;cases d
  ·simp[hj f]at d
theorem II(b:h[k]?=Z ok)(C:Region.noSelect h=true)(x:Region.free s h m k=true)(d: (Region.ready s h m).contains k=true)
  (g: (k !=l && ii s h m)=true)(t: ∀ c a w,B (.panic c) (a.put ok.dst v) w→B (.panic c) a w)
  (u: ∀ w,z w→T w)(D:YieldsIf P h T ok v a)(p:z w)(r:m.getD l false=false→A w)
  (n:dy P s h B (fe s h z A l) ca (m.setIfInBounds k true) (a.put ok.dst v) w):dy P s h B (fe s h z A l) (ca+1) m a w:=by
 simp only[fZ,bne_iff_ne,ne_eq]at g;obtain⟨f,i⟩:=g;exact zN b (uH C) t (fun m w q d=>⟨q.1,q.2.1.set d,fun e=>q.2.2 (by rw[jC false f]at e;exact e)⟩) (fun m j F w o E y _ q=>⟨q.1,o.2.1.set y,fun e=>q.2.2 (by rw[jC false f];exact e)⟩) (fun m w q b=>u w q.1) ca m a w (uI b x) (by simpa using d) D ⟨p,nk i,r⟩ n
theorem lk(p:h[j]?=Z o)(d:Region.ready s h m=[j])(n:ii s h (m.setIfInBounds j true)=true)
  (c: ∀ b:Act→ad→Prop,Shut (∀ a w,z w→((m.setIfInBounds j true).getD l false=false→A w)→dy P s h B (fe s h z A l) ca (m.setIfInBounds j true) a w→b a w)→if Region.wanted o (yielded h a.tmps)=true then Oper.wp P o a w b B else b (a.put o.dst undef) w):
  dy P s h B (fe s h z A l) (ca+1) m a w:=by
 refine⟨fun c=>(by rw[c]at d;cases d),fun k e=>?_⟩;rw[d,aO]at e;subst e;exact l9 p fun b C=>c b fun a w f g i=>C a w ⟨⟨f,nk n,g⟩,i⟩
theorem j9(i:h[j]?=Z o)(k:Region.ready s h m=[j])(c: (ii s h (m.setIfInBounds j true) && (m.setIfInBounds j true).getD l false)=true)
  (d: ∀ b:Act→ad→Prop,Shut (∀ a w,z w→dy P s h B (fe s h z A l) ca (m.setIfInBounds j true) a w→b a w)→if Region.wanted o (yielded h a.tmps)=true then Oper.wp P o a w b B else b (a.put o.dst undef) w):
  dy P s h B (fe s h z A l) (ca+1) m a w:=by
 rw[fZ]at c;exact lk i k c.1 fun b C=>d b fun a w f g=>C a w f (fun e=>by rw[c.2]at e;cases e) g
theorem nY{j':Nat}{o':Oper}(r:h[j]?=Z o)(t:h[j']?=Z o')(i:Region.ready s h m=[j,j'])(p:ii s h (m.setIfInBounds j true)=true)(q:ii s h (m.setIfInBounds j' true)=true)
  (c: ∀ b:Act→ad→Prop,Shut (∀ a w,z w→((m.setIfInBounds j true).getD l false=false→A w)→dy P s h B (fe s h z A l) ca (m.setIfInBounds j true) a w→b a w)→if Region.wanted o (yielded h a.tmps)=true then Oper.wp P o a w b B else b (a.put o.dst undef) w)
  (n: ∀ b:Act→ad→Prop,Shut (∀ a w,z w→((m.setIfInBounds j' true).getD l false=false→A w)→dy P s h B (fe s h z A l) ca (m.setIfInBounds j' true) a w→b a w)→if Region.wanted o' (yielded h a.tmps)=true then Oper.wp P o' a w b B else b (a.put o'.dst undef) w):
  dy P s h B (fe s h z A l) (ca+1) m a w:=by
 refine⟨fun c=>(by rw[c]at i;cases i),fun k g=>?_⟩;rw[i]at g;simp only[bd,c0,db]at g;rcases g with rfl|rfl
 ·exact l9 r fun b C=>c b fun a w d e f=>C a w ⟨⟨d,nk p,e⟩,f⟩
 ·exact l9 t fun b C=>n b fun a w d e f=>C a w ⟨⟨d,nk q,e⟩,f⟩
theorem cC(c:Region.ready s h m=[])(b:B .normal a w):dy P s h B (fe s h z A l) ca m a w:=by
 cases ca with
 |zero=>exact⟨c,b⟩
 |succ f=>exact⟨fun _=>b,fun j d=>by rw[c]at d;cases d⟩
theorem cZ(z A:ad→Prop)(l:Nat){id:Nat}{a:Act}{w:ad}(c:P.follows .mixedOrders=true)
  (b:dy P .any h B (fe .any h z A l) h.size (Array.replicate h.size false) a w.drew): (Code.region id h true).wp P B a w:=
 wp_region_any c (uv _ _ _ _ b)
variable {op : Op} {M : TypeId} {pos : String} {eU : Array _} {Q : Option (Nat × Bool)}
theorem bc(k:Nat)(b:Tmp)(q:h[k]?=Z ⟨Z b,op,M,pos,eU,Q⟩)(x:YieldsIf P h (fun w=>z w∧A w) ⟨Z b,op,M,pos,eU,Q⟩ v a)(g:z w)(i:A w){f:Act}(d:dy P s h B (fe s h z A l) ca (m.setIfInBounds k true) f w)
  (u:Region.noSelect h=true:=by kernel_rfl)(p:Region.free s h m k=true:=by kernel_rfl)(t: (Region.ready s h m).contains k=true:=by kernel_rfl)(e: (k !=l && ii s h m && mB s h h.size l k)=true:=by kernel_rfl)(r:m.getD l false=false:=by kernel_rfl)
  (j: ∀ c a w,B (.panic c) (a.put (Z b) v) w→B (.panic c) a w:=by exact fun _ _ _ d=>d)(n:a.put (Z b) v=f:=by(try simp only[bu]);exact rfl):dy P s h B (fe s h z A l) (ca+1) m a w:=l3 q u p t e r j (fun _ o e=>And.intro o e) x g i (n ▸ d)
theorem aI(k:Nat)(b:Tmp)(v:ak)(r:h[k]?=Z ⟨Z b,op,M,pos,eU,Q⟩)(g:z w)(i:A w){f:Act}(d:dy P s h B (fe s h z A l) ca (m.setIfInBounds k true) f w)
  (x:Region.noSelect h=true:=by kernel_rfl)(q:Region.free s h m k=true:=by kernel_rfl)(u: (Region.ready s h m).contains k=true:=by kernel_rfl)(e: (k !=l && ii s h m && mB s h h.size l k)=true:=by kernel_rfl)(t:m.getD l false=false:=by kernel_rfl)
  (j: ∀ c a w,B (.panic c) (a.put (Z b) v) w→B (.panic c) a w:=by exact fun _ _ _ d=>d)(y:YieldsIf P h (fun w=>z w∧A w) ⟨Z b,op,M,pos,eU,Q⟩ v a:=by exact .inl ⟨by rfl,by intro w n;clear n;go_simp⟩)(o:a.put (Z b) v=f:=by(try simp only[bu]);exact rfl):
  dy P s h B (fe s h z A l) (ca+1) m a w:=l3 r x q u e t j (fun _ p e=>And.intro p e) y g i (o ▸ d)
theorem a8(k:Nat)(b:Tmp)(v:ak)(t:h[k]?=Z ⟨Z b,op,M,pos,eU,Q⟩)(g:z w){f:Act}(d:dy P s h B (fe s h z A l) ca (m.setIfInBounds k true) f w)
  (i:m.getD l false=false→A w:=by intro e;first|exact hKC|(exfalso;revert e;decide))(x:Region.noSelect h=true:=by kernel_rfl)(r:Region.free s h m k=true:=by kernel_rfl)(u: (Region.ready s h m).contains k=true:=by kernel_rfl)(q: (k !=l && ii s h m)=true:=by kernel_rfl)
  (j: ∀ c a w,B (.panic c) (a.put (Z b) v) w→B (.panic c) a w:=by exact fun _ _ _ d=>d)(y:YieldsIf P h (fun w=>z w) ⟨Z b,op,M,pos,eU,Q⟩ v a:=by exact .inl ⟨by rfl,by intro w n;clear n;go_simp⟩)(o:a.put (Z b) v=f:=by(try simp only[bu]);exact rfl):
  dy P s h B (fe s h z A l) (ca+1) m a w:=II t x r u q j (fun _ p=>p) y g i (o ▸ d)
theorem b4(j:Nat)(c:Option Tmp)(f:h[j]?=Z ⟨c,op,M,pos,eU,Q⟩)(d: ∀ b:Act→ad→Prop,Shut (∀ a w,z w→((m.setIfInBounds j true).getD l false=false→A w)→dy P s h B (fe s h z A l) ca (m.setIfInBounds j true) a w→b a w)→Oper.wp P ⟨c,op,M,pos,eU,Q⟩ a w b B)
  (g:Region.ready s h m=[j]:=by kernel_rfl)(e:ii s h (m.setIfInBounds j true)=true:=by kernel_rfl)(i:Region.wanted ⟨c,op,M,pos,eU,Q⟩ (yielded h a.tmps)=true:=by rfl):dy P s h B (fe s h z A l) (ca+1) m a w:=
 lk f g e fun b C=>by rw[a9 i];exact d b C
theorem cg(j:Nat)(c:Option Tmp)(f:h[j]?=Z ⟨c,op,M,pos,eU,Q⟩)(d: ∀ b:Act→ad→Prop,Shut (∀ a w,z w→dy P s h B (fe s h z A l) ca (m.setIfInBounds j true) a w→b a w)→Oper.wp P ⟨c,op,M,pos,eU,Q⟩ a w b B)
  (g:Region.ready s h m=[j]:=by kernel_rfl)(e: (ii s h (m.setIfInBounds j true) && (m.setIfInBounds j true).getD l false)=true:=by kernel_rfl)(i:Region.wanted ⟨c,op,M,pos,eU,Q⟩ (yielded h a.tmps)=true:=by rfl):dy P s h B (fe s h z A l) (ca+1) m a w:=
 j9 f g e fun b C=>by rw[a9 i];exact d b C
end
end
section
open Go.ChangeShapes Go.WideShapes Go.RowKit
theorem CW:aj.globalNamed "errors.errorType" =Z 0:=by kernel_rfl
theorem CY: (aj.cutTypes.find? (·.1== "internal/reflectlite.rtype")).map (·.2)=Z 199:=by kernel_rfl
theorem CX: ((List.range 346).filter fun t=>aj.rowNamed t [101,114,114,111,114])=[32]:=by kernel_rfl
theorem CZ:aj.types.size=346:=by kernel_rfl
abbrev np:List (String×DataW Unit):=[("errors.errorType",Rows.laid_errors_errorType)]
theorem D2(h:laidMetH aj np L):L.cell? ⟨0,0,V⟩=Z mx:=by
 have i:laidMet aj [] L∧handlesMet aj np L:=h;obtain ⟨k,l,M,c,d,e,f,a⟩:=i.2 _ (aO.2 rfl);have g:k=[101,114,114,111,114]:=(fo c).symm;subst g;obtain rfl:=fo (CY.symm.trans d);have b:M∈(List.range 346).filter fun t=>aj.rowNamed t [101,114,114,111,114]:=gW.2 ⟨lm.2 (by rw [←CZ];exact e),f⟩;rw [CX] at b;obtain rfl:=aO.1 b;have j:typeHandle aj 32=au (Z ⟨1,32,V⟩):=G;rw [j] at a;simpa using World.var?_cell CW a 0
noncomputable def xG (b:Os):ad:=
 let a:=World.holding aj b ⟨#[],#[],[]⟩;{a with heap:=a.heap.modify 0 fun
   |X _ t frozen=>X #[mx] t frozen
   |o=>o}
theorem ES(a:Os)(args:Array ak):laidMetH aj np ((xG a).forCall (fun _ _=>0) ⟨#[],args,[]⟩).memory:=
 laidMetH_of_parts (laidMet_nil _ _) G
end
section
open Go.BigFrame Go.RowKit Go.WideShapes
theorem nF(a:x≠y): (x.toList==y.toList)=false:=by
 rw[ey,pu,pu];exact fun e=>a (bytes_inj e)
theorem mu(a:x=y): (x.toList==y.toList)=true:=by rw[a];simp
def hasB (key:ByteArray) (l:List aN):Bool:=decide (place key l < l.length∧bJ l (place key l)=key)
theorem s3(i:Option ai)(n d:Nat)(l:List aN)(key:ByteArray)(w:ad)(a:bk w i n d l)(y:key.size≤maxLen):
  ao aj 111 #[ac i n d,key] w fun e u=>e=ap (a0 #[O U (place key l),(hasB key l)])∧cR w u:=by
 have h:=N (yq i n d l key w a y);have z:=lf key l;rw [a.len] at z;have m:hasB key l=decide (place key l < l.length∧bJ l (place key l)=key):=rfl;have g:=N m;clear m;obtain ⟨B,E,r,o⟩:=a.cells;have s:=N o;have t:=N (fun q=>(r q).1);have j:=N a;have A:=a.dr;unfold maxLen at A;clear o r a;generalize place key l=p at *;by_cases f:p < n
 ·have D:=(s.out p f).1;have C:=iR d t.out f;have v:decide (p < n)=true:=cJ;by_cases b:bJ l p=key
  ·have x:=mu b;have e:hasB key l=true:=by rw [g.out,dp,j.out.len];exact ⟨f,b⟩
   have c:=N e;clear b e;go_enter Tryz.func111,Tryz.ntmps111;go_wp2_with (go_at_call 113;refine h.out.mono ?_;rintro e u ⟨rfl,k,rfl⟩);go_big_quiet (fail);go_wp2;go_ret2;exact ⟨by rw [c.out];rfl,iC⟩
  ·have x:=nF b;have e:hasB key l=false:=by rw [g.out,hH];exact fun q=>b q.2
   have c:=N e;clear b e;go_enter Tryz.func111,Tryz.ntmps111;go_wp2_with (go_at_call 113;refine h.out.mono ?_;rintro e u ⟨rfl,k,rfl⟩);go_big_quiet (fail);go_wp2;go_ret2;exact ⟨by rw [c.out];rfl,iC⟩
 ·have v:decide (p < n)=false:=by simp;omega
  have e:hasB key l=false:=by rw [g.out,hH,j.out.len];exact fun q=>f q.1
  have c:=N e;clear e;go_enter Tryz.func111,Tryz.ntmps111;go_wp2_with (go_at_call 113;refine h.out.mono ?_;rintro e u ⟨rfl,k,rfl⟩);go_big_quiet (fail);go_wp2;go_ret2;exact ⟨by rw [c.out];rfl,iC⟩
theorem Gb{l:List aN}(b:k < l.length)(c:k≤place key l)(a:a3.before (aF (bJ l k)) (aF key)=true):k+1≤place key l:=
 yt b c (a3.hy.2 a)
theorem Gc{l:List aN}(b:k < l.length)(c:k≤place key l)(a: ¬a3.before (aF (bJ l k)) (aF key)=true):place key l=k:=
 yu b c (fun q=>a (a3.hy.1 q))
theorem tP(t:Option ai)(n m:Nat)(l:List aN)(key:ByteArray)(w:ad)(b:bk w t n m l)(E:key.size≤maxLen):
  ao aj 35 #[ac t n m,key] w fun e u=>e=ap (a0 #[O U (place key l),(hasB key l)])∧cR w u:=by
 have A:=lf key l;rw[b.len]at A;obtain⟨B,L,r,p⟩:=b.cells;have v:=N p;have x:=N (fun q=>(r q).1);have g:=N b;have I:=b.dj;have z:=b.dr;unfold maxLen at z;clear p r b;go_enter Tryz.func35,Tryz.ntmps35;go_wp2;go_loopw[6] (fun i wr=> ∃ k:Nat,k≤n∧i=O U k∧k≤place key l∧cR w wr) (fun i _=>n - (intOf i).toNat)
 case atStart=>exact⟨0,aJ _,rfl,aJ _,cR.refl _⟩
 case round=>
  obtain⟨k,G,rfl,s,o,rfl⟩:=hrel;by_cases j:k < n
  ·have F:=(v.out k j).1;have J:=(g.out.eD k j).1;have C:=iR m x.out j;by_cases h:a3.before (aF (bJ l k)) (aF key)=true
   ·go_wp2_with(go_at_call 48;(with_reducible refine(sJ _ _ _ ch ch).mono ?_);rintro e u ⟨rfl,o,rfl⟩);go_roundw
    case rel=>exact⟨k+1,K,e9,Gb (by have:=g.out.len;omega) s h,iC⟩
    case measure=>simp[intOf];omega
   ·have D:a3.before (aF (bJ l k)) (aF key)=false:=by simpa using h
    have e:=Gc (key:=key) (l:=l) (by have:=g.out.len;omega) s h;by_cases c:bJ l k=key
    ·have y:=mu c;have a:hasB key l=true:=by unfold hasB;rw[dp,e,g.out.len];exact⟨j,c⟩
     have d:=N e;have f:=N a;clear e a c h;go_wp2_with(go_at_call 48;(with_reducible refine(sJ _ _ _ ch ch).mono ?_);rintro e u ⟨rfl,o,rfl⟩);go_big_quiet(fail);go_wp2;go_ret2;exact⟨by rw[d.out,f.out];rfl,iC⟩
    ·have y:=nF c;have a:hasB key l=false:=by unfold hasB;rw[hH,e];exact fun q=>c q.2
     have d:=N e;have f:=N a;clear e a c h;go_wp2_with(go_at_call 48;(with_reducible refine(sJ _ _ _ ch ch).mono ?_);rintro e u ⟨rfl,o,rfl⟩);go_big_quiet(fail);go_wp2;go_ret2;exact⟨by rw[d.out,f.out];rfl,iC⟩
  ·obtain rfl:k=n:=by omega
   have e:place key l=k:=K;have a:hasB key l=false:=by unfold hasB;rw[hH,e,g.out.len];exact fun q=>j q.1
   have d:=N e;have f:=N a;clear e a;go_wp2;go_ret2;exact⟨by rw[d.out,f.out];rfl,iC⟩
theorem GG{a b:List aN}(h:a.length=b.length)(d: ∀ i,i < a.length→bJ a i=bJ b i∧dx a i=dx b i):a=b:=by
 apply List.ext_getElem h;intro i c e;have:=d i c;unfold bJ dx at this;rw[fL c,fL e]at this;cases f:a[i];cases g:b[i];rw[f,g]at this;simp only at this;rw[this.1,this.2]
theorem Gn(C D:Option ai)(n l o m:Nat)(a c:List aN)(w:ad)(f:bk w C n l a)(k:bk w D o m c):
  ao aj 16 #[ac C n l,ac D o m] w fun e u=>e=ap (ah (decide (a=c)))∧cR w u:=by
 obtain ⟨P,an,z,v⟩:=f.cells;have r:=N v;have G:=N (fun q=>(z q).1);have h:=N f;have al:=f.dj;have L:=f.dr;unfold maxLen at L;clear v z f;obtain ⟨Q,aq,A,x⟩:=k.cells;have s:=N x;have I:=N (fun q=>(A q).1);have p:=N k;have am:=k.dj;have M:=k.dr;unfold maxLen at M;clear x A k;by_cases y:n=o
 ·subst y;go_enter Tryz.func16,Tryz.ntmps16;go_wp2;go_loopw [5] (fun i wr=> ∃ k:Nat,k≤n∧i=O U k∧Hid (∀ j,j < k→bJ a j=bJ c j∧dx a j=dx c j)∧cR w wr) (fun i _=>n - (intOf i).toNat)
  case atStart=>exact ⟨0,aJ _,rfl,N fun j g=>K,cR.refl _⟩
  case round=>
   obtain ⟨k,ag,rfl,B,R,rfl⟩:=hrel;by_cases b:k < n
   ·have S:=(r.out k b).1;have T:=(r.out k b).2;have W:=(s.out k b).1;have aa:=(s.out k b).2;have ab:=iR l G.out b;have ae:=iR m I.out b;by_cases aD:bJ a k=bJ c k
    ·by_cases d:dx a k=dx c k
     ·have t:=mu aD;have J:=mu d;have E:=N aD;have F:=N d;clear aD d;go_wp2;go_big_quiet (fail);go_wp2;go_roundw
      case rel=>exact ⟨k+1,K,e9,N fun j g=>by
       rcases dC j k with q|q
       ·exact B.out j q
       ·obtain rfl:j=k:=by omega
        exact ⟨E.out,F.out⟩,iC⟩
      case measure=>simp [intOf];omega
     ·have t:=mu aD;have J:=nF d;have e:=N (dz (fun q:a=c=>d (by rw [q])));clear aD d;go_wp2;go_big_quiet (fail);go_wp2;go_ret;exact ⟨by rw [e.out];rfl,iC⟩
    ·have t:=nF aD;have e:=N (dz (fun q:a=c=>aD (by rw [q])));clear aD;go_wp2;go_big_quiet (fail);go_wp2;go_ret;exact ⟨by rw [e.out];rfl,iC⟩
   ·obtain rfl:k=n:=by omega
    have e:=N (eo (GG (by rw [h.out.len,p.out.len]) (fun j g=>B.out j (by rw [h.out.len] at g;exact g))));go_wp2;go_ret;exact ⟨by rw [e.out];rfl,iC⟩
 ·have e:=N (dz (fun q:a=c=>y (by rw [←h.out.len,←p.out.len,q])));go_enter Tryz.func16,Tryz.ntmps16;go_wp2;go_ret;exact ⟨by rw [e.out];rfl,cR.refl _⟩
end
section
open Go.Maps Go.RowKit
abbrev g0:=Int→Option ak
def jw (a:g0) (k:Int) (v:Option ak):g0:=fun x=>if x=k then v else a x
theorem rr(a:g0)(k:Int)(v:Option ak):jw a k v k=v:=by unfold jw;rw[a9 rfl]
theorem rq{a:g0}{k x:Int}{v:Option ak}(b:x≠k):jw a k v x=a x:=by unfold jw;rw[aS b]
structure jb (E:DataW ak) (a:g0):Prop where
 has: ∀ k,Maps.has E (ik k)=(a k).isSome
 at_: ∀ k b,E.atKey (ik k) b=((a k).map DataW.held).getD b
theorem jb.empty:jb (.map []) (fun _=>V):=⟨fun _=>rfl,fun k a=>atKey_of_not_has rfl a⟩
theorem jb.put{c:g0}(a:jb E c)(b:IsMap E)(k:Int)(v:ak):jb (E.put (ik k) (.held v)) (jw c k (Z v)):=by
 refine⟨fun x=>?_,fun x d=>?_⟩
 ·by_cases e:x=k
  ·subst e;rw[rr,has_put_same b (tw x)];rfl
  ·rw[rq e,has_put_other (qS e)];exact a.has x
 ·by_cases e:x=k
  ·subst e;rw[rr,atKey_put_same b (tw x)];rfl
  ·rw[rq e,atKey_put_other (qS e)];exact a.at_ x d
theorem jb.del{b:g0}(a:jb E b)(k:Int):jb (E.del (ik k)) (jw b k V):=by
 refine⟨fun x=>?_,fun x c=>?_⟩
 ·by_cases e:x=k
  ·subst e;rw[rr,has_del_same];rfl
  ·rw[rq e,has_del_other (qS e)];exact a.has x
 ·by_cases e:x=k
  ·subst e;rw[rr,atKey_del_same];rfl
  ·rw[rq e,atKey_del_other (qS e)];exact a.at_ x c
section
variable {F : TypeId}
structure eJ (P:Program) (F:TypeId) (w:ad) (b:Nat) (a:g0):Prop where
 ex: ∃ E:DataW ak,w.ownsMap P F k9 b (Maps.size E) E∧jb E a
theorem FY(e:w.ownsMap P F k9 b n E):w.ownsMap P F k9 b (Maps.size E) E:=by
 obtain⟨d,c,f,a,g,rfl⟩:=e;exact⟨d,c,f,a,by simp[Maps.size,length_sorted],rfl⟩
theorem eJ.of{a:g0}(c:w.ownsMap P F k9 b n E)(d:jb E a):eJ P F w b a:=⟨E,FY c,d⟩
theorem eJ.made(w:ad):eJ P F (H w (.map #[] 0)) w.heap.size (fun _=>V):= .of (World.ownsMap_made w P F k9) jb.empty
theorem eJ.lt{d:g0}(a:eJ P F w b d):b < w.heap.size:=by
 obtain⟨E,c, -⟩:=a.ex;exact c.lt
theorem eJ.block{a:g0}(e:eJ P F w b a)(h:u.heap[b]?=w.heap[b]?):eJ P F u b a:=by
 obtain⟨E,⟨d,c,f,r⟩,g⟩:=e.ex;exact⟨E,⟨d,c,h.trans f,r⟩,g⟩
theorem eJ.I{c:g0}(a:eJ P F w b c)(d:Y w u):eJ P F u b c:=a.block (Below.block d b a.lt)
variable (C : P.underlying F = Z (.int U))
include C
theorem eJ.look{c:g0}(i:eJ P F w b c){t e:TypeId}(m:P.underlying t=Z (.map F e)){d:ak}(o: (zeroValue e).run P w= .ok d w){k:Int}(l: (Lit.int U k).wf=true):
  (Instr.lookup t (.map (Z b)) (O U k) true).run P w= .ok (a0 #[(c k).getD d,ah (c k).isSome]) w:=by
 obtain⟨E,j,g⟩:=i.ex;obtain⟨v,p,f,a⟩:=j.look_ok (int_keyed C) m o (zd:= .held d) (zp:=[]) rfl (keyOf_int_mk C l);rw[g.has k]at f;rw[g.at_ k]at a;have n:v=(c k).getD d:=by
  cases h:c k with
  |none=>
   rw[h]at a;simp only[k9,rI,Option.getD_none,eS,mK,DataW.held.injEq]at a;exact a.1
  |some q=>
   rw[h]at a;simp only[k9,iz,kF,eS,mK,DataW.held.injEq]at a;exact a.1
 rw[←n];exact f
theorem eJ.count{d:g0}(R:eJ P F w b d){lo:Int}{h:Nat}(u: ∀ k,(d k).isSome=true→lo≤k∧k < lo+h){E:DataW Value}(o:w.ownsMap P F k9 b (Maps.size E) E)(r:jb E d):
  Maps.size E=((List.range h).filter fun i=>(d (lo+(i:Nat))).isSome).length:=by
 obtain ⟨n,Q,T,l,W,rfl⟩:=o;have A:=Maps.fit_keys l;have t:=Maps.fit_apart (int_keyed C) l;generalize S:n.toList.map (Go.WideElems.rg P F k9)=c at *;have s: ∀ p∈c,∃ x:Int,p.1=ik x:=fun p a=>by
  obtain ⟨v,I⟩:=A p a;obtain ⟨x, -,e, -⟩:=Maps.keyOf_int_inv C I;exact ⟨x,e⟩
 have G:Maps.size (DataW.map (c.foldr DataW.insert []))=c.length:=by show (c.foldr DataW.insert []).length=_;exact length_sorted c
 rw [G];let f:Lit×DataW Value→Int:=fun p=>match p.1 with| .int _ x=>x|_=>0
 have g: ∀ p∈c,p.1=ik (f p):=fun p a=>by
  obtain ⟨x,e⟩:=s p a;show p.1=ik (match p.1 with| .int _ x=>x|_=>0);rw [e]
 have J: (c.map f).Nodup:=by
  rw [h4,l6];refine t.imp_of_mem fun {p q} a D j e=>j ?_;rw [g p a,g q D,e]
 have L: (((List.range h).filter fun i=>(d (lo+(i:Nat))).isSome).map fun i:Nat=>lo+(i:Int)).Nodup:=by
  rw [h4,l6];refine (List.Pairwise.filter _ (h4.1 List.nodup_range)).imp fun {p q} j e=>j K
 have B: ∀ x,x∈c.map f↔(d x).isSome=true:=fun x=>by
  rw [←r.has x];show _↔((c.foldr DataW.insert []).any fun p=>p.1.sameKey (ik x))=true;rw [List.any_eq_true,kE];constructor
  ·rintro ⟨p,a,rfl⟩;exact ⟨p,mem_sorted.2 a,by rw [g p a];exact WideAt.sameKey_self (tw _)⟩
  ·rintro ⟨p,a,z⟩;have a:=mem_sorted.1 a;refine ⟨p,a,?_⟩;have e:=WideAt.sameKey_eq z;rw [g p a] at e;unfold ik at e;simpa using e
 have a:=(List.perm_ext_iff_of_nodup J L).2 fun x=>by
  rw [B,kE];constructor
  ·intro m;obtain ⟨M,N⟩:=u x m;refine ⟨(x - lo).toNat,gW.2 ⟨lm.2 K,?_⟩,K⟩;rw [show lo+((x - lo).toNat:Int)=x by omega];exact m
  ·rintro ⟨i,y,rfl⟩;exact (gW.1 y).2
 have:=a.length_eq;rwa [fM,fM] at this
theorem eJ.put{a:g0}(g:eJ P F w b a){lo:Int}{c:Nat}(j: ∀ k,(a k).isSome=true→lo≤k∧k < lo+c)(r:c < maxLen){t e:TypeId}(n:P.underlying t=Z (.map F e)){k:Int}(l: (Lit.int U k).wf=true)(v:ak):
  ∃ u,(Instr.mapUpdate t (.map (Z b)) (O U k) v).run P w= .ok () u∧eJ P F u b (jw a k (Z v))∧w.mapTurned u b:=by
 obtain⟨E,f,h⟩:=g.ex;have s:=g.count C j f h;have m:=kg (fun i:Nat=>(a (lo+(i:Nat))).isSome) (List.range c);rw[mM]at m;obtain⟨u,o,p,q⟩:=f.store (int_keyed C) n K (keyOf_int_mk C l) (val:=v) (d:= .held v) (ps:=[]) rfl;exact⟨u,o,.of p (h.put f.isMap k v),q⟩
theorem eJ.del{a:g0}(c:eJ P F w b a){t e:TypeId}(h:P.underlying t=Z (.map F e)){k:Int}(g: (Lit.int U k).wf=true)(M:TypeId):
  ∃ u,(Builtin.delete_ #[t,F] M #[.map (Z b),k]).run P w= .ok (a0 #[]) u∧eJ P F u b (jw a k V)∧w.mapTurned u b:=by
 obtain⟨E,d,f⟩:=c.ex;obtain⟨u,i,j,l⟩:=d.drop (int_keyed C) h (keyOf_int_mk C g) M;exact⟨u,i,.of j (f.del k),l⟩
omit C in
omit C in
omit C in
omit C in
omit C in
omit C in
omit C in
end
theorem HG(a:w.mapTurned u b)(c:b∈S):Mod S w u:=Mod.grown a.grown fun x e=>by cases e;exact c
end
section
open Go.BigFrame Go.RowKit Go.WideShapes
inductive cm (w:ad):ak→Int→Prop
 |code (c:Int) (a: (Lit.int U c).wf=true):cm w (.iface 48 (O U c)) c
 |fault (b:Nat) (place:ByteArray) (slot:Int) (v:ak) (c:Int) (a:w.rangeAt b 0 [af place,O U slot,v]) (d:cm w v c):cm w (.iface 194 (au (Z ⟨b,0,V⟩))) c
theorem cm.I(a:cm w v c)(d:Y w u):cm u v c:=by
 induction a with
 |code c a=>exact .code c a
 |fault b place slot v c a e ih=>exact .fault b place slot v c (d.range a) ih
theorem cm.ex(a:cm w v c)(d:dD w u):cm u v c:=by
 induction a with
 |code c a=>exact .code c a
 |fault b place slot v c a g ih=>exact .fault b place slot v c (fun j f e=>d.cell _ _ _ (a j f e)) ih
def eH (w:ad) (v:ak):Option Int→Prop
 |none=>v=aB
 |some c=>cm w v c
theorem jQ(place:ByteArray)(slot:Int)(w:ad):
  ao aj 55 #[af place,slot,aB] w fun e u=>e=ap aB∧Y w u:=by
 go_enter Tryz.func55,Tryz.ntmps55;go_wp2_with fail;go_ret;exact⟨rfl,Y.refl _⟩
theorem eH.ex{o:Option Int}(a:eH w v o)(b:dD w u):eH u v o:=by
 cases o with
 |none=>exact a
 |some c=>exact cm.ex a b
theorem oG(place:ByteArray)(slot:Int)(v:ak)(c:Int)(w:ad)(S:List Nat)(f: ∀ b∈S,b < w.heap.size)(d:cm (ay w S) v c):
  ao aj 55 #[af place,slot,v] w fun e u=> ∃ h,e=ap h∧cm (ay u S) h c∧Y w u:=by
 have n: ∃ t a,v= .iface t a:=by cases d <;> exact⟨_,_,rfl⟩
 obtain⟨t,a,rfl⟩:=n;have i:=N d;have k:=N f;clear d f;go_enter Tryz.func55,Tryz.ntmps55;go_wp2_with fail;have g:=(Y.refl w).alloc (X #[af place,slot,.iface t a] 196);have z:=ae.new w #[af place,slot,.iface t a] 196 rfl;have l: (ay (H w (X #[af place,slot,.iface t a] 196)) S).rangeAt w 0 [af place,slot,.iface t a]:=fun j a m=>bp.2 ⟨fun q=>absurd (k.out _ q) (dk _),z.aM j a m⟩;go_ret;exact⟨_,rfl,.fault _ place slot _ c l (i.out.ex (bX g S)),g⟩
theorem Bv(place:ByteArray)(slot:Int)(v:ak)(o:Option Int)(w:ad)(S:List Nat)(f: ∀ b∈S,b < w.heap.size)(a:eH (ay w S) v o):
  ao aj 55 #[af place,slot,v] w fun e u=> ∃ d,e=ap d∧eH (ay u S) d o∧Y w u:=by
 cases o with
 |none=>
  obtain rfl:v=aB:=a;exact(jQ place slot w).mono fun e u ⟨g,h⟩=>⟨_,g,rfl,h⟩
 |some c=>exact oG place slot v c w S f a
theorem HS(b:Nat)(place:ByteArray)(slot:Int)(v:ak)(w:ad)(a:w.rangeAt b 0 [af place,slot,v]):
  ao aj 240 #[au (Z b)] w fun e u=>e=ap v∧w=u:=by
 have c:=a 2 _ rfl;simp only[cv]at c;go_enter Tryz.func240,Tryz.ntmps240;go_wp2_with fail;go_ret;exact⟨rfl,rfl⟩
def qx (w:ad):Nat→ak→Nat
 |0,_=>0
 |f+1,.iface _ (au (Z a))=>match w.cell? ⟨a.block,a.off+2,V⟩ with
  |some v=>qx w f v+1
  |none=>0
 |_+1,_=>0
inductive ja (w:ad):Nat→ak→Int→Prop
 |code (c:Int) (a: (Lit.int U c).wf=true):ja w 0 (.iface 48 (O U c)) c
 |fault (n:Nat) (b:Nat) (place:ByteArray) (slot:Int) (v:ak) (c:Int) (a:w.rangeAt b 0 [af place,O U slot,v]) (d:ja w n v c):ja w (n+1) (.iface 194 (au (Z ⟨b,0,V⟩))) c
theorem cm.depth(a:cm w v c): ∃ n,ja w n v c:=by
 induction a with
 |code c a=>exact⟨0,.code c a⟩
 |fault b place slot v c a d ih=>
  obtain⟨n,ih⟩:=ih;exact⟨n+1,.fault n b place slot v c a ih⟩
theorem ja.I(a:ja w n v c)(d:Y w u):ja u n v c:=by
 induction a with
 |code c a=>exact .code c a
 |fault n b place slot v c a e ih=>exact .fault n b place slot v c (d.range a) ih
theorem ja.depth(a:ja w n v c): ∀ f,n≤f→qx w f v=n:=by
 induction a with
 |code c a=>intro f e;cases f <;> rfl
 |fault n b place slot v c a g ih=>
  intro f e;cases f with
  |zero=>omega
  |succ f=>
   have d:=a 2 _ rfl;simp only[qx,d,ih f K]
end
section
section
theorem fW(d:List Nat){ca:Nat}{m:Array Bool}{a:Act}{w:ad}(f:Region.ready s h m=d)
  (c: ∀ j∈d,∃ o,h[j]?=Z o∧ii s h (m.setIfInBounds j true)=true∧∀ b:Act→ad→Prop,Shut (∀ a w,z w→((m.setIfInBounds j true).getD l false=false→A w)→dy P s h B (fe s h z A l) ca (m.setIfInBounds j true) a w→b a w)→if Region.wanted o (yielded h a.tmps)=true then Oper.wp P o a w b B else b (a.put o.dst undef) w)
  (r:d≠[]):dy P s h B (fe s h z A l) (ca+1) m a w:=by
 refine⟨fun c=>(by rw[f]at c;exact absurd c r),fun k e=>?_⟩;rw[f]at e;obtain⟨o,t,q,g⟩:=c k e;exact l9 t fun b C=>g b fun a w i n p=>C a w ⟨⟨i,nk q,n⟩,p⟩
end
end
section
open Go.BigFrame Go.RowKit Go.WideShapes

end
end Go.Proofs.YtbkmjhhpcinppaaGreatDoor
