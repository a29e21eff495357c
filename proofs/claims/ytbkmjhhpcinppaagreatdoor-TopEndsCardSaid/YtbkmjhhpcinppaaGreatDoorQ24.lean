import Derived.Test.YtbkmjhhpcinppaaGreatDoorQ23
namespace Go.Proofs.YtbkmjhhpcinppaaGreatDoor
set_option linter.unusedVariables false
set_option linter.defProp false
set_option linter.unusedSimpArgs false
set_option maxRecDepth 100000
set_option maxHeartbeats 40000000
open Go.BigFrame Go.RowKit Go.WideShapes
open Ending renaming returned→ap
open Go renaming Addr→ai,Calls→ao,Value→ak,World→ad
open Go.Proofs.Tryz renaming prog→aj
open IntKind renaming i64→U
open Obj renaming cells→X
open Option renaming none→V,some→Z
open Value renaming agg→aw,bool→ah,int→O,nilIface→aB,pointer→au,slice→ac,string→af,tuple→a0
open World renaming alloc→H,setCells→ba
variable {B0 l F W s I k B p : Nat} {u D' : bU} {m : aV} {A aD ag : az} {R : ad → Prop} {S C S0 : List Nat} {cap first : Array ak} {D n : Int} {f : FuncId} {z : aA} {lim : aK} {M : aT} {E : Option ai} {r : Option aA} {T vs : List ak} {w d w0 : ad}
structure eT where
 n:Int
 a:Int
 b:Int
 hp:Int
 xm:Int
 cq:ByteArray
 left:Int
 lo:ak
 gT:ak
 fU:ak
 eU:ak
 g:bl
 go:Option ai
 jW:Nat
 gc:Nat
 x:Int
 y:Int
 cQ:Bool
 hS:Bool
 gx:ak
abbrev eT.L (X₀:eT):List ak:=[O U X₀.n,O U X₀.a,O U X₀.b,O U X₀.hp,O U X₀.xm,af X₀.cq,O U X₀.left,X₀.lo,X₀.gT,X₀.fU,X₀.eU,af X₀.g.low,af X₀.g.high,ah X₀.g.unb,O U X₀.g.right,ac X₀.go X₀.jW X₀.gc,ah X₀.g.gone,O U X₀.x,O U X₀.y,ah X₀.cQ,ah X₀.hS,X₀.gx]
structure di (m:aV) (S:List Nat) (w:ad) (lim:aK) (A:az) (l:Nat) (X₀:eT):Prop where
 mem:aX m S w lim A
 box:ae w l X₀.L
 rows:bk (ay w S) X₀.go X₀.jW X₀.gc X₀.g.rows
 b6:eB X₀.g
 key:X₀.cq.size≤maxLen
 jf:l∈S
 e4: ∀ b∈m.l,b < l
section
variable {X₀ X' : eT}
theorem di.iJ(a:di m S w lim A l X₀):l∉m.l:=fun q=>dk _ (a.e4 _ q)
theorem di.lt(a:di m S w lim A l X₀):l < w.heap.size:=a.mem.old _ a.jf
theorem di.av{L:List Nat}(a:di m S w lim A l X₀)(b:bn L B0 S w C d)(e:aX m C d lim aD)(c:l∉L∧l < B0):di m C d lim aD l X₀:=
 ⟨e,b.box (.inr c) a.box,a.rows.ex b.aL,a.b6,a.key,b.sub _ a.jf,a.e4⟩
theorem di.aC(a:di m S w lim A l X₀)(b:Y w d):di m S d lim A l X₀:=
 ⟨a.mem.I b,a.box.I b,a.rows.ex (bX b S),a.b6,a.key,a.jf,a.e4⟩
theorem di.wrote(a:di m S w lim A l X₀)(e:Mod [l] w d)(j:ae d l X'.L)(f:X'.g.rows=X₀.g.rows∧X'.go=X₀.go∧X'.jW=X₀.jW∧X'.gc=X₀.gc)(g:eB X'.g)(h:X'.cq=X₀.cq):di m S d lim A l X':=by
 have i:fq S w S d:=e.aL (by intro b c;rw[aO.1 c];exact a.jf) fun _ q=> .inl q;obtain⟨k,n,o,p⟩:=f;exact⟨a.mem.step (e.ju fun b c=>by rw[aO.1 c];exact a.jf) (fun b c q=>a.iJ (by rw[←aO.1 q];exact c)) a.mem.sub,j,by rw[k,n,o,p];exact a.rows.ex i,g,by rw[h];exact a.key,a.jf,a.e4⟩
theorem di.own(a:di m S w lim A l X₀)(e:Mod [l] w d):bn m.l l S w S d:=e.av fun b c=>by rw[aO.1 c];exact⟨a.jf,.inr (aG _)⟩
abbrev ve (v:ak):Prop:=v=aB∨∃ t a,v= .iface t a
theorem oY(a:ae w l X₀.L){b:Bool}(f:X₀.cQ=b):ao aj 165 #[aa l] w fun e d=>e=ap (ah b)∧w=d:=by
 have c:w.cell? ⟨l,19,V⟩=Z (ah X₀.cQ):=a.cell 19 rfl;clear a;rw[f]at c;go_enter Tryz.func165,Tryz.ntmps165;go_wp2_with fail;go_ret;exact⟨rfl,rfl⟩
theorem wl(a:di m S w lim A l X₀)(D:Bool)(v:ak)(h:ve v):
  ao aj 167 #[aa l,D,v] w fun e d=>e=ap (ah true)∧di m S d lim A l {X₀ with cQ:=true,hS:=D,gx:=v}∧Mod [l] w d:=by
 have n:=a.box.free 19 J;have o:=a.box.free 20 J;have p:=a.box.free 21 J;have i:w.cell? ⟨l,19,V⟩=Z (ah X₀.cQ):=a.box.cell 19 rfl;have j:w.cell? ⟨l,20,V⟩=Z (ah X₀.hS):=a.box.cell 20 rfl;have k:w.cell? ⟨l,21,V⟩=Z X₀.gx:=a.box.cell 21 rfl;have b:Mod [l] w (((w.setCell ⟨l,19,V⟩ (ah true)).setCell ⟨l,20,V⟩ (ah D)).setCell ⟨l,21,V⟩ v):=((Mod.setCell _ _ _ J).trans (Mod.setCell _ _ _ J)).trans (Mod.setCell _ _ _ J);have g:ae (((w.setCell ⟨l,19,V⟩ (ah true)).setCell ⟨l,20,V⟩ (ah D)).setCell ⟨l,21,V⟩ v) l ({X₀ with cQ:=true,hS:=D,gx:=v}:eT).L:=(((a.box.set 19 (ah true)).set 20 (ah D)).set 21 v).of rfl;have c:=N (a.wrote (X':={X₀ with cQ:=true,hS:=D,gx:=v}) b g ⟨rfl,rfl,rfl,rfl⟩ a.b6 rfl);have f:=N b;clear a g b;rcases h with rfl|⟨t,q,rfl⟩
 ·go_enter Tryz.func167,Tryz.ntmps167;go_wp2_with fail;go_ret;exact⟨rfl,c.out,f.out⟩
 ·go_enter Tryz.func167,Tryz.ntmps167;go_wp2_with fail;go_ret;exact⟨rfl,c.out,f.out⟩
theorem wb(a:ae w l X₀.L)(f:X₀.cQ=true):ao aj 139 #[aa l] w fun e d=>e=ap (a0 #[ah X₀.hS,X₀.gx])∧Y w d:=by
 have c:w.cell? ⟨l,19,V⟩=Z (ah X₀.cQ):=a.cell 19 rfl;have g:w.cell? ⟨l,20,V⟩=Z (ah X₀.hS):=a.cell 20 rfl;have h:w.cell? ⟨l,21,V⟩=Z X₀.gx:=a.cell 21 rfl;rw[f]at c;clear a;go_enter Tryz.func139,Tryz.ntmps139;go_wp2_with fail;go_region_held3(fun b=>b.cell? ⟨l,20,V⟩=Z (ah X₀.hS)∧b.cell? ⟨l,21,V⟩=Z X₀.gx) ((first|(have kG:=(Y.refl w);exact b9)|exact b9)) (fail);all_goals
  go_wp2_with fail;go_ret2;exact⟨rfl,bz⟩
structure iH (m:aV) (S:List Nat) (w:ad) (lim:aK) (A:az) (l:Nat) (X₀:eT) (n:Int) (W:Nat):Prop where
 h:di m S w lim A l X₀
 lo:X₀.lo=aa W
 box:ae w W (gB n false false 0 0 0 0 V 0 0 V 0 0 aB)
 e2:W∈S
 cH:l < W
theorem yY(o:di m S w lim A l X₀)(n:Int)(f:FuncId)(first cap:Array ak):
  ao aj 185 #[aa l,n,.func (.func f) first cap] w fun e d=>e=ap (ah false)∧∃ W C,iH m C d lim A l {X₀ with lo:=aa W,gT:=au V,fU:= .func (.func f) first cap} n W∧bn m.l l S w C d:=by
 have t:=N (vI n w);have g:=N o;clear o;go_enter Tryz.func185,Tryz.ntmps185;go_upto_region 1 with fail
 have s: ∀ a,ae a w (gB n false false 0 0 0 0 V 0 0 V 0 0 aB)→Y w a→a.frozen? ⟨l,7,V⟩=false∧a.frozen? ⟨l,8,V⟩=false∧a.frozen? ⟨l,9,V⟩=false∧a.cell? ⟨l,7,V⟩=Z X₀.lo∧a.cell? ⟨l,8,V⟩=Z X₀.gT∧a.cell? ⟨l,9,V⟩=Z X₀.fU:=fun a _ x=>by
  have c:=(g.out.aC x).box;exact ⟨c.free 7 J,c.free 8 J,c.free 9 J,c.cell 7 rfl,c.cell 8 rfl,c.cell 9 rfl⟩
 have u:=N s;clear s;go_wp2_with (go_at_call 98;(with_reducible refine t.out.mono ?_);rintro e a ⟨rfl,i,r⟩;(obtain ⟨E,F,G,z,B,D⟩:=u.out _ i r));go_ret;have p:=g.out.lt;have y:=i.lt J;have hold:=g.out.mem.old;have j:bn [] w.heap.size S w ([w.heap.size]++S) a:=(Y.av r).more [w.heap.size] fun b h=>by rw [aO.1 h];exact .inr ⟨aG _,y⟩
 have c:=g.out.av j (g.out.mem.av j fun b h=>⟨J,hold b (g.out.mem.sub b h)⟩) ⟨J,p⟩;have k:Mod [l] a (((a.setCell ⟨l,7,V⟩ (aa w)).setCell ⟨l,8,V⟩ (au V)).setCell ⟨l,9,V⟩ (.func (.func f) first cap)):=((Mod.setCell _ _ _ J).trans (Mod.setCell _ _ _ J)).trans (Mod.setCell _ _ _ J);have v:=c.wrote (X':={X₀ with lo:=aa w,gT:=au V,fU:= .func (.func f) first cap}) k ((((c.box.set 7 (aa w)).set 8 (au V)).set 9 (.func (.func f) first cap)).of rfl) ⟨rfl,rfl,rfl,rfl⟩ c.b6 rfl;exact ⟨rfl,_,_,⟨v,rfl,k.box cJ i,J,p⟩,(j.wide fun b h q=> .inr (by rcases q with q|q;cases q;omega)).trans (c.own k)⟩
end
section
variable {ax : Type} {P : Program} {al : dK ax} {bytes : Nat} {an S : TypeId}
theorem GK(aJ: ∀ w d x vs,al w x vs→al d x vs)(aK:jc P S an k bytes){w:ad}(I:TypeId){aq:Option ai}{n:Nat}{p:List ax}(t:bo al k w aq n n p){b:Nat}{y:ax}{vs:List ak}(aU:vs.length=k)(aF: ∀ j∈vs,j.oneCell'=true)(aS:al w y vs)(aT:w.rangeAt b 0 vs)(aY:n+1≤maxLen)(a1: (n+1) * bytes≤140737488355328):
  ∃ m l d,(Builtin.append_ #[S,S] I #[ac aq n n,ac (Z ⟨b,0,V⟩) 1 1]).run P w= .ok (ac m (n+1) l) d∧bi al k an d w m (n+1) l (p++[y])∧Y w d:=by
 obtain⟨T,⟨i,ar,N,ag,R,M,am⟩,F⟩:=aK;obtain⟨av,G,aI,ay⟩:=t.cells;have aM: ∃ o:List (List ak),o.length=n∧∀ (c:Nat) (x:ax) (f:List ak),p[c]?=Z x→o[c]?=Z f→f.length=k∧(∀ j∈f,j.oneCell'=true)∧al w x f∧∀ q j,f[q]?=Z j→w.cell? ⟨av,G+c * k+q,Option.none⟩=Z j:=by
  refine⟨(List.range n).map fun c=>if h:c < p.length then Classical.choose (ay c p[c] (cP h))else[],J,fun c x f h W=>?_⟩;obtain⟨u,aV⟩:=c3.1 h;rw[mW,uW (by rw[←t.len];exact u)]at W;simp only[iz,eS,dif_pos u]at W;subst W;have:=Classical.choose_spec (ay c p[c] (cP u));rw[←aV];exact this
 obtain⟨o,v,aa⟩:=aM;have ab: ∀ f∈o,f.length=k∧∀ j∈f,j.oneCell'=true:=fun f aP=>by
  obtain⟨c,u,rfl⟩:=pA.1 aP;have Q:c < p.length:=by rw[t.len];omega
  have:=aa c p[c] o[c] (cP Q) (cP u);exact⟨this.1,this.2.1⟩
 have L: ∀ s d,d.ownsRow w an k s (n+1) (o.flatten++vs)→w.grownBy d V→∃ m l,s=ac m (n+1) l∧bi al k an d w m (n+1) l (p++[y])∧Y w d:=by
  intro s d aD aN;have aR: ∃ m l,s=ac m (n+1) l:=by
   rcases aD.2 with⟨e,a2⟩|⟨g,aW,aX,e,rest⟩
   ·omega
   ·exact⟨_,_,e⟩
  obtain⟨m,l,rfl⟩:=aR;refine⟨m,l,rfl,⟨by rw[dG,t.len];rfl,o++[vs],by simp[v],fun f q=>?_,by rw[oo];simpa using aD,fun c x f h r=>?_⟩,kP (Y.refl w) aN (aG _) (fun q r=>by cases r)⟩
  ·rcases cu.1 q with q|q
   ·exact ab f q
   ·rw[aO.1 q];exact⟨aU,aF⟩
  ·refine aJ w _ _ _ ?_;rcases dC c n with q|q
   ·rw[kN (by rw[t.len];exact q)]at h;rw[kN K]at r;exact(aa c x f h r).2.2.1
   ·rw[jE (by rw[t.len];exact q),t.len]at h;rw[jE K,v]at r;obtain rfl:c=n:=by
     have:=(c3.1 h).1;simp at this;omega
    simp only[Nat.sub_self,mV,eS]at h r;subst h r;exact aS
 have ae: ∀ c j,vs[c]?=Z j→w.cell? ((⟨b,0,V⟩:ai).add c)=Z j:=fun c j h=>by rw[Addr.add_lit];exact aT c j h
 cases aE:aq with
 |none=>
  have z:=t.none aE;subst z;obtain rfl:o=[]:=gH.1 v;obtain⟨s,d,A,D,E,_⟩:=run_append_own (P:=P) w w S I an i ar k bytes T N ag R M am F (ac V 0 0) 0 [] (World.ownsRow_nil w _ an k) ⟨b,0,V⟩ 1 1 vs K ae aF K K (aG _);obtain⟨m,l,rfl,B,C⟩:=L s d (by simpa using D) E;exact⟨m,l,d,A,B,C⟩
 |some a=>
  rcases gm n with z|z
  ·subst z;obtain rfl:o=[]:=gH.1 v;obtain⟨s,d,A,D,E⟩:=run_append_arg_grows (P:=P) w S I an i ar k bytes T N ag R M am F a 0 0 [] J (fun c j h=>by simp at h) ⟨b,0,V⟩ 1 1 vs K ae K K K;obtain⟨m,l,rfl,B,C⟩:=L s d (by simpa using D) E;exact⟨m,l,d,A,B,C⟩
  ·obtain⟨e,aZ⟩:=aI z;rw[aE]at e;cases e;have aA:o.flatten.length=n * k:=by rw[qB fun f q=>(ab f q).1,v]
   obtain⟨s,d,A,D,E⟩:=run_append_arg_grows (P:=P) w S I an i ar k bytes T N ag R M am F ⟨av,G,V⟩ n n o.flatten aA (fun c j h=>by
    have u:=(c3.1 h).1;rw[aA]at u;have r:c / k < n:=Nat.div_lt_of_lt_mul (by rw[pB];exact u);have Q:c / k < p.length:=by rw[t.len];exact r
    have aC:c / k < o.length:=by rw[v];exact r
    have e:c=c / k * k+c % k:=by rw[pB];exact(Nat.div_add_mod c k).symm
    have aQ:=Nat.mod_lt c F;have az:=s8 (fun f aH=>(ab f aH).1) (cP aC) aQ;rw[←e,h]at az;have aL:=(aa (c / k) p[c / k] o[c / k] (cP Q) (cP aC)).2.2.2 (c % k) j az.symm;rw[Addr.add_lit];rw[show G+c=G+c / k * k+c % k by omega];exact aL) ⟨b,0,V⟩ 1 1 vs K ae K K K
   obtain⟨m,l,rfl,B,C⟩:=L s d D E;exact⟨m,l,d,A,B,C⟩
theorem IN(q: ∀ w d x vs,al w x vs→al d x vs)(r:jc P S an k bytes){w:ad}{o:Oper}{a:Act}{m:Act→ad→Prop}{Q:Exit→Act→ad→Prop}(h x:Operand)
  (u:o.op= .call {callee:= .builtin .append,args:= #[h,x],argTypes:= #[S,S]}){g:Option ai}{n:Nat}{f:List ax}(z:a.eval h=ac g n n)(t:bo al k w g n n f){b:Nat}(E:a.eval x=ac (Z ⟨b,0,V⟩) 1 1){y:ax}{vs:List ak}(D:vs.length=k)(A: ∀ F∈vs,F.oneCell'=true)(B:al w y vs)(C:w.rangeAt b 0 vs)(p:n+1≤maxLen)(s: (n+1) * bytes≤140737488355328)
  (i: ∀ e c d,bi al k an d w e (n+1) c (f++[y])→Y w d→m (a.put o.dst (ac e (n+1) c)) d):Oper.wp P o a w m Q:=by
 obtain⟨e,c,d,v,j,l⟩:=GK q r (w:=w) o.type t D A B C p s;have:=i e c d j l;unfold Oper.wp execOp;simp only[u,resolve,invoke,builtin,n4,Sem.run_pure,uy,uz,kc,rz,z,E,v];exact this
end
section
theorem aP.sA(d:aP m S w lim A s u E B I T):w.rangeAt s 12 T:=fun a c b=>by
 have:=d.box.aM (12+a) c (by
  show([_,_,_,_,_,_,_,_,_,_,_,_]++(T++u.bO))[12+a]?=Z c;rw[jE (by show 12≤12+a;omega)];rw[show 12+a - [Value.int U 0,ac E B I,ah u.fI,O U u.c.kind,af u.c.key,af u.c.val,ah u.wr,af u.bR,u.bF,au V,au V,u.nx].length=a by show 12+a - 12=a;omega];have e:=(c3.1 b).1;rw[kN e];exact b)
 rwa[cv]at this
theorem kz(a:aP m S w lim A s u E B I T)(p:cd (ay w S) n z k M vs):
  ao aj 120 #[aa s,aw vs,aw (bC lim)] w (jN M (dX M k n (u.ab.map bQ.view) u.c.key lim u.wr) w):=by
 obtain ⟨x,W,ab,ag⟩:Y w (((H w (X vs 170)).alloc (X (bC lim) 23)).alloc (X bx 239))∧ae (((H w (X vs 170)).alloc (X (bC lim) 23)).alloc (X bx 239)) w.heap.size vs∧ae (((H w (X vs 170)).alloc (X (bC lim) 23)).alloc (X bx 239)) (w.heap.size+1) (bC lim)∧ae (((H w (X vs 170)).alloc (X (bC lim) 23)).alloc (X bx 239)) (w.heap.size+2) bx:=
  ⟨(((Y.refl w).alloc _).alloc _).alloc _,((ae.new w _ _ rfl).of J).I (((Y.refl _).alloc _).alloc _),((ae.new (H w _) _ _ dW).of J).I ((Y.refl _).alloc _),(ae.new ((H w _).alloc _) _ _ kT).of J⟩
 have L:=N fun F (D:Y w F)=>CT (p.ex (bX D S)) (a.ab.ex (bX D S)) F (dv _ _) u.c.key a.key.1 lim u.wr;have P:=N p.len;have Q:=N a.ab.len;have c:=a.aC x;have ar:=c.box.cell 9 rfl;have q:=And.intro (c.box.cell 4 rfl) (And.intro (c.box.cell 6 rfl) c.sA);clear a c p;go_enter Tryz.func120,Tryz.ntmps120;go_upto_region 1 with fail
 generalize ((H w (X vs 170)).alloc (X (bC lim) 23)).alloc (X bx 239)=R at *;have am: (aj.info? 170).map (·.size)=Z vs.length:=by rw [P.out];kernel_rfl
 have al: (aj.info? 97).map (·.size)=Z T.length:=by rw [Q.out];kernel_rfl
 go_upto_region 2 with fail
 refine cZ (fun _=>True) (fun d=>d.rangeAt w 0 vs∧d.rangeAt (w.heap.size+1) 0 (bC lim)∧d.cell? ⟨s,4,V⟩=Z (af u.c.key)∧d.cell? ⟨s,6,V⟩=Z (ah u.wr)∧d.rangeAt s 12 T) 15 G ?_;have b:True:=trivial;have z:=(Y.refl R).drew;have hKC:=And.intro (z.range W.aM) (And.intro (z.range ab.aM) (And.intro (z.I q.1) (And.intro (z.I q.2.1) (z.range q.2.2))));refine' l3 (k:=0) (ok:=⟨Z 13,_,_,_,_,_⟩) (v:=_) rfl G G G G G (fun _ _ _ a=>a) (fun _ r t=>And.intro r t) (cj aq _ _ rfl _ _ rfl _ _ (fun w a=>a.2.1) dt rfl am) b hKC ?_;(try simp only [bu]);refine' aI 1 14 (aa s) rfl b hKC ?_;refine' aI 2 15 (aa s) rfl b hKC ?_;refine' aI 3 16 (au (Z ⟨s,12,V⟩)) rfl b hKC ?_;refine' l3 (k:=4) (ok:=⟨Z 17,_,_,_,_,_⟩) (v:=_) rfl G G G G G (fun _ _ _ a=>a) (fun _ r t=>And.intro r t) (cj aq _ _ rfl _ _ rfl _ _ (fun w a=>a.2.2.2.2.2) mR rfl al) b hKC ?_;(try simp only [bu]);refine' aI 5 18 (aa s) rfl b hKC ?_;refine' aI 6 19 (aa s) rfl b hKC ?_;refine' aI 7 20 (au (Z ⟨s,3,V⟩)) rfl b hKC ?_;refine' aI 8 21 (au (Z ⟨s,4,V⟩)) rfl b hKC ?_;refine' bc (v:=af u.c.key) 9 22 rfl (.inl ⟨aq,?_⟩) b hKC ?_
 ·(intro w g;have an:=g.2.2.2.1;clear g;go_simp)
 refine' bc 10 23 rfl (cj aq _ _ rfl _ _ rfl _ _ (fun w a=>a.2.2.1) fO rfl G) b hKC ?_;refine' aI 11 24 (aa s) rfl b hKC ?_;refine' aI 12 25 (aa s) rfl b hKC ?_;refine' aI 13 26 (au (Z ⟨s,6,V⟩)) rfl b hKC ?_;refine' bc (v:=ah u.wr) 14 27 rfl (.inl ⟨aq,?_⟩) b hKC ?_
 ·(intro w g;have an:=g.2.2.2.2.1;clear g;go_simp)
 refine cg 15 (Z 28) rfl (fun l f=>?_);go_simp;go_at_call 131;with_reducible refine (L.out _ (x.trans z)).mono ?_
 rintro e ax ⟨rfl,C⟩;have y:=(ag.I z).I C;refine bM f (trivial) ?_;clear f l;refine j9 (j:=16) (o:={dst:=V,op:= .store 239 (.tmp 6) (.tmp 28),type:=_,pos:=_,after:=_,guard:=V}) rfl G G (fun l f=>?_);refine a6 aq ?_;generalize av:dX M k n (u.ab.map bQ.view) u.c.key lim u.wr=h at *;have i:=iu M h;refine dQ _ _ _ rfl _ _ (fS M h).toArray rfl rfl (by have:=y.may;rw [show (fS M h).toArray.size=7 by rw [uL,i]];exact this) (by rw [uL,i];kernel_rfl) (by simpa using pa M h) ?_;simp only [bu];refine bM f (trivial) ?_;clear f l;refine cC G ?_;go_wp2_with fail;refine bH ((y.aR (us:=fS M h) i).e7 rfl _ rfl eG rfl (by rw [i];kernel_rfl)) rfl ?_;exact ⟨rfl,((x.trans z).trans C).setCells K _ _⟩
end
def uf:hs→Nat
 | .ok _=>5
 | .no _ _=>6
def ue:hs→Nat
 | .ok _=>8
 | .no _ _=>11
theorem qH(a:p < A.ax.length): (b1 A (p:Int) r).ax[p]?=Z (Z r):=by
 unfold b1;simp only[kd];rw[l5 a]
theorem nv{q:Nat}(a:p≠q): (b1 A (p:Int) r).ax[q]?=A.ax[q]?:=by
 unfold b1;simp only[kd];rw[ll a]
theorem ui(e:eR A=Z (p,aD)):aD.ax[p]?=Z (Z V)∧(∀ q b,A.ax[q]?=Z (Z b)→q≠p∧aD.ax[q]?=Z (Z b))∧aD.aQ=A.aQ:=by
 obtain⟨rfl,c⟩:=zk e;have f:=(c3.1 c).1;refine⟨qH f,fun q b a=>?_,rfl⟩;have d:q≠p:=by rintro rfl;rw[c]at a;cases a
 exact⟨d,by rw[nv (Ne.symm d)];exact a⟩
section
variable {am : ak} {aH aE aF : Nat} {Q : Ending → ad → Prop} {n : Nat} 
theorem xA{a:Int→ar×ar}{bb:hs}{aS:FuncId}{a6 a5:Array ak}(N:jl lim.count A (n:Int) a=bb)(a8:aP m S w lim A s u E B I T)
  (be:hr m B0 lim A F (bE n ((z.i:Int)+1) (z.g:Int) 1 am 0 V 0 0 V 0 0 (eu 0).x V 0 0 V 0 0 V 0 0 0 false aB) (eu 0) V 0 0 V 0 0 S w V 0 0 [] V 0 0 [] V 0 0 [])
  (aV:gq m B0 S w s F u.nx (.func (.func aS) a6 a5) aH aE aF)(bq:dH aS)(bv: ∀ p:Int,fA S w am [p] [(a p).1] (a p).2)(a9: ∀ p,bT (a p).1∧bT (a p).2)(bK: ∀ p,(a p).1.x.slot=0∧(a p).1.x.gen=0)(bC:A.ax[n]?=Z (Z (Z z)))
  (bw: ∀ ag,bb= .ok ag→∀ d C,aP m C d lim ag s u E B I T→bD S w C d→ao aj aS (a6.push (ah true)++a5) d fun e bk=> ∃ b,e=ap (ah b)∧Q e bk)
  (hF: ∀ ag c,bb= .no ag c→∀ e d R C,iE m C lim ag s u E B I T d c e R→bD S w C d→Q e R):
  a7 m s (uf bb) w Q:=by
 have aA: ∀ b∈m.l,b < B0:=aV.e4;have aU:=qD be aA (aJ _) (aJ _) K (Z fun p=>([(a p).1],(a p).2)) ⟨rfl,fun p=>⟨bv p,rfl,fun x aZ=>by rw[aO.1 aZ];exact bK p⟩⟩;unfold jl at N;cases bi:eR A with
 |none=>
  rw[bi]at N aU;dsimp only at N;subst N;have aq:=eV (w:=w) (Q:=k0 m B0 lim A F n ((z.i:Int)+1) (z.g:Int) 1 am (eu 0) V 0 0 V 0 0 V 0 0 [] V 0 0 [] V 0 0 [] 0 3 S w) be.box rfl rfl rfl (aU.mono fun e d ⟨t,a4,ay,a2,a3⟩=>⟨_,ay,t,a4,ay,a2,a3⟩);exact(l1 (S0:=S) (w0:=w) 0 0 0 0 V V [] [] S w A A K K a8 aV aq rfl rfl (fun r aG=>by cases aG) iX (fun r aG=>by cases aG) iX bn.refl fun e d R C q aC=>hF _ _ rfl e d R C q aC).more (by show 1+0+0≤6;omega)
 |some aa=>
  obtain⟨p,ag⟩:=aa;rw[bi]at N aU;dsimp only at N;obtain⟨bj,bM,bN⟩:=ui bi;obtain⟨bB,bF⟩:=bM n _ bC;have bm: ∀ ax,(∀ M f D v L G l i g o j h,hr m B0 lim ag F (bE n ((z.i:Int)+1) (z.g:Int) 1 am 1 D 1 v L 1 G (a p).2.x l i g o j h V 0 0 0 false aB) (a p).2 l i g o j h M f D 1 v [(p:Int)] L 1 G [(a p).1] V 0 0 []→aP m M f lim ag s u E B I T→gq m B0 M f s F u.nx (.func (.func aS) a6 a5) aH aE aF→bD S w M f→a7 m s ax f Q)→a7 m s (ax+1) w Q:=by
   intro ax bd;have aq:=eV (w:=w) (Q:=fun e d=>e=ap (ah false)∧∃ C bp bl E B I l i g o j h,bI m B0 S w lim ag F (bE n ((z.i:Int)+1) (z.g:Int) 1 am 1 bp (0+1) bl E B I (a p).2.x l i g o j h V 0 0 0 false aB) (a p).2 l i g o j h C d bp (0+1) bl ([]++[(p:Int)]) E B I [(a p).1] V 0 0 []) be.box rfl rfl rfl (aU.mono fun e d q=>⟨false,q.1,q.1,q.2⟩);refine iN a8 aV aq fun f ⟨M,D,v,L,bL,G,l,i,g,o,j,h,aI⟩=>?_;obtain rfl:1=bL:=aI.s.bm.len;exact bd M f D v L G l i g o j h aI.now (a8.av aI.av aI.mem ⟨a8.c5,aV.cH⟩) (aV.av aI.av) aI.av.goes
  clear aU;cases aX:b2 lim.count ag (a p).1 with
  |no c=>
   rw[aX]at N;dsimp only at N;subst N;refine(bm (1+0+1+0) fun M f D v L G l i g o j h ab ae al aD=>?_).more (by show 1+0+1+0+1≤6;omega);have an:=nt ab aA (aJ _) K K (y:=(a p).1) rfl (a9 p).1;rw[aX]at an;have aq:=eV (w:=f) (Q:=k0 m B0 lim ag F n ((z.i:Int)+1) (z.g:Int) 1 am (a p).2 l i g o j h D 1 v [(p:Int)] L 1 G [(a p).1] V 0 0 [] 0 c M f) ab.box rfl rfl rfl (an.mono fun e d ⟨t,a4,ay,a2,a3⟩=>⟨_,ay,t,a4,ay,a2,a3⟩);exact l1 (S0:=S) (w0:=w) 0 1 v 0 V D [(p:Int)] [] M f ag ag K K ae al aq rfl rfl (fun r aG=>by cases aG) iX (fun x aZ=>by rw[aO.1 aZ];exact⟨p,V,rfl,bj⟩) J aD fun e d R C q aC=>hF _ _ rfl e d R C q aC
  |ok P av=>
   rw[aX]at N;dsimp only at N;obtain⟨bs, -,bA, -, -⟩:=k4 aX;have bh:av.ax=ag.ax:=by rw[bs]
   have bH:p < av.ax.length:=by rw[bh];exact(c3.1 bj).1
   have bo: ∀ ax,(∀ M f D v L G l i g o j h aM aK,hr m B0 lim (b1 av (p:Int) (Z P)) F (bE n ((z.i:Int)+1) (z.g:Int) 1 am 3 D 1 v L 1 G (a p).2.x l i g o j h aM 1 aK 1 false aB) (a p).2 l i g o j h M f D 1 v [(p:Int)] L 1 G [(a p).1] aM 1 aK [P]→aP m M f lim (b1 av (p:Int) (Z P)) s u E B I T→gq m B0 M f s F u.nx (.func (.func aS) a6 a5) aH aE aF→bD S w M f→a7 m s ax f Q)→a7 m s (ax+1+1+1) w Q:=by
    intro ax bd;refine bm (ax+1+1) fun M f D v L G l i g o j h ab ae al aD=>?_;have an:=nt ab aA (aJ _) K K (y:=(a p).1) rfl (a9 p).1;rw[aX]at an;have aq:=eV (w:=f) (Q:=fun e d=>e=ap (ah false)∧∃ C a1 aR,bI m B0 M f lim av F (bE n ((z.i:Int)+1) (z.g:Int) 1 am 2 D 1 v L 1 G (a p).2.x l i g o j h a1 (0+1) aR 0 false aB) (a p).2 l i g o j h C d D 1 v [(p:Int)] L 1 G [(a p).1] a1 (0+1) aR ([]++[P])) ab.box rfl rfl rfl (an.mono fun e d q=>⟨false,q.1,q.1,q.2⟩);refine iN ae al aq fun R ⟨az,aN,aL,W⟩=>?_;have aT:=ae.av W.av W.mem ⟨ae.c5,al.cH⟩;have aW:=al.av W.av;have br:=tc W.now aA K K (k:=0) (r:=P) (p:=p) rfl rfl (by rw[bh];exact bj);have bg:=eV (w:=R) (Q:=fun e d=>e=ap (ah false)∧bI m B0 az R lim (b1 av (p:Int) (Z P)) F (bE n ((z.i:Int)+1) (z.g:Int) 1 am 3 D 1 v L 1 G (a p).2.x l i g o j h aN 1 aL 1 false aB) (a p).2 l i g o j h az d D 1 v [(p:Int)] L 1 G [(a p).1] aN 1 aL [P]) W.box rfl rfl rfl (br.mono fun e d q=>⟨false,q.1,q.1,q.2⟩);refine iN aT aW bg fun bk aQ=>?_;exact bd az bk D v L G l i g o j h aN aL aQ.now (aT.av aQ.av aQ.mem ⟨aT.c5,aW.cH⟩) (aW.av aQ.av) ((aD.trans W.av.goes).trans aQ.av.goes)
   cases aY:b2 lim.count (b1 av (p:Int) (Z P)) (a p).2 with
   |no c=>
    rw[aY]at N;dsimp only at N;subst N;refine(bo (1+1+1) fun M f D v L G l i g o j h aM aK ab ae al aD=>?_);have an:=lK ab aA K K (a9 p).2;rw[aY]at an;have aq:=eV (w:=f) (Q:=k0 m B0 lim (b1 av (p:Int) (Z P)) F n ((z.i:Int)+1) (z.g:Int) 1 am (a p).2 l i g o j h D 1 v [(p:Int)] L 1 G [(a p).1] aM 1 aK [P] 1 c M f) ab.box rfl rfl rfl (an.mono fun e d ⟨t,a4,ay,a2,a3⟩=>⟨_,ay,t,a4,ay,a2,a3⟩);exact l1 (S0:=S) (w0:=w) 1 1 v aK aM D [(p:Int)] [P] M f _ _ K K ae al aq rfl rfl (fun r aG=>by rw[aO.1 aG];exact⟨_,bA⟩) J (fun x aZ=>by rw[aO.1 aZ];exact⟨p,_,rfl,qH bH⟩) J aD fun e d R C q aC=>hF _ _ rfl e d R C q aC
   |ok bc bf=>
    rw[aY]at N;dsimp only at N;subst N;obtain⟨bt, -, -, -, -⟩:=k4 aY;have bG:bf.ax[n]?=Z (Z (Z z)):=by
     rw[bt];show(b1 av (p:Int) (Z P)).ax[n]?=_;rw[nv (Ne.symm bB),bh];exact bF
    refine(bo (1+1) fun M f D v L G l i g o j h aM aK ab ae al aD=>?_);have an:=lK ab aA K K (a9 p).2;rw[aY]at an;have aq:=eV (w:=f) (Q:=fun e d=>e=ap (ah false)∧∃ C a1 aR,bI m B0 M f lim bf F (bE n ((z.i:Int)+1) (z.g:Int) 1 am 4 D 1 v L 1 G (a p).2.x l i g o j h a1 (1+1) aR 1 false aB) (a p).2 l i g o j h C d D 1 v [(p:Int)] L 1 G [(a p).1] a1 (1+1) aR ([P]++[bc])) ab.box rfl rfl rfl (an.mono fun e d q=>⟨false,q.1,q.1,q.2⟩);refine iN ae al aq fun R ⟨az,aN,aL,W⟩=>?_;have aT:=ae.av W.av W.mem ⟨ae.c5,al.cH⟩;have aW:=al.av W.av;have bx:=qC (q:=Z z) W.now aA K (r:=bc) rfl bG;have bg:=eV (w:=R) (Q:=fun e d=>e=ap (ah true)∧bI m B0 az R lim (b1 bf (n:Int) (Z bc)) F (bE n ((z.i:Int)+1) (z.g:Int) 1 am 7 D 1 v L 1 G (a p).2.x l i g o j h aN 2 aL 1 true aB) (a p).2 l i g o j h az d D 1 v [(p:Int)] L 1 G [(a p).1] aN 2 aL [P,bc]) W.box rfl rfl rfl (bx.mono fun e d q=>⟨true,q.1,q.1,q.2⟩);exact xu aT aW bg bq fun d bJ aC=>bw _ rfl d az bJ ((aD.trans W.av.goes).trans aC)
end
def ep (m:aV) (lim:aK) (l:Nat) (S0:List Nat) (w0:ad):Nat→ad→(ad→Prop)→Prop
 |0,_,_=>False
 |n+1,w,Q=>(∃ S A,bn m.l l S0 w0 S w∧aX m S w lim A)∧ao aj 138 #[aa l,aa m.m] w fun e d=>(e=ap (ah true)∧Q d)∨(e=ap (ah false)∧ep m lim l S0 w0 n d Q)
def bW (m:aV) (lim:aK) (l:Nat) (S0:List Nat) (w0:ad) (n:Nat) (Q:ad→Prop) (e:Ending) (d:ad):Prop:=
 (e=ap (ah true)∧Q d)∨(e=ap (ah false)∧ep m lim l S0 w0 n d Q)
section
variable {X₀ X' : eT} {Q : ad → Prop}
theorem ep.mono: ∀ {n:Nat} {w:ad} {Q b:ad→Prop},ep m lim l S0 w0 n w Q→(∀ d,Q d→b d)→ep m lim l S0 w0 n w b
 |0,_,_,_,a,_=>a.elim
 |n+1,w,Q,b,a,g=>⟨a.1,Calls.mono a.2 fun e d q=>q.imp (fun ⟨c,f⟩=>⟨c,g d f⟩) fun ⟨c,f⟩=>⟨c,ep.mono f g⟩⟩
theorem bW.bool{n:Nat}{e:Ending}(a:bW m lim l S0 w0 n Q e d): ∃ b,e=ap (ah b)∧bW m lim l S0 w0 n Q e d:=by
 rcases a with a|a
 ·exact⟨true,a.1,.inl a⟩
 ·exact⟨false,a.1,.inr a⟩
theorem ep.step{n:Nat}(b:bn m.l l S0 w0 S w)(c:aX m S w lim A)(a:ao aj 138 #[aa l,aa m.m] w (bW m lim l S0 w0 n Q)):ep m lim l S0 w0 (n+1) w Q:=⟨⟨S,A,b,c⟩,a⟩
theorem xn(a:ae w l X₀.L)(f:X₀.cQ=false)(c:X₀.lo=aa W)(b:ao aj 100 #[aa W,aa m.m] w fun e d=>e=ap (ah false)∧R d):
  ao aj 138 #[aa l,aa m.m] w fun e d=>e=ap (ah false)∧R d:=by
 have g:=N (oY a f);have h:=N b;have j:w.cell? ⟨l,7,V⟩=Z (aa W):=by rw[←c];exact a.cell 7 rfl
 clear b a f c;go_enter pK,pL;go_wp2_with(first|(go_at_call 165;(with_reducible refine g.out.mono ?_);rintro e d ⟨rfl,rfl⟩)|(go_at_call 100;(with_reducible refine h.out.mono ?_);rintro e d ⟨rfl,i⟩));go_ret;exact⟨rfl,i⟩
theorem Ep{Q:Ending→ad→Prop}(a:ae w l X₀.L)(h:X₀.cQ=false)(g:X₀.lo=aa W)(f:ao aj 100 #[aa W,aa m.m] w fun e d=>e=ap (ah true)∧R d)
  (c: ∀ d,R d→ao aj 166 #[aa l] d fun e i=> ∃ b,e=ap (ah b)∧Q e i):
  ao aj 138 #[aa l,aa m.m] w Q:=by
 have n:=N (oY a h);have o:=N f;have j:=N c;have r:w.cell? ⟨l,7,V⟩=Z (aa W):=by rw[←g];exact a.cell 7 rfl
 clear f a h g c;go_enter pK,pL;go_wp2_with(first|(go_at_call 165;(with_reducible refine n.out.mono ?_);rintro e d ⟨rfl,rfl⟩)|(go_at_call 100;(with_reducible refine o.out.mono ?_);rintro e s ⟨rfl,p⟩;have k:=N (j.out _ p))|(go_at_call 166;(with_reducible refine k.out.mono ?_);rintro e i ⟨b,rfl,q⟩));exact q
theorem Em(a:ae w l X₀.L)(g:X₀.cQ=false)(f:X₀.lo=au V)(c:X₀.gT=aa F)(b:ao aj 161 #[aa F,aa m.m] w fun e d=>e=ap (ah false)∧R d):
  ao aj 138 #[aa l,aa m.m] w fun e d=>e=ap (ah false)∧R d:=by
 have h:=N (oY a g);have i:=N b;have k:w.cell? ⟨l,7,V⟩=Z (au V):=by rw[←f];exact a.cell 7 rfl
 have n:w.cell? ⟨l,8,V⟩=Z (aa F):=by rw[←c];exact a.cell 8 rfl
 clear b a g f c;go_enter pK,pL;go_wp2_with(first|(go_at_call 165;(with_reducible refine h.out.mono ?_);rintro e d ⟨rfl,rfl⟩)|(go_at_call 161;(with_reducible refine i.out.mono ?_);rintro e d ⟨rfl,j⟩));go_ret;exact⟨rfl,j⟩
theorem Eo{Q:Ending→ad→Prop}(h:ae w l X₀.L)(v:X₀.cQ=false)(u:X₀.lo=au V)(j:X₀.gT=aa F)(x:X₀.eU= .func (.func f) first cap)(q:ao aj 161 #[aa F,aa m.m] w fun e d=>e=ap (ah true)∧R d)
  (s: ∀ d,R d→ae d l X₀.L)
  (p: ∀ d,R d→ao aj 162 #[aa F] d fun e g=>e=ap (a0 #[ah true,aB])∧Y d g)(G:dH f)
  (r: ∀ d g,R d→Y d g→ao aj f (first.push (ah true)++cap) g fun e y=> ∃ b,e=ap (ah b)∧Q e y):
  ao aj 138 #[aa l,aa m.m] w Q:=by
 have n:=N (oY h v);have o:=N q;have i:=N s;have k:=N p;have bh:=N r;have K: ∀ (args:Array ak) (c:ad),(callFunc f args).run aj c= .ok (.enter f args) c:=G;have D:w.cell? ⟨l,7,V⟩=Z (au V):=by rw [←u];exact h.cell 7 rfl
 have E:w.cell? ⟨l,8,V⟩=Z (aa F):=by rw [←j];exact h.cell 8 rfl
 have B:=N j;have C:=N x;clear q h v u j s p r x;go_enter pK,pL;go_upto_region 7 with (first|(go_at_call 165;(with_reducible refine n.out.mono ?_);rintro e d ⟨rfl,rfl⟩)|(go_at_call 161;(with_reducible refine o.out.mono ?_);rintro e c ⟨rfl,a⟩))
 have M:c.cell? ⟨l,8,V⟩=Z (aa F):=by rw [←B.out];exact (i.out _ a).cell 8 rfl
 have J:c.cell? ⟨l,10,V⟩=Z (.func (.func f) first cap):=by rw [←C.out];exact (i.out _ a).cell 10 rfl
 have A:=N a;have z:=N (k.out _ a);clear a o k i D E n;go_wp2_with (go_at_call 162;(with_reducible refine z.out.mono ?_);rintro e g ⟨rfl,t⟩;have L:=t.I J);refine (bh.out _ _ A.out t).mono ?_;rintro e y ⟨b,rfl,I⟩;go_wp2_with fail;exact I
theorem En{R:ad→TypeId→ak→Prop}{Q:Ending→ad→Prop}(f:ae w l X₀.L)(s:X₀.cQ=false)(r:X₀.lo=au V)(h:X₀.gT=aa F)(p:ao aj 161 #[aa F,aa m.m] w fun e d=>e=ap (ah true)∧∃ t a,R d t a)
  (q: ∀ d t a,R d t a→ae d l X₀.L)
  (o: ∀ d t a,R d t a→ao aj 162 #[aa F] d fun e c=>e=ap (a0 #[ah false,.iface t a])∧Y d c)
  (hF: ∀ d c t a,R d t a→Y d c→ao aj 167 #[aa l,false,.iface t a] c fun e u=> ∃ b,e=ap (ah b)∧Q e u):
  ao aj 138 #[aa l,aa m.m] w Q:=by
 have j:=N (oY f s);have k:=N p;have n:=N q;have i:=N o;have x:=N hF;have B:w.cell? ⟨l,7,V⟩=Z (au V):=by rw[←r];exact f.cell 7 rfl
 have C:w.cell? ⟨l,8,V⟩=Z (aa F):=by rw[←h];exact f.cell 8 rfl
 have A:=N h;clear p f s r h q o hF;go_enter pK,pL;go_upto_region 7 with(first|(go_at_call 165;(with_reducible refine j.out.mono ?_);rintro e d ⟨rfl,rfl⟩)|(go_at_call 161;(with_reducible refine k.out.mono ?_);rintro e G ⟨rfl,t,a,g⟩))
 have I:G.cell? ⟨l,8,V⟩=Z (aa F):=by rw[←A.out];exact(n.out _ _ _ g).cell 8 rfl
 have z:=N g;have v:=N (i.out _ _ _ g);clear g k i n B C j;go_wp2_with(first|(go_at_call 162;(with_reducible refine v.out.mono ?_);rintro e c ⟨rfl,D⟩;have y:=N (x.out _ _ _ _ z.out D))|(go_at_call 167;(with_reducible refine y.out.mono ?_);rintro e u ⟨b,rfl,E⟩));exact E
theorem Fa{g:bl}{Q:Ending→ad→Prop}(p:ae w l X₀.L)(L:X₀.lo=aa W)(M:X₀.fU= .func (.func f) first cap)
  (C:ao aj 101 #[aa W] w (ox w n z k (.leaf g)))(ar:dH f)
  (E: ∀ a vs,Y w a→(∀ S:List Nat,(∀ b∈S,b < w.heap.size)→cd (ay a S) n z k (.leaf g) vs)→ao aj f (first.push (aw vs)++cap) a fun e y=> ∃ b,e=ap (ah b)∧Q e y):
  ao aj 166 #[aa l] w fun e y=> ∃ b,e=ap (ah b)∧Q e y:=by
 have ag:w.cell? ⟨l,7,V⟩=Z (aa W):=by rw [←L];exact p.cell 7 rfl
 have B:w.cell? ⟨l,9,V⟩=Z (.func (.func f) first cap):=by rw [←M];exact p.cell 9 rfl
 have R:=N C;have bh:=N E;have aD: ∀ (args:Array ak) (P:ad),(callFunc f args).run aj P= .ok (.enter f args) P:=ar;clear C E p L M;go_enter Tryz.func166,Tryz.ntmps166;go_upto_region 2 with (first|(go_at_call 101;(with_reducible refine R.out.mono ?_);rintro e a ⟨vs,rfl,j,F⟩;have x:=(j [] J).len;have ax:=(j [] J).q6;have r:ae (H a (X cr 170)) a.heap.size cr:=(ae.new a _ _ rfl).of J;have K: (aj.info? 170).map (·.size)=Z vs.length:=(by rw [x];kernel_rfl))|((with_reducible refine ka (ty:=170) r vs ?_ ?_ ?_ ?_ ?_ ?_);(focus (exact rfl));(focus (exact ⟨_,_,rfl,rfl,rfl⟩));(focus (exact x));(focus (exact K));(focus (exact ax))))
 have A:ae ((H a (X cr 170)).setCells a 0 vs) a.heap.size vs:=r.aR (by rw [x];rfl);have u:Y a ((H a (X cr 170)).setCells a 0 vs):=((Y.refl a).alloc _).setCells (aG _) _ _;have av:vs[5]?=Z (ah true):=by
  obtain ⟨aJ,aA,aK,aH,aC,o,aF,c,rfl, -⟩:=j [] J;rfl
 have T:=N fun (S:List Nat) (t: ∀ b∈S,b < w.heap.size)=>cd.ex (j S t) (bX u S);have I:=F.trans u;have az:=I.I B;clear r F u j ag B;(try simp only [Act.put]);show Code.wp _ _ _ _ ((H a (X cr 170)).setCells a 0 vs);generalize (H a (X cr 170)).setCells a 0 vs=m at *;generalize a.heap.size=ab at *;have aL:=A.cell 5 av;go_upto_region 6 with fail
 refine cZ (fun _=>True) (fun d=>d.cell? ⟨l,9,V⟩=Z (.func (.func f) first cap)∧d.rangeAt ab 0 vs) 5 G ?_;have i:True:=trivial;have hKC:=And.intro ((Y.refl m).drew.I az) ((Y.refl m).drew.range A.aM);refine' aI 0 26 (aa l) rfl i hKC ?_;refine' aI 1 27 (aa l) rfl i hKC ?_;refine' aI 2 28 (au (Z ⟨l,9,V⟩)) rfl i hKC ?_;refine' bc (v:= .func (.func f) first cap) 3 29 rfl (.inl ⟨aq,?_⟩) i hKC ?_
 ·(intro w D;have aE:=D.2.1;clear D;go_simp)
 refine' l3 (k:=4) (ok:=⟨Z 30,_,_,_,_,_⟩) (v:=_) rfl G G G G G (fun _ _ _ s=>s) (fun _ am an=>And.intro am an) (cj aq _ _ rfl _ _ rfl _ _ (fun w s=>s.2.2) dt rfl K) i hKC ?_;(try simp only [bu]);refine cg 5 (Z 31) rfl (fun q h=>?_);go_simp;refine (bh.out m.drew vs I.drew (fun S t=>cd.ex (T.out S t) (bX (Y.refl m).drew S))).mono ?_;rintro e aM ⟨b,rfl,al⟩;refine bM h (trivial) ?_;clear h q;refine cg 6 (Z 2) rfl (fun q h=>?_);go_simp;refine bM h (trivial) ?_;clear h q;refine cC G ?_;go_wp2_with fail;go_ret;exact ⟨b,rfl,al⟩
end
theorem vK:jc aj 90 284 4 32:=⟨Tryz.underlying90,by
 obtain⟨i,b,d,c,a⟩:=kO (show(aj.info? 284).map (fun i=>(i.zero,i.size,i.bytes))=Z (Z (aw #[O U 0,O U 0,O U 0,O U 0]),4,32)by kernel_rfl);exact⟨i,_,b,d,c,a,rfl⟩,bP⟩
section
theorem aP.y0(a:aP m S w lim A s u E B I T){e:Option ai}{d c:Nat}{i:List bK}(j:bo iD 4 (ay w S) e d c i):aP m S (w.setCell ⟨s,1,V⟩ (ac e d c)) lim A s {u with bin:=i} e d c T:=by
 have g:Mod [s] w (w.setCell ⟨s,1,V⟩ (ac e d c)):=Mod.setCell _ _ _ J;have h:fq S w S (w.setCell ⟨s,1,V⟩ (ac e d c)):=g.aL (by intro b f;rw[aO.1 f];exact a.cE) fun _ q=> .inl q;exact⟨a.mem.step (g.ju fun b f=>by rw[aO.1 f];exact a.cE) (fun b f q=>a.c5 (by rw[←aO.1 q];exact f)) a.mem.sub,(a.box.set 1 (ac e d c)).of rfl,j.ex fy h,a.ab.ex h,a.bO,a.key,a.cE,a.c5⟩
theorem r7.aL{f:Nat}{l:Option ai}{n cap:Nat}{k:List bK}(h:bi iD 4 284 w f l n cap k){S:List Nat}(v: ∀ b∈S,b < f):bo iD 4 (ay w S) l n cap k:=by
 have a:=h.fv fy;obtain⟨b,A,d,t⟩:=a.cells;refine⟨a.len,a.dj,a.dr,a.none,b,A,fun c=>⟨(d c).1,by rw[jj];exact(d c).2⟩,fun i x j=>?_⟩;obtain⟨vs,m,o,p,r⟩:=t i x j;have c:0 < n:=by have:=(c3.1 j).1;have:=a.len;omega
 refine⟨vs,m,o,p,fun z B y=>bp.2 ⟨fun q=>?_,r z B y⟩⟩;have F:=v _ q;obtain⟨-,I, -, -,⟨-,u⟩, -⟩:=h;rcases u with⟨e,E⟩|⟨g,C,D,e,G, -⟩
 ·omega
 ·have s:=(d c).1;rw[s]at e;simp only[iA,eS,Addr.mk.injEq]at e;omega
theorem BN(c:aP m S w lim A s u E B I T)(x:bK)(aK:B≤1000000):
  ao aj 169 #[au (Z ⟨s,1,V⟩),aw #[(x.dF:Int),O U (a4 x.refs.head?).1,O U (a4 x.refs.head?).2,x.page]] w fun e d=>e=ap (a0 #[])∧∃ aD ar,aP m S d lim A s {u with bin:=u.bin++[x]} aD (B+1) ar T∧bD S w S d:=by
 have M:Y w (H w (X #[O U (x.dF:Int),O U (a4 x.refs.head?).1,O U (a4 x.refs.head?).2,x.page] 284)):=(Y.refl w).alloc _;have am:ae (H w (X #[O U (x.dF:Int),O U (a4 x.refs.head?).1,O U (a4 x.refs.head?).2,x.page] 284)) w.heap.size [O U (x.dF:Int),O U (a4 x.refs.head?).1,O U (a4 x.refs.head?).2,x.page]:=(ae.new w _ _ rfl).of J;have l:=N c;have av: (H w (X #[O U (x.dF:Int),O U (a4 x.refs.head?).1,O U (a4 x.refs.head?).2,x.page] 284)).cell? ⟨s,1,V⟩=Z (ac E B I):=(c.aC M).box.cell 1 rfl;have aH:=c.bin.dj;have az:=c.bin.dr;have aC:=c.bin.none;unfold maxLen at az;clear c;go_enter Tryz.func169,Tryz.ntmps169;go_upto_region 1 with fail
 show Code.wp _ _ _ _ (H w (X #[O U (x.dF:Int),O U (a4 x.refs.head?).1,O U (a4 x.refs.head?).2,x.page] 284));generalize H w (X #[O U (x.dF:Int),O U (a4 x.refs.head?).1,O U (a4 x.refs.head?).2,x.page] 284)=D at *;go_upto_region 2 with fail
 refine cZ (fun _=>True) (fun d=>d.cell? ⟨s,1,V⟩=Z (ac E B I)∧d.rangeAt w 0 [O U (x.dF:Int),O U (a4 x.refs.head?).1,O U (a4 x.refs.head?).2,x.page]) 21 G ?_;have a:True:=trivial;have p:=(Y.refl D).drew;have hKC:=And.intro (p.I av) (p.range am.aM);have aA:=M.trans p;generalize D.drew=f at *;refine' aI 0 6 (au (Z ⟨s,1,V⟩)) rfl a hKC ?_;refine' aI 1 7 (au (Z ⟨s,1,V⟩)) rfl a hKC ?_;refine' aI 2 8 (au (Z ⟨s,1,V⟩)) rfl a hKC ?_;refine' aI 3 9 (au (Z ⟨s,1,V⟩)) rfl a hKC ?_;refine' bc (v:=ac E B I) 4 10 rfl (.inl ⟨aq,?_⟩) a hKC ?_
 ·(intro w h;have aa:=h.2.1;clear h;go_simp)
 refine' aI 5 11 (au (Z ⟨s,1,V⟩)) rfl a hKC ?_;refine' aI 6 12 (au (Z ⟨s,1,V⟩)) rfl a hKC ?_;refine' aI 7 13 (au (Z ⟨s,1,V⟩)) rfl a hKC ?_;refine' bc (v:=ac E B I) 8 14 rfl (.inl ⟨aq,?_⟩) a hKC ?_
 ·(intro w h;have aa:=h.2.1;clear h;go_simp)
 refine' aI 9 15 (O U (B:Int)) rfl a hKC ?_;refine' aI 10 16 (au (Z ⟨s,1,V⟩)) rfl a hKC ?_;refine' aI 11 17 (au (Z ⟨s,1,V⟩)) rfl a hKC ?_;refine' aI 12 18 (au (Z ⟨s,1,V⟩)) rfl a hKC ?_;refine' bc (v:=ac E B I) 13 19 rfl (.inl ⟨aq,?_⟩) a hKC ?_
 ·(intro w h;have aa:=h.2.1;clear h;go_simp)
 refine' aI 14 20 (O U (B:Int)) rfl a hKC ?_;refine' aI 15 21 (ac E B B) rfl a hKC ?_;refine' bc 16 22 rfl (cj aq _ _ rfl _ _ rfl _ _ (fun w c=>c.2.2) rS rfl G) a hKC ?_;refine b4 17 (Z 23) rfl (fun i g=>?_);go_simp;have an:ae (H f (X #[O U (x.dF:Int),O U (a4 x.refs.head?).1,O U (a4 x.refs.head?).2,x.page] 284)) f.heap.size [O U (x.dF:Int),O U (a4 x.refs.head?).1,O U (a4 x.refs.head?).2,x.page]:=(ae.new f _ _ rfl).of J;have q:Y f (H f (X #[O U (x.dF:Int),O U (a4 x.refs.head?).1,O U (a4 x.refs.head?).2,x.page] 284)):=(Y.refl f).alloc _;have j:=And.intro (q.I hKC.1) (q.range hKC.2);have t:=aA.trans q;refine a5 g (trivial) (fun _=>j) ?_;clear g i;have hKC:=j;generalize H f (X #[O U (x.dF:Int),O U (a4 x.refs.head?).1,O U (a4 x.refs.head?).2,x.page] 284)=al at *;generalize f.heap.size=aE at *;have ax:bo iD 4 al E B B u.bin:=by
  have F:=((bo.gP fy l.out.bin).I fy t);exact ⟨F.len,aG _,c4,fun e=>by have:=aC e;omega,F.cells⟩
 refine b4 18 (Z 24) rfl (fun i g=>?_);refine IN (fun _ _ _ _ c=>c) vK _ _ rfl rfl ax rfl (y:=x) (vs:=[O U (x.dF:Int),O U (a4 x.refs.head?).1,O U (a4 x.refs.head?).2,x.page]) rfl du rfl an.aM c4 K ?_;intro z n C R r;have j:=And.intro (r.I hKC.1) (r.range hKC.2);refine a5 g (trivial) (fun _=>j) ?_;clear g i;have hKC:=j;have P:=t.trans r;have k:=l.out.aC P;have aF:=k.box.free 1 J;refine' aI 19 25 (au (Z ⟨s,1,V⟩)) rfl a hKC ?_;refine' aI 20 26 (au (Z ⟨s,1,V⟩)) rfl a hKC ?_;refine cg 21 (V) rfl (fun i g=>?_);go_simp;refine bM g (trivial) ?_;clear g i;refine cC G ?_;have hold:=l.out.mem.old;have W:bo iD 4 (ay C S) z (B+1) n (u.bin++[x]):=r7.aL R fun b o=>by have:=hold b o;have:=t.le;omega
 have Q:Mod [s] C (C.setCell ⟨s,1,V⟩ (ac z (B+1) n)):=Mod.setCell _ _ _ J;have ab:=N (k.y0 W);have ag:=N ((Y.av (L:=[]) (B0:=0) (S:=S) P).trans (Q.av fun b o=>by rw [aO.1 o];exact ⟨k.cE,.inr (aJ _)⟩));clear W Q k R;go_end0;exact ⟨rfl,z,n,ab.out,ag.out⟩
end
section
def p7 (m:aV) (lim:aK) (A:az) (s:Nat) (u:bU) (ab:Option bQ) (S:List Nat) (w:ad) (E:Option ai) (B I:Nat) (D:Int) (e:Ending) (d:ad):Prop:=
 e=ap (ah false)∧∃ nx C T,aP m C d lim A s {u with ab:=ab,nx:=nx} E B I T∧ff m C d s {u with ab:=ab,nx:=nx} D∧bD S w C d
theorem Cz(f:aP m S w lim A s u E B I T)(g:cd (ay w S) n z k M vs)(cT:dX M k n (u.ab.map bQ.view) u.c.key lim u.wr= .gM D):
  ao aj 103 #[aa s,aw vs,aw (bC lim)] w (p7 m lim A s u u.ab S w E B I D):=by
 obtain ⟨b,j,l⟩:=gv w 170 23 vs (bC lim);have c:=N (kz (f.aC b) (g.ex (bX b S)));rw [cT] at c;have v:=N g.len;have r:=N f;clear f cT g;go_enter kL,kM;go_upto_region 1 with fail
 generalize (H w (X vs 170)).alloc (X (bC lim) 23)=L at *;have G: (aj.info? 170).map (·.size)=Z vs.length:=by rw [v.out];kernel_rfl
 have K:=dt;go_upto_region 2 with (first|((with_reducible refine dV (ty:=170) j ?_ ?_ K ?_ ?_ ?_);(focus (exact rfl));(focus (exact ⟨_,rfl,rfl⟩));(focus (exact rfl));(focus (exact G)))|(with_reducible refine b0 23 (l) fO ?_)|(go_at_call 120;(with_reducible refine c.out.mono ?_);rintro e a ⟨rfl,o⟩;have d:ae (H a (X bx 239)) a.heap.size bx:=(ae.new a _ _ rfl).of J)|(with_reducible refine bq 239 (d) ((bs 2 D ⟨#[]⟩ 0 0 0 ⟨#[]⟩)) ?_))
 have h:ae ((H a (X bx 239)).setCells a 0 (bs 2 D ⟨#[]⟩ 0 0 0 ⟨#[]⟩)) a.heap.size (bs 2 D ⟨#[]⟩ 0 0 0 ⟨#[]⟩):=d.aR rfl;have p:Y a ((H a (X bx 239)).setCells a 0 (bs 2 D ⟨#[]⟩ 0 0 0 ⟨#[]⟩)):=((Y.refl a).alloc _).setCells (aG _) _ _;have q:=(b.trans o).trans p;have i:=r.out.aC q;clear d o p c j l b;show Code.wp _ _ _ _ ((H a (X bx 239)).setCells a 0 (bs 2 D ⟨#[]⟩ 0 0 0 ⟨#[]⟩));generalize (H a (X bx 239)).setCells a 0 (bs 2 D ⟨#[]⟩ 0 0 0 ⟨#[]⟩)=P at *;generalize a.heap.size=Q at *;have W:=h.cell 0 rfl;have x1:=h.cell 1 rfl;have t:=N (uu i D);clear i;go_wp2_with (go_at_call 81;(with_reducible refine t.out.mono ?_);rintro e R ⟨rfl,nx,C,x,y,F⟩);go_ret;exact ⟨rfl,nx,C,T,x,y,(Y.av q).trans F.goes⟩
theorem CC(l:aP m S w lim A s u E B I T)(f:cd (ay w S) n z k M vs)(cT:dX M k n (u.ab.map bQ.view) u.c.key lim u.wr= .again):
  ao aj 103 #[aa s,aw vs,aw (bC lim)] w (eh m lim s u u.bin (u.wr||M.eO) S w A):=by
 obtain ⟨g,i,t⟩:=gv w 170 23 vs (bC lim);have h:=N (kz (l.aC g) (f.ex (bX g S)));rw [cT] at h;have K:=N f.len;have F:=N l;have G:=N f;clear l cT f;go_enter kL,kM;go_upto_region 1 with fail
 generalize (H w (X vs 170)).alloc (X (bC lim) 23)=aq at *;have ab: (aj.info? 170).map (·.size)=Z vs.length:=by rw [K.out];kernel_rfl
 have al:=dt;go_upto_region 2 with (first|((with_reducible refine dV (ty:=170) i ?_ ?_ al ?_ ?_ ?_);(focus (exact rfl));(focus (exact ⟨_,rfl,rfl⟩));(focus (exact rfl));(focus (exact ab)))|(with_reducible refine b0 23 (t) fO ?_)|(go_at_call 120;(with_reducible refine h.out.mono ?_);rintro e a ⟨rfl,o⟩;have j:ae (H a (X bx 239)) a.heap.size bx:=(ae.new a _ _ rfl).of J)|(with_reducible refine bq 239 (j) ((bs 3 0 ⟨#[]⟩ 0 0 0 ⟨#[]⟩)) ?_))
 have D:ae ((H a (X bx 239)).setCells a 0 (bs 3 0 ⟨#[]⟩ 0 0 0 ⟨#[]⟩)) a.heap.size (bs 3 0 ⟨#[]⟩ 0 0 0 ⟨#[]⟩):=j.aR rfl;have p:Y a ((H a (X bx 239)).setCells a 0 (bs 3 0 ⟨#[]⟩ 0 0 0 ⟨#[]⟩)):=((Y.refl a).alloc _).setCells (aG _) _ _;have v:=(g.trans o).trans p;have y:=i.I (o.trans p);have c:=F.out.aC v;clear j o p h i t g;show Code.wp _ _ _ _ ((H a (X bx 239)).setCells a 0 (bs 3 0 ⟨#[]⟩ 0 0 0 ⟨#[]⟩));generalize (H a (X bx 239)).setCells a 0 (bs 3 0 ⟨#[]⟩ 0 0 0 ⟨#[]⟩)=r at *;generalize a.heap.size=ar at *;have aD:=D.cell 0 rfl;have W:=G.out.at.2.2;have az:=y.cell 5 W;have aA:=c.box.cell 6 rfl;have av:=c.box.free 6 J;have d:=c.wrote (D':={u with wr:=u.wr||M.eO}) (Mod.setCell r ⟨s,6,V⟩ (ah (u.wr||M.eO)) J) ((c.box.set 6 (ah (u.wr||M.eO))).of rfl) rfl rfl c.bO c.key;have q:=N (oC d);have x:=N (Mod.setCell (S:=[s]) r ⟨s,6,V⟩ (ah (u.wr||M.eO)) J);have R:=c.cE;clear c d;generalize ag:M.eO=am at *;generalize ax:u.wr=an at *;clear ag;cases an <;> cases am;all_goals
  simp only [Bool.or_self,Bool.or_true,Bool.or_false,Bool.true_or,Bool.false_or] at q x;go_wp2_with (go_at_call 60;(with_reducible refine q.out.mono ?_);rintro e aC ⟨rfl,nx,C,d,L,P⟩);go_ret;exact ⟨rfl,nx,C,E,B,I,d,L,((Y.av v).trans (x.out.av fun b Q=>by rw [aO.1 Q];exact ⟨R,.inr (aJ _)⟩)).trans P⟩
theorem CF{v:aY}(aI:M= .aU v)(t:aP m S w lim A s u E B I T)(j:cd (ay w S) n z k M vs)(cT:dX M k n (u.ab.map bQ.view) u.c.key lim u.wr= .down D):
  ao aj 103 #[aa s,aw vs,aw (bC lim)] w (p7 m lim A s u (Z ⟨n,z,v⟩) S w E B I D):=by
 obtain ⟨l,q,L⟩:=gv w 170 23 vs (bC lim);have p:=N (kz (t.aC l) (j.ex (bX l S)));rw [cT] at p;have al:=N j.len;have R:=N t;have W:=N j;clear t cT j;go_enter kL,kM;go_upto_region 1 with fail
 generalize (H w (X vs 170)).alloc (X (bC lim) 23)=aL at *;have aD: (aj.info? 170).map (·.size)=Z vs.length:=by rw [al.out];kernel_rfl
 have aH:=dt;go_upto_region 2 with (first|((with_reducible refine dV (ty:=170) q ?_ ?_ aH ?_ ?_ ?_);(focus (exact rfl));(focus (exact ⟨_,rfl,rfl⟩));(focus (exact rfl));(focus (exact aD)))|(with_reducible refine b0 23 (L) fO ?_)|(go_at_call 120;(with_reducible refine p.out.mono ?_);rintro e a ⟨rfl,x⟩;have r:ae (H a (X bx 239)) a.heap.size bx:=(ae.new a _ _ rfl).of J)|(with_reducible refine bq 239 (r) ((bs 1 D ⟨#[]⟩ 0 0 0 ⟨#[]⟩)) ?_))
 have h:ae ((H a (X bx 239)).setCells a 0 (bs 1 D ⟨#[]⟩ 0 0 0 ⟨#[]⟩)) a.heap.size (bs 1 D ⟨#[]⟩ 0 0 0 ⟨#[]⟩):=r.aR rfl;have y:Y a ((H a (X bx 239)).setCells a 0 (bs 1 D ⟨#[]⟩ 0 0 0 ⟨#[]⟩)):=((Y.refl a).alloc _).setCells (aG _) _ _;have F:=(l.trans x).trans y;have o:=q.I (x.trans y);have c:=R.out.aC F;clear r x y p q L l;show Code.wp _ _ _ _ ((H a (X bx 239)).setCells a 0 (bs 1 D ⟨#[]⟩ 0 0 0 ⟨#[]⟩));generalize (H a (X bx 239)).setCells a 0 (bs 1 D ⟨#[]⟩ 0 0 0 ⟨#[]⟩)=K at *;generalize a.heap.size=aq at *;have aV:=h.cell 0 rfl;subst aI;obtain ⟨aS,aM,aT,aR,aN,g,f,d,rfl,ax,aK⟩:=W.out;have x1:=h.cell 1 rfl;have aQ:=o.cell 0 rfl;have am:=o.ef 1 [O U ((z.i:Int)+1),(z.g:Int)] rfl;have an:=o.ef 12 (bf v g f d) rfl;have aF:=c.box.fi 12 13 (by have:=c.ab.len;have:=c.bO;simp only [gj,fY,dG];omega);have i:=c.yZ (ab:=Z ⟨n,z,v⟩) (va':=cB true n ((z.i:Int)+1) (z.g:Int) v g f d) ⟨g,f,d,rfl,bo.ex cW ax (bX F S),aK⟩;have ag:=N fun x1 (Q:x1=ba K s 12 (cB true n ((z.i:Int)+1) (z.g:Int) v g f d))=>(Q ▸ uu i D:ao aj 81 #[aa s,D] x1 _);have aC:aq≠s:=fun e=>by
  have G:=h.cell 0 rfl;have aE:=c.box.cell 0 rfl;rw [e] at G;rw [aE] at G;cases G
 have P:=N (Mod.setCells (S:=[s]) (b:=s) J (cB true n ((z.i:Int)+1) (z.g:Int) v g f d) 12 K);have aW:=(P.out.box (by simpa using aC) h).cell 1 rfl;have aA:=c.cE;clear c i;go_wp2_with (first|(with_reducible refine dc 78 (am) dm ?_)|(with_reducible refine dc 95 (an) dB ?_)|(with_reducible refine hY 97 (aF) ((cB true n ((z.i:Int)+1) (z.g:Int) v g f d)) ?_)|(go_at_call 81;(with_reducible refine (ag.out _ rfl).mono ?_);rintro e aU ⟨rfl,nx,C,i,ar,av⟩));go_ret;exact ⟨rfl,nx,C,_,i,ar,((Y.av F).trans (P.out.av fun b az=>by rw [aO.1 az];exact ⟨aA,.inr (aJ _)⟩)).trans av.goes⟩
end
end Go.Proofs.YtbkmjhhpcinppaaGreatDoor
