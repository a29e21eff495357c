import Derived.Test.YtbkmjhhpcinppaaGreatDoorQ10
namespace Go.Proofs.YtbkmjhhpcinppaaGreatDoor
set_option linter.unusedVariables false
set_option linter.defProp false
set_option linter.unusedSimpArgs false
set_option maxRecDepth 100000
set_option maxHeartbeats 40000000
open Ending renaming returned→ap
open Go renaming Addr→ai,Calls→ao,Value→ak,World→ad
open Go.Proofs.Tryz renaming prog→aj
open IntKind renaming i64→U
open Obj renaming cells→X
open Option renaming none→V,some→Z
open Value renaming agg→aw,bool→ah,int→O,nilIface→aB,pointer→au,slice→ac,string→af,tuple→a0
open World renaming alloc→H,setCells→ba
variable {z : List bK} {A : Int → List aA} {L U₀ b F c1 Q B k n n1 ab o T : Nat} {av : LT} {d : az} {R : Int → List ar} {S S' X₀ : List Nat} {W : ee} {key : ByteArray} {am aq : List cw} {lim : aK} {E ag M : Option ai} {p : Int} {r : aA} {vs : List ak} {w u : ad} {y : ar} {C : Type}
section
section
variable {h : List ByteArray} {l : List aN}
def iK (S U₀ L:Nat):Nat:=(S+1 - L) * (S+L+(2 * U₀+11))
theorem vR{S:Nat}(b:L < S):iK S U₀ (L+1)+(2 * (U₀+L)+11)=iK S U₀ L:=by
 unfold iK;obtain⟨a,rfl⟩: ∃ a,S=L+1+a:=⟨S - L - 1,K⟩;rw[show L+1+a+1 - (L+1)=a+1 by omega,show L+1+a+1 - L=a+2 by omega];rw[show L+1+a+(L+1)+(2 * U₀+11)=(L+1+a+L+(2 * U₀+11))+1 by omega];generalize c:L+1+a+L+(2 * U₀+11)=d;simp only[jI,Nat.mul_add,n8,Nat.mul_one];omega
theorem qo{S U₀:Nat}: ∀ (n L:Nat),L+n≤S→iK S U₀ (L+n)≤iK S U₀ L
 |0,L,_=>aG _
 |n+1,L,a=>by
  have b:=qo (S:=S) (U₀:=U₀) n (L+1) K;have c:=vR (S:=S) (U₀:=U₀) (L:=L) K;rw[show L+(n+1)=L+1+n by omega];omega
theorem BV{S a:Nat}(c:L < a)(d:a≤S):iK S U₀ a+(2 * (U₀+L)+11)≤iK S U₀ L:=by
 have b:=qo (S:=S) (U₀:=U₀) (a - (L+1)) (L+1) K;have e:=vR (S:=S) (U₀:=U₀) (L:=L) K;rw[show L+1+(a - (L+1))=a by omega]at b;omega
theorem vQ{S:Nat}(b:L≤S):2 * (U₀+L)+11≤iK S U₀ L:=by
 unfold iK;obtain⟨a,rfl⟩: ∃ a,S=L+a:=⟨S - L,K⟩;rw[show L+a+1 - L=a+1 by omega,jI,n8];omega
def sv (c:cV) (l a:List aN) (r:g3):Prop:=((r.code=3∨r.code=5)∧a=l)∨ei c l=(a,r.val,r.code)
theorem Inv.used(a:Inv lim h d z l):b7 d≤lim.aQ:=by
 obtain⟨W,av,A,R,a⟩:=a;rw[←a.ls];exact zD d
theorem IC(F:h.length≤100)(G:lim.ax≤1000)(I:2≤lim.rows){c:cV}(L:ga c)(M:c.key∈h): ∀ (n:Nat) (d:az) (z:List bK) (wr:Bool) (l:List aN),(lim.aQ - b7 d)+(if wr=true then 0 else 1)≤n→Inv lim h d z l→(wr=false→c.kind=1)→
  ∃ k a b r e,je lim c d z wr k a b r∧Inv lim h a b e∧a.now=d.now∧a.ins=d.ins∧sv c l e r∧k≤iK lim.aQ lim.ax (b7 d)+(if wr=true then 0 else 2 * (lim.ax+lim.aQ)+11):=by
 intro n;induction n with
 |zero=>
  intro d z wr l o g p;obtain⟨k,a,b,u,x,e,E,ag,f,i,j,m⟩:=yd g F G I L M wr p;have v:=g.used;have N:=f.used;have Q:=vQ (U₀:=lim.ax) v;cases x with
  |some r=>exact⟨k,a,b,r,e,.last E,f,i,j,m,K⟩
  |none=>
   obtain⟨rfl,q|q⟩:=m
   ·omega
   ·rw[q.1]at o;simp at o
 |succ n ih=>
  intro d z wr l o g p;obtain⟨k,a,b,u,x,e,E,ag,f,i,j,m⟩:=yd g F G I L M wr p;have v:=g.used;have N:=f.used;have Q:=vQ (U₀:=lim.ax) v;cases x with
  |some r=>exact⟨k,a,b,r,e,.last E,f,i,j,m,K⟩
  |none=>
   obtain⟨rfl,q|q⟩:=m
   ·obtain⟨rfl,q⟩:=q;have J:=BV (U₀:=lim.ax) q N;obtain⟨w,t,s,r,aq,y,A,B,C,D,P⟩:=ih a b u e K f p;exact⟨k+w,t,s,r,aq,.more E y,A,by rw[B,i],by rw[C,j],D,K⟩
   ·obtain⟨rfl,rfl,q⟩:=q;have J:=qo (U₀:=lim.ax) (b7 a - b7 d) (b7 d) (by omega:b7 d+(b7 a - b7 d)≤lim.aQ);rw[show b7 d+(b7 a - b7 d)=b7 a by omega]at J;rw[aS bP]at o;obtain⟨w,t,s,r,aq,y,A,B,C,D,P⟩:=ih a b true e (by rw[a9 rfl];omega) f (fun q=>by cases q);rw[a9 rfl]at P;refine⟨k+w,t,s,r,aq,.more E y,A,by rw[B,i],by rw[C,j],D,?_⟩;rw[aS bP];omega
def eY (d:az):Nat:=(d.ax.filter fun q=>q.isSome).length
theorem wC{f:C→Bool}{l:List C}{i:Nat}{a b:C}(h:l[i]?=Z a)(e:f a=true)(g:f b=false): ((l.set i b).filter f).length+1=(l.filter f).length:=by
 obtain⟨c,rfl⟩:=c3.1 h;have d:l=l.take i++l[i]::l.drop (i+1):=by rw[←kQ c,jF]
 rw[zW,a9 c];conv=>rhs;rw[d]
 rw[gn,gn,h3,h3,e,g];simp;omega
theorem DE(a:Live d r y):b7 (e3 d r)+1=b7 d:=wC (f:=fun b:Nat×Option ar=>b.2.isSome) a rfl rfl
theorem DL(b:d.ax[p.toNat]?.isSome=true∧d.ax[p.toNat]?≠Z V):eY (eC d p)+1=eY d:=by
 obtain⟨a,c⟩:=pC.1 b.1;cases a with
 |none=>exact absurd c b.2
 |some x=>exact wC (f:=fun q:Option (Option aA)=>q.isSome) c rfl rfl
theorem fp.free(f:Live d r y){a:List aA}{b:List ar}(c:fp d a b)(g:r∉a):fp (e3 d r) a b:=
 c.I fun j h k i=>qV f i (fun e=>g (e ▸ h))
theorem wQ: ∀ (c:List aA) (g:List ar) (d:az),fp d c g→c.Nodup→(∀ y∈g,bT y)→∃ k a,mj d c k a∧k+2 * b7 a=2 * b7 d∧a.ax=d.ax∧a.now=d.now∧a.ins=d.ins∧a.aQ.length=d.aQ.length∧∀ f e,Live d f e→f∉c→Live a f e
 |[],[],d,_,_,_=>⟨0,d,.nil d,K,rfl,rfl,rfl,rfl,fun _ _ b _=>b⟩
 |r::c,y::g,d,b,h,j=>by
  rw[fN]at h;obtain⟨k,a,n,v,o,p,q,s,t⟩:=wQ c g (e3 d r) (b.2.2.free b.1 h.1) h.2 fun e m=>j e (by simp[m]);have u:=DE b.1;refine⟨2+k,a,.cons b.1 b.2.1 n (j y J),K,o,p,q,by rw[s,oS],fun f e l i=>?_⟩;rw[bd,not_or]at i;exact t f e (qV b.1 l i.1) i.2
structure sk (d:az) (A:Int→List aA) (rest:List bK) (b:bK):Prop where
 ne:b.refs≠[]
 nd:b.refs.Nodup
 gw: ∃ a,fp d b.refs a∧∀ y∈a,bT y
 s9: ∀ r∈b.refs,lv A rest r
 cc:b.page < 0∨(d.ax[b.page.toNat]?.isSome=true∧d.ax[b.page.toNat]?≠Z V∧A b.page=[]∧∀ x∈rest,x.page≠b.page)
theorem uh: ∀ (i:List bK) (d:az) (rest:List bK),cX d A R rest→(∀ b∈i,sk d A rest b)→i.Pairwise (fun a b=>(∀ r∈a.refs,r∉b.refs)∧(a.page=b.page→a.page < 0))→
  ∃ k h,kp d i k h∧k+2 * b7 h+eY h=2 * b7 d+eY d∧cX h A R rest∧h.now=d.now∧h.ins=d.ins∧h.aQ.length=d.aQ.length∧h.ax.length=d.ax.length
 |[],d,rest,t,_,_=>⟨0,d,.nil d,K,t,rfl,rfl,rfl,rfl⟩
 |b::i,d,rest,t,T,j=>by
  rw[hJ]at j;have m:=T b J;obtain⟨aH,c1,Q⟩:=m.gw;obtain⟨k,f,ab,aL,n,ae,ag,al,am⟩:=wQ b.refs aH d c1 m.nd Q;have aa:cX f A R rest:=t.of (fun p _=>by rw[n]) fun r L w aA=>am r L w fun v=>by
   have S:=m.s9 r v;rcases aA with⟨p,j⟩|⟨x,l,c⟩
   ·exact S.c p j
   ·exact S.b x l c
  have W: ∀ x∈i,sk f A rest x:=fun x l=>by
   have c:=T x (by simp[l]);obtain⟨M,o,s⟩:=c.gw;exact⟨c.ne,c.nd,⟨M,o.I fun r v L w=>am r L w fun aC=>(j.1 x l).1 r aC v,s⟩,c.s9,by rw[n];exact c.cc⟩
  have aJ:eY f=eY d:=by unfold eY;rw[n]
  by_cases u:b.page < 0
  ·obtain⟨F,h,y,aE,z,B,C,D,E⟩:=uh i f rest aa W j.2;exact⟨k+F,h,.chain m.ne ab u y,K,z,by rw[B,ae],by rw[C,ag],by rw[D,al],by rw[E,n]⟩
  ·rcases m.cc with q|⟨G,I,aF,aG⟩
   ·exact absurd q u
   ·rw[←n]at G I;have av:=aa.ku (p:=b.page) K aF aG;have ar: ∀ x∈i,sk (eC f b.page) A rest x:=fun x l=>by
     have c:=W x l;refine⟨c.ne,c.nd,(by obtain⟨M,o,s⟩:=c.gw;exact⟨M,o.I fun _ _ _ aD=>aD,s⟩),c.s9,?_⟩;rcases c.cc with g|⟨N,P,an,aq⟩
     ·exact .inl g
     ·by_cases ay:x.page < 0
      ·exact .inl ay
      ·have ax:x.page≠b.page:=fun e=>by
        have:=(j.1 x l).2 e.symm;exact u this
       rw[←te f (p:=b.page) (q:=x.page) K K ax]at N P;exact .inr ⟨N,P,an,aq⟩
    obtain⟨F,h,y,aE,z,B,C,D,E⟩:=uh i (eC f b.page) rest av ar j.2;have aK:=DL ⟨G,I⟩;have aI:b7 (eC f b.page)=b7 f:=rfl;refine⟨k+1+F,h,.page m.ne ab K ⟨G,I⟩ y,K,z,?_,?_,?_,?_⟩
    ·rw[B];show f.now=_;rw[ae]
    ·rw[C];show f.ins=_;rw[ag]
    ·rw[D];show f.aQ.length=_;rw[al]
    ·rw[E,kv,n]
theorem yo{C:Type}{c:C→C→Prop}(k: ∀ a b,c a b→c b a): ∀ {l:List C},l.Pairwise c→∀ {a b:C},a∈l→b∈l→a≠b→c a b
 |[],_,a,_,m,_,_=>by cases m
 |x::l,d,a,b,n,i,j=>by
  rw [hJ] at d;rcases bd.1 n with g|h
  ·rcases bd.1 i with e|f
   ·exact absurd (g.trans e.symm) j
   ·rw [g];exact d.1 b f
  ·rcases bd.1 i with e|f
   ·rw [e];exact k _ _ (d.1 a h)
   ·exact yo k d.2 h f j
theorem cX.rl(g:cX d A R z)(f:bK→Bool): ∃ k c,kp d (z.filter f) k c∧k+2 * b7 c+eY c=2 * b7 d+eY d∧cX c A R (z.filter fun b=>!f b)∧c.now=d.now∧c.ins=d.ins∧c.aQ.length=d.aQ.length∧c.ax.length=d.ax.length:=by
 have s: ∀ {a b:bK},a∈z→b∈z→a≠b→((∀ r∈a.refs,r∉b.refs)∧(a.page=b.page→a.page < 0)):=fun t m v=>
  yo (fun a b q=>⟨fun r j w=>q.1 r w j,fun e=>by rw [e];exact q.2 e.symm⟩) g.lH t m v
 refine uh _ d _ (g.BM uG) (fun b m=>?_) (g.lH.sublist uG);obtain ⟨i,u⟩:=gW.1 m;have l: ∀ x∈z.filter fun b=>!f b,x∈z∧b≠x:=fun x l=>by
  obtain ⟨x1,h⟩:=gW.1 l;refine ⟨x1,?_⟩;rintro rfl;rw [u] at h;cases h
 obtain ⟨n1,ab,y⟩:=g.lF b i;refine ⟨n1,ab,y,fun r j=>⟨fun p=>g.k5 b i p r j,fun x n=>?_⟩,?_⟩
 ·obtain ⟨x1,h⟩:=l x n;exact (s i x1 h).1 r j
 ·rcases g.lG b i with q|⟨B,C,D⟩
  ·exact .inl q
  ·by_cases o:b.page < 0
   ·exact .inl o
   ·refine .inr ⟨B,C,D,fun x n e=>?_⟩;obtain ⟨x1,h⟩:=l x n;exact o ((s i x1 h).2 e.symm)
theorem Inv.mem{b:az}(a:Inv lim h d z l)(c:b.aQ=d.aQ)(e:b.ax=d.ax):Inv lim h b z l:=by
 obtain⟨W,av,A,R,a⟩:=a;exact⟨W,av,A,R,a.lS (a.mem.of (fun p _=>by rw[e]) fun r y f _=>by unfold Live at *;rw[c];exact f) (by rw[c]) (by rw[e])⟩
structure p4 (lim:aK):Prop where
 aQ:lim.aQ≤200
 ax:lim.ax≤40
 cO:1≤lim.cO∧lim.cO≤8
 rows:2≤lim.rows∧lim.rows≤64
 chain:lim.chain≤64
 count:8≤lim.count∧lim.count≤1099511627776
theorem BU{S:Nat}(d:S≤200)(e:U₀≤40)(c:L≤S):iK S U₀ L≤58491:=by
 have a:=qo (S:=S) (U₀:=U₀) L 0 K;rw[cv]at a;have b:iK S U₀ 0≤201 * 291:=by
  unfold iK;exact Nat.mul_le_mul K K
 omega
theorem B8(t:Inv lim h d z l)(j:p4 lim)(F:h.length≤100){c:cV}(J:ga c)(L:c.key∈h)(o:d.ins=V)(M:1≤d.now∧d.now≤lim.count):
  ∃ k g s r f,mi lim c d z k g s r∧k≤60000∧Inv lim h g s f∧g.ins=V∧d.now≤g.now∧g.now≤lim.count∧sv c l f r:=by
 by_cases p:d.now=lim.count
 ·exact ⟨1,d,z,⟨b8,5⟩,l,.j8 p,K,t,o,aG _,M.2,.inl ⟨.inr rfl,rfl⟩⟩
 ·have G:=j.aQ;have I:=j.ax;have an:=j.cO;have u:Inv lim h {d with now:=d.now+1,ins:=Z (d.now+1)} z l:=t.mem rfl rfl;obtain ⟨k,a,m,r,f,x,y,ag,al,C,am⟩:=IC F K j.rows.1 J L _ _ z (decide (c.kind≠1)) l (aG _) u (fun q=>by have:=of_decide_eq_false q;omega);have N:=u.used;have aq:=BU G I N;have ar:k≤58491+491:=by
   refine bZ am ?_;split <;> omega
  have aA:a.now=d.now+1:=ag;have B:a.ins.isSome=true:=by rw [al];rfl
  by_cases v:m=[]
  ·subst v;exact ⟨2+k+1,{a with ins:=V},[],r,f,.calm p o x B,K,y.mem rfl rfl,rfl,by show d.now≤a.now;omega,by show a.now≤_;omega,C⟩
  ·have D:Inv lim h (bump lim.count {a with ins:=V}) m f:=y.mem rfl rfl;obtain ⟨W,av,A,R,i⟩:=D;obtain ⟨P,n,Q,az,S,T,aa,ab,ae⟩:=i.mem.rl (fun b=>decide (b.dF < (bump lim.count a).now));have ax:b7 (bump lim.count {a with ins:=V})≤200:=by
    have:=Inv.used ⟨W,av,A,R,i⟩;omega
   have ay:eY (bump lim.count {a with ins:=V})≤40:=by
    have E:eY (bump lim.count {a with ins:=V})≤(bump lim.count {a with ins:=V}).ax.length:=kg _ _;rw [i.fB] at E;omega
   have w:d.now≤n.now∧n.now≤lim.count:=by
    rw [T];show d.now≤(if a.now=lim.count then a.now else a.now+1)∧(if a.now=lim.count then a.now else a.now+1)≤lim.count;split <;> omega
   have e: (fun b:bK=>decide (¬b.dF < (bump lim.count a).now))=fun b=>!decide (b.dF < (bump lim.count a).now):=by funext b;exact decide_not
   refine ⟨2+k+1+1+lim.cO+P,n,m.filter fun b=>decide (¬b.dF < (bump lim.count a).now),r,f,.rl p o x B v Q,K,?_,aa,w.1,w.2,C⟩;rw [e];exact ⟨W,av,A,R,i.lS S ab ae⟩
end
def cf:bl:=⟨b8,b8,true,0,[],false⟩
def c7:ar:=⟨bY cf,[]⟩
def fh (lim:aK):az:=⟨List.replicate lim.aQ (0,V),List.replicate lim.ax V,1,V⟩
def j0 (lim:aK):az:=⟨(List.replicate lim.aQ (0,V)).set 0 (1,Z c7),(List.replicate lim.ax V).set 0 (Z (Z ⟨0,1⟩)),1,V⟩
theorem AT(e:1≤lim.aQ)(f:1≤lim.count):b2 lim.count (fh lim) c7= .ok ⟨0,1⟩ {fh lim with aQ:=(fh lim).aQ.set 0 (1,Z c7)}:=by
 have a: (fh lim).aQ=(0,V)::List.replicate (lim.aQ - 1) (0,V):=by
  show List.replicate lim.aQ _=_;obtain⟨n,d⟩: ∃ n,lim.aQ=n+1:=⟨lim.aQ - 1,K⟩;rw[d];rfl
 have b: (fh lim).aQ.findIdx? (jV lim.count)=Z 0:=by
  rw[a,List.findIdx?_cons,a9];unfold jV;simp;omega
 have c: (fh lim).aQ.getD 0 (0,V)=(0,V):=by rw[a];rfl
 unfold b2;rw[b];dsimp only;rw[c]
theorem Hl(e:1≤lim.ax)(a:List (Nat×Option ar)):eR {fh lim with aQ:=a}=Z (0,{fh lim with aQ:=a,ax:=(fh lim).ax.set 0 (Z V)}):=by
 have d: (fh lim).ax=none::List.replicate (lim.ax - 1) none:=by
  show List.replicate lim.ax _=_;obtain⟨n,c⟩: ∃ n,lim.ax=n+1:=⟨lim.ax - 1,K⟩;rw[c];rfl
 unfold eR;have b: (fh lim).ax.findIdx? (fun q=>q.isNone)=Z 0:=by
  rw[d,List.findIdx?_cons];rfl
 dsimp only;rw[b]
theorem EF(lim:aK)(h:List ByteArray)(o:1≤lim.aQ)(s:1≤lim.ax):Inv lim h (j0 lim) [] []:=by
 have F:dw [c7]=Z (.leaf cf):=o9 (v:=cf) bP (fun _=>rfl) (fun x n=>by cases n);have t: (aT.leaf cf).lo=0:=rfl;have m: (aT.leaf cf).hi=eL:=rfl;have d: ∀ {p:Int} {a:Nat} {x:aT},bL (fun _=>V) 0 (Z (0,aT.leaf cf)) p=Z (a,x)→p=0∧a=0∧x= .leaf cf:=fun c=>by
  rcases dJ c with⟨e,w⟩|⟨-,e⟩
  ·obtain⟨z,A⟩:=cs w;exact⟨e,z.symm,A.symm⟩
  ·cases e
 have l: ∀ p:Int,dM (fun _=>([]:List aA)) 0 [⟨0,1⟩] p≠[]→p=0:=fun p c=>by
  by_cases e:p=0
  ·exact e
  ·rw[cz e]at c;exact absurd rfl c
 have B:Live (j0 lim) ⟨0,1⟩ c7:=by
  show((List.replicate lim.aQ (0,V)).set 0 (1,Z c7))[0]?=_;rw[l5 (by rw[ln];omega)]
 refine⟨bL (fun _=>V) 0 (Z (0,.leaf cf)),fun _=>V,dM (fun _=>[]) 0 [⟨0,1⟩],dM (fun _=>[]) 0 [c7],⟨⟨bP,⟨0,.leaf cf,iy _ _ _,t,m,fun p a x c=>?_⟩,fun p a x c=>?_,fun p a x c=>?_,fun p a x c C=>?_,fun p q a x y k c j _ _ _ _=>?_,fun p a v c=>(d c).2.1,fun p a v c=>?_,fun p a v c=>?_,fun p a v c=>?_,fun p a v c=>?_,fun p a v c=>?_,fun p a v c f=>?_,fun p g f=>(by cases f)⟩,⟨fun p c=>?_,fun p=>?_,fun p=>?_,fun p q D r u=>?_,fun b i=>(by cases i),fun b i=>(by cases i),List.Pairwise.nil,fun p y E=>?_,fun b i=>(by cases i)⟩,fun p a x c=>?_,fun p g f=>(by cases f),?_,?_,fun x n=>(by cases n)⟩⟩
 ·have:=(d c).2.1;omega
 ·rw[(d c).2.2];exact⟨by show(0:Nat)≤16;omega,by show(0:Nat)≤16;omega,fun _=>rfl⟩
 ·rw[(d c).2.2,t,m];exact jB (aJ _) (hX b8)
 ·rw[(d c).2.2,m]at C;omega
 ·rw[(d c).1,(d j).1]
 ·cases(d c).2.2
 ·have e:=(d c).2.2;simp only[aT.leaf.injEq]at e;rw[e];rfl
 ·cases(d c).2.2
 ·cases(d c).2.2
 ·cases(d c).2.2
 ·have e:=(d c).2.2;simp only[aT.leaf.injEq]at e;rw[e]at f;cases f
 ·obtain rfl:=l p c;refine⟨mJ _,?_⟩;rw[ew];show((List.replicate lim.ax V).set 0 _)[0]?=_;rw[l5 (by rw[ln];omega)];rfl
 ·by_cases e:p=0
  ·subst e;rw[ew,ew];exact⟨B,rfl,trivial⟩
  ·rw[cz e,cz e];trivial
 ·by_cases e:p=0
  ·subst e;rw[ew];simp
  ·rw[cz e];exact iX
 ·intro j;have o:=l p (fun e=>by rw[e]at u;cases u);have s:=l q (fun e=>by rw[e]at j;cases j);exact D (by rw[o,s])
 ·rcases j7 E with⟨-,k⟩|⟨-,k⟩
  ·rw[aO]at k;subst k;exact⟨gY,gX⟩
  ·cases k
 ·obtain⟨rfl, -,rfl⟩:=d c;rw[ew,ew];exact⟨J,F⟩
 ·show((List.replicate lim.aQ (0,V)).set 0 _).length=_;rw[jz,ln]
 ·show((List.replicate lim.ax V).set 0 _).length=_;rw[jz,ln]
inductive jL (lim:aK) (d:az):Int→Nat→Int→Prop
 |leaf {P:cn} {v:bl} (b:dS lim d P) (c:P.nd= .leaf v):jL lim d P.n 0 P.n
 |aU {P:cn} {v:aY} {e:cw} {a:List cw} {k:Nat} {n:Int} (b:dS lim d P) (c:P.nd= .aU v) (f:v.ag=e::a) (g:jL lim d e.page k n):jL lim d P.n (k+1) n
inductive km (lim:aK) (d:az):Int→Nat→List aN→Prop
 |last {P:cn} {v:bl} (b:dS lim d P) (e:P.nd= .leaf v) (c:v.unb=true):km lim d P.n 1 v.rows
 |more {P:cn} {v:bl} {k:Nat} {a:List aN} (b:dS lim d P) (e:P.nd= .leaf v) (c:v.unb=false) (f:km lim d v.right k a):km lim d P.n (k+1) (v.rows++a)
theorem yF{C:Type}(f:C→Bool)(c:C): ∀ b:List C,((List.range b.length).filter fun i=>f (b[i]?.getD c)).length=(b.filter f).length
 |[]=>rfl
 |a::b=>by
  rw[fY,List.range_succ_eq_map,h3,List.filter_map,h3];have e: ((List.range b.length).filter ((fun i=>f ((a::b)[i]?.getD c)) ∘ Nat.succ)).length=(b.filter f).length:=yF f c b;cases d:f a
  ·simp only[mV,kF,d,Bool.false_eq_true,if_false,fM];exact e
  ·simp only[mV,kF,d,kb,fY,fM];rw[e]
section
variable {h : List ByteArray} {l : List aN}
theorem ck.ym(a:ck lim h d z W av A R l){vs:List Int}(k:vs.Nodup)(b: ∀ p∈vs,A p≠[]):vs.length≤eY d:=by
 have g: (vs.map Int.toNat).Nodup:=by
  rw[h4,l6];refine(h4.1 k).imp_of_mem fun {p q} c o n e=>n ?_;have:=(a.mem.cc p (b p c)).1;have:=(a.mem.cc q (b q o)).1;omega
 have f:=mA (m:=(List.range d.ax.length).filter fun i=>(d.ax[i]?.getD V).isSome) g fun i j=>by
  obtain⟨p,c,rfl⟩:=kE.1 j;have:=(a.mem.cc p (b p c)).2;refine gW.2 ⟨lm.2 (c3.1 this).1,?_⟩;rw[this];rfl
 rw[yF (fun q:Option (Option aA)=>q.isSome) V d.ax,fM]at f;exact f
theorem C1(f:ck lim h d z W av A R l): ∀ (a:Nat) (p:Int) (x:aT),W p=Z (a,x)→x.lo=0→∃ (k:Nat) (n:Int) (v:bl) (vs:List Int),jL lim d p k n∧W n=Z (0,.leaf v)∧aE v.low=0∧vs.length=k+1∧vs.Nodup∧∀ q∈vs,∃ b y,W q=Z (b,y)∧b≤a:=by
 intro a;induction a with
 |zero=>
  intro p x c j;cases x with
  |aU v=>have:=f.bj.aU _ _ _ c;omega
  |leaf v=>exact⟨0,p,v,[p],.leaf (P:=⟨p,A p,R p,.leaf v⟩) (f.page c) rfl,c,j,rfl,J,fun q g=>by rw[aO]at g;subst g;exact⟨0,_,c,aG _⟩⟩
 |succ a ih=>
  intro p x c j;cases x with
  |leaf v=>have:=f.bj.leaf _ _ _ c;omega
  |aU v=>
   obtain⟨e,S,o,r⟩:=(f.bj.ag _ _ _ c).first;have E:aE v.low=0:=j;obtain⟨b,y,Q,u,B⟩:=f.bj.below c (e:=e) (by rw[o];simp) (by
    cases C:v.held with
    |false=>exact .inl rfl
    |true=>
     right;intro q;have:=(f.bj.holds c C).2.2.1;rw[←q,r]at this;omega)
   obtain rfl:b=a:=K;obtain⟨k,n,w,vs,F,G,I,L,M,s⟩:=ih e.page y u (by rw[B,r];exact E);refine⟨k+1,n,w,p::vs,.aU (P:=⟨p,A p,R p,.aU v⟩) (f.page c) rfl o F,G,I,by rw[fY,L],fN.2 ⟨fun D=>?_,M⟩,fun q g=>?_⟩
   ·obtain⟨m,t,i,N⟩:=s p D;rw[c]at i;have:=(cs i).1;omega
   ·rcases bd.1 g with rfl|g
    ·exact⟨_,_,c,aG _⟩
    ·obtain⟨m,t,i,N⟩:=s q g;exact⟨m,t,i,K⟩
theorem GX{l:List aN}(d:l.Pairwise fun a b=>aE a.key < aE b.key){lo hi:Nat}(h:lo≤hi):l.filter (fun x=>decide (lo≤aE x.key∧aE x.key < hi))++l.filter (fun x=>decide (hi≤aE x.key))=l.filter (fun x=>decide (lo≤aE x.key)):=by
 induction l with
 |nil=>rfl
 |cons x l ih=>
  rw [hJ] at d;have ih:=ih d.2;rw [h3,h3,h3];by_cases c:lo≤aE x.key
  ·by_cases f:aE x.key < hi
   ·rw [a9 (eo ⟨c,f⟩),aS r1,a9 (eo c),pQ,ih]
   ·have e:l.filter (fun x=>decide (lo≤aE x.key∧aE x.key < hi))=[]:=pE.2 fun y g=>by
     rw [dp];have:=d.1 y g;omega
    rw [e,gJ] at ih;rw [aS r1,a9 (eo K),a9 (eo c),e,gJ,ih]
  ·rw [aS r1,aS r1,aS (by rw [dp];exact c),ih]
theorem GH{l:List aN}(d:dO l=true):l.Pairwise fun a b=>aE a.key < aE b.key:=by
 have c:=(js l).1 d;exact c.2.imp_of_mem fun {a b} e g f=>(lX (jU (c.1 a e)) (jU (c.1 b g))).1 f
theorem E0(b:ck lim h d z W av A R l): ∀ (g:Nat) (p:Int) (v:bl),eL - aE v.low≤g→W p=Z (0,.leaf v)→∃ (k:Nat) (vs:List Int),km lim d p k (l.filter fun x=>decide (aE v.low≤aE x.key))∧vs.length=k∧vs.Nodup∧∀ q∈vs,∃ y,W q=Z (0,y)∧aE v.low≤y.lo:=by
 intro g;induction g with
 |zero=>
  intro p v D a;have:=hX v.low;omega
 |succ g ih=>
  intro p v D a;have r:=b.bj.b6 _ _ _ a;have G:=b.bj.span _ _ _ a;have F:=b.bj.rows _ _ _ a;have Q:aE v.low < df v.high v.unb:=G;have n:v.rows=l.filter (fun x=>decide (aE v.low≤aE x.key∧aE x.key < df v.high v.unb)):=by
   rw [F];refine mL fun x o=>?_;have:=qz (unb:=v.unb) b.bj.ok r.low r.high x o;rw [iY,dp];exact this
  cases f:v.unb with
  |true=>
   have e: (l.filter fun x=>decide (aE v.low≤aE x.key))=v.rows:=by
    rw [n,f];refine mL fun x o=>?_;have:df v.high true=eL:=rfl;have:=hX x.key;rw [iY,dp,dp];omega
   rw [e];exact ⟨1,[p],.last (P:=⟨p,A p,R p,.leaf v⟩) (b.page a) rfl f,rfl,J,fun q c=>by rw [aO] at c;subst c;exact ⟨_,a,aG _⟩⟩
  |false=>
   have C: (aT.leaf v).hi < eL:=tp.2 f;obtain ⟨M,u,N⟩:=b.bj.right _ _ _ a C;cases M with
   |aU w=>have:=b.bj.aU _ _ _ u;omega
   |leaf w=>
    have B:aE w.low=df v.high v.unb:=N;obtain ⟨k,vs,s,I,L,t⟩:=ih v.right w K u;rw [B] at s;have m:=GX (GH b.bj.ok) (lo:=aE v.low) (hi:=df v.high v.unb) K;rw [←n] at m;rw [←m];refine ⟨k+1,p::vs,.more (P:=⟨p,A p,R p,.leaf v⟩) (b.page a) rfl f s,by rw [fY,I],fN.2 ⟨fun E=>?_,L⟩,fun q c=>?_⟩
    ·obtain ⟨y,i,j⟩:=t p E;rw [a] at i;rw [← (cs i).2] at j;have:aE w.low≤aE v.low:=j;omega
    ·rcases bd.1 c with rfl|c
     ·exact ⟨_,a,aG _⟩
     ·obtain ⟨y,i,j⟩:=t q c;exact ⟨y,i,K⟩
theorem GM(a:Inv lim h d z l): ∃ n c f,jL lim d 0 c n∧c≤eY d∧km lim d n f l∧f≤eY d:=by
 obtain ⟨W,av,A,R,a⟩:=a;obtain ⟨L,s,t,u,C,D⟩:=a.bj.root;obtain ⟨c,n,v,vs,i,j,w,B,k,m⟩:=C1 a L 0 s t u;obtain ⟨f,E,am,aq,o,r⟩:=E0 a _ n v (aG _) j;have e: (l.filter fun x=>decide (aE v.low≤aE x.key))=l:=rL.2 fun x _=>eo K;rw [e] at am;refine ⟨n,c,f,i,?_,am,?_⟩
 ·have:=a.ym k fun p g=>by
   obtain ⟨b,y,q, -⟩:=m p g;exact (a.eZ _ _ _ q).1
  omega
 ·rw [←aq];exact a.ym o fun p g=>by
   obtain ⟨y,q, -⟩:=r p g;exact (a.eZ _ _ _ q).1
end
theorem cX.sL(l:cX d A R z):z.length≤d.aQ.length:=by
 have h: ∀ b∈z,∃ y,(b.refs.head?.getD ⟨0,0⟩)∈b.refs∧Live d (b.refs.head?.getD ⟨0,0⟩) y:=fun b c=>by
  obtain⟨f,g,B,n, -⟩:=l.lF b c;cases e:b.refs with
  |nil=>exact absurd e f
  |cons r v=>
   rw[e]at n;obtain⟨y, -,j⟩:=n.live r J;exact⟨y,J,j⟩
 have f: (z.map fun b=>(b.refs.head?.getD ⟨0,0⟩).i).Nodup:=by
  rw[h4,l6];refine l.lH.imp_of_mem fun {a b} s c t e=>?_;obtain⟨w,k,o⟩:=h a s;obtain⟨x,p,q⟩:=h b c;rw[o.one q e]at k;have:=t.1 _ k;exact this p
 have g:=mA (m:=List.range d.aQ.length) f fun i u=>by
  obtain⟨b,c,rfl⟩:=kE.1 u;obtain⟨y, -,j⟩:=h b c;exact lm.2 (c3.1 j).1
 rw[fM,mM]at g;exact g
theorem Inv.sL{h:List ByteArray}{l:List aN}(a:Inv lim h d z l):z.length≤lim.aQ:=by
 obtain⟨W,av,A,R,a⟩:=a;rw[←a.ls];exact a.mem.sL
end
section
open Go.BigFrame Go.RowKit Go.WideShapes
abbrev bf (v:aY) (o:Option ai) (n c:Nat):List ak:=[af v.low,af v.high,ah v.unb,O U v.right,ac o n c,ah v.held,O U v.aH,O U v.bb,af v.aD]
abbrev fg (v:aY) (o:Option ai) (n c:Nat):ak:=aw #[af v.low,af v.high,ah v.unb,O U v.right,ac o n c,ah v.held,O U v.aH,O U v.bb,af v.aD]
structure dZ (v:aY):Prop where
 low:v.low.size≤maxLen
 high:v.high.size≤maxLen
 aD:v.aD.size≤maxLen
theorem aZ.I{l:List cw}(a:aZ w M n B l)(b:Y w u):aZ u M n B l:=bo.I cW a b
theorem aZ.get{l:List cw}(a:aZ w M n B l):
  ∃ b T,(0 < n→M=Z ⟨b,T,V⟩)∧∀ i,i < n→w.cell? ⟨b,T+i * 2,V⟩=Z (af (bw l i).key)∧w.cell? ⟨b,T+i * 2+1,V⟩=Z (O U (bw l i).page)∧(bw l i).key.size≤maxLen:=by
 obtain⟨b,T,e,f⟩:=a.cells;refine⟨b,T,fun q=>(e q).1,fun i j=>?_⟩;have d:i < l.length:=by rw[a.len];exact j
 have h:l[i]?=Z (bw l i):=by rw[jg d];exact cP d
 obtain⟨vs, -, -,⟨rfl,g⟩,c⟩:=f i _ h;exact⟨c 0 _ rfl,c 1 _ rfl,g⟩
theorem lg(B:Nat)(a:0 < n→M=Z ⟨b,T,V⟩){k:Nat}(c:k < n)(w:ad):
  (Instr.indexAt 81 (ac M n B) (O U (k:Int))).run aj w= .ok (au (Z ⟨b,T+k * 2,V⟩)) w:=by
 rw[a K];go_simp
theorem re(B:Nat)(c:0 < n→M=Z ⟨b,T,V⟩){k:Int}(a:0≤k)(d:k < n)(w:ad):
  (Instr.indexAt 81 (ac M n B) (O U k)).run aj w= .ok (au (Z ⟨b,T+k.toNat * 2,V⟩)) w:=by
 obtain⟨e,rfl⟩:=fP a;exact lg B c K w
theorem F8{l:List cw}(c:k < l.length)(a:k≤bG key l)(b:a3.cmp (aF (bw l k).key) (aF key) < 0):k+1≤bG key l:=by
 induction l generalizing k with
 |nil=>simp at c
 |cons r l ih=>
  cases k with
  |zero=>simp only[bG];rw[a9 (by exact b)];omega
  |succ k=>
   simp only[bG]at a ⊢;split
   ·rename_i q;rw[a9 q]at a;have:=ih (k:=k) (by simpa using c) K (by exact b);omega
   ·rename_i q;rw[aS q]at a;omega
theorem F9{l:List cw}(c:k < l.length)(a:k≤bG key l)(b: ¬a3.cmp (aF (bw l k).key) (aF key) < 0):bG key l=k:=by
 induction l generalizing k with
 |nil=>simp at c
 |cons r l ih=>
  cases k with
  |zero=>simp only[bG];rw[aS (by exact b)]
  |succ k=>
   simp only[bG]at a ⊢;split
   ·rename_i q;rw[a9 q]at a;rw[ih (k:=k) (by simpa using c) K (by exact b)]
   ·rename_i q;rw[aS q]at a;omega
theorem qM(v:aY)(o:Option ai)(n c:Nat)(key:ByteArray)(w:ad)(b:dZ v)(h:key.size≤maxLen):
  ao aj 125 #[fg v o n c,key] w fun e u=>e=ap (ah (gz v key))∧Y w u:=by
 have a:ae (H w (X (bf v o n c) 95)) w.heap.size (bf v o n c):=(ae.new w _ _ rfl).of J;have g:=(Y.refl w).alloc (X (bf v o n c) 95);have d:=b.low;have f:=b.high;go_enter Tryz.func125,Tryz.ntmps125;go_upto_region 1 with fail
 generalize(H w (X (bf v o n c) 95))=i at *;have j:=a.cell 0 rfl;have c1:=a.cell 1 rfl;have Q:=a.cell 2 rfl;go_wp2_with(go_at_call 110;(with_reducible refine(ny _ _ _ _ _ d f h).mono ?_);rintro e u ⟨rfl,k,rfl⟩);go_ret;exact⟨rfl,g.drewN _⟩
theorem ld(v:aY)(o:Option ai)(n c:Nat)(key:ByteArray)(w:ad)(f:aZ w o n c v.ag)(P:key.size≤maxLen):
  ao aj 126 #[fg v o n c,key] w fun e u=>e=ap (a0 #[O U (bG key v.ag),(cY key v.ag)])∧Y w u:=by
 have y:ae (H w (X (bf v o n c) 95)) w.heap.size (bf v o n c):=(ae.new w _ _ rfl).of J;have j:=(Y.refl w).alloc (X (bf v o n c) 95);obtain ⟨b,T,t,r⟩:=f.get;have m:=f.len;have M:=f.dj;have F:=f.dr;unfold maxLen at F;have G:=pb key v.ag;rw [m] at G;have A:=N t;have z:=N r;have h:=N m;have a:Hid (cY key v.ag=decide (bG key v.ag < v.ag.length∧(bw v.ag (bG key v.ag)).key=key)):=N rfl;clear f t r m;go_enter Tryz.func126,Tryz.ntmps126;go_upto_region 2 with fail
 generalize (H w (X (bf v o n c) 95))=B at *;have I:=y.cell 4 rfl;go_loopw [6] (fun i wr=> ∃ k:Nat,k≤n∧i=O U k∧k≤bG key v.ag∧cR B wr) (fun i _=>n - (intOf i).toNat)
 case atStart=>exact ⟨0,aJ _,rfl,aJ _,cR.refl _⟩
 case round=>
  obtain ⟨k,R,rfl,x,C,rfl⟩:=hrel;by_cases p:k < n
  ·obtain ⟨s, -,S⟩:=z.out k p;have Q:=j.I s;have L:=lg c A.out p;clear s;go_wp2_with (go_at_call 93;(with_reducible refine (gO _ _ _ ch ch).mono ?_);rintro e u ⟨rfl,C,rfl⟩)
   ·go_roundw
    case rel=>exact ⟨k+1,K,e9,F8 (by have:=h.out;omega) x ch,_,rfl⟩
    case measure=>simp [intOf];omega
   ·have e:=F9 (key:=key) (l:=v.ag) (by have:=h.out;omega) x K;rw [e] at a;have g:=N e;clear e;by_cases d: (bw v.ag k).key=key
    ·have E:=mu d;have D:Hid (cY key v.ag=true):=N (by rw [a.out,dp,h.out];exact ⟨p,d⟩);clear d a;go_big_quiet (fail);go_wp2;go_ret2;exact ⟨by rw [D.out,g.out];rfl,j.trans (cR.aC iC)⟩
    ·have E:=nF d;have D:Hid (cY key v.ag=false):=N (by rw [a.out,hH];exact fun q=>d q.2);clear d a;go_big_quiet (fail);go_wp2;go_ret2;exact ⟨by rw [D.out,g.out];rfl,j.trans (cR.aC iC)⟩
  ·obtain rfl:k=n:=by omega
   have e:bG key v.ag=k:=K;have D:Hid (cY key v.ag=false):=N (by rw [a.out,hH,h.out];exact fun q=>K);have g:=N e;clear e a;go_wp2;go_big_quiet (fail);go_wp2;go_ret2;exact ⟨by rw [D.out,g.out];rfl,j.trans (cR.aC iC)⟩
end
section
open Go.RowKit
abbrev fq (S:List Nat) (w:ad) (S':List Nat) (u:ad):Prop:=dD (ay w S) (ay u S')
theorem Mod.aL(c:Mod X₀ w u)(f: ∀ b∈X₀,b∈S)(g: ∀ b∈S',b∈S∨w.heap.size≤b):fq S w S' u:=
 ⟨fun b o v q=>by
  obtain⟨d,a⟩:=bp.1 q;refine bp.2 ⟨fun e=>?_,?_⟩
  ·rcases g b e with k|k
   ·exact d k
   ·have:=gN a;omega
  ·rw[cell_of_block (c.block b (gN a) fun e=>d (f b e)) o];exact a,by rw[jj,jj];exact c.size⟩
theorem Y.aL(a:Y w u)(c: ∀ b∈S',b∈S∨w.heap.size≤b):fq S w S' u:=(a.mod []).aL ((fun _ q=>(by cases q))) c
structure ez {C:Type} (k:Nat) (D:C→List ak→Prop) (w:ad) (b:Nat) (l:List C):Prop where
 at': ∀ (i:Nat) (x:C),l[i]?=Z x→∃ vs:List ak,vs.length=k∧D x vs∧w.rangeAt b (i * k) vs
 may:w.there b 0 (l.length * k)
section
variable {D : C → List ak → Prop} {l : List C}
theorem ez.there(a:ez k D w b l){i j m:Nat}(c:i < l.length)(e:j+m≤k):w.there b (i * k+j) m:=fun q f=>by
 have d:i * k+k≤l.length * k:=by
  have:=kS k (show i+1≤l.length from c);rw[jI,n8]at this;exact this
 have:=a.may (i * k+j+q) K;rwa[cv]at this
theorem ez.imp{a:C→List ak→Prop}(c:ez k D w b l)(g: ∀ x vs,D x vs→a x vs):ez k a w b l:=
 ⟨fun i x h=>by obtain⟨vs,d,e,f⟩:=c.at' i x h;exact⟨vs,d,g _ _ e,f⟩,c.may⟩
theorem yE(a:w.rangeAt b o vs)(c:u.heap[b]?=w.heap[b]?):u.rangeAt b o vs:=fun e v d=>by
 rw[cell_of_block c];exact a e v d
theorem zq(c:w.there b o n)(a:u.heap[b]?=w.heap[b]?):u.there b o n:=fun e d=>by
 rw[cell_of_block a,World.frozen?_of_block (w:=w) a];exact c e d
theorem ez.block(a:ez k D w b l)(c:u.heap[b]?=w.heap[b]?):ez k D u b l:=
 ⟨fun i x g=>by obtain⟨vs,d,e,f⟩:=a.at' i x g;exact⟨vs,d,e,yE f c⟩,zq a.may c⟩
theorem ez.part(h:ez k D w b l){i:Nat}{x:C}(s:l[i]?=Z x){vs:List ak}(A:vs.length=k)(p:w.rangeAt b (i * k) vs)(a:Nat)(f:List ak)(t:a+f.length≤k)(r:C)(u:D r (vs.take a++f++vs.drop (a+f.length))):ez k D (ba w b (i * k+a) f) b (l.set i r):=by
 have o:=(c3.1 s).1;refine ⟨fun d y g=>?_,by rw [jz];exact rC h.may _ _ _⟩;by_cases e:d=i
 ·subst e;rw [l5 o] at g;cases g;refine ⟨_,?_,u,?_⟩
  ·rw [dG,dG,fm,hl];omega
  ·have j: (ba w b (d * k+a) f).rangeAt b (d * k) (vs.take a):=eg (fun q v c=>by
    rw [rM] at c;split at c
    ·exact p q v c
    ·cases c) _ _ _ (.inr (.inl lu))
   have m: (ba w b (d * k+a) f).rangeAt b (d * k+a) f:=rB _ _ _ _ (h.there o t);have n: (ba w b (d * k+a) f).rangeAt b (d * k+(a+f.length)) (vs.drop (a+f.length)):=eg (fun q v c=>by
    rw [rV] at c;have:=p _ v c;rwa [←rA] at this) _ _ _ (.inr (.inr K))
   intro q v c;by_cases B:q < a
   ·rw [lq,kN lu] at c;exact j q v c
   ·rw [lq,jE lu,fm,pG K] at c;by_cases E:q < a+f.length
    ·rw [kN K] at c;have:=m _ v c;rwa [show d * k+a+(q - a)=d * k+q by omega] at this
    ·rw [jE K] at c;have:=n _ v c;rwa [show d * k+(a+f.length)+(q - a - f.length)=d * k+q by omega] at this
 ·rw [ll (fun q=>e q.symm)] at g;obtain ⟨z,j,m,n⟩:=h.at' d y g;refine ⟨z,j,m,eg n _ _ _ (.inr ?_)⟩;rcases dC d i with q|q
  ·left;have:=kS k (show d+1≤i from q);rw [jI,n8] at this;omega
  ·right;have:=kS k (show i+1≤d by omega);rw [jI,n8] at this;omega
theorem ez.set(c:ez k D w b l){i:Nat}{x:C}(d:l[i]?=Z x)(a:List ak)(h:a.length=k)(x':C)(g:D x' a):ez k D (ba w b (i * k) a) b (l.set i x'):=by
 obtain⟨vs,e, -,f⟩:=c.at' i x d;have:=c.part d e f 0 a K x' (by
  rw[cv,List.take_zero,gJ,rG K,me];exact g)
 exact this
end
def ko (b:ad) (a:Nat×Option ar) (vs:List ak):Prop:=
 match a.2 with
 |none=>vs=O U (a.1:Int)::ah false::al
 |some y=> ∃ E n1 c1 ag ab Q,vs=O U (a.1:Int)::ah true::an y.x E n1 c1 ag ab Q∧bk b E n1 c1 y.x.r.rows∧aZ b ag ab Q y.ag∧ht y.x
theorem ko.ex{b c:ad}{f:Nat×Option ar}(a:ko b f vs)(d:dD b c):ko c f vs:=by
 unfold ko at *;split
 ·rename_i e;rw[e]at a;exact a
 ·rename_i y e;rw[e]at a;obtain⟨E,n1,c1,ag,ab,Q,g,h,i,j⟩:=a;exact⟨E,n1,c1,ag,ab,Q,g,h.ex d,i.ex cW d,j⟩
def m3 (q:Option (Option aA)) (vs:List ak):Prop:=
 match q with
 |none=>vs=[ah false,O U 0,O U 0]
 |some r=>vs=[ah true,O U (a4 r).1,O U (a4 r).2]
structure aV where
 m:Nat
 a:Nat
 s:Nat
 t:Nat
 p:Nat
 c:Nat
 i:Nat
abbrev aV.l (h:aV):List Nat:=[h.m,h.a,h.s,h.t,h.p,h.c,h.i]
def hD (o:Option Nat):g0:=fun k=>if k=0 then o.map fun (n:Nat)=>Value.int U (n:Int)else V
abbrev nE (lim:aK) (h:aV) (n:Int):List ak:=[O U n,O U (lim.aQ:Int),O U (lim.ax:Int),O U (lim.cO:Int),O U (lim.rows:Int),O U (lim.chain:Int),O U (lim.count:Int),au (Z ⟨h.a,0,V⟩),au (Z ⟨h.t,0,V⟩),au (Z ⟨h.c,0,V⟩)]
structure aX (h:aV) (S:List Nat) (w:ad) (lim:aK) (d:az):Prop where
 sub: ∀ b∈h.l,b∈S
 old: ∀ b∈S,b < w.heap.size
 nd:h.l.Nodup
 mem: ∃ n:Int,ae w h.m (nE lim h n)
 ic: ∃ c,lim.aQ≤c∧ae w h.a [ac (Z ⟨h.s,0,V⟩) lim.aQ c,O U (lim.count:Int)]
 aQ:ez 17 (ko (ay w S)) w h.s d.aQ
 h1: ∃ c,lim.ax≤c∧ae w h.t [ac (Z ⟨h.p,0,V⟩) lim.ax c]
 ax:ez 3 m3 w h.p d.ax
 fK:ae w h.c [O U (d.now:Int),O U (lim.count:Int),O U (lim.cO:Int),.map (Z h.i)]
 ins:eJ aj 3 w h.i (hD d.ins)
 ls:d.aQ.length=lim.aQ
 fB:d.ax.length=lim.ax
 lL: ∀ a∈d.aQ,a.1≤lim.count
 now:1≤d.now∧d.now≤lim.count
 lim:p4 lim
def iG (S:List Nat) (w:ad) (S':List Nat) (u:ad):Prop:=∀ b∈S',b∈S∨(w.heap.size≤b∧b < u.heap.size)
theorem iG.refl(S:List Nat)(w u:ad):iG S w S u:=fun _ a=> .inl a
theorem iG.trans{c:List Nat}{a:ad}(d:iG S w S' u)(k:iG S' u c a)(f:w.heap.size≤u.heap.size)(g:u.heap.size≤a.heap.size):iG S w c a:=fun b e=>by
 rcases k b e with q|q
 ·rcases d b q with q|q
  ·exact .inl q
  ·exact .inr K
 ·exact .inr K
structure m6 (X₀ S:List Nat) (w:ad) (S':List Nat) (u:ad):Prop where
 mod:Mod X₀ w u
 sub: ∀ b∈X₀,b∈S
 new:iG S w S' u
theorem m6.aL(a:m6 X₀ S w S' u):fq S w S' u:=a.mod.aL a.sub fun b c=>(a.new b c).imp id fun q=>q.1
theorem Y.ju(a:Y w u):m6 [] S w S u:=⟨a.mod _,(fun _ q=>(by cases q)),iG.refl _ _ _⟩
theorem Mod.ju(a:Mod X₀ w u)(c: ∀ b∈X₀,b∈S):m6 X₀ S w S u:=⟨a,c,iG.refl _ _ _⟩
theorem aX.step{h:aV}(a:aX h S w lim d)(e:m6 X₀ S w S' u)(g: ∀ b∈h.l,b∉X₀)(p: ∀ b∈h.l,b∈S'):aX h S' u lim d:=by
 have k: ∀ b∈h.l,∀ {vs:List ak},ae w b vs→ae u b vs:=fun b c vs i=>e.mod.box (g b c) i;have f: ∀ b∈h.l,u.heap[b]?=w.heap[b]?:=fun b c=>e.mod.block b (a.old b (a.sub b c)) (g b c);obtain⟨n,o⟩:=a.mem;obtain⟨c1,l,j⟩:=a.ic;obtain⟨Q,m,r⟩:=a.h1;refine⟨p,fun b c=>?_,a.nd,⟨n,k _ J o⟩,⟨c1,l,k _ J j⟩,(a.aQ.block (f _ J)).imp fun x vs q=>q.ex e.aL,⟨Q,m,k _ J r⟩,a.ax.block (f _ J),k _ J a.fK,a.ins.block (f _ J),a.ls,a.fB,a.lL,a.now,a.lim⟩;rcases e.new b c with q|q
 ·exact dR (a.old b q) e.mod.size
 ·exact q.2
structure Ap (h:aV) (S:List Nat) (w:ad) (lim:aK) (d:az) (b:Nat) (u:ad):Prop where
 old: ∀ c∈S,c < u.heap.size
 mem:b≠h.m→∃ n:Int,ae u h.m (nE lim h n)
 ic:b≠h.a→∃ c,lim.aQ≤c∧ae u h.a [ac (Z ⟨h.s,0,V⟩) lim.aQ c,O U (lim.count:Int)]
 aQ:b≠h.s→ez 17 (ko (ay u S)) u h.s d.aQ
 h1:b≠h.t→∃ c,lim.ax≤c∧ae u h.t [ac (Z ⟨h.p,0,V⟩) lim.ax c]
 ax:b≠h.p→ez 3 m3 u h.p d.ax
 fK:b≠h.c→ae u h.c [O U (d.now:Int),O U (lim.count:Int),O U (lim.cO:Int),.map (Z h.i)]
 ins:b≠h.i→eJ aj 3 u h.i (hD d.ins)
 aL:fq S w S u
theorem aX.rest{h:aV}(a:aX h S w lim d){b:Nat}(o:b∈h.l)(f:Mod [b] w u):Ap h S w lim d b u:=by
 have l:fq S w S u:=(f.ju (S:=S) fun c e=>by rw[aO]at e;subst e;exact a.sub _ o).aL;have k: ∀ {c:Nat} {vs:List ak},b≠c→ae w c vs→ae u c vs:=fun e m=>f.box (fun q=>e (aO.1 q).symm) m;have j: ∀ c∈h.l,b≠c→u.heap[c]?=w.heap[c]?:=fun c e r=>f.block c (a.old c (a.sub c e)) fun q=>r (aO.1 q).symm;refine⟨fun c e=>dR (a.old c e) f.size,fun q=>?_,fun q=>?_,fun q=>((a.aQ.block (j _ J q)).imp fun x vs s=>s.ex l),fun q=>?_,fun q=>a.ax.block (j _ J q),fun q=>k q a.fK,fun q=>a.ins.block (j _ J q),l⟩
 ·obtain⟨n,p⟩:=a.mem;exact⟨n,k q p⟩
 ·obtain⟨c,g,i⟩:=a.ic;exact⟨c,g,k q i⟩
 ·obtain⟨c,g,i⟩:=a.h1;exact⟨c,g,k q i⟩
structure Ao (h:aV):Prop where
 FB:h.m≠h.a
 q0:h.m≠h.s
 FC:h.m≠h.t
 tB:h.m≠h.p
 x2:h.m≠h.c
 x3:h.m≠h.i
 Fv:h.a≠h.s
 nat:h.a≠h.t
 Fu:h.a≠h.p
 Fs:h.a≠h.c
 Ft:h.a≠h.i
 FL:h.s≠h.t
 yb:h.s≠h.p
 x9:h.s≠h.c
 ya:h.s≠h.i
 FO:h.t≠h.p
 FM:h.t≠h.c
 FN:h.t≠h.i
 x7:h.p≠h.c
 x8:h.p≠h.i
 xX:h.c≠h.i
theorem aX.ne{h:aV}(b:aX h S w lim d):Ao h:=by
 have a:=b.nd;simp only[aV.l,fN,bd,c0,db,not_or]at a;obtain⟨⟨c,p,s,t,u,v⟩,⟨x,y,z,e,f⟩,⟨g,i,j,k⟩,⟨l,m,n⟩,⟨o,q⟩,r, -⟩:=a;exact⟨c,p,s,t,u,v,x,y,z,e,f,g,i,j,k,l,m,n,o,q,r⟩
theorem aX.tick{h:aV}(a:aX h S w lim d)(n:Int):aX h S (w.setCell ⟨h.m,0,V⟩ (O U n)) lim d:=by
 have c:=a.rest (b:=h.m) J (Mod.setCell w ⟨h.m,0,V⟩ (O U n) J);have e:=a.ne;obtain⟨g,f⟩:=a.mem;exact⟨a.sub,c.old,a.nd,⟨n,(f.set 0 _).of rfl⟩,c.ic e.FB,c.aQ e.q0,c.h1 e.FC,c.ax e.tB,c.fK e.x2,c.ins e.x3,a.ls,a.fB,a.lL,a.now,a.lim⟩
theorem aX.B3{h:aV}(a:aX h S w lim d)(f:d.now < lim.count):aX h S (w.setCell ⟨h.c,0,V⟩ (O U ((d.now:Int)+1))) lim {d with now:=d.now+1}:=by
 have c:=a.rest (b:=h.c) J (Mod.setCell w ⟨h.c,0,V⟩ (O U ((d.now:Int)+1)) J);have e:=a.ne;exact⟨a.sub,c.old,a.nd,c.mem e.x2.symm,c.ic e.Fs.symm,c.aQ e.x9.symm,c.h1 e.FM.symm,c.ax e.x7.symm,(a.fK.set 0 _).of rfl,c.ins e.xX,a.ls,a.fB,a.lL,⟨by show 1≤d.now+1;omega,f⟩,a.lim⟩
theorem aX.inside{h:aV}(a:aX h S w lim d)(o:Option Nat)(g:Mod [h.i] w u)(f:eJ aj 3 u h.i (hD o)):aX h S u lim {d with ins:=o}:=by
 have c:=a.rest (b:=h.i) J g;have e:=a.ne;exact⟨a.sub,c.old,a.nd,c.mem e.x3.symm,c.ic e.Ft.symm,c.aQ e.ya.symm,c.h1 e.FN.symm,c.ax e.x8.symm,c.fK e.xX.symm,f,a.ls,a.fB,a.lL,a.now,a.lim⟩
theorem aX.y5{h:aV}(a:aX h S w lim d){i:Nat}{f:Nat×Option ar}(k:f.1≤lim.count)(j:Mod [h.s] w u)(g:ez 17 (ko (ay u S)) u h.s (d.aQ.set i f)):aX h S u lim {d with aQ:=d.aQ.set i f}:=by
 have c:=a.rest (b:=h.s) J j;have e:=a.ne;refine⟨a.sub,c.old,a.nd,c.mem e.q0.symm,c.ic e.Fv.symm,g,c.h1 e.FL,c.ax e.yb,c.fK e.x9,c.ins e.ya,by show(d.aQ.set i f).length=_;rw[jz,a.ls],a.fB,fun x l=>?_,a.now,a.lim⟩;rcases List.mem_or_eq_of_mem_set l with q|q
 ·exact a.lL x q
 ·rw[q];exact k
theorem aX.tI{h:aV}(a:aX h S w lim d){i:Nat}{q:Option (Option aA)}(g:Mod [h.p] w u)(f:ez 3 m3 u h.p (d.ax.set i q)):aX h S u lim {d with ax:=d.ax.set i q}:=by
 have c:=a.rest (b:=h.p) J g;have e:=a.ne;exact⟨a.sub,c.old,a.nd,c.mem e.tB.symm,c.ic e.Fu.symm,c.aQ e.yb.symm,c.h1 e.FO.symm,f,c.fK e.x7,c.ins e.x8,a.ls,by show(d.ax.set i q).length=_;rw[jz,a.fB],a.lL,a.now,a.lim⟩
theorem aX.I{h:aV}(a:aX h S w lim d)(b:Y w u):aX h S u lim d:=a.step b.ju (fun _ _ q=>by cases q) a.sub
end
section
open Go.BigFrame Go.RowKit Go.WideShapes
structure mm where
 o:Option ai
 n:Nat
 c:Nat
 l:List cw
structure Au (w:ad) (F:Nat) (a:List mm):Prop where
 cell: ∀ i p,a[i]?=Z p→w.cell? ⟨F,i,V⟩=Z (ac p.o p.n p.c)∧aZ w p.o p.n p.c p.l
def gy (a:List mm):List cw:=(a.map mm.l).flatten
theorem Ds{a:List mm}{p:mm}(b:a[k]?=Z p):gy (a.take (k+1))=gy (a.take k)++p.l:=by
 obtain⟨c,rfl⟩:=c3.1 b;unfold gy;rw[om c,uN,oo];rw[show([a[k]].map mm.l).flatten=a[k].l by simp]
def p6 (w:ad) (l:List cw) (e:Ending) (u:ad):Prop:=∃ o c,e=ap (ac o l.length c)∧bi fa 2 174 u w.heap.size o l.length c l∧Y w u
theorem tv(F c:Nat)(a:List mm)(w:ad)(n:Au w F a)(W:a.length≤8)(P:a.length≤c)(u: ∀ k,(gy (a.take k)).length≤1000000):
  ao aj 105 #[ac (Z ⟨F,0,V⟩) a.length c] w (p6 w (gy a)):=by
 have v:=N n;have z:=N u;have x:Hid (gy (a.take a.length)=gy a):=N (by rw[mS]);generalize T:a.length=e at *;clear n u;go_enter Tryz.func105,Tryz.ntmps105;go_upto_region 3 with fail
 go_loopw[3,8] (fun J l wr=> ∃ (k:Nat) (o:Option ai) (c1:Nat),k≤e∧l=O U k∧J=ac o (gy (a.take k)).length c1∧bi fa 2 174 wr w o (gy (a.take k)).length c1 (gy (a.take k))∧Y w wr) (fun _ l _=>e - (intOf l).toNat)
 case atStart=>exact⟨0,V,0,aJ _,rfl,rfl,bi.nil _ _ _ _ _,Y.refl _⟩
 case round=>
  obtain⟨k,o,c1,R,rfl,rfl,b,d⟩:=hrel;by_cases S:k < e
  ·have j:a[k]?=Z (a[k]'K):=cP _;generalize(a[k]'K)=p at j;obtain⟨r,h⟩:=v.out.cell k p j;have Q:=d.I r;have M: (Instr.indexAt 245 (ac (Z ⟨F,0,V⟩) e c) (O U (k:Int))).run aj wr= .ok (au (Z ⟨F,k,V⟩)) wr:=by go_simp
   have i:=Ds j;have E:=z.out (k+1);rw[i,dG,h.len]at E;have t:bo fa 2 (eb wr (Value.ownBlock (ac o (gy (a.take k)).length c1))) p.o p.n p.c p.l:=h.ex cW (lJ d.ex fun g q=>(b.lt g q).1);have D:=h.len;generalize A: (gy (a.take k)).length=L at *;have f:=N b;have y:=N t;have m:=N i;clear b t i r h;go_wp2_with(at_builtin;refine uw cW wm rfl _ _ rfl (base:=w.heap.size) d.le rfl f.out rfl y.out c4 K ?_;intro I G aa C B);go_roundw
   case rel=>
    have s: (gy (a.take (k+1))).length=L+p.n:=by rw[m.out,dG,A,D]
    refine⟨k+1,I,G,K,e9,by rw[s],?_,f.out.aC B d (aG _)⟩;rw[s,m.out];exact C
   case measure=>simp[intOf];omega
  ·obtain rfl:k=e:=by omega
   rw[x.out]at b ⊢;have f:=N b;clear b;go_wp2;go_ret;exact⟨o,c1,rfl,f.out,d⟩
theorem tu(c:w.cell? F=Z (ac E n1 c1))(a:aZ w E n1 c1 am)(d:n1≤10000):
  ao aj 105 #[ac (Z ⟨F,0,V⟩) 1 1] w (p6 w am):=by
 have:=tv F 1 [⟨E,n1,c1,am⟩] w ⟨fun i p b=>by
  rcases i with _|i
  ·cases b;exact⟨c,a⟩
  ·cases b⟩ J J (fun k=>by
   rcases k with _|k <;> simp[gy,a.len] <;> omega)
 simpa[gy]using this
theorem EQ(d:w.cell? F=Z (ac E n1 c1))(e:w.cell? ⟨F,1,V⟩=Z (ac ag ab Q))(b:aZ w E n1 c1 am)(f:n1≤10000)(c:aZ w ag ab Q aq)(g:ab≤10000):
  ao aj 105 #[ac (Z ⟨F,0,V⟩) 2 2] w (p6 w (am++aq)):=by
 have:=tv F 2 [⟨E,n1,c1,am⟩,⟨ag,ab,Q,aq⟩] w ⟨fun i p a=>by
  rcases i with _|_|i
  ·cases a;exact⟨d,b⟩
  ·cases a;exact⟨e,c⟩
  ·cases a⟩ J J (fun k=>by
   rcases k with _|_|k <;> simp[gy,b.len,c.len] <;> omega)
 simpa[gy]using this
theorem ER{e:Option ai}{b c:Nat}{d:List cw}(j:w.cell? F=Z (ac E n1 c1))(l:w.cell? ⟨F,1,V⟩=Z (ac ag ab Q))(m:w.cell? ⟨F,2,V⟩=Z (ac e b c))(f:aZ w E n1 c1 am)(n:n1≤10000)(g:aZ w ag ab Q aq)(o:ab≤10000)(h:aZ w e b c d)(q:b≤10000):
  ao aj 105 #[ac (Z ⟨F,0,V⟩) 3 3] w (p6 w (am++aq++d)):=by
 have:=tv F 3 [⟨E,n1,c1,am⟩,⟨ag,ab,Q,aq⟩,⟨e,b,c,d⟩] w ⟨fun i p a=>by
  rcases i with _|_|_|i
  ·cases a;exact⟨j,f⟩
  ·cases a;exact⟨l,g⟩
  ·cases a;exact⟨m,h⟩
  ·cases a⟩ J J (fun k=>by
   rcases k with _|_|_|k <;> simp[gy,f.len,g.len,h.len] <;> omega)
 simpa[gy]using this
theorem rf(M:Option ai)(n B k:Nat)(a:k≤B)(w:ad):
  (Instr.sliceAt 81 (ac M n B) V (Z (O U (k:Int))) V).run aj w= .ok (ac M k B) w:=by
 go_simp
theorem tY(M:Option ai)(n B k:Nat)(a:k≤n)(w:ad):
  (Instr.sliceAt 81 (ac M n B) (Z (O U (k:Int))) V V).run aj w= .ok (ac (en M k B) (n - k) (B - k)) w:=by
 unfold en;go_simp
theorem aZ.head{l:List cw}(c:aZ w M n B l){k:Nat}(m:k≤n):aZ w M k B (l.take k):=by
 obtain⟨h,j,d,e,b,T,f,g⟩:=c;refine⟨lu,K,d,e,b,T,fun q=>f K,fun i x a=>?_⟩;rw[rM]at a;split at a
 ·exact g i x a
 ·cases a
theorem aZ.tail{l:List cw}(f:aZ w M n B l){k:Nat}(A:k≤n):aZ w (en M k B) (n - k) (B - k) (l.drop k):=by
 obtain⟨v,y,z,g,b,T,h,j⟩:=f;refine⟨by rw[hl];omega,K,K,fun q=>?_,b,T+k * 2,fun q=>?_,fun i x d=>?_⟩
 ·unfold en at q;split at q
  ·omega
  ·cases M with
   |none=>have:=g rfl;omega
   |some a=>cases q
 ·obtain⟨e,m⟩:=h K;subst e;refine⟨?_,m⟩;unfold en;rw[aS K,iz,qj]
 ·rw[rV]at d;obtain⟨vs,p,r,s,t⟩:=j _ x d;refine⟨vs,p,r,s,fun c u o=>?_⟩;rw[show T+k * 2+i * 2+c=T+(k+i) * 2+c by omega];exact t c u o
theorem C6{k:ByteArray}(f:1≤B)(h:B≤maxLen)(d:w.cell? b=Z (af k))(e:w.cell? ⟨b,1,V⟩=Z (O U p))(g:k.size≤maxLen):
  aZ w (Z ⟨b,0,V⟩) 1 B [⟨k,p⟩]:=
 bo.one (vs:=[af k,p]) bP f h rfl du ⟨rfl,g⟩ fun c i a=>by
  rcases c with _|_|c
  ·cases a;exact d
  ·cases a;exact e
  ·cases a
structure er (w:ad) (b o:Nat) (vs:List ak):Prop where
 aM:w.rangeAt b o vs
theorem er.I(a:er w b o vs)(c:Y w u):er u b o vs:=⟨c.range a.aM⟩
theorem qy{k:ByteArray}(d:w.cell? ⟨b,o,V⟩=Z (af k))(e:w.cell? ⟨b,o+1,V⟩=Z (O U p)):er w b o [af k,p]:=⟨fun c f a=>by
 rcases c with _|_|c
 ·cases a;exact d
 ·cases a;exact e
 ·cases a⟩
theorem D4(v:aY)(o:Option ai)(n c:Nat)(key:ByteArray)(w:ad)(b:aZ w o n c v.ag)(i:key.size≤maxLen):
  ao aj 177 #[fg v o n c,key] w fun e u=>e=ap (ah (cY key v.ag))∧Y w u:=by
 have d:ae (H w (X (bf v o n c) 95)) w.heap.size (bf v o n c):=(ae.new w _ _ rfl).of J;have g:=(Y.refl w).alloc (X (bf v o n c) 95);have f:=N fun a (j:Y w a)=>ld v o n c key a (aZ.I b j) i;clear b;go_enter Tryz.func177,Tryz.ntmps177;go_upto_region 1 with fail
 generalize (H w (X (bf v o n c) 95))=k at *;go_wp2_with (first|(refine e8 rfl 95 _ rfl _ 0 rfl _ _ (d).aM dB rfl G ?_)|(go_at_call 126;refine (f.out _ iB).mono ?_;rintro e a ⟨rfl,h⟩));go_ret;exact ⟨rfl,g.trans h⟩
section
variable {h : aV} 
abbrev aa (b:Nat):ak:=au (Z ⟨b,0,V⟩)
theorem jv(a:aX h S w lim d):
  ao aj 32 #[aa h.m] w fun e u=>(e=ap (a0 #[])∧aX h S u lim d∧Mod [h.m] w u):=by
 obtain⟨n,b⟩:=a.mem;have c:=b.cell 0 rfl;have f:=b.free 0 J;have bh:=N fun n=>a.tick n;clear b a;go_enter Tryz.func32,Tryz.ntmps32;go_wp2_with fail;go_end0;exact⟨rfl,bh.out _,Mod.setCell _ _ _ J⟩
theorem ts(w:ad): (zeroValue 3).run aj w= .ok (O U 0) w:=by kernel_rfl
theorem FK(a:aX h S w lim d):
  ao aj 33 #[aa h.c] w fun e u=>e=ap (O U (d.now:Int))∧w=u:=by
 have b:=a.fK.cell 0 rfl;clear a;go_enter Tryz.func33,Tryz.ntmps33;go_wp2_with fail;go_ret;exact⟨rfl,rfl⟩
def z8 (h:aV) (S:List Nat) (lim:aK) (d:az) (w:ad) (e:Ending) (u:ad):Prop:=
 (d.now=lim.count∧e=ap (a0 #[O U (d.now:Int),fR 5])∧aX h S u lim d∧Mod [h.c] w u)∨
 (d.now < lim.count∧e=ap (a0 #[O U ((d.now:Int)+1),aB])∧aX h S u lim {d with now:=d.now+1}∧Mod [h.c] w u)
theorem BY(a:aX h S w lim d):
  ao aj 79 #[aa h.c] w (z8 h S lim d w):=by
 have k:=a.fK.cell 0 rfl;have c1:=a.fK.cell 1 rfl;have l:=a.fK.free 0 J;have m:=a.lim.count;have n:=a.now;have g:=N fun (u:ad) (c:Y w u)=>a.I c;by_cases b:d.now=lim.count
 ·have j: ((d.now:Int)==(lim.count:Int))=true:=by rw [b];simp
  have i:=N b;clear a b;go_enter Tryz.func79,Tryz.ntmps79;go_wp2_with fail;go_big_quiet (fail);go_wp2_with fail;go_ret2;exact .inl ⟨i.out,rfl,g.out _ (bz),Y.mod (bz) _⟩
 ·have j: ((d.now:Int)==(lim.count:Int))=false:=by rw [ey];omega
  have e:d.now < lim.count:=K;have f:=N fun (u:ad) (c:Y w u)=>(a.I c).B3 e;clear a b;go_enter Tryz.func79,Tryz.ntmps79;go_wp2_with fail;go_big_quiet (fail);go_wp2_with fail;go_ret2;exact .inr ⟨e,rfl,f.out _ (bz),(Y.mod (bz) _).trans (Mod.setCell _ _ _ J)⟩
theorem xB(a:aX h S w lim d):
  ao aj 97 #[aa h.c,O U 0] w fun e u=>e=ap (ah true)∧w=u:=by
 have Q:=a.fK.cell 2 rfl;have c:=a.lim.cO.1;have b:Hid (decide (0 < lim.cO)=true):=N cJ;clear a c;go_enter Tryz.func97,Tryz.ntmps97;go_wp2_with fail;go_ret;exact ⟨by show Ending.returned (ah (decide (0 < lim.cO)))=_;rw [b.out],rfl⟩
theorem xt(o:Option Nat):hD o 0=o.map fun (n:Nat)=>Value.int U (n:Int):=by unfold hD;rw[a9 rfl]
theorem EA(o:Option Nat): ∀ k,(hD o k).isSome=true→(0:Int)≤k∧k < 0+(1:Nat):=fun k a=>by
 unfold hD at a;split at a
 ·omega
 ·cases a
theorem EB(n:Nat):jw (hD V) 0 (Z (O U (n:Int)))=hD (Z n):=by
 funext x;unfold jw hD;split <;> rfl
theorem Ez(o:Option Nat):jw (hD o) 0 V=hD none:=by
 funext x;unfold jw hD;split <;> rfl
theorem qZ(a:w.mapTurned u b):Mod [b] w u:=HG a J
theorem C7(a:aX h S w lim d)(c:d.ins=V)(n:Nat)(q:1≤n)(r:n≤d.now):
  ao aj 80 #[aa h.c,O U 0,(n:Int)] w fun e u=>e=ap aB∧aX h S u lim {d with ins:=Z n}∧Mod [h.i] w u:=by
 have m:=N (xB a);have o:=a.fK.cell 0 rfl;have p:=a.fK.cell 3 rfl;have b:=a.ins;have i:=b.look jA pH (ts w) (k:=0) bP;rw [xt,c] at i;simp only [rI,Option.getD_none,Option.isSome_none] at i;obtain ⟨v,t,f,g⟩:=b.put jA (EA _) c4 pH (k:=0) bP (O U (n:Int));rw [c,EB] at f;have l:=N (a.inside (Z n) (qZ g) f);have j:=N (qZ g);have s:decide ((n:Int) < 1)=false:=cJ;clear a b f g c;go_enter Tryz.func80,Tryz.ntmps80;go_wp2_with (go_at_call 97;(with_reducible refine m.out.mono ?_);rintro e u ⟨rfl,rfl⟩);go_ret;exact ⟨rfl,l.out,j.out⟩
theorem EW(a:aX h S w lim d)(b:d.ins.isSome=true):
  ao aj 152 #[aa h.c,O U 0] w fun e u=>e=ap aB∧aX h S u lim {d with ins:=V}∧Mod [h.i] w u:=by
 obtain⟨n,b⟩:=pC.1 b;have m:=N (xB a);have o:=a.fK.cell 3 rfl;have c:=a.ins;have i:=c.look jA pH (ts w) (k:=0) bP;rw[xt,b]at i;simp only[iz,kF,Option.isSome_some]at i;obtain⟨q,p,f,g⟩:=c.del jA pH (k:=0) bP 0;rw[Ez]at f;have l:=N (a.inside V (qZ g) f);have j:=N (qZ g);clear a c f g b;go_enter Tryz.func152,Tryz.ntmps152;go_wp2_with(go_at_call 97;(with_reducible refine m.out.mono ?_);rintro e u ⟨rfl,rfl⟩);go_ret;exact⟨rfl,l.out,j.out⟩
end
end
end Go.Proofs.YtbkmjhhpcinppaaGreatDoor
