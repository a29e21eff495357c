import Derived.Test.YtbkmjhhpcinppaaGreatDoorQ17
namespace Go.Proofs.YtbkmjhhpcinppaaGreatDoor
set_option linter.unusedVariables false
set_option linter.defProp false
set_option linter.unusedSimpArgs false
set_option maxRecDepth 100000
set_option maxHeartbeats 40000000
open Go.BigFrame Go.RowKit Go.WideShapes
open Ending renaming returned→ap
open Go renaming Addr→ai,Calls→ao,Value→ak,World→ad
open Go.Proofs.Tryz renaming prog→aj
open IntKind renaming i64→U
open Obj renaming cells→X
open Option renaming none→V,some→Z
open Value renaming agg→aw,bool→ah,int→O,nilIface→aB,pointer→au,slice→ac
open World renaming alloc→H,setCells→ba
variable {B0 N₀ f aU E u h n F t d p : Nat} {aD : aV} {aH : az} {S aJ : List Nat} {aE r : aA} {aF : List ak} {lim : aK} {aN P w m : Option ai} {rs : List aA} {c s : ad} {y : ar} {B : List ar}
abbrev dE (r:aA):Int×Int:=((r.i:Int)+1,(r.g:Int))
structure eA (B0:Nat) (S:List Nat) (c:ad) (f:Nat) (aF:List ak) (w:Option ai) (t u:Nat) (B:List ar) (m:Option ai) (d h:Nat) (rs:List aA):Prop where
 box:ae c f aF
 e2:f∈S
 hP:B0≤f
 hW:bi (eK (ay c S)) 15 85 c B0 w t u B
 io:bi fG 2 78 c B0 m d h (rs.map dE)
 iv: ∀ g∈bg w t u,g∈S∧g≠f
 hc: ∀ g∈bg m d h,g∈S∧g≠f∧g∉bg w t u
section
theorem eA.nC(a:eA B0 S c f aF w t u B m d h rs): ∀ g∈bg w t u,B0≤g∧g < c.heap.size:=fun g b=>a.hW.lt g (c9.1 b)
theorem eA.nD(a:eA B0 S c f aF w t u B m d h rs): ∀ g∈bg m d h,B0≤g∧g < c.heap.size:=fun g b=>a.io.lt g (c9.1 b)
theorem eA.to(a:eA B0 S c f aF w t u B m d h rs)(i: ∀ b∈S,B0≤b→s.heap[b]?=c.heap[b]?)(j: ∀ b∈S,b∈aJ)(k:fq S c aJ s):eA B0 aJ s f aF w t u B m d h rs:=
 ⟨a.box.block (i _ a.e2 a.hP),j _ a.e2,a.hP,a.hW.to (fun g e=>i g (a.iv g e).1 (a.nC g e).1) fun x l q=>eK.ex q k,a.io.to (fun g e=>i g (a.hc g e).1 (a.nD g e).1) fun x l q=>q,fun g e=>⟨j g (a.iv g e).1,(a.iv g e).2⟩,fun g e=>⟨j g (a.hc g e).1,(a.hc g e).2⟩⟩
theorem eA.I(e:eA B0 S c f aF w t u B m d h rs)(g: ∀ b∈S,b < c.heap.size)(a:Y c s):eA B0 S s f aF w t u B m d h rs:=e.to (fun b i _=>a.block b (g b i)) (fun _ q=>q) (a.aL fun _ q=> .inl q)
theorem eA.set(a:eA B0 S c f aF w t u B m d h rs)(o:Nat)(j:List ak){k:List ak}(l:ae (ba c f o j) f k):eA B0 S (ba c f o j) f k w t u B m d h rs:=by
 have i:Mod [f] c (ba c f o j):=Mod.setCells J _ _ _;refine⟨l,a.e2,a.hP,a.hW.to (fun g e=>i.block g (a.nC g e).2 (by simpa using(a.iv g e).2)) fun x p q=>eK.ex q (i.aL (by intro b n;rw[aO.1 n];exact a.e2) fun _ q=> .inl q),a.io.to (fun g e=>i.block g (a.nD g e).2 (by simpa using(a.hc g e).2.1)) fun x p q=>q,a.iv,a.hc⟩
theorem eA.wrote(a:eA B0 S c f aF w t u B m d h rs)(o: ∀ b∈S,b < c.heap.size)(i:Mod [f] c s){j:List ak}(k:ae s f j):eA B0 S s f j w t u B m d h rs:=
 ⟨k,a.e2,a.hP,a.hW.to (fun g e=>i.block g (a.nC g e).2 (by simpa using(a.iv g e).2)) fun x n q=>eK.ex q (i.aL (by intro b l;rw[aO.1 l];exact a.e2) fun _ q=> .inl q),a.io.to (fun g e=>i.block g (a.nD g e).2 (by simpa using(a.hc g e).2.1)) fun x n q=>q,a.iv,a.hc⟩
theorem eA.vu(i:eA B0 S c f aF w t u B m d h rs){e:Option ai}{b a:Nat}{p:List ar}{j:dK ar}{k:List Nat}(o:bi j 15 85 s B0 e b a p)(l:c.grownBy s (Value.ownBlock (ac w t u)))(n:Value.ownBlock (ac e b a)=Value.ownBlock (ac w t u)∨Value.ownBlock (ac e b a)=Z c.heap.size):
  bn k B0 S c (bg e b a++S) s:=mw l (fun g q=>⟨(i.iv g (c9.2 q)).1,(i.nC g (c9.2 q)).1⟩) n fun g q=>(o.lt g q).2
theorem eA.vv(i:eA B0 S c f aF w t u B m d h rs){e:Option ai}{b a:Nat}{p:List (Int×Int)}{j:dK (Int×Int)}{k:List Nat}(o:bi j 2 78 s B0 e b a p)(l:c.grownBy s (Value.ownBlock (ac m d h)))(n:Value.ownBlock (ac e b a)=Value.ownBlock (ac m d h)∨Value.ownBlock (ac e b a)=Z c.heap.size):
  bn k B0 S c (bg e b a++S) s:=mw l (fun g q=>⟨(i.hc g (c9.2 q)).1,(i.nD g (c9.2 q)).1⟩) n fun g q=>(o.lt g q).2
theorem eA.oE(a:eA B0 S c f aF w t u B m d h rs)(n: ∀ b∈S,b < c.heap.size){l:Option ai}{k j:Nat}{z:List ar}(y:bi (eK (ay c S)) 15 85 s B0 l k j z)(r:c.grownBy s (Value.ownBlock (ac w t u)))(v:Value.ownBlock (ac l k j)=Value.ownBlock (ac w t u)∨Value.ownBlock (ac l k j)=Z c.heap.size):
  eA B0 (bg l k j++S) s f aF l k j z m d h rs:=by
 have A:bn [] B0 S c (bg l k j++S) s:=a.vu y r v;have o: ∀ b,b < c.heap.size→b∉bg w t u→s.heap[b]?=c.heap[b]?:=fun b C D=>r.block b C fun e=>D (c9.2 e.symm);have p: ∀ g∈bg l k j,g∈bg w t u∨g=c.heap.size:=fun g q=>by
  have q:=c9.1 q;rcases v with i|i
  ·rw [i] at q;exact .inl (c9.2 q)
  ·rw [i] at q;exact .inr (fo q).symm
 refine ⟨a.box.block (o _ (n _ a.e2) fun q=>(a.iv _ q).2 rfl),hk _ a.e2,a.hP,y.to (fun _ _=>rfl) fun x E q=>eK.ex q A.aL,a.io.to (fun g q=>o g (a.nD g q).2 (a.hc g q).2.2) fun x E q=>q,fun g q=>⟨iW _ q,fun e=>?_⟩,fun g q=>⟨hk _ (a.hc g q).1,(a.hc g q).2.1,fun i=>?_⟩⟩
 ·rcases p g q with i|i
  ·exact (a.iv g i).2 e
  ·have:=n _ a.e2;omega
 ·rcases p g i with i|i
  ·exact (a.hc g q).2.2 i
  ·have:=(a.nD g q).2;omega
theorem eA.oF(a:eA B0 S c f aF w t u B m d h rs)(n: ∀ b∈S,b < c.heap.size){l:Option ai}{k j:Nat}{C:List aA}(y:bi fG 2 78 s B0 l k j (C.map dE))(r:c.grownBy s (Value.ownBlock (ac m d h)))(v:Value.ownBlock (ac l k j)=Value.ownBlock (ac m d h)∨Value.ownBlock (ac l k j)=Z c.heap.size):
  eA B0 (bg l k j++S) s f aF w t u B l k j C:=by
 have D:bn [] B0 S c (bg l k j++S) s:=a.vv y r v;have o: ∀ b,b < c.heap.size→b∉bg m d h→s.heap[b]?=c.heap[b]?:=fun b E F=>r.block b E fun e=>F (c9.2 e.symm);have p: ∀ g∈bg l k j,g∈bg m d h∨g=c.heap.size:=fun g q=>by
  have q:=c9.1 q;rcases v with i|i
  ·rw [i] at q;exact .inl (c9.2 q)
  ·rw [i] at q;exact .inr (fo q).symm
 have z: ∀ g∈bg w t u,g∉bg m d h:=fun g q i=>(a.hc g i).2.2 q;refine ⟨a.box.block (o _ (n _ a.e2) fun q=>(a.hc _ q).2.1 rfl),hk _ a.e2,a.hP,a.hW.to (fun g q=>o g (a.nC g q).2 (z g q)) fun x G q=>eK.ex q D.aL,y,fun g q=>⟨hk _ (a.iv g q).1,(a.iv g q).2⟩,fun g q=>⟨iW _ q,fun e=>?_,fun i=>?_⟩⟩
 ·rcases p g q with i|i
  ·exact (a.hc g i).2.1 e
  ·have:=n _ a.e2;omega
 ·rcases p g q with A|A
  ·exact z g i A
  ·have:=(a.nC g i).2;omega
end
def gZ (B0:Nat) (S:List Nat) (c:ad) (f:Nat) (p:Nat) (aE:aA) (a:Option aA) (b:Bool) (B:List ar) (rs:List aA):Prop:=
 ∃ w t u m d h,eA B0 S c f (gB p true b ((aE.i:Int)+1) (aE.g:Int) (a4 a).1 (a4 a).2 w t u m d h aB) w t u B m d h rs
theorem gZ.to{e:Option aA}{g:Bool}(a:gZ B0 S c f p aE e g B rs)(i: ∀ b∈S,B0≤b→s.heap[b]?=c.heap[b]?)(k: ∀ b∈S,b∈aJ)(j:fq S c aJ s):gZ B0 aJ s f p aE e g B rs:=by
 obtain⟨w,t,u,m,d,h,a⟩:=a;exact⟨w,t,u,m,d,h,a.to i k j⟩
theorem gZ.first(d:f∈S)(b:B0≤f)(aY:ae c f (gB p true false ((aE.i:Int)+1) (aE.g:Int) ((aE.i:Int)+1) (aE.g:Int) V 0 0 V 0 0 aB)):gZ B0 S c f p aE (Z aE) false [] []:=
 ⟨V,0,0,V,0,0,aY,d,b,bi.nil _ _ _ _ _,bi.nil _ _ _ _ _,fun g a=>(by cases a),fun g a=>(by cases a)⟩
theorem mD{h:ad}{d:Option ai}{f a:Nat}{e:Option ai}{g c:Nat}(j:b3 h y d f a e g c){i:ad}{b:Nat}(k:i.rangeAt b 0 (an y.x d f a e g c))(r:Option Nat)(m:r≠Z b):bo (eK h) 15 (eb i r) (Z ⟨b,0,V⟩) 1 1 [y]:=
 bo.one bP (aG _) c4 rfl (zS _ _ _ _ _ _ _) ⟨d,f,a,e,g,c,rfl,j⟩ fun n o l=>hT.2 ⟨m,k n o l⟩
theorem mC{d:ad}{b:Nat}(e:d.rangeAt b 0 [O U ((r.i:Int)+1),(r.g:Int)])(q:Option Nat)(g:q≠Z b):bo fG 2 (eb d q) (Z ⟨b,0,V⟩) 1 1 [dE r]:=
 bo.one bP (aG _) c4 rfl (by intro c a;simp at a;rcases a with rfl|rfl <;> rfl) rfl fun h c f=>hT.2 ⟨g,e h c f⟩
section
variable {a1 : Program} {aW : Array Oper} {a2 : Exit → Act → ad → Prop} {a3 : Region.Mode} {aY C T : ad → Prop} {aZ : List Nat} {l : Nat}
theorem zM{j j':Nat}{o o':Oper}{ca:Nat}{d:Array Bool}{a:Act}(r:aW[j]?=Z o)(s:aW[j']?=Z o')(m:Region.ready a3 aW d=[j,j'])(p:oL aZ l (d.setIfInBounds j true)=true)(q:oL aZ l (d.setIfInBounds j' true)=true)
  (e: ∀ b:Act→ad→Prop,Shut (∀ a c,aY c→C c→dy a1 a3 aW a2 (gL aY C aZ l) ca (d.setIfInBounds j true) a c→b a c)→if Region.wanted o (yielded aW a.tmps)=true then Oper.wp a1 o a c b a2 else b (a.put o.dst undef) c)
  (n: ∀ b:Act→ad→Prop,Shut (∀ a c,aY c→C c→dy a1 a3 aW a2 (gL aY C aZ l) ca (d.setIfInBounds j' true) a c→b a c)→if Region.wanted o' (yielded aW a.tmps)=true then Oper.wp a1 o' a c b a2 else b (a.put o'.dst undef) c):
  dy a1 a3 aW a2 (gL aY C aZ l) (ca+1) d a c:=by
 refine⟨fun e=>(by rw[e]at m;cases m),fun t k=>?_⟩;rw[m]at k;simp only[bd,c0,db]at k;rcases k with rfl|rfl
 ·exact l9 r fun b h=>e b fun a c f g i=>h a c ⟨qe f g p,i⟩
 ·exact l9 s fun b h=>n b fun a c f g i=>h a c ⟨qe f g q,i⟩
end
structure gr (aD:aV) (B0:Nat) (aR:List Nat) (aS:ad) (lim:aK) (aH:az) (f aI:Nat) (y:ar) (ab:Option ai) (Q aM:Nat) (ag:Option ai) (W ax:Nat) (aF:List ak) (S:List Nat) (am:ad) (w:Option ai) (t u:Nat) (B:List ar) (m:Option ai) (d h:Nat) (rs:List aA):Prop where
 L:eA B0 S am f aF w t u B m d h rs
 mem:aX aD S am lim aH
 av:bn aD.l B0 aR aS S am
 dN:ae am aI (an y.x ab Q aM ag W ax)
 j1:aI∉S
 aL:b3 (ay am S) y ab Q aM ag W ax
section
variable {aR : List Nat} {aS : ad} {aI : Nat} {ab : Option ai} {Q aM : Nat} {ag : Option ai} {W ax : Nat} {am aT : ad} 
theorem gr.aC(a:gr aD B0 aR aS lim aH f aI y ab Q aM ag W ax aF S am w t u B m d h rs)(b:Y am aT):gr aD B0 aR aS lim aH f aI y ab Q aM ag W ax aF S aT w t u B m d h rs:=
 ⟨a.L.I a.mem.old b,a.mem.I b,a.av.trans b.av,a.dN.I b,a.j1,a.aL.ex (bX b S)⟩
theorem gr.oE(a:gr aD B0 aR aS lim aH f aI y ab Q aM ag W ax aF S am w t u B m d h rs)(v: ∀ b∈aD.l,b < B0){j:Option ai}{i g:Nat}{r:List ar}(p:bi (eK (ay am S)) 15 85 aT B0 j i g r)(l:am.grownBy aT (Value.ownBlock (ac w t u)))(n:Value.ownBlock (ac j i g)=Value.ownBlock (ac w t u)∨Value.ownBlock (ac j i g)=Z am.heap.size):
  gr aD B0 aR aS lim aH f aI y ab Q aM ag W ax aF (bg j i g++S) aT j i g r m d h rs:=by
 have k: ∀ o:List Nat,bn o B0 S am (bg j i g++S) aT:=fun o=>a.L.vu p l n;have s:=a.dN.lt J;refine ⟨a.L.oE a.mem.old p l n,a.mem.av (k []) fun b x=>⟨J,v b x⟩,a.av.trans (k _),a.dN.block (l.block _ s fun e=>a.j1 (a.L.iv _ (c9.2 e.symm)).1),fun q=>?_,a.aL.ex (k []).aL⟩;rcases cu.1 q with c|c
 ·have c:=c9.1 c;rcases n with e|e
  ·rw [e] at c;exact a.j1 (a.L.iv _ (c9.2 c)).1
  ·rw [e] at c;simp only [eS] at c;omega
 ·exact a.j1 c
theorem gr.oF(a:gr aD B0 aR aS lim aH f aI y ab Q aM ag W ax aF S am w t u B m d h rs)(v: ∀ b∈aD.l,b < B0){j:Option ai}{i g:Nat}{r:List aA}(p:bi fG 2 78 aT B0 j i g (r.map dE))(l:am.grownBy aT (Value.ownBlock (ac m d h)))(n:Value.ownBlock (ac j i g)=Value.ownBlock (ac m d h)∨Value.ownBlock (ac j i g)=Z am.heap.size):
  gr aD B0 aR aS lim aH f aI y ab Q aM ag W ax aF (bg j i g++S) aT w t u B j i g r:=by
 have k: ∀ o:List Nat,bn o B0 S am (bg j i g++S) aT:=fun o=>a.L.vv p l n;have s:=a.dN.lt J;refine ⟨a.L.oF a.mem.old p l n,a.mem.av (k []) fun b x=>⟨J,v b x⟩,a.av.trans (k _),a.dN.block (l.block _ s fun e=>a.j1 (a.L.hc _ (c9.2 e.symm)).1),fun q=>?_,a.aL.ex (k []).aL⟩;rcases cu.1 q with c|c
 ·have c:=c9.1 c;rcases n with e|e
  ·rw [e] at c;exact a.j1 (a.L.hc _ (c9.2 c)).1
  ·rw [e] at c;simp only [eS] at c;omega
 ·exact a.j1 c
theorem gr.set(a:gr aD B0 aR aS lim aH f aI y ab Q aM ag W ax aF S am w t u B m d h rs)(l: ∀ b∈aD.l,b < B0)(c:Nat)(e:ak):gr aD B0 aR aS lim aH f aI y ab Q aM ag W ax (aF.set c e) S (am.setCell ⟨f,c,V⟩ e) w t u B m d h rs:=by
 have k:Mod [f] am (am.setCell ⟨f,c,V⟩ e):=Mod.setCell _ _ _ J;have g: ∀ j:List Nat,bn j B0 S am S (am.setCell ⟨f,c,V⟩ e):=fun j=>k.av fun b i=>by rw[aO.1 i];exact⟨a.L.e2,.inr a.L.hP⟩
 exact⟨a.L.set c [e] (a.L.box.set c e),a.mem.av (g []) fun b i=>⟨J,l b i⟩,a.av.trans (g _),k.box (fun q=>a.j1 (by rw[aO.1 q];exact a.L.e2)) a.dN,a.j1,a.aL.ex (g []).aL⟩
theorem gr.GP(a:gr aD B0 aR aS lim aH f aI y ab Q aM ag W ax aF S am w t u B m d h rs)(n: ∀ b∈aD.l,b < B0)(e:Nat)(g:List ak){l:List ak}(c:ae (ba am f e g) f l):gr aD B0 aR aS lim aH f aI y ab Q aM ag W ax l S (ba am f e g) w t u B m d h rs:=by
 have k:Mod [f] am (ba am f e g):=Mod.setCells J _ _ _;have i: ∀ j:List Nat,bn j B0 S am S (ba am f e g):=fun j=>k.av fun b c=>by rw[aO.1 c];exact⟨a.L.e2,.inr a.L.hP⟩
 exact⟨a.L.set e g c,a.mem.av (i []) fun b c=>⟨J,n b c⟩,a.av.trans (i _),k.box (fun q=>a.j1 (by rw[aO.1 q];exact a.L.e2)) a.dN,a.j1,a.aL.ex (i []).aL⟩
theorem gr.hV{p a b x1 j:Int}{i e:Nat}(k:gr aD B0 aR aS lim aH f aI y ab Q aM ag W ax (gB p true false a b x1 j aN i e P F E aB) S am w t u B m d h rs):am.rangeAt f 5 [O U x1,j,ac aN i e,ac P F E]:=fun c n g=>by
 have:=k.L.box.aM (5+c) n (by
  have l:=(c3.1 g).1;simp at l;rcases c with _|_|_|_|c
  all_goals first|exact g|omega)
 rwa[cv]at this
end
section
theorem E6(a:aX aD S c lim aH):
  ao aj 104 #[aa aD.m] c fun e s=>e=ap (aw #[O U (lim.aQ:Int),(lim.ax:Int),(lim.cO:Int),(lim.rows:Int),(lim.chain:Int),(lim.count:Int)])∧Y c s:=qU a
theorem E5(lim:aK)(c:ad): (Instr.field 23 (aw #[O U (lim.aQ:Int),(lim.ax:Int),(lim.cO:Int),(lim.rows:Int),(lim.chain:Int),(lim.count:Int)]) 0).run aj c= .ok (O U (lim.aQ:Int)) c:=by kernel_rfl
def Aw (aD:aV) (B0:Nat) (S:List Nat) (lim:aK) (aH:az) (c:ad) (f p:Nat) (aE:aA) (nx:Option aA) (B:List ar) (rs:List aA) (e:Ending) (s:ad):Prop:=
 e=ap (ah nx.isNone)∧∃ aJ,gZ B0 aJ s f p aE nx nx.isNone B rs∧aX aD aJ s lim aH∧bn aD.l B0 S c aJ s
theorem ri{nx:Option aA}(g:aX aD S c lim aH)(bp: ∀ b∈aD.l,b < B0)(aK:gZ B0 S c f p aE (Z r) false B rs)(bU:Live aH r y)(bS:bT y)(bc: (y.x.slot,y.x.gen)=a4 nx)(bw:B.length=rs.length)(b6:rs.length < 1000)(bV:nx=V∨rs.length+1 < lim.aQ):
  ao aj 100 #[aa f,aa aD.m] c (Aw aD B0 S lim aH c f p aE nx (B++[y]) (rs++[r])):=by
 obtain ⟨w,t,u,m,d,h,aK⟩:=aK;have bg:=N (yf aK.box);have bf:=N (xR g bU bS);have aM:=aK.box.cell 1 rfl;have bP:c.cell? ⟨f,5,V⟩=Z (O U ((r.i:Int)+1)):=aK.box.cell 5 rfl;have bQ:c.cell? ⟨f,6,V⟩=Z (O U (r.g:Int)):=aK.box.cell 6 rfl;have bC:t=B.length:=aK.hW.len.symm;have bW:d=rs.length:=by rw [←aK.io.len,fM]
 have b8:t≤1000:=K;have cb:d≤1000:=K;have bN:=N bC;have bL:=N bw;clear bC bW bw;have bH:=N aK;have av:=N bp;have bK:=N g;clear g aK bp;go_enter Tryz.func100,Tryz.ntmps100;go_wp2_with (first|(go_at_call 114;(with_reducible refine bg.out.mono ?_);rintro e s ⟨rfl,rfl⟩));with_reducible refine bf.out.mono ?_
 rintro e ar ⟨ab,Q,M,ag,W,ax,rfl,br,aZ,bb⟩;have be:=(ae.new ar al.toArray 85 rfl).aR (us:=an y.x ab Q M ag W ax) rfl;have a2:Y ar ((H ar (X al 85)).setCells ar 0 (an y.x ab Q M ag W ax)):=((Y.refl ar).alloc _).setCells (aG _) _ _;have a9:bn aD.l B0 S c S ar:=bb.av fun b aS=>by rw [aO.1 aS];exact ⟨aZ.sub _ J,.inl J⟩
 have bh:eA B0 S ar f (gB p true false ((aE.i:Int)+1) (aE.g:Int) (a4 (Z r)).1 (a4 (Z r)).2 w t u m d h aB) w t u B m d h rs:=bH.out.to (fun b aS b4=>bb.block b (bK.out.old b aS) (fun q=>by rw [aO] at q;have:=av.out aD.m J;omega)) (fun _ q=>q) a9.aL;have A:gr aD B0 S c lim aH f ar y ab Q M ag W ax (gB p true false ((aE.i:Int)+1) (aE.g:Int) (a4 (Z r)).1 (a4 (Z r)).2 w t u m d h aB) S ((H ar (X al 85)).setCells ar 0 (an y.x ab Q M ag W ax)) w t u B m d h rs:=
  ⟨bh.I aZ.old a2,aZ.I a2,a9.trans a2.av,be,fun q=>absurd (aZ.old _ q) (dk _),br.ex (bX a2 S)⟩
 clear br aZ bb be a2 a9 bh aM bP bQ bg bf;have bl:ae (H ar (X al 85)) ar.heap.size al:=(ae.new ar _ _ rfl).of J;go_upto_region 12 with (with_reducible refine bq 85 (bl) ((an y.x ab Q M ag W ax)) ?_)
 clear bl;generalize (H ar (X al 85)).setCells ar 0 (an y.x ab Q M ag W ax)=bk at *;generalize ar.heap.size=aI at *;have bI:=N A;clear A;go_upto_region 14 with fail
 go_cut [] (fun b1=> ∃ aJ L F aC az,gr aD B0 S c lim aH f aI y ab Q M ag W ax (gB p true false ((aE.i:Int)+1) (aE.g:Int) (a4 (Z r)).1 (a4 (Z r)).2 L (t+1) F aC (d+1) az aB) aJ b1 L (t+1) F (B++[y]) aC (d+1) az (rs++[r]))
 case first=>
  refine zQ (fun s=>s.rangeAt aI 0 (an y.x ab Q M ag W ax)) (fun s=>s.rangeAt f 5 [O U ((r.i:Int)+1),(r.g:Int),ac w t u,ac m d h]) [5,12,16] 21 G ?_;have R:=bI.out.aC (Y.refl bk).drew;generalize bk.drew=ay at *;have n:=R.dN.aM;have hKC:=R.hV;refine' eF (k:=0) (ok:=⟨Z 63,_,_,_,_,_⟩) (v:=aa f) rfl G G G G (fun _ _ _ g=>g) (T:=fun _=>True) (fun _ _ _=>trivial) (.inl ⟨aq,?_⟩) n hKC ?_
  ·(intro c I;go_simp)
  (try simp only [bu]);refine' eF (k:=1) (ok:=⟨Z 64,_,_,_,_,_⟩) (v:=aa f) rfl G G G G (fun _ _ _ g=>g) (T:=fun _=>True) (fun _ _ _=>trivial) (.inl ⟨aq,?_⟩) n hKC ?_
  ·(intro c I;go_simp)
  (try simp only [bu]);refine' eF (k:=2) (ok:=⟨Z 65,_,_,_,_,_⟩) (v:=aa f) rfl G G G G (fun _ _ _ g=>g) (T:=fun _=>True) (fun _ _ _=>trivial) (.inl ⟨aq,?_⟩) n hKC ?_
  ·(intro c I;go_simp)
  (try simp only [bu]);refine' eF (k:=3) (ok:=⟨Z 66,_,_,_,_,_⟩) (v:=aa f) rfl G G G G (fun _ _ _ g=>g) (T:=fun _=>True) (fun _ _ _=>trivial) (.inl ⟨aq,?_⟩) n hKC ?_
  ·(intro c I;go_simp)
  (try simp only [bu]);refine' eF (k:=4) (ok:=⟨Z 67,_,_,_,_,_⟩) (v:=au (Z ⟨f,7,V⟩)) rfl G G G G (fun _ _ _ g=>g) (T:=fun _=>True) (fun _ _ _=>trivial) (.inl ⟨aq,?_⟩) n hKC ?_
  ·(intro c I;go_simp)
  (try simp only [bu]);refine' eF (k:=5) (ok:=⟨Z 68,_,_,_,_,_⟩) (v:=ac w t u) rfl G G G G (fun _ _ _ g=>g) (T:=fun s=>s.cell? ⟨f,7,V⟩=Z (ac w t u)) (fun s _ g=>by have:=g J 2 _ rfl;simpa using this) (.inl ⟨aq,?_⟩) n hKC ?_
  ·(intro c I;go_simp)
  (try simp only [bu]);refine' eF (k:=6) (ok:=⟨Z 69,_,_,_,_,_⟩) (v:=_) rfl G G G G (fun _ _ _ g=>g) (T:=fun s=>s.rangeAt aI 0 (an y.x ab Q M ag W ax)) (fun _ g _=>g) (cj aq _ _ rfl _ _ rfl _ _ (fun c g=>g) cG rfl G) n hKC ?_;(try simp only [bu]);refine' eF (k:=9) (ok:=⟨Z 72,_,_,_,_,_⟩) (v:=aa f) rfl G G G G (fun _ _ _ g=>g) (T:=fun _=>True) (fun _ _ _=>trivial) (.inl ⟨aq,?_⟩) n hKC ?_
  ·(intro c I;go_simp)
  (try simp only [bu]);refine' eF (k:=10) (ok:=⟨Z 73,_,_,_,_,_⟩) (v:=aa f) rfl G G G G (fun _ _ _ g=>g) (T:=fun _=>True) (fun _ _ _=>trivial) (.inl ⟨aq,?_⟩) n hKC ?_
  ·(intro c I;go_simp)
  (try simp only [bu]);refine' eF (k:=11) (ok:=⟨Z 74,_,_,_,_,_⟩) (v:=au (Z ⟨f,8,V⟩)) rfl G G G G (fun _ _ _ g=>g) (T:=fun _=>True) (fun _ _ _=>trivial) (.inl ⟨aq,?_⟩) n hKC ?_
  ·(intro c I;go_simp)
  (try simp only [bu]);refine' eF (k:=12) (ok:=⟨Z 75,_,_,_,_,_⟩) (v:=ac m d h) rfl G G G G (fun _ _ _ g=>g) (T:=fun s=>s.cell? ⟨f,8,V⟩=Z (ac m d h)) (fun s _ g=>by have:=g J 3 _ rfl;simpa using this) (.inl ⟨aq,?_⟩) n hKC ?_
  ·(intro c I;go_simp)
  (try simp only [bu]);refine' eF (k:=13) (ok:=⟨Z 76,_,_,_,_,_⟩) (v:=aa f) rfl G G G G (fun _ _ _ g=>g) (T:=fun _=>True) (fun _ _ _=>trivial) (.inl ⟨aq,?_⟩) n hKC ?_
  ·(intro c I;go_simp)
  (try simp only [bu]);refine' eF (k:=14) (ok:=⟨Z 77,_,_,_,_,_⟩) (v:=aa f) rfl G G G G (fun _ _ _ g=>g) (T:=fun _=>True) (fun _ _ _=>trivial) (.inl ⟨aq,?_⟩) n hKC ?_
  ·(intro c I;go_simp)
  (try simp only [bu]);refine' eF (k:=15) (ok:=⟨Z 78,_,_,_,_,_⟩) (v:=au (Z ⟨f,5,V⟩)) rfl G G G G (fun _ _ _ g=>g) (T:=fun _=>True) (fun _ _ _=>trivial) (.inl ⟨aq,?_⟩) n hKC ?_
  ·(intro c I;go_simp)
  (try simp only [bu]);refine' eF (k:=16) (ok:=⟨Z 79,_,_,_,_,_⟩) (v:=_) rfl G G G G (fun _ _ _ g=>g) (T:=fun s=>s.rangeAt f 5 [O U ((r.i:Int)+1),O U (r.g:Int)]) (fun s _ g=>fun j b0 bv=>g J j b0 (by rcases j with _|_|j <;> first|exact bv|cases bv)) (cj aq _ _ rfl _ _ rfl _ _ (fun c g=>g) dm rfl G) n hKC ?_;(try simp only [bu]);have aR:=R;clear R n hKC;refine zM (j:=7) (j':=17) (o:=⟨Z 70,_,_,_,_,_⟩) (o':=⟨Z 80,_,_,_,_,_⟩) rfl rfl G G G (fun i a=>?_) (fun i a=>?_)
  ·refine a6 aq ?_;go_simp;have a1:=(Y.refl ay).alloc (X (an y.x ab Q M ag W ax) 85);have aL:ae (H ay (X (an y.x ab Q M ag W ax) 85)) ay.heap.size (an y.x ab Q M ag W ax):=(ae.new ay _ _ rfl).of J;have a3:Value.ownBlock (ac w t u)≠Z ay.heap.size:=fun e=>dk _ (aR.L.hW.lt _ e).2;have E:=aR.aC a1;refine a5 a ((E.dN.aM)) ((E.hV)) ?_;clear a i;clear aR a1;generalize H ay (X (an y.x ab Q M ag W ax) 85)=am at *;generalize ay.heap.size=bO at *;refine zM (j:=8) (j':=17) (o:=⟨Z 71,_,_,_,_,_⟩) (o':=⟨Z 80,_,_,_,_,_⟩) rfl rfl G G G (fun i a=>?_) (fun i a=>?_)
   ·refine a6 aq ?_;refine gF (kY _) kA _ _ rfl (base:=B0) (fE (jB E.L.hP (E.L.box.lt J))) rfl E.L.hW rfl (mD E.aL aL.aM _ a3) c4 K ?_;intro L F aN C D P;have l:=E.oE av.out C D P;refine a5 a ((l.dN.aM)) ((l.hV)) ?_;clear a i;clear E C D P aL;refine lj (j:=17) (o:=⟨Z 80,_,_,_,_,_⟩) rfl G G (fun i a=>?_);refine a6 aq ?_;go_simp;have bt:=(Y.refl aN).alloc (X [O U ((r.i:Int)+1),(r.g:Int)].toArray 78);have aF:ae (H aN (X [O U ((r.i:Int)+1),(r.g:Int)].toArray 78)) aN.heap.size [O U ((r.i:Int)+1),(r.g:Int)]:=(ae.new aN _ _ rfl).of J;have aY:Value.ownBlock (ac m d h)≠Z aN.heap.size:=fun e=>dk _ (l.L.io.lt _ e).2;have z:=l.aC bt;refine a5 a ((z.dN.aM)) ((z.hV)) ?_;clear a i;clear l bt;generalize H aN (X [O U ((r.i:Int)+1),(r.g:Int)].toArray 78)=bi at *;generalize aN.heap.size=bm at *;refine lj (j:=18) (o:=⟨Z 81,_,_,_,_,_⟩) rfl G G (fun i a=>?_);refine a6 aq ?_;refine gF fb kC _ _ rfl (base:=B0) (fE (jB z.L.hP (z.L.box.lt J))) rfl z.L.io rfl (mC aF.aM _ aY) c4 K ?_;intro aC az aU C D P;rw [show rs.map dE++[dE r]=(rs++[r]).map dE by simp] at C;have x:=z.oF av.out C D P;refine a5 a ((x.dN.aM)) ((x.hV)) ?_;clear a i;clear z C D P aF;have n:=x.dN.aM;have hKC:=x.hV;refine' eF (k:=19) (ok:=⟨Z 82,_,_,_,_,_⟩) (v:=aa f) rfl G G G G (fun _ _ _ g=>g) (T:=fun _=>True) (fun _ _ _=>trivial) (.inl ⟨aq,?_⟩) n hKC ?_
    ·(intro c I;go_simp)
    (try simp only [bu]);refine' eF (k:=20) (ok:=⟨Z 83,_,_,_,_,_⟩) (v:=au (Z ⟨f,7,V⟩)) rfl G G G G (fun _ _ _ g=>g) (T:=fun _=>True) (fun _ _ _=>trivial) (.inl ⟨aq,?_⟩) n hKC ?_
    ·(intro c I;go_simp)
    (try simp only [bu]);refine iU (j:=21) (o:=⟨V,_,_,_,_,_⟩) rfl G G (fun i a=>?_);refine a6 aq ?_;have aT:=x.L.box.cell 7 rfl;have aW:=x.L.box.free 7 J;go_simp;have A:=x.set av.out 7 (ac L (t+1) F);refine bM a ((A.dN.aM)) ?_;clear a i;clear x aT aW n hKC;generalize aU.setCell ⟨f,7,V⟩ (ac L (t+1) F)=bj at *;refine iU (j:=22) (o:=⟨Z 84,_,_,_,_,_⟩) rfl G G (fun i a=>?_);refine a6 aq ?_;go_simp;refine bM a ((A.dN.aM)) ?_;clear a i;refine iU (j:=23) (o:=⟨Z 85,_,_,_,_,_⟩) rfl G G (fun i a=>?_);refine a6 aq ?_;go_simp;refine bM a ((A.dN.aM)) ?_;clear a i;refine iU (j:=24) (o:=⟨V,_,_,_,_,_⟩) rfl G G (fun i a=>?_);refine a6 aq ?_;have bF:=A.L.box.cell 8 rfl;have bo:=A.L.box.free 8 J;go_simp;have aQ:=A.set av.out 8 (ac aC (d+1) az);refine bM a ((aQ.dN.aM)) ?_;clear a i;refine ru G ?_;go_wp2_with fail;go_meet;exact ⟨_,L,F,aC,az,aQ⟩
   ·refine a6 aq ?_;go_simp;have aP:=(Y.refl am).alloc (X [O U ((r.i:Int)+1),(r.g:Int)].toArray 78);have aF:ae (H am (X [O U ((r.i:Int)+1),(r.g:Int)].toArray 78)) am.heap.size [O U ((r.i:Int)+1),(r.g:Int)]:=(ae.new am _ _ rfl).of J;have aY:Value.ownBlock (ac m d h)≠Z am.heap.size:=fun e=>dk _ (E.L.io.lt _ e).2;have a8:Value.ownBlock (ac w t u)≠Z am.heap.size:=fun e=>dk _ (E.L.hW.lt _ e).2;have aL:=aL.I aP;have l:=E.aC aP;refine a5 a ((l.dN.aM)) ((l.hV)) ?_;clear a i;clear E aP;generalize H am (X [O U ((r.i:Int)+1),(r.g:Int)].toArray 78)=aN at *;generalize am.heap.size=bm at *;refine lj (j:=8) (o:=⟨Z 71,_,_,_,_,_⟩) rfl G G (fun i a=>?_);refine a6 aq ?_;refine gF (kY _) kA _ _ rfl (base:=B0) (fE (jB l.L.hP (l.L.box.lt J))) rfl l.L.hW rfl (mD l.aL aL.aM _ a3) c4 K ?_;intro L F bi C D P;have aF:=ej D a8 aF;have z:=l.oE av.out C D P;refine a5 a ((z.dN.aM)) ((z.hV)) ?_;clear a i;clear l C D P aL;refine lj (j:=18) (o:=⟨Z 81,_,_,_,_,_⟩) rfl G G (fun i a=>?_);refine a6 aq ?_;refine gF fb kC _ _ rfl (base:=B0) (fE (jB z.L.hP (z.L.box.lt J))) rfl z.L.io rfl (mC aF.aM _ aY) c4 K ?_;intro aC az aU C D P;rw [show rs.map dE++[dE r]=(rs++[r]).map dE by simp] at C;have x:=z.oF av.out C D P;refine a5 a ((x.dN.aM)) ((x.hV)) ?_;clear a i;clear z C D P aF;have n:=x.dN.aM;have hKC:=x.hV;refine' eF (k:=19) (ok:=⟨Z 82,_,_,_,_,_⟩) (v:=aa f) rfl G G G G (fun _ _ _ g=>g) (T:=fun _=>True) (fun _ _ _=>trivial) (.inl ⟨aq,?_⟩) n hKC ?_
    ·(intro c I;go_simp)
    (try simp only [bu]);refine' eF (k:=20) (ok:=⟨Z 83,_,_,_,_,_⟩) (v:=au (Z ⟨f,7,V⟩)) rfl G G G G (fun _ _ _ g=>g) (T:=fun _=>True) (fun _ _ _=>trivial) (.inl ⟨aq,?_⟩) n hKC ?_
    ·(intro c I;go_simp)
    (try simp only [bu]);refine iU (j:=21) (o:=⟨V,_,_,_,_,_⟩) rfl G G (fun i a=>?_);refine a6 aq ?_;have aT:=x.L.box.cell 7 rfl;have aW:=x.L.box.free 7 J;go_simp;have A:=x.set av.out 7 (ac L (t+1) F);refine bM a ((A.dN.aM)) ?_;clear a i;clear x aT aW n hKC;generalize aU.setCell ⟨f,7,V⟩ (ac L (t+1) F)=bj at *;refine iU (j:=22) (o:=⟨Z 84,_,_,_,_,_⟩) rfl G G (fun i a=>?_);refine a6 aq ?_;go_simp;refine bM a ((A.dN.aM)) ?_;clear a i;refine iU (j:=23) (o:=⟨Z 85,_,_,_,_,_⟩) rfl G G (fun i a=>?_);refine a6 aq ?_;go_simp;refine bM a ((A.dN.aM)) ?_;clear a i;refine iU (j:=24) (o:=⟨V,_,_,_,_,_⟩) rfl G G (fun i a=>?_);refine a6 aq ?_;have bF:=A.L.box.cell 8 rfl;have bo:=A.L.box.free 8 J;go_simp;have aQ:=A.set av.out 8 (ac aC (d+1) az);refine bM a ((aQ.dN.aM)) ?_;clear a i;refine ru G ?_;go_wp2_with fail;go_meet;exact ⟨_,L,F,aC,az,aQ⟩
  ·refine a6 aq ?_;go_simp;have a1:=(Y.refl ay).alloc (X [O U ((r.i:Int)+1),(r.g:Int)].toArray 78);have aF:ae (H ay (X [O U ((r.i:Int)+1),(r.g:Int)].toArray 78)) ay.heap.size [O U ((r.i:Int)+1),(r.g:Int)]:=(ae.new ay _ _ rfl).of J;have aY:Value.ownBlock (ac m d h)≠Z ay.heap.size:=fun e=>dk _ (aR.L.io.lt _ e).2;have a8:Value.ownBlock (ac w t u)≠Z ay.heap.size:=fun e=>dk _ (aR.L.hW.lt _ e).2;have E:=aR.aC a1;refine a5 a ((E.dN.aM)) ((E.hV)) ?_;clear a i;clear aR a1;generalize H ay (X [O U ((r.i:Int)+1),(r.g:Int)].toArray 78)=am at *;generalize ay.heap.size=bm at *;refine lj (j:=7) (o:=⟨Z 70,_,_,_,_,_⟩) rfl G G (fun i a=>?_);refine a6 aq ?_;go_simp;have aP:=(Y.refl am).alloc (X (an y.x ab Q M ag W ax) 85);have aL:ae (H am (X (an y.x ab Q M ag W ax) 85)) am.heap.size (an y.x ab Q M ag W ax):=(ae.new am _ _ rfl).of J;have a3:Value.ownBlock (ac w t u)≠Z am.heap.size:=fun e=>dk _ (E.L.hW.lt _ e).2;have aF:=aF.I aP;have l:=E.aC aP;refine a5 a ((l.dN.aM)) ((l.hV)) ?_;clear a i;clear E aP;generalize H am (X (an y.x ab Q M ag W ax) 85)=aN at *;generalize am.heap.size=bO at *;refine lj (j:=8) (o:=⟨Z 71,_,_,_,_,_⟩) rfl G G (fun i a=>?_);refine a6 aq ?_;refine gF (kY _) kA _ _ rfl (base:=B0) (fE (jB l.L.hP (l.L.box.lt J))) rfl l.L.hW rfl (mD l.aL aL.aM _ a3) c4 K ?_;intro L F bi C D P;have aF:=ej D a8 aF;have z:=l.oE av.out C D P;refine a5 a ((z.dN.aM)) ((z.hV)) ?_;clear a i;clear l C D P aL;refine lj (j:=18) (o:=⟨Z 81,_,_,_,_,_⟩) rfl G G (fun i a=>?_);refine a6 aq ?_;refine gF fb kC _ _ rfl (base:=B0) (fE (jB z.L.hP (z.L.box.lt J))) rfl z.L.io rfl (mC aF.aM _ aY) c4 K ?_;intro aC az aU C D P;rw [show rs.map dE++[dE r]=(rs++[r]).map dE by simp] at C;have x:=z.oF av.out C D P;refine a5 a ((x.dN.aM)) ((x.hV)) ?_;clear a i;clear z C D P aF;have n:=x.dN.aM;have hKC:=x.hV;refine' eF (k:=19) (ok:=⟨Z 82,_,_,_,_,_⟩) (v:=aa f) rfl G G G G (fun _ _ _ g=>g) (T:=fun _=>True) (fun _ _ _=>trivial) (.inl ⟨aq,?_⟩) n hKC ?_
   ·(intro c I;go_simp)
   (try simp only [bu]);refine' eF (k:=20) (ok:=⟨Z 83,_,_,_,_,_⟩) (v:=au (Z ⟨f,7,V⟩)) rfl G G G G (fun _ _ _ g=>g) (T:=fun _=>True) (fun _ _ _=>trivial) (.inl ⟨aq,?_⟩) n hKC ?_
   ·(intro c I;go_simp)
   (try simp only [bu]);refine iU (j:=21) (o:=⟨V,_,_,_,_,_⟩) rfl G G (fun i a=>?_);refine a6 aq ?_;have aT:=x.L.box.cell 7 rfl;have aW:=x.L.box.free 7 J;go_simp;have A:=x.set av.out 7 (ac L (t+1) F);refine bM a ((A.dN.aM)) ?_;clear a i;clear x aT aW n hKC;generalize aU.setCell ⟨f,7,V⟩ (ac L (t+1) F)=bj at *;refine iU (j:=22) (o:=⟨Z 84,_,_,_,_,_⟩) rfl G G (fun i a=>?_);refine a6 aq ?_;go_simp;refine bM a ((A.dN.aM)) ?_;clear a i;refine iU (j:=23) (o:=⟨Z 85,_,_,_,_,_⟩) rfl G G (fun i a=>?_);refine a6 aq ?_;go_simp;refine bM a ((A.dN.aM)) ?_;clear a i;refine iU (j:=24) (o:=⟨V,_,_,_,_,_⟩) rfl G G (fun i a=>?_);refine a6 aq ?_;have bF:=A.L.box.cell 8 rfl;have bo:=A.L.box.free 8 J;go_simp;have aQ:=A.set av.out 8 (ac aC (d+1) az);refine bM a ((aQ.dN.aM)) ?_;clear a i;refine ru G ?_;go_wp2_with fail;go_meet;exact ⟨_,L,F,aC,az,aQ⟩
 case rest=>
  obtain ⟨aJ,L,F,aC,az,R⟩:=hcut;obtain ⟨bD,bE⟩:y.x.slot=(a4 nx).1∧y.x.gen=(a4 nx).2:=⟨bB Prod.fst bc,bB Prod.snd bc⟩;have b2:wc.cell? ⟨aI,13,V⟩=Z (O U (a4 nx).1):=by rw [←bD];exact R.dN.cell 13 rfl
  have b3:wc.cell? ⟨aI,14,V⟩=Z (O U (a4 nx).2):=by rw [←bE];exact R.dN.cell 14 rfl
  clear bD bE bc;have bA:=R.L.box.fi 5 2 J;have l:=R.GP av.out 5 [O U (a4 nx).1,O U (a4 nx).2] ((R.L.box.part 5 [O U (a4 nx).1,O U (a4 nx).2] J).of (us:=gB p true false ((aE.i:Int)+1) (aE.g:Int) (a4 nx).1 (a4 nx).2 L (t+1) F aC (d+1) az aB) rfl);clear R;go_upto_region 16 with (with_reducible refine hY 78 (bA) ([O U (a4 nx).1,O U (a4 nx).2]) ?_)
  clear b2 b3 bA;generalize ba wc f 5 [O U (a4 nx).1,O U (a4 nx).2]=aV at *;have a7:=N l;cases nx with
  |none=>
   have bY:aV.cell? ⟨f,5,V⟩=Z (O U 0):=l.L.box.cell 5 rfl;have bZ:aV.cell? ⟨f,6,V⟩=Z (O U 0):=l.L.box.cell 6 rfl;have bJ:=N (Hf l.L.box);clear l;go_wp2_with (go_at_call 116;(with_reducible refine bJ.out.mono ?_);rintro e s ⟨rfl,bR,bx⟩);go_ret;have l:=a7.out;have bs: ∀ aK:List Nat,bn aK B0 aJ aV aJ s:=fun aK=>bx.av fun b aS=>by rw [aO.1 aS];exact ⟨l.L.e2,.inr l.L.hP⟩
   exact ⟨rfl,aJ,⟨L,t+1,F,aC,d+1,az,l.L.wrote l.mem.old bx bR⟩,l.mem.av (bs []) fun b aS=>⟨J,av.out b aS⟩,l.av.trans (bs _)⟩
  |some bd=>
   have bY:aV.cell? ⟨f,5,V⟩=Z (O U ((bd.i:Int)+1)):=l.L.box.cell 5 rfl;have bZ:aV.cell? ⟨f,6,V⟩=Z (O U (bd.g:Int)):=l.L.box.cell 6 rfl;have b9: ((bd.i:Int)+1==0)=false:=mf;have b7:rs.length+1 < lim.aQ:=by rcases bV with q|q;cases q;exact q
   have aT:=e1.cell (l.L.box.cell 7 rfl);have aE:decide ((t:Int)+1≥ (lim.aQ:Int))=false:=by rw [hH,bN.out,bL.out];omega
   clear l;go_upto_region 18 with fail
   have b5:=fun bG=>E5 lim bG;refine nZ G G ?_;repeat (go_big_quiet_step ((go_at_call 104;(with_reducible exact m9 (E6 (a7.out.mem.I (e1.aC _)))))))
   refine oh ?_;rintro cc ⟨⟨bG,aP⟩,rfl⟩;go_wp2_with fail;go_ret;have l:=a7.out.aC aP;exact ⟨rfl,aJ,⟨L,t+1,F,aC,d+1,az,l.L⟩,l.mem,l.av⟩
end
def h9:dK Int:=fun _ x a=>a=[O U x]
theorem fz:fQ h9:=fun _ _ _ _ _ a=>a
theorem oZ:jc aj 62 3 1 8:=⟨Tryz.underlying62,by
 obtain⟨i,b,d,c,a⟩:=kO (show(aj.info? 3).map (fun i=>(i.zero,i.size,i.bytes))=Z (Z (O U 0),1,8)by kernel_rfl);exact⟨i,_,b,d,c,a,rfl⟩,bP⟩
theorem Ey(p:Int){d:ad}{b:Nat}(e:d.rangeAt b 0 [O U p])(q:Option Nat)(g:q≠Z b):bo h9 1 (eb d q) (Z ⟨b,0,V⟩) 1 1 [p]:=
 bo.one bP (aG _) c4 rfl (by intro c a;simp at a;subst a;rfl) rfl fun h c f=>hT.2 ⟨g,e h c f⟩
theorem bi.take{t:Type}{o:dK t}{b:Nat}{T:TypeId}{p:Nat}{l:List t}(v:bi o b T c p aN n aU l){a:Nat}(j:a≤n):bi o b T c p aN a aU (l.take a):=by
 obtain⟨E,d,r,s,⟨L,w⟩,y⟩:=v;have k: ((d.take a).flatten).length=a * b:=by
  rw[qB fun f q=>(s f (mU q)).1,fm,r,pG j]
 have C: (d.take a).flatten=d.flatten.take (a * b):=by
  have e:d.flatten=(d.take a).flatten++(d.drop a).flatten:=by rw[←oo,jF]
  rw[e,List.take_append_of_le_length (by rw[k];exact aG _),pP (i:=a * b) (l:=(d.take a).flatten) (by rw[k];exact aG _)]
 have F:a * b≤n * b:=kS b j;refine⟨by rw[fm,E,pG j],d.take a,by rw[fm,r,pG j],fun f q=>s f (mU q),⟨by rw[k],?_⟩,fun i x f h m=>?_⟩
 ·rcases w with⟨e,J⟩|⟨g,z,u,e,D,B,M,A,G,I⟩
  ·refine .inl ⟨?_,K⟩;simp only[iA]at e ⊢;exact⟨e.1,K,e.2.2⟩
  ·refine .inr ⟨g,z,u,?_,D,B,K,A,G,?_⟩
   ·simp only[iA]at e ⊢;exact⟨e.1,trivial,e.2.2⟩
   ·rw[C,←I,List.take_take,pG F]
 ·rw[rM]at h m;split at h
  ·rename_i q;rw[a9 q]at m;rw[show Value.ownBlock (ac aN a aU)=Value.ownBlock (ac aN n aU)by cases aN <;> rfl];exact y i x f h m
  ·cases h
abbrev bE (page ab ag:Int) (g:Nat) (f:ak) (n:Int) (op:Option ai) (M z:Nat) (P:Option ai) (F E:Nat) (x:fc) (i:Option ai) (k a:Nat) (j:Option ai) (l b:Nat) (m:Option ai) (d h:Nat) (e:Nat) (done:Bool) (c:ak):List ak:=
 O U page::O U ab::O U ag::O U (g:Int)::f::O U n::ac op M z::ac P F E:: (an x i k a j l b++[ac m d h,O U (e:Int),ah done,c])
structure fF (B0:Nat) (S:List Nat) (c:ad) (D:Nat) (op:Option ai) (M z:Nat) (aQ:List Int) (P:Option ai) (F E:Nat) (aP:List ar) (m:Option ai) (d h:Nat) (rs:List aA):Prop where
 iq:bi h9 1 3 c B0 op M z aQ
 bm:bi (eK (ay c S)) 15 85 c B0 P F E aP
 ir:bi fG 2 78 c B0 m d h (rs.map dE)
 ft: ∀ g∈D:: (bg op M z++(bg P F E++bg m d h)),g∈S∧B0≤g∧g < c.heap.size
 nd: (D:: (bg op M z++(bg P F E++bg m d h))).Nodup
theorem tE(aN:Option ai)(n aU:Nat): (bg aN n aU).length≤1:=by
 unfold bg;cases Value.ownBlock (ac aN n aU) <;> simp
theorem q4(aN:Option ai)(n aU b a:Nat):bg aN n aU=bg aN b a:=by unfold bg;cases aN <;> rfl
theorem tA{A C o o':List Nat}(b: (A++(o++C)).Nodup)(i:o'.length≤1)(j: ∀ g∈o',g∈o∨g=N₀)(f: ∀ g∈A++C,g < N₀): (A++(o'++C)).Nodup:=by
 rcases o' with _|⟨x,_|⟨y,l⟩⟩
 ·rw [gJ];refine b.sublist ?_;exact List.Sublist.append_left (z1 _ _) _
 ·have k:=j x J;have h: (A++C).Nodup:=b.sublist (List.Sublist.append_left (z1 _ _) _);refine (List.perm_middle (a:=x) (l₁:=A) (l₂:=C)).nodup_iff.2 (fN.2 ⟨fun q=>?_,h⟩);rcases k with c|c
  ·rw [kI] at b;obtain ⟨m,d,e⟩:=b;rw [kI] at d;rcases cu.1 q with q|q
   ·exact e x q x (iW _ c) rfl
   ·exact d.2.2 x c x q rfl
  ·have:=f x q;omega
 ·simp at i
section
variable {D : Nat} {op : Option ai} {M z : Nat} {aQ : List Int} {aP : List ar} 
theorem fF.to(a:fF B0 S c D op M z aQ P F E aP m d h rs)(i: ∀ b∈S,B0≤b→b≠D→s.heap[b]?=c.heap[b]?)(n:c.heap.size≤s.heap.size)(l: ∀ b∈S,b∈aJ)(k:fq S c aJ s):fF B0 aJ s D op M z aQ P F E aP m d h rs:=by
 have j: ∀ g∈bg op M z++(bg P F E++bg m d h),g≠D:=fun g q e=>(fN.1 a.nd).1 (e ▸ q);have f: ∀ g∈bg op M z++(bg P F E++bg m d h),s.heap[g]?=c.heap[g]?:=fun g q=>i g (a.ft g (h5 _ q)).1 (a.ft g (h5 _ q)).2.1 (j g q);exact⟨a.iq.to (fun g q=>f g (by simp only[cu];exact .inl q)) fun _ _ q=>q,a.bm.to (fun g q=>f g (by simp only[cu];exact .inr (.inl q))) fun _ _ q=>eK.ex q k,a.ir.to (fun g q=>f g (by simp only[cu];exact .inr (.inr q))) fun _ _ q=>q,fun g q=>⟨l g (a.ft g q).1,(a.ft g q).2.1,by have:=(a.ft g q).2.2;omega⟩,a.nd⟩
theorem fF.I(e:fF B0 S c D op M z aQ P F E aP m d h rs)(f: ∀ b∈S,b < c.heap.size)(a:Y c s):fF B0 S s D op M z aQ P F E aP m d h rs:=e.to (fun b g _ _=>a.block b (f b g)) a.le (fun _ q=>q) (a.aL fun _ q=> .inl q)
theorem fF.wrote(f:fF B0 S c D op M z aQ P F E aP m d h rs)(g: ∀ b∈S,b < c.heap.size)(e:Mod [D] c s):fF B0 S s D op M z aQ P F E aP m d h rs:=
 f.to (fun b a _ i=>e.block b (g b a) (by simpa using i)) e.size (fun _ q=>q) (e.aL (by intro b a;rw[aO.1 a];exact(f.ft D J).1) fun _ q=> .inl q)
theorem q7{d:Option ai}{c a:Nat}(e:Value.ownBlock (ac d c a)=Value.ownBlock (ac aN n aU)∨Value.ownBlock (ac d c a)=Z N₀): ∀ g∈bg d c a,g∈bg aN n aU∨g=N₀:=fun g q=>by
 have q:=c9.1 q;rcases e with b|b
 ·rw[b]at q;exact .inl (c9.2 q)
 ·rw[b]at q;exact .inr (fo q).symm
theorem fF.sM(i:fF B0 S c D op M z aQ P F E aP m d h rs){r:Option Nat}(f:c.grownBy s r): ∀ b,b < c.heap.size→b∉r.toList→s.heap[b]?=c.heap[b]?:=fun b a g=>f.block b a fun e=>g (by rw[←e];simp)
theorem fF.sG(i:fF B0 S c D op M z aQ P F E aP m d h rs){f:Option ai}{b a:Nat}{w:List aA}(p:bi fG 2 78 s B0 f b a (w.map dE))(t:c.grownBy s (Value.ownBlock (ac m d h)))(v:Value.ownBlock (ac f b a)=Value.ownBlock (ac m d h)∨Value.ownBlock (ac f b a)=Z c.heap.size):
  fF B0 (bg f b a++S) s D op M z aQ P F E aP f b a w∧∀ j,bn j B0 S c (bg f b a++S) s:=by
 have k: ∀ j,bn j B0 S c (bg f b a++S) s:=fun j=>mw t (fun g q=>⟨(i.ft g (by simp only[bd,cu,c9];exact .inr (.inr (.inr q)))).1,(i.ft g (by simp only[bd,cu,c9];exact .inr (.inr (.inr q)))).2.1⟩) v fun g q=>(p.lt g q).2;have x:=q7 v;have n:=i.nd;have aE: ∀ g∈D:: (bg op M z++bg P F E),g∉bg m d h:=fun g q r=>by
  have e:D:: (bg op M z++(bg P F E++bg m d h))=(D:: (bg op M z++bg P F E))++bg m d h:=J;rw[e,kI]at n;exact n.2.2 g q g r rfl
 have l: ∀ g∈D:: (bg op M z++bg P F E),g∈S∧B0≤g∧g < c.heap.size:=fun g q=>i.ft g (by
  simp only[bd,cu]at q ⊢;rcases q with q|q|q
  ·exact .inl q
  ·exact .inr (.inl q)
  ·exact .inr (.inr (.inl q)))
 have u: ∀ g∈D:: (bg op M z++bg P F E),s.heap[g]?=c.heap[g]?:=fun g q=>i.sM t g (l g q).2.2 fun r=>aE g q (by simpa[bg]using r);refine⟨⟨i.iq.to (fun g q=>u g (by simp only[bd,cu];exact .inr (.inl q))) fun _ _ q=>q,i.bm.to (fun g q=>u g (by simp only[bd,cu];exact .inr (.inr q))) fun _ _ q=>eK.ex q (k []).aL,p,fun g q=>?_,?_⟩,k⟩
 ·simp only[bd,cu]at q;have I:=(k []).size;have y:g∈D:: (bg op M z++bg P F E)∨g∈bg f b a:=by
   simp only[bd,cu];rcases q with q|q|q|q
   ·exact .inl (.inl q)
   ·exact .inl (.inr (.inl q))
   ·exact .inl (.inr (.inr q))
   ·exact .inr q
  rcases y with q|q
  ·obtain⟨B,G,L⟩:=l g q;exact⟨hk _ B,G,K⟩
  ·exact⟨iW _ q,p.lt g (c9.1 q)⟩
 ·have:=tA (A:=D:: (bg op M z++bg P F E)) (C:=[]) (o:=bg m d h) (o':=bg f b a) (N₀:=c.heap.size) (by simpa using n) (tE _ _ _) x fun g q=>(l g (by simpa using q)).2.2;simpa using this
theorem fF.qk(f:fF B0 S c D op M z aQ P F E aP m d h rs){e:Option ai}{b a:Nat}{v:List Int}(p:bi h9 1 3 s B0 e b a v)(r:c.grownBy s (Value.ownBlock (ac op M z)))(u:Value.ownBlock (ac e b a)=Value.ownBlock (ac op M z)∨Value.ownBlock (ac e b a)=Z c.heap.size):
  fF B0 (bg e b a++S) s D e b a v P F E aP m d h rs∧∀ i,bn i B0 S c (bg e b a++S) s:=by
 have l: ∀ i,bn i B0 S c (bg e b a++S) s:=fun i=>mw r (fun g q=>⟨(f.ft g (by simp only[bd,cu,c9];exact .inr (.inl q))).1,(f.ft g (by simp only[bd,cu,c9];exact .inr (.inl q))).2.1⟩) u fun g q=>(p.lt g q).2;have w:=q7 u;have j:=f.nd;have aE: ∀ g∈D:: (bg P F E++bg m d h),g∉bg op M z:=fun g q k=>by
  rw[fN,kI]at j;rcases bd.1 q with q|q
  ·exact j.1 (by rw[←q];exact iW _ k)
  ·exact j.2.2.2 g k g q rfl
 have n: ∀ g∈D:: (bg P F E++bg m d h),g∈S∧B0≤g∧g < c.heap.size:=fun g q=>f.ft g (by
  simp only[bd,cu]at q ⊢;rcases q with q|q
  ·exact .inl q
  ·exact .inr (.inr q))
 have t: ∀ g∈D:: (bg P F E++bg m d h),s.heap[g]?=c.heap[g]?:=fun g q=>f.sM r g (n g q).2.2 fun k=>aE g q (by simpa[bg]using k);refine⟨⟨p,f.bm.to (fun g q=>t g (by simp only[bd,cu];exact .inr (.inl q))) fun _ _ q=>eK.ex q (l []).aL,f.ir.to (fun g q=>t g (by simp only[bd,cu];exact .inr (.inr q))) fun _ _ q=>q,fun g q=>?_,?_⟩,l⟩
 ·have G:=(l []).size;have x:g∈D:: (bg P F E++bg m d h)∨g∈bg e b a:=by
   simp only[bd,cu]at q ⊢;rcases q with q|q|q
   ·exact .inl (.inl q)
   ·exact .inr q
   ·exact .inl (.inr q)
  rcases x with q|q
  ·obtain⟨y,B,I⟩:=n g q;exact⟨hk _ y,B,K⟩
  ·exact⟨iW _ q,p.lt g (c9.1 q)⟩
 ·have:=tA (A:=[D]) (C:=bg P F E++bg m d h) (o:=bg op M z) (o':=bg e b a) (N₀:=c.heap.size) (by simpa using j) (tE _ _ _) w fun g q=>(n g (by simpa using q)).2.2;simpa using this
theorem fF.nc(f:fF B0 S c D op M z aQ P F E aP m d h rs){e:Option ai}{b a:Nat}{r:List ar}(p:bi (eK (ay c S)) 15 85 s B0 e b a r)(t:c.grownBy s (Value.ownBlock (ac P F E)))(v:Value.ownBlock (ac e b a)=Value.ownBlock (ac P F E)∨Value.ownBlock (ac e b a)=Z c.heap.size):
  fF B0 (bg e b a++S) s D op M z aQ e b a r m d h rs∧∀ i,bn i B0 S c (bg e b a++S) s:=by
 have k: ∀ i,bn i B0 S c (bg e b a++S) s:=fun i=>mw t (fun g q=>⟨(f.ft g (by simp only[bd,cu,c9];exact .inr (.inr (.inl q)))).1,(f.ft g (by simp only[bd,cu,c9];exact .inr (.inr (.inl q)))).2.1⟩) v fun g q=>(p.lt g q).2;have x:=q7 v;have n:=f.nd;have w:D:: (bg op M z++(bg P F E++bg m d h))=(D::bg op M z)++(bg P F E++bg m d h):=J;have aE: ∀ g∈D:: (bg op M z++bg m d h),g∉bg P F E:=fun g q j=>by
  rw[w,kI,kI]at n;obtain⟨-,⟨-, -,W⟩,Q⟩:=n;have q:g∈D::bg op M z∨g∈bg m d h:=by
   simp only[bd,cu]at q ⊢;rcases q with q|q|q
   ·exact .inl (.inl q)
   ·exact .inl (.inr q)
   ·exact .inr q
  rcases q with q|q
  ·exact Q g q g (iW _ j) rfl
  ·exact W g j g q rfl
 have l: ∀ g∈D:: (bg op M z++bg m d h),g∈S∧B0≤g∧g < c.heap.size:=fun g q=>f.ft g (by
  simp only[bd,cu]at q ⊢;rcases q with q|q|q
  ·exact .inl q
  ·exact .inr (.inl q)
  ·exact .inr (.inr (.inr q)))
 have u: ∀ g∈D:: (bg op M z++bg m d h),s.heap[g]?=c.heap[g]?:=fun g q=>f.sM t g (l g q).2.2 fun j=>aE g q (by simpa[bg]using j);refine⟨⟨f.iq.to (fun g q=>u g (by simp only[bd,cu];exact .inr (.inl q))) fun _ _ q=>q,p.to (fun _ _=>rfl) fun _ _ q=>eK.ex q (k []).aL,f.ir.to (fun g q=>u g (by simp only[bd,cu];exact .inr (.inr q))) fun _ _ q=>q,fun g q=>?_,?_⟩,k⟩
 ·have I:=(k []).size;have y:g∈D:: (bg op M z++bg m d h)∨g∈bg e b a:=by
   simp only[bd,cu]at q ⊢;rcases q with q|q|q|q
   ·exact .inl (.inl q)
   ·exact .inl (.inr (.inl q))
   ·exact .inr q
   ·exact .inl (.inr (.inr q))
  rcases y with q|q
  ·obtain⟨B,G,L⟩:=l g q;exact⟨hk _ B,G,K⟩
  ·exact⟨iW _ q,p.lt g (c9.1 q)⟩
 ·have:=tA (A:=D::bg op M z) (C:=bg m d h) (o:=bg P F E) (o':=bg e b a) (N₀:=c.heap.size) (by simpa using n) (tE _ _ _) x fun g q=>(l g (by simpa using q)).2.2;simpa using this
end
end Go.Proofs.YtbkmjhhpcinppaaGreatDoor
