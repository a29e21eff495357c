import Derived.Test.YtbkmjhhpcinppaaGreatDoorQ6
namespace Go.Proofs.YtbkmjhhpcinppaaGreatDoor
set_option linter.unusedVariables false
set_option linter.defProp false
set_option linter.unusedSimpArgs false
set_option maxRecDepth 100000
set_option maxHeartbeats 40000000
open Ending renaming returned→ap
open Go renaming Addr→ai,Calls→ao,Value→ak,World→ad
open Go.Proofs.Tryz renaming prog→aj
open IntKind renaming i64→U
open Obj renaming cells→X
open Option renaming none→V,some→Z
open Value renaming agg→aw,bool→ah,int→O,nilIface→aB,pointer→au,slice→ac,string→af,tuple→a0
open World renaming alloc→H
variable {a b key : ByteArray} {s n : Nat} {l : List aN} {t : Option ai} {p q : Int} {d : ad} {u w : Type}
section
def j4:Nat→a3.eM→Nat
 |0,_=>0
 |_+1,[]=>0
 |n+1,x::a=>(x.toNat+1) * 257 ^ n+j4 n a
theorem rc: ∀ (n:Nat) (l:a3.eM),j4 n l < 257 ^ n
 |0,l=>by unfold j4;decide
 |n+1,[]=>by unfold j4;exact Nat.pow_pos bP
 |n+1,x::a=>by
  unfold j4;have b:=rc n a;have c:x.toNat < 256:=x.toNat_lt;have d: (x.toNat+1) * 257 ^ n≤256 * 257 ^ n:=kS _ K;have e: (257:Nat) ^ (n+1)=256 * 257 ^ n+257 ^ n:=by rw[Nat.pow_succ];omega
  omega
theorem yM: ∀ (n:Nat) (a b:a3.eM),a.length≤n→b.length≤n→(a3.before a b=true↔j4 n a < j4 n b)
 |0,a,b,c,d=>by
  obtain rfl:a=[]:=gH.1 K;obtain rfl:b=[]:=gH.1 K;simp[a3.before]
 |n+1,a,[],c,d=>by
  have:a3.before a []=false:=by cases a <;> rfl
  rw[this];simp[j4]
 |n+1,[],y::f,c,d=>by
  unfold j4 a3.before;have i:0 < (257:Nat) ^ n:=Nat.pow_pos bP;have:0 < (y.toNat+1) * 257 ^ n:=Nat.mul_pos K i;simp only[true_iff];omega
 |n+1,x::h,y::f,c,d=>by
  unfold j4 a3.before;simp only[fY]at c d;have ih:=yM n h f K K;have j:=rc n h;have k:=rc n f;by_cases e:x=y
  ·subst e;rw[a9 rfl,ih];omega
  ·rw[aS e,dp,rN];have l:x.toNat≠y.toNat:=fun q=>e (UInt8.toNat_inj.1 q);constructor
   ·intro q;have: (x.toNat+1+1) * 257 ^ n≤(y.toNat+1) * 257 ^ n:=kS _ K;rw[jI]at this;omega
   ·intro q;rcases dC x.toNat y.toNat with g|g
    ·exact g
    ·have: (y.toNat+1+1) * 257 ^ n≤(x.toNat+1) * 257 ^ n:=kS _ K;rw[jI]at this;omega
def aE (b:ByteArray):Nat:=j4 16 (aF b)
def eL:Nat:=257 ^ 16
theorem hX(b:ByteArray):aE b < eL:=rc 16 _
theorem lX(c:a.size≤16)(d:b.size≤16):a3.before (aF a) (aF b)=true↔aE a < aE b:=
 yM 16 _ _ (by rw [fV];exact c) (by rw [fV];exact d)
theorem pi(c:a.size≤16)(d:b.size≤16)(e:aE a=aE b):a=b:=by
 rcases a3.before_total (aF a) (aF b)with q|q|q
 ·have:=(lX c d).1 q;omega
 ·exact rm q
 ·have:=(lX d c).1 q;omega
theorem gC(c:a.size≤16)(d:b.size≤16):a3.cmp (aF a) (aF b) < 0↔aE a < aE b:=by
 rw[a3.hy];exact lX c d
theorem yN(c:a.size≤16)(d:b.size≤16):a3.cmp (aF a) (aF b)≤0↔aE a≤aE b:=by
 constructor
 ·intro e;rcases Int.lt_or_eq_of_le e with q|q
  ·have:=(gC c d).1 q;omega
  ·rw[rm (a3.sR.1 q)];exact aG _
 ·intro e;rcases dC (aE a) (aE b)with q|q
  ·have:=(gC c d).2 q;omega
  ·rw[pi c d K,a3.sR.2 rfl];decide
theorem jU{x:aN}(a:gf x=true):x.key.size≤16:=by
 unfold gf j3 at a;simp only[fZ,ke]at a;omega
def df (high:ByteArray) (unb:Bool):Nat:=if unb=true then eL else aE high
theorem Ek(high:ByteArray)(unb:Bool):df high unb≤eL:=by
 unfold df;split
 ·exact aG _
 ·exact fE (hX _)
theorem tp{high:ByteArray}{unb:Bool}:df high unb < eL↔unb=false:=by
 unfold df;cases unb
 ·simp[hX]
 ·simp
theorem iM{low high:ByteArray}{unb:Bool}(c:low.size≤16)(b:high.size≤16)(a:key.size≤16):iL low high unb key=true↔aE low≤aE key∧aE key < df high unb:=by
 unfold iL df;rw[fZ,dp,yN c a,Bool.or_eq_true,dp,gC a b];cases unb
 ·simp
 ·simp[hX]
structure aY where
 low:ByteArray
 high:ByteArray
 unb:Bool
 right:Int
 ag:List cw
 held:Bool
 aH:Int
 bb:Int
 aD:ByteArray
def bw (l:List cw) (i:Nat):cw:=l.getD i ⟨ByteArray.empty,0⟩
theorem jg{l:List cw}{i:Nat}(a:i < l.length):bw l i=l[i]:=by
 unfold bw;rw[h2,cP a];rfl
def bG (key:ByteArray):List cw→Nat
 |[]=>0
 |e::l=>if a3.cmp (aF e.key) (aF key) < 0 then bG key l+1 else 0
theorem pb(key:ByteArray)(l:List cw):bG key l≤l.length:=by
 induction l with
 |nil=>exact aG _
 |cons r l ih=>simp only[bG];split <;> simp <;> omega
def cY (key:ByteArray) (l:List cw):Bool:=decide (bG key l < l.length∧(bw l (bG key l)).key=key)
def gz (v:aY) (key:ByteArray):Bool:=iL v.low v.high v.unb key
def lA (v:aY):Prop:=v.ag≠[]∧(bw v.ag 0).key=v.low∧(v.unb=true→v.high=ByteArray.empty)∧
 ∀ i,i < v.ag.length→gz v (bw v.ag i).key=true∧(0 < i→a3.cmp (aF (bw v.ag (i - 1)).key) (aF (bw v.ag i).key) < 0)
instance (v:aY):Decidable (lA v):=by unfold lA;infer_instance
def hh (v:aY) (y:ar):Option aY:=
 if y.x.r.kind=8∧v.held=false then
  (if cY y.x.r.key v.ag=true∨gz v y.x.r.key=false then V
   else Z {v with ag:=v.ag.take (bG y.x.r.key v.ag)++[⟨y.x.r.key,y.x.r.page⟩]++v.ag.drop (bG y.x.r.key v.ag)})
 else if y.x.r.kind=9∧v.held=false then
  (if cY y.x.r.key v.ag=false∨bG y.x.r.key v.ag=0 then V
   else Z {v with ag:=v.ag.take (bG y.x.r.key v.ag),high:=y.x.r.key,unb:=false,right:=y.x.r.page})
 else if y.x.r.kind=10∧v.held=false then
  (if cY y.x.aD v.ag=false∨bG y.x.aD v.ag=0∨(bw v.ag (bG y.x.aD v.ag)).page≠y.x.aH∨(bw v.ag (bG y.x.aD v.ag - 1)).page≠y.x.bb then V
   else Z {v with held:=true,aH:=y.x.aH,bb:=y.x.bb,aD:=y.x.aD})
 else if y.x.r.kind=11∧v.held=true then
  Z {v with ag:=v.ag.take (bG v.aD v.ag)++v.ag.drop (bG v.aD v.ag+1),held:=false,aH:=0,bb:=0,aD:=ByteArray.empty}
 else V
def hO (b:ar):aY:=⟨b.x.r.low,b.x.r.high,b.x.r.unb,b.x.r.right,b.ag,false,0,0,ByteArray.empty⟩
def oQ (c:List ar) (cf:aY):Option aY:=c.foldr (fun r a=>a.bind fun v=>hh v r) (Z cf)
theorem wI(r:ar)(c:List ar)(cf:aY):oQ (r::c) cf=(oQ c cf).bind fun v=>hh v r:=rfl
def foldI (c:List ar):Option aY:=
 if ∀ r∈c,7≤r.x.r.kind∧r.x.r.kind≤11 then
  (match c.getLast? with
  |none=>V
  |some b=>if b.x.r.kind=7∧lA (hO b)then oQ c.dropLast (hO b)else V)
 else V
inductive aT where
 |leaf (v:bl)
 |aU (v:aY)
def fD (a:aT) (r:ar):Option aT:=
 match a with
 | .leaf v=>if 1≤r.x.r.kind∧r.x.r.kind≤6 then(dg v r.x.r).map .leaf else V
 | .aU v=>if 7≤r.x.r.kind∧r.x.r.kind≤11 then(hh v r).map .aU else V
def dw (c:List ar):Option aT:=
 match c.getLast? with
 |none=>V
 |some b=>if b.x.r.kind=1 then(g8 (eQ c)).1.map .leaf else(foldI c).map .aU
theorem getLast_cons(r:u){c:List u}(b:c≠[]): (r::c).getLast?=c.getLast?:=by
 cases c with
 |nil=>exact absurd rfl b
 |cons a c=>rfl
theorem wh(r:u){c:List u}(b:c≠[]): (r::c).dropLast=r::c.dropLast:=by
 cases c with
 |nil=>exact absurd rfl b
 |cons a c=>rfl
theorem getLast_map(f:u→w)(c:List u): (c.map f).getLast?=c.getLast?.map f:=by simp
theorem tD{c:List ar}{o:aT}(a:dw c=Z o)(r:ar):dw (r::c)=fD o r:=by
 have k:c≠[]:=by rintro rfl;cases a
 have n:eQ c≠[]:=by intro e;exact k (List.map_eq_nil_iff.1 e)
 unfold dw at a ⊢;rw[getLast_cons r k];cases j:c.getLast? with
 |none=>rw[j]at a;cases a
 |some b=>
  rw[j]at a;dsimp only at a ⊢;split at a
  ·rename_i l;rw[a9 l];have p:eQ (r::c)=r.x.r::eQ c:=rfl;have m: (eQ c).getLast?=Z b.x.r:=by rw[getLast_map,j];rfl
   rw[p];unfold g8 at a ⊢;rw[m]at a;rw[getLast_cons _ n,m,wh _ n];by_cases g:lb (eQ c)
   ·rw[a9 g]at a;simp only[]at a;by_cases i:b.x.r.kind=1∧hf b.x.r.rows b.x.r.low b.x.r.high b.x.r.unb=true
    ·rw[a9 i]at a;cases f:oR dg (eQ c).dropLast (oI b.x.r)with
     |none=>rw[f]at a;cases a
     |some v=>
      rw[f]at a;simp only[iz,eS]at a;subst a;simp only[a9 i];rw[wJ,f];unfold fD;by_cases d:1≤r.x.r.kind∧r.x.r.kind≤6
      ·rw[a9 (show lb (r.x.r::eQ c)from fun x h=>by
        rcases bd.1 h with rfl|h
        ·exact d
        ·exact g x h)]
       simp only[Option.bind_some,a9 d];cases dg v r.x.r <;> rfl
      ·rw[aS (show ¬lb (r.x.r::eQ c)from fun q=>d (q _ rH))];simp only[aS d,rI]
    ·rw[aS i]at a;cases a
   ·rw[aS g]at a;cases a
  ·rename_i l;rw[aS l];unfold foldI at a ⊢;rw[getLast_cons r k,j,wh r k];rw[j]at a;by_cases g: ∀ r∈c,7≤r.x.r.kind∧r.x.r.kind≤11
   ·rw[a9 g]at a;simp only[]at a ⊢;by_cases i:b.x.r.kind=7∧lA (hO b)
    ·rw[a9 i]at a ⊢;cases f:oQ c.dropLast (hO b)with
     |none=>rw[f]at a;cases a
     |some v=>
      rw[f]at a;simp only[iz,eS]at a;subst a;rw[wI,f];unfold fD;by_cases d:7≤r.x.r.kind∧r.x.r.kind≤11
      ·rw[a9 (fun x h=>by
        rcases bd.1 h with rfl|h
        ·exact d
        ·exact g x h)]
       simp only[Option.bind_some,a9 d]
      ·rw[aS (fun q=>d (q _ rH))];simp only[aS d,rI]
    ·rw[aS i]at a;cases a
   ·rw[aS g]at a;cases a
end
section
open Go.BigFrame Go.RowKit Go.WideShapes
abbrev jZ (v:bl):fc:=⟨⟨6,⟨#[]⟩,v.high,v.unb,v.right,v.rows,v.low,⟨#[]⟩,0⟩,0,0,⟨#[]⟩,0,0⟩
def p5 (d:ad) (v:bl) (e:Ending) (a:ad):Prop:=if v.gone=true then ∃ o b c,e=ap (a0 #[aW (jZ v) o b c V 0 0,aB])∧br a d.heap.size o b c v.rows∧Y d a else e=ap (a0 #[pz,fR 13])∧Y d a
theorem Fm(v:bl)(t:Option ai)(n s:Nat)(d:ad)(r:bk d t n s v.rows)(ab:n≤1000000):
  ao aj 212 #[eE v t n s] d (p5 d v):=by
 have j:=dL;have f:ae ((H d (X (ci v t n s) 119)).alloc (X al 85)) d.heap.size (ci v t n s):=((ae.new d _ _ rfl).I ((Y.refl _).alloc _)).of J;have l:ae ((H d (X (ci v t n s) 119)).alloc (X al 85)) (d.heap.size+1) al:=(ae.new (H d _) _ _ (by rw [j])).of J;have m:Y d ((H d (X (ci v t n s) 119)).alloc (X al 85)):=((Y.refl _).alloc _).alloc _;have p: ((H d (X (ci v t n s) 119)).alloc (X al 85)).heap.size=d.heap.size+2:=by rw [j,j]
 go_enter Tryz.func212,Tryz.ntmps212;go_upto_region 1 with fail
 generalize (H d (X (ci v t n s) 119)).alloc (X al 85)=k at *;have B:=N p;clear p j;generalize E:d.heap.size=b at *;have I:=N fun T (P:Y k T)=>r.I (m.trans P);clear r;have cf:=f.cell 0 rfl;have aZ:=f.cell 1 rfl;have a1:=f.cell 2 rfl;have a2:=f.cell 3 rfl;have a3:=f.cell 4 rfl;have y:=f.cell 5 rfl;cases h:v.gone
 ·rw [h] at y;go_wp2_with (with_reducible refine bq 85 (l) (al) ?_);refine bH ((l.aR (us:=al) rfl).cK rfl _ rfl rfl cG rfl G) rfl ?_;unfold p5;rw [h,aS bP];exact ⟨rfl,m.setCells K _ _⟩
 ·rw [h] at y;go_upto_region 3 with fail
  go_cut [3] (fun S q=>S=aB∧∃ (o:Option ai) (i c:Nat),ae q (b+1) (an (jZ v) o i c V 0 0)∧br q b o i c v.rows∧Y d q)
  case first=>
   have p:=B.out;go_region_held3 (fun g=>g.cell? b=Z (af v.low)∧g.cell? ⟨b,1,V⟩=Z (af v.high)∧g.cell? ⟨b,2,V⟩=Z (ah v.unb)∧g.cell? ⟨b,3,V⟩=Z (O U v.right)∧g.cell? ⟨b,4,V⟩=Z (ac t n s))
    ((first|(have kG:=w;exact b9)|exact b9)) (first|(go_at_call 69;(with_reducible refine (sT _ _ _ _ _ (I.out _ ?_) ?_).mono ?_);(focus ((exact bz);done));(focus (omega;done));rintro e W ⟨R,Q,D,rfl,ag,w,C,L,F⟩;(have x:Y k W:=Y.trans dh w);have a:=l.I x;have aa:k.heap.size≤C:=bZ (Y.le dh) L;have aJ:=(a).cell 0 rfl;have aK:=(a).cell 1 rfl;have aQ:=(a).cell 2 rfl;have aR:=(a).cell 3 rfl;have aT:=(a).cell 4 rfl;have aU:=(a).cell 5 rfl;have aV:=(a).cell 6 rfl;have aW:=(a).cell 7 rfl;have aX:=(a).cell 8 rfl;have aY:=(a).cell 9 rfl;have aL:=(a).cell 10 rfl;have aM:=(a).cell 11 rfl;have aN:=(a).cell 12 rfl;have aO:=(a).cell 13 rfl;have aP:=(a).cell 14 rfl;have am:=(a).free 0 J;have aq:=(a).free 1 J;have aA:=(a).free 2 J;have aC:=(a).free 3 J;have aD:=(a).free 4 J;have aE:=(a).free 5 J;have aF:=(a).free 6 J;have aG:=(a).free 7 J;have aH:=(a).free 8 J;have aI:=(a).free 9 J;have ar:=(a).free 10 J;have av:=(a).free 11 J;have ax:=(a).free 12 J;have ay:=(a).free 13 J;have az:=(a).free 14 J))
   all_goals (go_wp2_with fail;go_meet;with_reducible exact ⟨rfl,R,Q,D,vH a F K K (m.trans x) K _ _ _ _ _ _ _ _ _ _ _ _ _ _ _ J⟩)
  case rest=>
   obtain ⟨rfl,o,i,c,z,u,M⟩:=hcut;have A:=N u;clear u;go_wp2_with fail;refine bH (z.cK rfl _ rfl rfl cG rfl G) rfl ?_;unfold p5;rw [h,a9 rfl];exact ⟨o,i,c,rfl,by rw [E];exact A.out,M⟩
end
section
structure aK where
 aQ:Nat
 ax:Nat
 cO:Nat
 rows:Nat
 chain:Nat
 count:Nat
def aT.low:aT→ByteArray| .leaf v=>v.low| .aU v=>v.low
def aT.high:aT→ByteArray| .leaf v=>v.high| .aU v=>v.high
def aT.unb:aT→Bool| .leaf v=>v.unb| .aU v=>v.unb
def aT.right:aT→Int| .leaf v=>v.right| .aU v=>v.right
def aT.size:aT→Nat| .leaf v=>v.rows.length| .aU v=>v.ag.length
def aT.has (a:aT) (key:ByteArray):Bool:=iL a.low a.high a.unb key
def aT.lo (a:aT):Nat:=aE a.low
def aT.hi (a:aT):Nat:=df a.high a.unb
inductive dI where
 |down (dst:Int)
 |gM (dst:Int)
 |again
 |post (key:ByteArray) (page:Int)
 |hold (page left:Int) (key:ByteArray)
 |gQ
 |tidy
 |split
 |grow
 |act
def kq (a:aT) (ab:Option aY) (key:ByteArray) (wr:Bool):dI:=
 if a3.cmp (aF key) (aF a.low) < 0 then .again else
 match ab with
 |some v=>if wr=true∧v.held=false∧gz v a.high=true∧cY a.high v.ag=false then .post a.high a.right else .gM a.right
 |none=> .gM a.right
def gR:List cw→Int→Option (Int×ByteArray)
 |a::b::l,p=>if b.page=p then Z (a.page,b.key)else gR (b::l) p
 |[_],_=>V
 |[],_=>V
def lQ (a:aT) (n:Int) (ab:Option aY):Option dI:=
 match a,ab with
 | .leaf v,Z d=>if v.rows.length=0∧d.held=false then(gR d.ag n).map (fun q=> .hold n q.1 q.2)else V
 |_,_=>V
def jx (a:aT) (b:Nat) (n:Int) (ab:Option aY) (lim:aK):Option dI:=
 if lim.chain < b then Z .tidy
 else if lim.rows < a.size∧n=0 then Z .grow
 else if lim.rows < a.size then Z .split
 else lQ a n ab
def hx (v:aY) (key:ByteArray):Option cw:=
 if gz v key=false∨(if cY key v.ag=true then bG key v.ag+1 else bG key v.ag)=0 then V
 else Z (bw v.ag ((if cY key v.ag=true then bG key v.ag+1 else bG key v.ag) - 1))
def ji (a:aT) (key:ByteArray):dI:=
 match a with
 | .leaf _=> .act
 | .aU v=>match hx v key with|some e=> .down e.page|none=> .again
def aT.g9:aT→Bool| .leaf v=>v.gone| .aU _=>false
def aT.hB:aT→Bool| .leaf _=>false| .aU v=>v.held
def dX (a:aT) (b:Nat) (n:Int) (ab:Option aY) (key:ByteArray) (lim:aK) (wr:Bool):dI:=
 if a.g9=true then .again
 else if wr=true∧a.hB=true then .gQ
 else if a.has key=false then kq a ab key wr
 else if wr=true then(match jx a b n ab lim with|some x=>x|none=>ji a key)
 else ji a key
theorem tL{A B:List cw}(c: ∀ r∈A,a3.cmp (aF r.key) (aF key) < 0)(d: ∀ r∈B.head?,¬a3.cmp (aF r.key) (aF key) < 0):bG key (A++B)=A.length:=by
 induction A with
 |nil=>
  cases B with
  |nil=>rfl
  |cons b B=>
   have:=d b J;simp only[gJ,bG];rw[aS this];rfl
 |cons a A ih=>
  simp only[pQ,bG];rw[a9 (c a J),ih (fun r e=>c r (by simp[e]))];rfl
structure kV (l:List cw):Prop where
 b6: ∀ e∈l,e.key.size≤16
 ord:l.Pairwise fun a b=>aE a.key < aE b.key
theorem kV.place{l:List cw}(o:kV l){key:ByteArray}(g:key.size≤16): ∃ b c,l=b++c∧bG key l=b.length∧(∀ e∈b,aE e.key < aE key)∧∀ e∈c,aE key≤aE e.key:=by
 obtain⟨h,f⟩:=o;induction l with
 |nil=>exact⟨[],[],rfl,rfl,J,J⟩
 |cons e l ih=>
  rw[hJ]at f;have i:=h e J;by_cases d:aE e.key < aE key
  ·obtain⟨b,c,j,k,m,n⟩:=ih (fun x a=>h x (by simp[a])) f.2;refine⟨e::b,c,by rw[j];rfl,?_,fun x a=>?_,n⟩
   ·simp only[bG];rw[a9 ((gC i g).2 d),k];rfl
   ·rcases bd.1 a with rfl|a
    ·exact d
    ·exact m x a
  ·refine⟨[],e::l,rfl,?_,J,fun x a=>?_⟩
   ·simp only[bG];rw[aS (fun q=>d ((gC i g).1 q))];rfl
   ·rcases bd.1 a with rfl|a
    ·omega
    ·have:=f.1 x a;omega
theorem kV.vy{l:List cw}(g:kV l){key:ByteArray}(h:key.size≤16):
  (cY key l=true∧∃ a e b,l=a++e::b∧bG key l=a.length∧e.key=key∧(∀ x∈a,aE x.key < aE key)∧∀ x∈b,aE key < aE x.key)∨
  (cY key l=false∧∃ a b,l=a++b∧bG key l=a.length∧(∀ x∈a,aE x.key < aE key)∧∀ x∈b,aE key < aE x.key):=by
 obtain⟨a,b,d,k,f,m⟩:=g.place h;have o:=g.b6;have i:=g.ord;unfold cY;rw[k,d];cases b with
 |nil=>
  right;refine⟨dz J,a,[],J,rfl,f,J⟩
 |cons e b=>
  have n:bw (a++e::b) a.length=e:=by
   rw[jg J];simp
  rw[n];rw[d,h6]at i;have j:=hJ.1 i.2.1;by_cases aD:e.key=key
  ·left;refine⟨eo ⟨J,aD⟩,a,e,b,rfl,rfl,aD,f,fun x c=>?_⟩;have:=j.1 x c;rw[aD]at this;exact this
  ·right;refine⟨dz (fun q=>aD q.2),a,e::b,rfl,rfl,f,fun x c=>?_⟩;have p:=m e J;have r:aE key≠aE e.key:=fun q=>aD (pi (o e (by rw[d];simp)) h q.symm);rcases bd.1 c with rfl|c
   ·omega
   ·have:=j.1 x c;omega
theorem kV.child{v:aY}(p:kV v.ag){key:ByteArray}(r:key.size≤16)(q:gz v key=true)(k: ∃ e∈v.ag,aE e.key≤aE key):
  ∃ a e b,v.ag=a++e::b∧hx v key=Z e∧aE e.key≤aE key∧∀ x∈b,aE key < aE x.key:=by
 unfold hx;rw[q];rcases p.vy r with⟨g,a,e,b,c,h,o,j,d⟩|⟨g,a,b,c,h,j,d⟩
 ·have i: (if cY key v.ag=true then bG key v.ag+1 else bG key v.ag)=a.length+1:=by rw[g,a9 rfl,h]
  rw[i,aS J];refine⟨a,e,b,c,?_,by rw[o];exact aG _,d⟩;rw[c,rY,jg J];simp
 ·have i: (if cY key v.ag=true then bG key v.ag+1 else bG key v.ag)=a.length:=by rw[g,aS bP,h]
  rw[i];obtain⟨n,m,k⟩:=k;have l:a≠[]:=by
   rintro rfl;rw[c]at m;have:=d n (by simpa using m);omega
  obtain⟨f,e,rfl⟩: ∃ f e,a=f++[e]:=⟨a.dropLast,a.getLast l,(List.dropLast_concat_getLast l).symm⟩;rw[aS J];refine⟨f,e,b,by rw[c];simp,?_,fE (j e J),d⟩;rw[c,jg J];simp
theorem xr: ∀ {l:List cw} {p left:Int} {key:ByteArray},gR l p=Z (left,key)→∃ d x y f,l=d++x::y::f∧y.page=p∧x.page=left∧y.key=key
 |[],_,_,_,c=>by cases c
 |[_],_,_,_,c=>by cases c
 |a::b::l,p,left,key,c=>by
  unfold gR at c;split at c
  ·rename_i q;simp only[eS,mK]at c;exact⟨[],a,b,l,rfl,q,c.1,c.2⟩
  ·obtain⟨d,x,y,f,e,r⟩:=xr c;exact⟨a::d,x,y,f,by rw[e];rfl,r⟩
end
section
open Go.BigFrame Go.RowKit Go.WideShapes

end
section
abbrev ee:=Int→Option (Nat×aT)
abbrev LT:=Int→Option bl
def bL {u:Type} (h:Int→Option u) (p:Int) (x:Option u):Int→Option u:=fun q=>if q=p then x else h q
theorem iy(h:Int→Option u)(p:Int)(x:Option u):bL h p x p=x:=by unfold bL;rw[a9 rfl]
theorem fk{h:Int→Option u}{x:Option u}(a:q≠p):bL h p x q=h q:=by unfold bL;rw[aS a]
theorem dJ{h:Int→Option u}{x:Option u}{b:u}(a:bL h p x q=Z b): (q=p∧x=Z b)∨(q≠p∧h q=Z b):=by
 unfold bL at a;split at a
 ·rename_i e;exact .inl ⟨e,a⟩
 ·rename_i e;exact .inr ⟨e,a⟩
structure vl (x:aT):Prop where
 low:x.low.size≤16
 high:x.high.size≤16
 unb:x.unb=true→x.high=ByteArray.empty
structure h8 (v:aY):Prop where
 ok:kV v.ag
 first: ∃ e a,v.ag=e::a∧e.key=v.low
 high: ∀ e∈v.ag,aE e.key < df v.high v.unb
def h7 (h:ee) (m:LT) (a:Nat) (v:aY):Prop:=∀ e∈v.ag,(∃ b y,a=b+1∧h e.page=Z (b,y)∧y.lo=aE e.key)∨(v.held=true∧e.key=v.aD∧e.page=v.aH∧∃ g,m e.page=Z g∧g.low=e.key)
def si (h:ee) (a:Nat) (v:aY):Prop:=v.held=true→a=1∧(∃ c x y d,v.ag=c++x::y::d∧y.key=v.aD∧y.page=v.aH∧x.page=v.bb)∧∀ b y,h v.aH=Z (b,y)→∃ g,y= .leaf g∧g.rows=[]
structure cD (h:ee) (m:LT) (l:List aN):Prop where
 ok:dO l=true
 root: ∃ e c,h 0=Z (e,c)∧c.lo=0∧c.hi=eL∧∀ p a x,h p=Z (a,x)→a≤e
 b6: ∀ p a x,h p=Z (a,x)→vl x
 span: ∀ p a x,h p=Z (a,x)→x.lo < x.hi
 right: ∀ p a x,h p=Z (a,x)→x.hi < eL→∃ f,h x.right=Z (a,f)∧f.lo=x.hi
 hg: ∀ p q a x y b,h p=Z (a,x)→h q=Z (a,y)→x.lo≤b→b < x.hi→y.lo≤b→b < y.hi→p=q
 leaf: ∀ p a v,h p=Z (a,.leaf v)→a=0
 aU: ∀ p a v,h p=Z (a,.aU v)→0 < a
 rows: ∀ p a v,h p=Z (a,.leaf v)→v.rows=l.filter (cU v.low v.high v.unb)
 ag: ∀ p a v,h p=Z (a,.aU v)→h8 v
 down: ∀ p a v,h p=Z (a,.aU v)→h7 h m a v
 held: ∀ p a v,h p=Z (a,.aU v)→si h a v
 gone: ∀ p a v,h p=Z (a,.leaf v)→v.gone=true→∃ q d,h q=Z (1,.aU d)∧d.held=true∧d.aH=p∧d.aD=v.low
 lim: ∀ p g,m p=Z g→h p=V∧g.gone=true∧g.low.size≤16
theorem cD.same{h:ee}{m:LT}(e:cD h m l){p q:Int}{a:Nat}{x y:aT}(d:h p=Z (a,x))(c:h q=Z (a,y))(b:Nat)(f:x.lo≤b)(g:b < x.hi)(i:y.lo≤b)(j:b < y.hi):p=q∧x=y:=by
 obtain rfl:=e.hg p q a x y b d c f g i j;rw[d]at c;exact⟨rfl,by simpa using c⟩
theorem h8.lo{v:aY}(c:h8 v){e:cw}(a:e∈v.ag):aE v.low≤aE e.key:=by
 obtain⟨g,h,d,f⟩:=c.first;have b:=c.ok.ord;rw[d]at a b;rw[hJ]at b;rw[←f];rcases bd.1 a with rfl|a
 ·exact aG _
 ·exact fE (b.1 e a)
theorem kV.one{l:List cw}(h:kV l){a b:cw}(j:a∈l)(k:b∈l)(e:aE a.key=aE b.key):a=b:=by
 obtain⟨i,d,rfl⟩:=oq j;obtain⟨c,f,rfl⟩:=oq k;have g:=lp.1 h.ord;rcases Nat.lt_trichotomy i c with q|q|q
 ·have:=g i c d f q;omega
 ·subst q;rfl
 ·have:=g c i f d q;omega
theorem cD.holds{h:ee}{m:LT}(f:cD h m l){p:Int}{a:Nat}{v:aY}(i:h p=Z (a,.aU v))(r:v.held=true):
  a=1∧v.aD.size≤16∧aE v.low < aE v.aD∧aE v.aD < df v.high v.unb∧(∃ x y,x∈v.ag∧y∈v.ag∧y.key=v.aD∧y.page=v.aH∧x.page=v.bb∧aE x.key < aE v.aD):=by
 obtain⟨n,⟨s,x,y,t,d,b,o,q⟩, -⟩:=f.held p a v i r;have c:=f.ag p a v i;have e:y∈v.ag:=by rw[d];simp
 have j:x∈v.ag:=by rw[d];simp
 have g:=c.ok.ord;rw[d,h6]at g;have k:aE x.key < aE y.key:=(hJ.1 g.2.1).1 y J;have u:=c.lo j;rw[b]at k;refine⟨n,by rw[←b];exact c.ok.b6 y e,K,by rw[←b];exact c.high y e,x,y,j,e,b,o,q,k⟩
theorem cD.qN{h:ee}{m:LT}(e:cD h m l){p q:Int}{a:Nat}{v d:aY}(n:h p=Z (a,.aU v))(o:h q=Z (a,.aU d)){k:Nat}(f:aE v.low≤k)(g:k < df v.high v.unb)(i:aE d.low≤k)(j:k < df d.high d.unb):p=q∧v=d:=by
 obtain⟨b,c⟩:=e.same n o k f g i j;exact⟨b,by cases c;rfl⟩
theorem cD.below{h:ee}{m:LT}(d:cD h m l){p:Int}{a:Nat}{v:aY}(i:h p=Z (a,.aU v)){e:cw}(f:e∈v.ag)(g:v.held=false∨e.key≠v.aD): ∃ b y,a=b+1∧h e.page=Z (b,y)∧y.lo=aE e.key:=by
 rcases d.down p a v i e f with q|⟨c,j, -⟩
 ·exact q
 ·rcases g with r|r
  ·rw[r]at c;cases c
  ·exact absurd j r
theorem cD.wz{h:ee}{m:LT}(i:cD h m l){p q:Int}{a b c:Nat}{v d:aY}{s:aT}(z:h p=Z (a,.aU v))(A:h q=Z (b,.aU d)){e f:cw}(o:e∈v.ag)(r:f∈d.ag)(n:h e.page=Z (c,s))(D:f.page=e.page):p=q∧v=d∧e=f:=by
 have E:a=c+1∧s.lo=aE e.key:=by
  rcases i.down p a v z e o with⟨C,y,u,j,w⟩|⟨-, -, -,g,x, -⟩
  ·rw[n]at j;simp only[eS,mK]at j;obtain⟨rfl,rfl⟩:=j;exact⟨u,w⟩
  ·rw[(i.lim _ _ x).1]at n;cases n
 have F:b=c+1∧s.lo=aE f.key:=by
  rw[←D]at n;rcases i.down q b d A f r with⟨C,y,u,j,w⟩|⟨-, -, -,g,x, -⟩
  ·rw[n]at j;simp only[eS,mK]at j;obtain⟨rfl,rfl⟩:=j;exact⟨u,w⟩
  ·rw[(i.lim _ _ x).1]at n;cases n
 obtain⟨rfl,M⟩:=E;obtain⟨rfl,N⟩:=F;have t:=i.ag p _ v z;have B:=i.ag q _ d A;have G:=t.lo o;have I:=t.high e o;have J:=B.lo r;have L:=B.high f r;obtain⟨rfl,rfl⟩:=i.qN z A (k:=s.lo) K K K K;exact⟨rfl,rfl,t.ok.one o r K⟩
theorem qz{low high:ByteArray}{unb:Bool}(d:dO l=true)(a:low.size≤16)(b:high.size≤16): ∀ x∈l,cU low high unb x=true↔aE low≤aE x.key∧aE x.key < df high unb:=fun x e=>by
 have c:=((js l).1 d).1 x e;exact iM a b (jU c)
end
section
open Go.BigFrame Go.RowKit Go.WideShapes
theorem ae.rb{f:Program}{b c g:Nat}{j i h:List ak}(o:ae d b j)(F:ae d c i)(G:ae d g h){n:Func}{p q r m:Tmp}{a:TypeId}(A:n.results= #[.cell p a,.cell q a,.cell r a,.tmp m])(tmps:Array ak)(v:tmps.getD p undef=au (Z b))(x:tmps.getD q undef=au (Z c))(B:tmps.getD r undef=au (Z g)){y:ak}(D:tmps.getD m undef=y)
  {e:TypeDesc}(l:f.underlying a=Z e)(k:e.isRow=true)(s: (f.info? a).map (·.size)=Z j.length)(t: (f.info? a).map (·.size)=Z i.length)(u: (f.info? a).map (·.size)=Z h.length): (results n tmps).run f d= .ok (a0 #[aw j,aw i,aw h,y]) d:=by
 have w:tmps[p]?.getD undef=au (Z b):=by simpa using v
 have z:tmps[q]?.getD undef=au (Z c):=by simpa using x
 have C:tmps[r]?.getD undef=au (Z g):=by simpa using B
 have E:tmps[m]?.getD undef=y:=by simpa using D
 simp[results,A,w,z,C,E,asAddr,kD d b 0 a j e o.aM l k s,kD d c 0 a i e F.aM l k t,kD d g 0 a h e G.aM l k u]
theorem bk.keys(a:bk d t n s l): ∀ x∈l,x.key.size≤maxLen:=fun x c=>by
 obtain⟨i,b,rfl⟩:=pA.1 c;have:=(a.eD i (by rw[←a.len];exact b)).1;unfold bJ at this;rw[fL b]at this;exact this
theorem wA{b:Nat}{x y:cw}(e:ae d b [af x.key,x.page,y.key,y.page])(h:x.key.size≤maxLen)(j:y.key.size≤maxLen):aZ d (Z ⟨b,0,V⟩) 2 2 [x,y]:=by
 refine ⟨rfl,aG _,c4,fun q=>(by cases q),b,0,fun _=>⟨rfl,e.lt J⟩,fun i g f=>?_⟩;rcases i with _|_|i
 ·obtain rfl:x=g:=by simpa using f
  exact ⟨[af x.key,x.page],rfl,du,⟨rfl,h⟩,fun c k a=>e.cell _ (by
   rcases c with _|_|c <;> simp at a ⊢ <;> exact a)⟩
 ·obtain rfl:y=g:=by simpa using f
  exact ⟨[af y.key,y.page],rfl,du,⟨rfl,j⟩,fun c k a=>e.cell _ (by
   rcases c with _|_|c <;> simp at a ⊢ <;> exact a)⟩
 ·simp at f
theorem a6{c:Array Oper}{o:Oper}{a:Act}{b d:Prop}(e:Region.wanted o (yielded c a.tmps)=true)(f:b):if Region.wanted o (yielded c a.tmps)=true then b else d:=by
 rw[a9 e];exact f
abbrev eN (v:bl) (key:ByteArray) (right:Int):bl:=⟨v.low,key,false,right,v.rows.take (v.rows.length / 2),false⟩
abbrev eW (v:bl):fc:=⟨⟨7,v.low,v.high,v.unb,v.right,[],⟨#[]⟩,⟨#[]⟩,0⟩,0,0,⟨#[]⟩,0,0⟩
end
section
section
variable {h : ee} {m : LT} 
theorem cs{a c:u}{b d:w}(e:Z (a,b)=Z (c,d)):a=c∧b=d:=by cases e;exact⟨rfl,rfl⟩
theorem wg{a:Nat}{x i:aT}(o:h p=Z (a,x))(e:i.low=x.low){c:Nat}{v:aY}(l:h7 h m c v):h7 (bL h p (Z (a,i))) m c v:=fun f n=>by
 rcases l f n with⟨b,y,j,d,k⟩|q
 ·by_cases g:f.page=p
  ·rw[g]at d;rw[o]at d;obtain⟨rfl,rfl⟩:=cs d;exact .inl ⟨a,i,j,by rw[g,iy],by unfold aT.lo;rw[e];exact k⟩
  ·exact .inl ⟨b,y,j,by rw[fk g];exact d,k⟩
 ·exact .inr q
theorem cD.set(n:cD h m l){p:Int}{a:Nat}{x x':aT}(w:h p=Z (a,x))(A:x'.low=x.low)(k:x'.high=x.high)(F:x'.unb=x.unb)(S:x'.right=x.right)
  (am: ∀ v,x'= .leaf v→a=0)(al: ∀ v,x'= .aU v→0 < a){C:List aN}(ar:dO C=true)
  (ay: ∀ q b v,bL h p (Z (a,x')) q=Z (b,.leaf v)→v.rows=C.filter (cU v.low v.high v.unb))
  (B: ∀ v,x'= .aU v→h8 v∧h7 h m a v∧si (bL h p (Z (a,x'))) a v)
  (ae: ∀ q b d,q≠p→h q=Z (b,.aU d)→d.held=true→d.aH=p→∃ g,x'= .leaf g∧g.rows=[])
  (W: ∀ q b g,bL h p (Z (a,x')) q=Z (b,.leaf g)→g.gone=true→∃ r d,bL h p (Z (a,x')) r=Z (1,.aU d)∧d.held=true∧d.aH=q∧d.aD=g.low):
  cD (bL h p (Z (a,x'))) m C:=by
 have I:x'.lo=x.lo:=by unfold aT.lo;rw[A]
 have G:x'.hi=x.hi:=by unfold aT.hi;rw[k,F]
 have t: ∀ q b y,bL h p (Z (a,x')) q=Z (b,y)→∃ i,h q=Z (b,i)∧i.lo=y.lo∧i.hi=y.hi∧i.low=y.low∧i.high=y.high∧i.unb=y.unb∧i.right=y.right:=fun q b y f=>by
  rcases dJ f with⟨rfl,e⟩|⟨u,f⟩
  ·obtain⟨rfl,rfl⟩:=cs e;exact⟨x,w,I.symm,G.symm,A.symm,k.symm,F.symm,S.symm⟩
  ·exact⟨y,f,rfl,rfl,rfl,rfl,rfl,rfl⟩
 have L: ∀ q b y,h q=Z (b,y)→∃ i,bL h p (Z (a,x')) q=Z (b,i)∧i.lo=y.lo∧i.hi=y.hi:=fun q b y f=>by
  by_cases e:q=p
  ·subst e;rw[w]at f;obtain⟨rfl,rfl⟩:=cs f;exact⟨x',by rw[iy],I,G⟩
  ·exact⟨y,by rw[fk e];exact f,rfl,rfl⟩
 constructor
 ·exact ar
 ·obtain⟨Q,aM,av,aO,aP,ax⟩:=n.root;obtain⟨i,aC,aR,aS⟩:=L _ _ _ av;refine⟨Q,i,aC,K,K,fun q b y f=>?_⟩;obtain⟨E,z, -⟩:=t q b y f;exact ax q b E z
 ·intro q b y f;obtain⟨i,j, -, -,o,s,J,aa⟩:=t q b y f;obtain⟨D,N,P⟩:=n.b6 q b i j;exact⟨by rw[←o];exact D,by rw[←s];exact N,by rw[←s,←J];exact P⟩
 ·intro q b y f;obtain⟨i,j,o,s, -⟩:=t q b y f;have:=n.span q b i j;omega
 ·intro q b y f aG;obtain⟨i,j,o,s,J,aa,aF,ab⟩:=t q b y f;obtain⟨aQ,u1,u2⟩:=n.right q b i j K;obtain⟨az,D,N,P⟩:=L _ _ _ u1;exact⟨az,by rw[←ab];exact D,K⟩
 ·intro q r b y i aq f an aI aJ aK aL;obtain⟨E,j,o,s, -⟩:=t q b y f;obtain⟨aA,T,aD,aE, -⟩:=t r b i an;exact n.hg q r b E aA aq j T K K K K
 ·intro q b v f;rcases dJ f with⟨rfl,e⟩|⟨u,f⟩
  ·obtain⟨rfl,k⟩:=cs e;exact am v k
  ·exact n.leaf q b v f
 ·intro q b v f;rcases dJ f with⟨rfl,e⟩|⟨u,f⟩
  ·obtain⟨rfl,k⟩:=cs e;exact al v k
  ·exact n.aU q b v f
 ·exact ay
 ·intro q b v f;rcases dJ f with⟨rfl,e⟩|⟨u,f⟩
  ·obtain⟨rfl,k⟩:=cs e;exact(B v k).1
  ·exact n.ag q b v f
 ·intro q b v f;rcases dJ f with⟨rfl,e⟩|⟨u,f⟩
  ·obtain⟨rfl,k⟩:=cs e;exact wg w A (B v k).2.1
  ·exact wg w A (n.down q b v f)
 ·intro q b v f;rcases dJ f with⟨rfl,e⟩|⟨u,f⟩
  ·obtain⟨rfl,k⟩:=cs e;exact(B v k).2.2
  ·intro M;obtain⟨j,o,s⟩:=n.held q b v f M;refine⟨j,o,fun c y z=>?_⟩;rcases dJ z with⟨e,R⟩|⟨aH,z⟩
   ·obtain⟨rfl,rfl⟩:=cs R;exact ae q b v u f M e
   ·exact s c y z
 ·exact W
 ·intro q g ag;obtain⟨j,o⟩:=n.lim q g ag;refine⟨?_,o⟩;by_cases e:q=p
  ·subst e;rw[w]at j;cases j
  ·rw[fk e];exact j
theorem cD.aH(e:cD h m l){q:Int}{b:Nat}{d:aY}(j:h q=Z (b,.aU d))(s:d.held=true):
  (∃ g,h d.aH=Z (0,.leaf g)∧g.rows=[]∧aE g.low=aE d.aD)∨(∃ g,m d.aH=Z g∧g.low=d.aD):=by
 obtain⟨rfl,⟨v,x,y,w,o,f,i,A⟩,p⟩:=e.held q b d j s;rcases e.down q 1 d j y (by rw[o];simp)with⟨c,u,z,a,n⟩|⟨-,B,C,g,k,t⟩
 ·rw[i]at a;obtain⟨g,rfl,r⟩:=p c u a;obtain rfl:c=0:=K;exact .inl ⟨g,a,r,by rw[←f];exact n⟩
 ·rw[i]at k;exact .inr ⟨g,k,by rw[t,f]⟩
theorem cD.split(o:cD h m l){p n:Int}{a:Nat}{x t u:aT}{L:ByteArray}(D:h p=Z (a,x))(aY:p≠0)(S:h n=V)(aM:m n=V)(aN:L.size≤16)(bk:x.lo < aE L)(bl:aE L < x.hi)
  (aF:t.low=x.low)(aH:t.high=L)(aI:t.unb=false)(aQ:t.right=n)(aJ:u.low=L)(am:u.high=x.high)(aK:u.unb=x.unb)(aR:u.right=x.right)
  (aW: ∀ q b d,h q=Z (b,.aU d)→d.held=true→d.aH≠p)
  (N: ∀ y,y=t∨y=u→∀ v,y= .leaf v→a=0∧v.gone=false∧v.rows=l.filter (cU v.low v.high v.unb))
  (I: ∀ y,y=t∨y=u→∀ v,y= .aU v→0 < a∧v.held=false∧h8 v∧h7 h m a v)
  (aZ: ∀ v,x= .aU v→v.held=false):
  cD (bL (bL h p (Z (a,t))) n (Z (a,u))) m l:=by
 have aX:n≠p:=by rintro rfl;rw [S] at D;cases D
 have a3:n≠0:=by
  obtain ⟨aD,aO,P, -⟩:=o.root;rintro rfl;rw [S] at P;cases P
 have a2:t.lo=x.lo:=by unfold aT.lo;rw [aF]
 have bi:u.lo=aE L:=by unfold aT.lo;rw [aJ]
 have bc:t.hi=aE L:=by unfold aT.hi df;rw [aH,aI];rfl
 have bd:u.hi=x.hi:=by unfold aT.hi;rw [am,aK]
 have B: ∀ {q:Int} {A:Nat×aT},bL (bL h p (Z (a,t))) n (Z (a,u)) q=Z A→(q=n∧A=(a,u))∨(q=p∧A=(a,t))∨(q≠n∧q≠p∧h q=Z A):=by
  intro q A T;rcases dJ T with ⟨e,i⟩|⟨k,T⟩
  ·exact .inl ⟨e,(fo i).symm⟩
  ·rcases dJ T with ⟨e,i⟩|⟨s,T⟩
   ·exact .inr (.inl ⟨e,(fo i).symm⟩)
   ·exact .inr (.inr ⟨k,s,T⟩)
 have a8:bL (bL h p (Z (a,t))) n (Z (a,u)) n=Z (a,u):=iy _ _ _;have a9:bL (bL h p (Z (a,t))) n (Z (a,u)) p=Z (a,t):=by rw [fk (fun e=>aX e.symm),iy]
 have al: ∀ q,q≠n→q≠p→bL (bL h p (Z (a,t))) n (Z (a,u)) q=h q:=fun q k s=>by rw [fk k,fk s]
 have ar: ∀ q b y,h q=Z (b,y)→∃ A,bL (bL h p (Z (a,t))) n (Z (a,u)) q=Z (b,A)∧A.lo=y.lo:=fun q b y j=>by
  have k:q≠n:=by rintro rfl;rw [S] at j;cases j
  by_cases e:q=p
  ·subst e;rw [D] at j;obtain ⟨rfl,rfl⟩:=cs j;exact ⟨t,a9,a2⟩
  ·exact ⟨y,by rw [al q k e];exact j,rfl⟩
 have aq: ∀ c v,h7 h m c v→h7 (bL (bL h p (Z (a,t))) n (Z (a,u))) m c v:=fun c v aS f aU=>by
  rcases aS f aU with ⟨b,y,k,s,bb⟩|q
  ·obtain ⟨A,ab,aP⟩:=ar _ _ _ s;exact .inl ⟨b,A,k,ab,K⟩
  ·exact .inr q
 have hold: ∀ q b y,bL (bL h p (Z (a,t))) n (Z (a,u)) q=Z (b,y)→∃ aa Q,h aa=Z (b,Q)∧Q.lo≤y.lo∧y.hi≤Q.hi∧(aa=p∨(aa=q∧q≠p∧q≠n∧Q=y)):=fun q b y j=>by
  rcases B j with ⟨e,i⟩|⟨e,i⟩|⟨k,s,e⟩
  ·cases i;exact ⟨p,x,D,K,K,.inl rfl⟩
  ·cases i;exact ⟨p,x,D,K,K,.inl rfl⟩
  ·exact ⟨q,y,e,aG _,aG _,.inr ⟨rfl,s,k,rfl⟩⟩
 constructor
 ·exact o.ok
 ·obtain ⟨aD,aO,P,aA,a6,a7⟩:=o.root;refine ⟨aD,aO,by rw [al 0 (fun e=>a3 e.symm) (fun e=>aY e.symm)];exact P,aA,a6,fun q b y j=>?_⟩;obtain ⟨aa,Q,k, -⟩:=hold q b y j;exact a7 _ _ _ k
 ·intro q b y j;have av:=o.b6 p a x D;rcases B j with ⟨e,i⟩|⟨e,i⟩|⟨k,s,e⟩
  ·cases i;exact ⟨by rw [aJ];exact aN,by rw [am];exact av.high,by rw [am,aK];exact av.unb⟩
  ·cases i;exact ⟨by rw [aF];exact av.low,by rw [aH];exact aN,by rw [aI];intro q;cases q⟩
  ·exact o.b6 q b y e
 ·intro q b y j;rcases B j with ⟨e,i⟩|⟨e,i⟩|⟨k,s,e⟩
  ·cases i;omega
  ·cases i;omega
  ·exact o.span q b y e
 ·intro q b y j aV;rcases B j with ⟨e,i⟩|⟨e,i⟩|⟨k,s,e⟩
  ·cases i;obtain ⟨A,ab,aP⟩:=o.right p a x D K;obtain ⟨aC,u1,u2⟩:=ar _ _ _ ab;exact ⟨aC,by rw [aR];exact u1,K⟩
  ·cases i;exact ⟨u,by rw [aQ];exact a8,K⟩
  ·obtain ⟨A,ab,aP⟩:=o.right q b y e aV;obtain ⟨aC,u1,u2⟩:=ar _ _ _ ab;exact ⟨aC,u1,K⟩
 ·intro q r b y A W j ag F ax ay az;obtain ⟨aa,Q,G,M,ae,aL⟩:=hold q b y j;obtain ⟨bj,bm,be,bf,bg,bh⟩:=hold r b A ag;rcases B j with ⟨e,i⟩|⟨e,i⟩|⟨k,s,e⟩
  ·rcases B ag with ⟨f,C⟩|⟨f,C⟩|⟨an,R,f⟩
   ·rw [e,f]
   ·cases i;cases C;omega
   ·have:=o.hg p r b x A W (by cases i;exact D) f (by cases i;omega) (by cases i;omega) ay az;exact absurd this.symm R
  ·rcases B ag with ⟨f,C⟩|⟨f,C⟩|⟨an,R,f⟩
   ·cases i;cases C;omega
   ·rw [e,f]
   ·have:=o.hg p r b x A W (by cases i;exact D) f (by cases i;omega) (by cases i;omega) ay az;exact absurd this.symm R
  ·rcases B ag with ⟨f,C⟩|⟨f,C⟩|⟨an,R,f⟩
   ·have:=o.hg q p b y x W e (by cases C;exact D) F ax (by cases C;omega) (by cases C;omega);exact absurd this s
   ·have:=o.hg q p b y x W e (by cases C;exact D) F ax (by cases C;omega) (by cases C;omega);exact absurd this s
   ·exact o.hg q r b y A W e f F ax ay az
 ·intro q b v j;rcases B j with ⟨e,i⟩|⟨e,i⟩|⟨k,s,e⟩
  ·have w:=bB Prod.fst i;have z:=bB Prod.snd i;simp only at w z;subst w;exact (N _ (.inr rfl) v z.symm).1
  ·have w:=bB Prod.fst i;have z:=bB Prod.snd i;simp only at w z;subst w;exact (N _ (.inl rfl) v z.symm).1
  ·exact o.leaf q b v e
 ·intro q b v j;rcases B j with ⟨e,i⟩|⟨e,i⟩|⟨k,s,e⟩
  ·have w:=bB Prod.fst i;have z:=bB Prod.snd i;simp only at w z;subst w;exact (I _ (.inr rfl) v z.symm).1
  ·have w:=bB Prod.fst i;have z:=bB Prod.snd i;simp only at w z;subst w;exact (I _ (.inl rfl) v z.symm).1
  ·exact o.aU q b v e
 ·intro q b v j;rcases B j with ⟨e,i⟩|⟨e,i⟩|⟨k,s,e⟩
  ·exact (N _ (.inr rfl) v (bB Prod.snd i).symm).2.2
  ·exact (N _ (.inl rfl) v (bB Prod.snd i).symm).2.2
  ·exact o.rows q b v e
 ·intro q b v j;rcases B j with ⟨e,i⟩|⟨e,i⟩|⟨k,s,e⟩
  ·exact (I _ (.inr rfl) v (bB Prod.snd i).symm).2.2.1
  ·exact (I _ (.inl rfl) v (bB Prod.snd i).symm).2.2.1
  ·exact o.ag q b v e
 ·intro q b v j;rcases B j with ⟨e,i⟩|⟨e,i⟩|⟨k,s,e⟩
  ·have w:=bB Prod.fst i;have z:=bB Prod.snd i;simp only at w z;subst w;exact aq _ _ (I _ (.inr rfl) v z.symm).2.2.2
  ·have w:=bB Prod.fst i;have z:=bB Prod.snd i;simp only at w z;subst w;exact aq _ _ (I _ (.inl rfl) v z.symm).2.2.2
  ·exact aq _ _ (o.down q b v e)
 ·intro q b v j J;rcases B j with ⟨e,i⟩|⟨e,i⟩|⟨k,s,e⟩
  ·have:=(I _ (.inr rfl) v (bB Prod.snd i).symm).2.1;rw [this] at J;cases J
  ·have:=(I _ (.inl rfl) v (bB Prod.snd i).symm).2.1;rw [this] at J;cases J
  ·obtain ⟨G,M,ae⟩:=o.held q b v e J;refine ⟨G,M,fun c y a1=>?_⟩;rcases B a1 with ⟨f,C⟩|⟨f,C⟩|⟨an,R,f⟩
   ·rcases o.aH e J with ⟨g,F, -⟩|⟨g,F, -⟩
    ·rw [f,S] at F;cases F
    ·rw [f,aM] at F;cases F
   ·exact absurd f (aW q b v e J)
   ·exact ae c y f
 ·intro q b g j E;rcases B j with ⟨e,i⟩|⟨e,i⟩|⟨k,s,e⟩
  ·have:=(N _ (.inr rfl) g (bB Prod.snd i).symm).2.1;rw [this] at E;cases E
  ·have:=(N _ (.inl rfl) g (bB Prod.snd i).symm).2.1;rw [this] at E;cases E
  ·obtain ⟨r,d,G,M,ae,aL⟩:=o.gone q b g e E;have P:r≠n:=by rintro rfl;rw [S] at G;cases G
   have aA:r≠p:=by
    rintro rfl;rw [D] at G;have:=aZ d (cs G).2;rw [this] at M;cases M
   exact ⟨r,d,by rw [al r P aA];exact G,M,ae,aL⟩
 ·intro q g E;obtain ⟨k,s⟩:=o.lim q g E;refine ⟨?_,s⟩;have a4:q≠n:=by rintro rfl;rw [aM] at E;cases E
  have a5:q≠p:=by rintro rfl;rw [D] at k;cases k
  rw [al q a4 a5];exact k
end
end
section
open Go.BigFrame Go.RowKit Go.WideShapes
theorem tr{v:bl}(b:bk d t n s v.rows)(a: (e5 v).1=Z key):key.size≤maxLen:=by
 unfold e5 at a;split at a
 ·cases a
 ·exact Ex a b.keys
theorem DW(v:bl)(left right:Int)(t:Option ai)(n s:Nat)(d:ad)(z:bk d t n s v.rows)(bK:n≤1000000)(bN:eB v)(key:ByteArray)(a9: (e5 v).1=Z key):
  ao aj 172 #[eE v t n s,left,right] d fun e az=> ∃ m w r A D C a5,e=ap (a0 #[aW (bY (eN v key right)) m w r V 0 0,aW (bY (c6 v key)) A D C V 0 0,aW (eW v) V 0 0 a5 2 2,aB])∧bk az m w r (v.rows.take (v.rows.length / 2))∧bk az A D C (v.rows.drop (v.rows.length / 2))∧aZ az a5 2 2 [⟨v.low,left⟩,⟨key,right⟩]∧(∀ a,m=Z a→d.heap.size≤a.block)∧(∀ a,A=Z a→d.heap.size≤a.block)∧(∀ a,a5=Z a→d.heap.size≤a.block)∧Y d az:=by
 have B:=dL;obtain ⟨av,ay⟩: ∃ av,av=(((H d (X (ci v t n s) 119)).alloc (X al 85)).alloc (X al 85)).alloc (X al 85):=⟨_,rfl⟩;have a2:ae av d (ci v t n s):=by rw [ay];exact ((((ae.new d _ _ rfl).I ((Y.refl _).alloc _)).I ((Y.refl _).alloc _)).I ((Y.refl _).alloc _)).of J
 have bv:ae av (d.heap.size+1) al:=by rw [ay];exact (((ae.new (H d _) _ _ (by rw [B])).I ((Y.refl _).alloc _)).I ((Y.refl _).alloc _)).of J
 have bw:ae av (d.heap.size+1+1) al:=by rw [ay];exact ((ae.new ((H d _).alloc _) _ _ (by rw [B,B])).I ((Y.refl _).alloc _)).of J
 have bx:ae av (d.heap.size+1+1+1) al:=by rw [ay];exact (ae.new (((H d _).alloc _).alloc _) _ _ (by rw [B,B,B])).of J
 have bi:Y d av:=by rw [ay];exact (((((Y.refl _).alloc _).alloc _).alloc _).alloc _)
 have bc:av.heap.size=d.heap.size+4:=by rw [ay,B,B,B,B]
 have aQ:=tj v t n s av (z.I bi) bK;unfold m2 at aQ;rw [a9] at aQ;have be:=N aQ;have bG:=tr z a9;have bJ:=bN.low;have bf:=N z.len;clear aQ a9;go_enter Tryz.func172,Tryz.ntmps172;go_upto_region 1 with fail
 rw [←ay];clear ay z;have bt:=N bc;generalize b1:d.heap.size=f at *;have bc:=bt.out;go_upto_region 2 with (first|(with_reducible refine b0 119 (a2) dn ?_)|(go_at_call 187;(with_reducible refine be.out.mono ?_);rintro e k ⟨m,w,r,A,D,C,rfl,aF,aG,aN⟩;have aY:ae ((H k (X bS 119)).alloc (X bS 119)) k.heap.size bS:=((ae.new k _ _ rfl).I ((Y.refl _).alloc _)).of J;have a1:ae ((H k (X bS 119)).alloc (X bS 119)) (k.heap.size+1) bS:=(ae.new (H k _) _ _ (by rw [B])).of J)|(with_reducible refine bq 119 (aY) ((ci (ij v key) m w r)) ?_)|(with_reducible refine bq 119 ((a1.others (b':=k.heap.size) K (ci (ij v key) m w r))) ((ci (c6 v key) A D C)) ?_))
 have aU: ∀ g,Value.ownBlock (ac m w r)=Z g→g < k.heap.size:=fun g aA=>(aF.own.lt g aA).2;have aV: ∀ g,Value.ownBlock (ac A D C)=Z g→g < k.heap.size:=fun g aA=>(aG.own.lt g aA).2;have ax:=(aY.aR (us:=ci (ij v key) m w r) rfl).others (b':=k.heap.size+1) K (ci (c6 v key) A D C);have aE:=(a1.others (b':=k.heap.size) K (ci (ij v key) m w r)).aR (us:=ci (c6 v key) A D C) rfl;have a7:=(((aN.alloc (X bS 119)).alloc (X bS 119)).setCells aN.le (ci (ij v key) m w r) 0).setCells (b:=k.heap.size+1) (by have:=aN.le;omega) (ci (c6 v key) A D C) 0;have aF:=((aF.I (((Y.refl k).alloc (X bS 119)).alloc (X bS 119))).fu (b:=k.heap.size) (fun q=>by have:=aU _ q;omega) (ci (ij v key) m w r) 0).fu (b:=k.heap.size+1) (fun q=>by have:=aU _ q;omega) (ci (c6 v key) A D C) 0;have aG:=((aG.I (((Y.refl k).alloc (X bS 119)).alloc (X bS 119))).fu (b:=k.heap.size) (fun q=>by have:=aV _ q;omega) (ci (ij v key) m w r) 0).fu (b:=k.heap.size+1) (fun q=>by have:=aV _ q;omega) (ci (c6 v key) A D C) 0;have bF:=aN.le;clear aY a1 be aN B;generalize (((H k (X bS 119)).alloc (X bS 119)).setCells k 0 (ci (ij v key) m w r)).setCells (k.heap.size+1) 0 (ci (c6 v key) A D C)=aX at ax aE a7 aF aG ⊢;generalize k.heap.size=E at *;have bA:=ax.cell 3 rfl;have bB:=ax.free 3 J;go_upto_region 5 with fail
 have ax:ae (aX.setCell ⟨E,3,V⟩ (O U right)) E (ci (eN v key right) m w r):=ax.set 3 (O U right);have aE:=aE.other (b':=E) (j:=3) K (O U right);have aO:=a7.setCell (p:=⟨E,3,V⟩) bF (O U right);have aH:bk (aX.setCell ⟨E,3,V⟩ (O U right)) m w r (v.rows.take (v.rows.length / 2)):=(aF.fu (b:=E) (fun q=>by have:=aU _ q;omega) [O U right] 3).rows;have aI:bk (aX.setCell ⟨E,3,V⟩ (O U right)) A D C (v.rows.drop (v.rows.length / 2)):=(aG.fu (b:=E) (fun q=>by have:=aV _ q;omega) [O U right] 3).rows;clear bA bB aF aG a7 aU aV;generalize aX.setCell ⟨E,3,V⟩ (O U right)=l at ax aE aO aH aI ⊢;have aL:=a2.I aO;have cf:=aL.cell 0 rfl;have bR:=aL.cell 1 rfl;have bT:=aL.cell 2 rfl;have bU:=aL.cell 3 rfl;have B:=dL;have bd:ae (H l (X #[af v.low,left,key,right] 174)) l.heap.size [af v.low,left,key,right]:=(ae.new l _ _ rfl).of J;have a4:ae ((H l (X #[af v.low,O U left,af key,O U right] 174)).alloc (X al 85)) (l.heap.size+1) al:=(ae.new (H l _) al.toArray 85 (by rw [B])).of J;have bm:Y (H l (X #[af v.low,O U left,af key,O U right] 174)) (((H l (X #[af v.low,O U left,af key,O U right] 174)).alloc (X al 85)).setCells (l.heap.size+1) 0 (an (eW v) V 0 0 (Z ⟨l,0,V⟩) 2 2)):=((Y.refl _).alloc _).setCells (by rw [B];omega) _ _;have a8:Y l (((H l (X #[af v.low,left,key,right] 174)).alloc (X al 85)).setCells (l.heap.size+1) 0 (an (eW v) V 0 0 (Z ⟨l,0,V⟩) 2 2)):=(((Y.refl _).alloc _).alloc _).setCells K _ _;go_upto_region 6 with (with_reducible refine bq 85 (a4) ((an (eW v) V 0 0 (Z ⟨l,0,V⟩) 2 2)) ?_)
 have h:=a4.aR (us:=an (eW v) V 0 0 (Z ⟨l,0,V⟩) 2 2) rfl;have a3:=bd.I bm;have b2:=aO.le;clear a4 bd bm B cf bR bT bU aL;generalize ((H l (X #[af v.low,left,key,right] 174)).alloc (X al 85)).setCells (l.heap.size+1) 0 (an (eW v) V 0 0 (Z ⟨l,0,V⟩) 2 2)=aD at h a3 a8 ⊢;generalize l.heap.size=x at *;have aK:=a8.drew;have aH:=aH.I aK;have aI:=aI.I aK;have bC:aD.drew.rangeAt E 0 (ci (eN v key right) m w r):=(ax.I aK).aM;have bD:aD.drew.rangeAt (E+1) 0 (ci (c6 v key) A D C):=(aE.I aK).aM;have bE:aD.drew.rangeAt (x+1) 0 (an (eW v) V 0 0 (Z ⟨x,0,V⟩) 2 2):=(h.I ((Y.refl aD).drew)).aM;have I:=a3.I ((Y.refl aD).drew);have aC:=aO.trans aK;have bb:=aC.le;rw [bc] at bb;have bo:=aH.len;have bp:=aI.len;rw [fm,bf.out] at bo;rw [hl,bf.out] at bp;have bg:=N (qm (eN v key right) m w r aD.drew aH K);have bh:=N fun bs (bL:Y aD.drew bs)=>qm (c6 v key) A D C bs (aI.I bL) K;have bM:=cG;have aT: (aj.info? 85).map (·.size)=Z 15:=G;have br:=dn;have bn: (aj.info? 119).map (·.size)=Z 6:=G;clear bo bp aH aI ax aE h a3 a8 aK aO a2;refine gG (S:=fun az=>az.rangeAt E 0 (ci (eN v key right) m w r)∧az.rangeAt (E+1) 0 (ci (c6 v key) A D C)∧az.rangeAt (x+1) 0 (an (eW v) V 0 0 (Z ⟨x,0,V⟩) 2 2)) G ⟨bC,bD,bE⟩ (fun c=>?_);refine' fX (i:=0) (oi:={dst:=Z 47,op:= .load 119 (.tmp 11),type:=_,pos:=_,after:=_,guard:=V}) (v:=_) rfl G G G (fun _ _ _ z=>z) (cj aq _ _ rfl _ _ rfl _ _ (fun d z=>z.1) br rfl bn) c ?_;simp only [bu];refine' fX (i:=2) (oi:={dst:=Z 49,op:= .load 119 (.tmp 12),type:=_,pos:=_,after:=_,guard:=V}) (v:=_) rfl G G G (fun _ _ _ z=>z) (cj aq _ _ rfl _ _ rfl _ _ (fun d z=>z.2.1) br rfl bn) c ?_;simp only [bu];refine' fX (i:=4) (oi:={dst:=Z 51,op:= .load 85 (.tmp 14),type:=_,pos:=_,after:=_,guard:=V}) (v:=_) rfl G G G (fun _ _ _ z=>z) (cj aq _ _ rfl _ _ rfl _ _ (fun d z=>z.2.2) bM rfl aT) c ?_;simp only [bu];refine cL (rs:=[1]) G J ?_;refine cy (o:={dst:=Z 48,op:= .call {callee:= .value (.func 145),args:= #[.tmp 47],argTypes:= #[119]},type:=_,pos:=_,after:=_,guard:=V}) rfl (fun W u=>?_) cM;go_simp;(go_at_call 145;(with_reducible refine (bg.out).mono ?_);rintro e b3 ⟨R,P,L,rfl,F,aJ⟩);go_wp2_with fail;refine u.out _ _ ⟨aJ.range c.1,aJ.range c.2.1,aJ.range c.2.2⟩ (fun c=>?_);clear u W bg;refine cL (rs:=[3]) G J ?_;refine cy (o:={dst:=Z 50,op:= .call {callee:= .value (.func 145),args:= #[.tmp 49],argTypes:= #[119]},type:=_,pos:=_,after:=_,guard:=V}) rfl (fun W u=>?_) cM;go_simp;(go_at_call 145;(with_reducible refine (bh.out _ aJ).mono ?_);rintro e bV ⟨T,Q,M,rfl,am,aP⟩);go_wp2_with fail;refine u.out _ _ ⟨aP.range c.1,aP.range c.2.1,aP.range c.2.2⟩ (fun c=>?_);clear u W bh;have F:=F.I aP;have bj:=aJ.trans aP;have I:=I.I bj;have aC:=aC.trans bj;have aa:=bv.I aC;have ab:=bw.I aC;have ag:=bx.I aC;have ar:=bi.trans aC;have bI:=aJ.le;have aR: ∀ g,Value.ownBlock (ac R P L)=Z g→f+4≤g:=fun g aA=>bZ bb (F.own.lt g aA).1;have aS: ∀ g,Value.ownBlock (ac T Q M)=Z g→f+4≤g:=fun g aA=>bZ bb (bZ bI (am.own.lt g aA).1);have bO: (an (bY (eN v key right)) R P L V 0 0).toArray.all (·.oneCell')=true:=du;have bP: (an (bY (c6 v key)) T Q M V 0 0).toArray.all (·.oneCell')=true:=du;have bQ: (an (eW v) V 0 0 (Z ⟨x,0,V⟩) 2 2).toArray.all (·.oneCell')=true:=du;refine cL (rs:=[5]) G J ?_;refine cy (o:={dst:=V,op:= .store 85 (.tmp 6) (.tmp 48),type:=_,pos:=_,after:=_,guard:=V}) rfl (fun W u=>?_) cM;refine a6 aq ?_;refine dQ _ _ _ rfl _ _ (an (bY (eN v key right)) R P L V 0 0).toArray rfl rfl aa.may aT bO ?_;simp only [bu];refine u.out _ _ ⟨eg c.1 _ _ _ (.inl K),eg c.2.1 _ _ _ (.inl K),eg c.2.2 _ _ _ (.inl K)⟩ (fun c=>?_);clear u W;have aa:=aa.aR (us:=an (bY (eN v key right)) R P L V 0 0) rfl;have ab:=ab.others (b':=f+1) K (an (bY (eN v key right)) R P L V 0 0);have ag:=ag.others (b':=f+1) K (an (bY (eN v key right)) R P L V 0 0);have I:=I.others (b':=f+1) K (an (bY (eN v key right)) R P L V 0 0);have F:=F.fu (b:=f+1) (fun q=>by have:=aR _ q;omega) (an (bY (eN v key right)) R P L V 0 0) 0;have am:=am.fu (b:=f+1) (fun q=>by have:=aS _ q;omega) (an (bY (eN v key right)) R P L V 0 0) 0;have ar:=ar.setCells (b:=f+1) K (an (bY (eN v key right)) R P L V 0 0) 0;generalize (bV).setCells (f+1) 0 (an (bY (eN v key right)) R P L V 0 0)=bW at c ar aa ab ag I F am ⊢;refine cL (rs:=[6]) G J ?_;refine cy (o:={dst:=V,op:= .store 85 (.tmp 7) (.tmp 50),type:=_,pos:=_,after:=_,guard:=V}) rfl (fun W u=>?_) cM;refine a6 aq ?_;refine dQ _ _ _ rfl _ _ (an (bY (c6 v key)) T Q M V 0 0).toArray rfl rfl ab.may aT bP ?_;simp only [bu];refine u.out _ _ ⟨eg c.1 _ _ _ (.inl K),eg c.2.1 _ _ _ (.inl K),eg c.2.2 _ _ _ (.inl K)⟩ (fun c=>?_);clear u W;have aa:=aa.others (b':=f+1+1) K (an (bY (c6 v key)) T Q M V 0 0);have ab:=ab.aR (us:=an (bY (c6 v key)) T Q M V 0 0) rfl;have ag:=ag.others (b':=f+1+1) K (an (bY (c6 v key)) T Q M V 0 0);have I:=I.others (b':=f+1+1) K (an (bY (c6 v key)) T Q M V 0 0);have F:=F.fu (b:=f+1+1) (fun q=>by have:=aR _ q;omega) (an (bY (c6 v key)) T Q M V 0 0) 0;have am:=am.fu (b:=f+1+1) (fun q=>by have:=aS _ q;omega) (an (bY (c6 v key)) T Q M V 0 0) 0;have ar:=ar.setCells (b:=f+1+1) K (an (bY (c6 v key)) T Q M V 0 0) 0;generalize (bW).setCells (f+1+1) 0 (an (bY (c6 v key)) T Q M V 0 0)=bX at c ar aa ab ag I F am ⊢;refine cL (rs:=[7]) G J ?_;refine cy (o:={dst:=V,op:= .store 85 (.tmp 8) (.tmp 51),type:=_,pos:=_,after:=_,guard:=V}) rfl (fun W u=>?_) cM;refine a6 aq ?_;refine dQ _ _ _ rfl _ _ (an (eW v) V 0 0 (Z ⟨x,0,V⟩) 2 2).toArray rfl rfl ag.may aT bQ ?_;simp only [bu];refine u.out _ _ ⟨eg c.1 _ _ _ (.inl K),eg c.2.1 _ _ _ (.inl K),eg c.2.2 _ _ _ (.inl K)⟩ (fun c=>?_);clear u W;have aa:=aa.others (b':=f+1+1+1) K (an (eW v) V 0 0 (Z ⟨x,0,V⟩) 2 2);have ab:=ab.others (b':=f+1+1+1) K (an (eW v) V 0 0 (Z ⟨x,0,V⟩) 2 2);have ag:=ag.aR (us:=an (eW v) V 0 0 (Z ⟨x,0,V⟩) 2 2) rfl;have I:=I.others (b':=f+1+1+1) K (an (eW v) V 0 0 (Z ⟨x,0,V⟩) 2 2);have F:=F.fu (b:=f+1+1+1) (fun q=>by have:=aR _ q;omega) (an (eW v) V 0 0 (Z ⟨x,0,V⟩) 2 2) 0;have am:=am.fu (b:=f+1+1+1) (fun q=>by have:=aS _ q;omega) (an (eW v) V 0 0 (Z ⟨x,0,V⟩) 2 2) 0;have ar:=ar.setCells (b:=f+1+1+1) K (an (eW v) V 0 0 (Z ⟨x,0,V⟩) 2 2) 0;generalize (bX).setCells (f+1+1+1) 0 (an (eW v) V 0 0 (Z ⟨x,0,V⟩) 2 2)=b4 at c ar aa ab ag I F am ⊢;refine cL (rs:=[8]) G J ?_;refine cy rfl (fun W u=>?_) cM;go_simp;refine u.out _ _ c (fun c=>?_);clear u W;refine fx G ?_ _;go_wp2_with fail;refine bH (ae.rb (y:=aB) aa ab ag rfl _ rfl rfl rfl rfl cG rfl G G G) rfl ?_;exact ⟨R,P,L,T,Q,M,Z ⟨x,0,V⟩,rfl,F.rows,am.rows,wA I bJ bG,(fun a aM=>by have:=aR a.block (by rw [aM];rfl);omega),(fun a aM=>by have:=aS a.block (by rw [aM];rfl);omega),(fun a aM=>by cases aM;show d.heap.size≤x;omega),ar⟩
end
end Go.Proofs.YtbkmjhhpcinppaaGreatDoor
