import Derived.Test.YtbkmjhhpcinppaaGreatDoorQ4
namespace Go.Proofs.YtbkmjhhpcinppaaGreatDoor
set_option linter.unusedVariables false
set_option linter.defProp false
set_option linter.unusedSimpArgs false
set_option maxRecDepth 100000
set_option maxHeartbeats 40000000
open Ending renaming returned→ap
open Go renaming Addr→ai,Calls→ao,Value→ak,World→ad
open Go.Proofs.Tryz renaming prog→aj
open IntKind renaming i64→U
open Obj renaming cells→X
open Option renaming none→V,some→Z
open Value renaming agg→aw,bool→ah,int→O,nilIface→aB,pointer→au,slice→ac,string→af,tuple→a0
open World renaming alloc→H,setCells→ba
variable {b base j m f n z d o off : Nat} {h : List aN} {l s oa : Option ai} {w A : ad}
section
open Go.BigFrame Go.RowKit Go.WideShapes
theorem It(v:bl)(x:fc)(oa:Option ai)(n f:Nat)(z:Option ai)(d q:Nat)(A:Option ai)(y r:Nat)(w:ad)(aN:bk w oa n f v.rows)(aR:n≤1000000)(aY:base≤w.heap.size)(W:eB v)(aa:ht x)(T:x.r.kind=4):
  ao aj 72 #[eE v oa n f,aW x z d q A y r] w (gb base w (dg v x.r)):=by
 have al:dg v x.r=if v.gone=false∧gg v x.r.key=true∧a3.cmp (aF v.low) (aF x.r.key) < 0 then Z {v with rows:=v.rows.take (place x.r.key v.rows),high:=x.r.key,unb:=false,right:=x.r.page} else none:=by
  unfold dg;rw [aS K,aS K,a9 T]
 have aE:=N al;generalize dg v x.r=a2 at *;obtain ⟨c,aq⟩:=nW w v x oa n f z d q A y r;have aG:=N T;unfold l2 at *;clear T al;obtain ⟨low,high,unb,right,rows,gone⟩:=v;dsimp only at *;generalize E:w.heap.size=a at *;go_enter n5,n6;go_upto_region 1 with fail
 generalize ((H w (X #[af low,high,unb,right,ac oa n f,gone] 119)).alloc (X #[O U x.r.kind,x.r.low,x.r.high,x.r.unb,x.r.right,ac z d q,ac A y r,x.r.key,x.r.val,x.r.page,x.aH,x.bb,x.aD,x.slot,x.gen] 85)).alloc (X #[af ⟨#[]⟩,af ⟨#[]⟩,false,O U 0,ac V 0 0,false] 119)=R at *;have az:=c.v.cell 5 rfl;have aC:=c.x.cell 0 rfl;rw [aG.out] at aC;have aZ:=c.lt;obtain ⟨o,ab⟩: ∃ o:Bool,o=(!gone && (gg ⟨low,high,unb,right,rows,gone⟩ x.r.key && decide (a3.cmp (aF low) (aF x.r.key) < 0))):=⟨_,rfl⟩;have k:=N ab;clear ab;have F:=N fun B=>tl ⟨low,high,unb,right,rows,gone⟩ oa n f x.r.key B ⟨W.low,W.high⟩ aa.key;have aK:=N fun B=>gO low x.r.key B W.low aa.key;go_upto_region 15 with fail
 go_cut [6] (fun aT C=>aT=ah o∧Y R C)
 case first=>
  have D:=c.x.cell 7 rfl;have cf:=(c).v.cell 0 rfl;have av:=(c).v.cell 1 rfl;have v2:=(c).v.cell 2 rfl;have ax:=(c).v.cell 3 rfl;have ay:=(c).v.cell 4 rfl;have az:=(c).v.cell 5 rfl;cases gone;all_goals simp only [rE,pD]
  ·cases L:gg ⟨low,high,unb,right,rows,false⟩ x.r.key
   ·rw [L] at F k;have p:Hid (o=false):=N (by rw [k.out];rfl);clear L k;go_wp2_with (first|(go_at_call 91;(with_reducible refine (F.out _).mono ?_);rintro e B ⟨rfl,I⟩));go_meet;with_reducible exact ⟨bB Value.bool p.out.symm,I⟩
   ·rw [L] at F k;have p:Hid (o=decide (a3.cmp (aF low) (aF x.r.key) < 0)):=N (by rw [k.out];simp);clear L k;go_wp2_with (first|(go_at_call 91;(with_reducible refine (F.out _).mono ?_);rintro e B ⟨rfl,I⟩;have g:=c.I I;have cf:=g.v.cell 0 rfl;have D:=g.x.cell 7 rfl)|(go_at_call 93;(with_reducible refine (aK.out _).mono ?_);rintro e a4 ⟨rfl,aO⟩));go_meet;with_reducible exact ⟨bB Value.bool p.out.symm,I.trans aO.aC⟩
  ·have p:Hid (o=false):=N (by rw [k.out];rfl);go_wp2_with fail;go_meet;with_reducible exact ⟨bB Value.bool p.out.symm,Y.refl _⟩
 case rest=>
  obtain ⟨rfl,t⟩:=hcut;have M:=c.I t;have ay:=M.v.cell 4 rfl;have D:=M.x.cell 7 rfl;have aM:=N (Cy oa n f rows x.r.key wc (aN.I (aq.trans t)) aR aa.key);clear az aC;go_wp2_with fail;(with_reducible refine aM.out.mono ?_);rintro e aA ⟨l,h,j,s,a1,m,rfl,ae, -,ar⟩;have P:=M.I ar;have aU:=P.v.cell 4 rfl;have aX:=P.v.free 4 J;clear ay D;go_upto_region 17 with fail
  have aQ:Y w (aA.setCell ⟨a,4,V⟩ (ac l h j)):=((aq.trans t).trans ar).setCell (hG E) _;have g:=P.jt 4 (ac l h j);have ag:=(ae.gi (b:=a) (i:=4) (u:=ac l h j) (by have:=t.le;omega)).e6 (bZ (hG rfl) t.le);have aD:=N ag;clear ae ag aU;generalize aA.setCell ⟨a,4,V⟩ (ac l h j)=S at *;have D:=g.x.cell 7 rfl;have aV:=g.x.cell 9 rfl;have av:=g.v.cell 1 rfl;have v2:=g.v.cell 2 rfl;have ax:=g.v.cell 3 rfl;have aH:=g.v.free 1 J;have aI:=g.v.free 2 J;have aJ:=g.v.free 3 J;have am:=N (show jd ((((S.setCell ⟨a,1,V⟩ (af x.r.key)).setCell ⟨a,2,V⟩ (ah false)).setCell ⟨a,3,V⟩ (O U x.r.page)).drew) a [af low,x.r.key,false,x.r.page,ac l h j,gone] (an x z d q A y r) bS∧Y w ((((S.setCell ⟨a,1,V⟩ (af x.r.key)).setCell ⟨a,2,V⟩ (ah false)).setCell ⟨a,3,V⟩ (O U x.r.page)).drew)∧br ((((S.setCell ⟨a,1,V⟩ (af x.r.key)).setCell ⟨a,2,V⟩ (ah false)).setCell ⟨a,3,V⟩ (O U x.r.page)).drew) R.heap.size l h j (rows.take (place x.r.key rows)) from
   ⟨(((g.jt 1 _).jt 2 _).jt 3 _).I (Y.refl _).drew,(((aQ.setCell (hG E) _).setCell (hG E) _).setCell (hG E) _).drew,((((aD.out.gi K).gi K).gi K).I (Y.refl _).drew)⟩)
  go_cut [] (fun C=>jd C a [af low,x.r.key,false,x.r.page,ac l h j,gone] (an x z d q A y r) bS∧Y w C∧br C R l h j (rows.take (place x.r.key rows)))
  case first=>
   go_region;all_goals (go_wp2_with fail;go_meet;with_reducible exact am.out)
  case rest=>
   obtain ⟨Q,aP,aL⟩:=hcut;clear D aV av v2 ax aH aI aJ am;go_wp2_with (first|(refine e8 rfl 119 _ rfl _ 0 rfl _ _ (Q.v).aM dn rfl G ?_)|(refine dY rfl 119 _ _ rfl _ 0 _ rfl rfl (Q.z).may G G ?_));refine bH ((Q.z.aR (us:=[af low,x.r.key,false,x.r.page,ac l h j,gone]) rfl).cK rfl _ rfl rfl dn rfl G) rfl ?_;refine gb.mk (v2:=⟨low,x.r.key,false,x.r.page,rows.take (place x.r.key rows),gone⟩) (by rw [aE.out,k.out];cases gone <;> simp [fZ]) (fun _=>(aL.nR K _ 0).e6 K) (aP.setCells K _ _) rfl
theorem Im(v:bl)(x:fc)(oa:Option ai)(n f:Nat)(s:Option ai)(d m:Nat)(T:Option ai)(S P:Nat)(w:ad)(az:bk w oa n f v.rows)(ab:bk w s d m x.r.rows)(aR:n≤1000000)(aC:d≤1000000)(bv:base≤w.heap.size)(bx:eB v)(al:ht x)(aA:x.r.kind=6):
  ao aj 72 #[eE v oa n f,aW x s d m T S P] w (gb base w (dg v x.r)):=by
 have aM:dg v x.r=if v.gone=false∧v.unb=false∧v.high=x.r.key∧hf x.r.rows x.r.key x.r.high x.r.unb=true∧(x.r.unb=true∨a3.cmp (aF x.r.key) (aF x.r.high) < 0)∧lR v.rows x.r.rows=true then Z {v with rows:=v.rows++x.r.rows,high:=x.r.high,unb:=x.r.unb,right:=x.r.right} else none:=by
  unfold dg;rw [aS K,aS K,aS K,a9 aA]
 have aE:=N aM;generalize dg v x.r=aX at *;obtain ⟨t,Q⟩:=nW w v x oa n f s d m T S P;have a4:=N aA;unfold l2 at *;clear aA aM;obtain ⟨low,high,unb,right,rows,gone⟩:=v;dsimp only at *;generalize aa:w.heap.size=c at *;go_enter n5,n6;go_upto_region 1 with fail
 generalize ((H w (X #[af low,high,unb,right,ac oa n f,gone] 119)).alloc (X #[O U x.r.kind,x.r.low,x.r.high,x.r.unb,x.r.right,ac s d m,ac T S P,x.r.key,x.r.val,x.r.page,x.aH,x.bb,x.aD,x.slot,x.gen] 85)).alloc (X #[af ⟨#[]⟩,af ⟨#[]⟩,false,O U 0,ac V 0 0,false] 119)=u at *;have bq:=t.v.cell 5 rfl;have a1:=t.x.cell 0 rfl;rw [a4.out] at a1;have bw:=t.lt;obtain ⟨i,aH⟩: ∃ i:Bool,i=(!gone && (!unb && (decide (high=x.r.key) && (hf x.r.rows x.r.key x.r.high x.r.unb && (x.r.unb||decide (a3.cmp (aF x.r.key) (aF x.r.high) < 0)))))):=⟨_,rfl⟩;have C:=N aH;clear aH;have aL:=N fun F (bm:Y u F)=>y7 x.r.rows s d m x.r.key x.r.high x.r.unb F (ab.I (Q.trans bm)) aC al.key al.high;have aI:=N fun F=>gO x.r.key x.r.high F al.key al.high;have M:=t.x.cell 2 rfl;have k:=t.x.cell 3 rfl;have ar:=t.x.cell 7 rfl;go_upto_region 18 with fail
 go_cut [10] (fun bn A=> ∃ b:Nat,bn=au (Z b)∧ae A b [af x.r.key,x.r.high,x.r.unb]∧Y u A∧u.heap.size≤b)
 case first=>
  go_wp2_with fail;go_meet;exact ⟨u.heap.size,rfl,ae.new u #[af x.r.key,x.r.high,x.r.unb] _ rfl,(Y.refl _).alloc _,aG _⟩
 case rest=>
  obtain ⟨bt,rfl,ag,q,bf⟩:=hcut;have B:=t.I q;clear M k ar;go_upto_region 19 with fail
  go_cut [6] (fun bo A=>bo=ah i∧Y u A)
  case first=>
   have v2:=B.v.cell 2 rfl;have aZ:=B.v.cell 1 rfl;have ar:=B.x.cell 7 rfl;have aD:=B.x.cell 5 rfl;have k:=B.x.cell 3 rfl;have M:=B.x.cell 2 rfl;have bA:=ag.cell 0 rfl;have bC:=ag.cell 1 rfl;have aY:=ag.cell 2 rfl;have D:=N (aL.out _ q);cases gone;all_goals simp only [rE,pD]
   ·cases unb
    ·by_cases o:high=x.r.key
     ·have bh:=mu o;cases y:hf x.r.rows x.r.key x.r.high x.r.unb
      ·rw [y] at D;have g:Hid (i=false):=N (by rw [C.out,y];simp);clear y o;go_wp2_with (first|(go_at_call 70;(with_reducible refine D.out.mono ?_);rintro e F ⟨rfl,p⟩));go_meet;with_reducible exact ⟨bB Value.bool g.out.symm,q.trans p⟩
      ·rw [y] at D;cases L:x.r.unb
       ·have g:Hid (i=decide (a3.cmp (aF x.r.key) (aF x.r.high) < 0)):=N (by rw [C.out,y,o,L];simp);rw [L] at D k aY;clear y o L;go_wp2_with (first|(go_at_call 70;(with_reducible refine D.out.mono ?_);rintro e F ⟨rfl,p⟩;have k:=p.I k;have ar:=p.I ar;have M:=p.I M)|(go_at_call 93;(with_reducible refine (aI.out _).mono ?_);rintro e bD ⟨rfl,bg⟩));go_meet;with_reducible exact ⟨bB Value.bool g.out.symm,(q.trans p).trans bg.aC⟩
       ·have g:Hid (i=true):=N (by rw [C.out,y,o,L];simp);rw [L] at D k aY;clear y o L;go_wp2_with (first|(go_at_call 70;(with_reducible refine D.out.mono ?_);rintro e F ⟨rfl,p⟩;have k:=p.I k));go_meet;with_reducible exact ⟨bB Value.bool g.out.symm,q.trans p⟩
     ·have bh:=nF o;have g:Hid (i=false):=N (by rw [C.out,dz o];simp);clear o;go_wp2_with fail;go_meet;with_reducible exact ⟨bB Value.bool g.out.symm,q⟩
    ·have g:Hid (i=false):=N (by rw [C.out];rfl);go_wp2_with fail;go_meet;with_reducible exact ⟨bB Value.bool g.out.symm,q⟩
   ·have g:Hid (i=false):=N (by rw [C.out];rfl);go_wp2_with fail;go_meet;with_reducible exact ⟨bB Value.bool g.out.symm,q⟩
  case rest=>
   obtain ⟨rfl,I⟩:=hcut;clear aL aI;have W:=t.I I;have am:=W.v.cell 4 rfl;have aD:=W.x.cell 5 rfl;have aJ:=N (az.I (Q.trans I));have aK:=N (ab.I (Q.trans I));have aP:=az.len;have aQ:=ab.len;have a5:=N aP;have a6:=N aQ;clear aP aQ az ab bq a1 q bf ag B;cases h:lR rows x.r.rows
   ·have E:0 < n∧0 < d∧0≤a3.cmp (aF (bJ rows (n - 1))) (aF (bJ x.r.rows 0)):=by
     unfold lR at h;rw [hH,not_or,not_or] at h;rw [←a5.out,←a6.out];exact ⟨rF.2 h.1,rF.2 h.2.1,K⟩
    have aT:aX=none:=by rw [aE.out,h];simp
    have a7:=N aT;have ay:=N (EO oa s n f d m rows x.r.rows wc aJ.out aK.out aR aC E.1 E.2.1 E.2.2);clear aT h E;go_wp2_with fail;(with_reducible refine ay.out.mono ?_);rintro e aq ⟨rfl,R⟩;have a:=W.I R;clear am aD;go_wp2_with (first|(refine e8 rfl 119 _ rfl _ 0 rfl _ _ (a.v).aM dn rfl G ?_)|(refine dY rfl 119 _ _ rfl _ 0 _ rfl rfl (a.z).may G G ?_));refine bH ((a.z.aR (us:=[af low,high,unb,right,ac oa n f,gone]) rfl).cK rfl _ rfl rfl dn rfl G) rfl ?_;refine gb.no a7.out ?_ rfl;exact ((Q.trans I).trans R).setCells K _ _
   ·have E:xE rows x.r.rows:=by
     unfold lR at h;rw [dp] at h;intro aU aV;rcases h with r|r|r
     ·rw [r] at aU;simp at aU
     ·rw [r] at aV;simp at aV
     ·exact r
    have aN:aX=if i=true then Z ⟨low,x.r.high,x.r.unb,x.r.right,rows++x.r.rows,gone⟩ else none:=by
     rw [aE.out,C.out,h];cases gone <;> cases unb <;> simp [fZ]
    have a2:=N aN;have ay:=N (EP oa s n f d m rows x.r.rows wc aJ.out aK.out aR aC E);clear aN h E;go_wp2_with fail;(with_reducible refine ay.out.mono ?_);rintro e aq ⟨l,z,j,rfl,ax,R⟩;have ax:=N (ax.e6 I.le);have a:=W.I R;clear am aD;go_upto_region 23 with fail
    have bj:=(Q.trans I).trans R;have M:=a.x.cell 2 rfl;have k:=a.x.cell 3 rfl;have bs:=a.x.cell 4 rfl;have aZ:=a.v.cell 1 rfl;have v2:=a.v.cell 2 rfl;have bp:=a.v.cell 3 rfl;have am:=a.v.cell 4 rfl;have a8:=a.v.free 1 J;have bb:=a.v.free 2 J;have bc:=a.v.free 3 J;have bd:=a.v.free 4 J;have aO:=N (show jd (((((aq.setCell ⟨c,4,V⟩ (ac l z j)).setCell ⟨c,1,V⟩ (af x.r.high)).setCell ⟨c,2,V⟩ (ah x.r.unb)).setCell ⟨c,3,V⟩ (O U x.r.right)).drew) c [af low,x.r.high,x.r.unb,x.r.right,ac l z j,gone] (an x s d m T S P) bS∧Y w (((((aq.setCell ⟨c,4,V⟩ (ac l z j)).setCell ⟨c,1,V⟩ (af x.r.high)).setCell ⟨c,2,V⟩ (ah x.r.unb)).setCell ⟨c,3,V⟩ (O U x.r.right)).drew)∧br (((((aq.setCell ⟨c,4,V⟩ (ac l z j)).setCell ⟨c,1,V⟩ (af x.r.high)).setCell ⟨c,2,V⟩ (ah x.r.unb)).setCell ⟨c,3,V⟩ (O U x.r.right)).drew) u.heap.size l z j (rows++x.r.rows) from
     ⟨((((a.jt 4 _).jt 1 _).jt 2 _).jt 3 _).I (Y.refl _).drew,((((bj.setCell (hG aa) _).setCell (hG aa) _).setCell (hG aa) _).setCell (hG aa) _).drew,(((((ax.out.gi K).gi K).gi K).gi K).I (Y.refl _).drew)⟩)
    go_cut [] (fun A=>jd A c [af low,x.r.high,x.r.unb,x.r.right,ac l z j,gone] (an x s d m T S P) bS∧Y w A∧br A u l z j (rows++x.r.rows))
    case first=>
     go_region;all_goals (go_wp2_with fail;go_meet;with_reducible exact aO.out)
    case rest=>
     obtain ⟨av,bi,be⟩:=hcut;clear M k bs aZ v2 bp am a8 bb bc bd aO;go_wp2_with (first|(refine e8 rfl 119 _ rfl _ 0 rfl _ _ (av.v).aM dn rfl G ?_)|(refine dY rfl 119 _ _ rfl _ 0 _ rfl rfl (av.z).may G G ?_));refine bH ((av.z.aR (us:=[af low,x.r.high,x.r.unb,x.r.right,ac l z j,gone]) rfl).cK rfl _ rfl rfl dn rfl G) rfl ?_;refine gb.mk (v2:=⟨low,x.r.high,x.r.unb,x.r.right,rows++x.r.rows,gone⟩) a2.out (fun _=>(be.nR K _ 0).e6 K) (bi.setCells K _ _) rfl
def qh (w:ad) (v:bl) (oa:Option ai) (n f:Nat) (e:Ending) (A:ad):Prop:=
 if v.gone=false then e=ap (a0 #[eE {v with gone:=true} oa n f,ah true])∧Y w A else ∃ (a b:ByteArray) (d g:Bool) (r:Int) (o:Option ai) (n c:Nat),e=ap (a0 #[aw #[af a,af b,ah d,O U r,ac o n c,ah g],ah false])∧Y w A
theorem Ir(v:bl)(x:fc)(oa:Option ai)(n f:Nat)(i:Option ai)(d e:Nat)(j:Option ai)(h g:Nat)(w:ad)(q:x.r.kind=5):
  ao aj 72 #[eE v oa n f,aW x i d e j h g] w (qh w v oa n f):=by
 obtain ⟨a,t⟩:=nW w v x oa n f i d e j h g;have l:=N q;unfold l2 at *;clear q;obtain ⟨low,high,unb,right,rows,gone⟩:=v;dsimp only at *;generalize s:w.heap.size=c at *;go_enter n5,n6;go_upto_region 1 with fail
 generalize ((H w (X #[af low,high,unb,right,ac oa n f,gone] 119)).alloc (X #[O U x.r.kind,x.r.low,x.r.high,x.r.unb,x.r.right,ac i d e,ac j h g,x.r.key,x.r.val,x.r.page,x.aH,x.bb,x.aD,x.slot,x.gen] 85)).alloc (X #[af ⟨#[]⟩,af ⟨#[]⟩,false,O U 0,ac V 0 0,false] 119)=m at *;have u:=a.v.cell 5 rfl;have k:=a.x.cell 0 rfl;rw [l.out] at k;have r:=a.v.free 5 J;cases gone;all_goals
  go_upto_region 25 with fail
  have b:jd (m.setCell ⟨c,5,V⟩ (ah true)) c [af low,high,unb,right,ac oa n f,true] (an x i d e j h g) bS:=a.jt 5 (ah true);have o:=t.setCell (p:=⟨c,5,V⟩) (hG s) (ah true);clear u k r;generalize m.setCell ⟨c,5,V⟩ (ah true)=y at *;have k:=b.x.cell 0 rfl;rw [l.out] at k;go_wp2_with (first|(refine e8 rfl 119 _ rfl _ 0 rfl _ _ (b.v).aM dn rfl G ?_)|(refine dY rfl 119 _ _ rfl _ 0 _ rfl rfl (b.z).may G G ?_));refine bH ((b.z.aR (us:=[af low,high,unb,right,ac oa n f,true]) rfl).cK rfl _ rfl rfl dn rfl G) rfl ?_
 ·unfold qh;rw [a9 rfl];exact ⟨rfl,o.setCells K _ _⟩
 ·unfold qh;rw [aS J];exact ⟨_,_,_,_,_,_,_,_,rfl,o.setCells K _ _⟩
theorem Io(v:bl)(x:fc)(oa:Option ai)(n f:Nat)(h:Option ai)(d c:Nat)(i:Option ai)(g e:Nat)(w:ad)(s:n≤1000000)(r:base≤w.heap.size)(t:eB v)(u:ht x)(m:x.r.kind < 2∨6 < x.r.kind):
  ao aj 72 #[eE v oa n f,aW x h d c i g e] w (gb base w (dg v x.r)):=by
 have k:dg v x.r=none:=by
  unfold dg;rw [aS K,aS K,aS K,aS K,aS K]
 have j:=N k;generalize dg v x.r=D at *;obtain ⟨a,l⟩:=nW w v x oa n f h d c i g e;have b:=N m;unfold l2 at *;clear m k;obtain ⟨low,high,unb,right,rows,gone⟩:=v;dsimp only at *;generalize q:w.heap.size=o at *;go_enter n5,n6;go_upto_region 1 with fail
 generalize ((H w (X #[af low,high,unb,right,ac oa n f,gone] 119)).alloc (X #[O U x.r.kind,x.r.low,x.r.high,x.r.unb,x.r.right,ac h d c,ac i g e,x.r.key,x.r.val,x.r.page,x.aH,x.bb,x.aD,x.slot,x.gen] 85)).alloc (X #[af ⟨#[]⟩,af ⟨#[]⟩,false,O U 0,ac V 0 0,false] 119)=p at *;have E:=a.v.cell 5 rfl;have F:=a.x.cell 0 rfl;have y: (x.r.kind==2)=false:=by have:=b.out;rw [ey];omega
 have z: (x.r.kind==3)=false:=by have:=b.out;rw [ey];omega
 have A: (x.r.kind==4)=false:=by have:=b.out;rw [ey];omega
 have B: (x.r.kind==5)=false:=by have:=b.out;rw [ey];omega
 have C: (x.r.kind==6)=false:=by have:=b.out;rw [ey];omega
 cases gone
 ·go_wp2_with (first|(refine e8 rfl 119 _ rfl _ 0 rfl _ _ (a.v).aM dn rfl G ?_)|(refine dY rfl 119 _ _ rfl _ 0 _ rfl rfl (a.z).may G G ?_));refine bH ((a.z.aR (us:=[af low,high,unb,right,ac oa n f,false]) rfl).cK rfl _ rfl rfl dn rfl G) rfl ?_;refine gb.no j.out ?_ rfl;exact l.setCells K _ _
 ·go_wp2_with (first|(refine e8 rfl 119 _ rfl _ 0 rfl _ _ (a.v).aM dn rfl G ?_)|(refine dY rfl 119 _ _ rfl _ 0 _ rfl rfl (a.z).may G G ?_));refine bH ((a.z.aR (us:=[af low,high,unb,right,ac oa n f,true]) rfl).cK rfl _ rfl rfl dn rfl G) rfl ?_;refine gb.no j.out ?_ rfl;exact l.setCells K _ _
end
section
theorem gv(w:ad)(c t:TypeId)(a b:List ak):Y w ((H w (X a c)).alloc (X b t))∧ae ((H w (X a c)).alloc (X b t)) w.heap.size a∧ae ((H w (X a c)).alloc (X b t)) (w.heap.size+1) b:=
 ⟨((Y.refl w).alloc _).alloc _,((ae.new w _ _ rfl).of J).I ((Y.refl _).alloc _),(ae.new (H w _) _ _ dW).of J⟩
end
section
open Go.BigFrame Go.RowKit Go.WideShapes
theorem br.oH(s:br w base oa n f h)(x: ∀ g,Value.ownBlock (ac oa n f)=Z g→A.heap[g]?=w.heap[g]?)(B:w.heap.size≤A.heap.size):br A base oa n f h:=by
 obtain⟨⟨o,z⟩,c⟩:=s;rcases z with⟨e,y⟩|⟨g,C,p,e,u,v,rest⟩
 ·refine⟨⟨o,.inl ⟨e,y⟩⟩,c.len,c.dj,c.dr,c.none,⟨0,0,fun q=>absurd q K,fun i k=>absurd k K⟩,c.eD⟩
 ·have m:=x g (by rw[e];rfl);simp only[iA]at e;obtain⟨rfl, -,rfl⟩:=e;obtain⟨b,off,j,t⟩:=c.cells;refine⟨⟨o,.inr ⟨g,f,p,rfl,u,m.trans v,rest⟩⟩,c.len,c.dj,c.dr,c.none,⟨b,off,fun q=>?_,fun i k=>?_⟩,c.eD⟩
  ·exact⟨(j q).1,dR (j q).2 B⟩
  ·have r:=(j K).1;obtain⟨rfl,rfl⟩:g=b∧0=off:=by simpa using r
   have l: ∀ d,A.cell? ⟨g,d,V⟩=w.cell? ⟨g,d,V⟩:=fun d=>uT (w:=w) (a:=⟨g,d,V⟩) m;rw[l,l];exact t i k
theorem D8{g:Nat}(c:g≠b)(a:List ak): ∀ (w:ad) (i:Nat),(ba w b i a).heap[g]?=w.heap[g]?:=by
 induction a with
 |nil=>intro w i;rfl
 |cons d a ih=>intro w i;exact(ih (w.setCell ⟨b,i,V⟩ d) (i+1)).trans (by simp only[World.setCell,rD];rw[aS (fun e=>c e.symm)])
theorem GQ(a:List ak): ∀ (w:ad) (i:Nat),(ba w b i a).heap.size=w.heap.size:=by
 induction a with
 |nil=>intro w i;rfl
 |cons c a ih=>intro w i;exact(ih (w.setCell ⟨b,i,V⟩ c) (i+1)).trans (by simp[World.setCell])
theorem br.fu(c:br w base oa n f h)(d:Value.ownBlock (ac oa n f)≠Z b)(a:List ak)(i:Nat):br (ba w b i a) base oa n f h:=
 c.oH (fun g j=>D8 (fun e=>d (by rw[←e];exact j)) a w i) (by rw[GQ];exact aG _)
theorem br.block(a:br w base oa n f h){g:Nat}(b:Value.ownBlock (ac oa n f)=Z g):base≤g:=(a.own.lt g b).1
def lD (base:Nat) (w:ad) (oa:Option ai) (n f:Nat) (i:Option bl) (e:Ending) (A:ad):Prop:=
 match i with
 |some h=> ∃ o d c,e=ap (a0 #[eE h o d c,ah true])∧br A base o d c h.rows∧(∀ g,Value.ownBlock (ac o d c)=Z g→w.heap.size≤g∨Value.ownBlock (ac oa n f)=Z g)∧Y w A
 |none=> ∃ (a b:ByteArray) (j g:Bool) (r:Int) (o:Option ai) (n c:Nat),e=ap (a0 #[aw #[af a,af b,ah j,O U r,ac o n c,ah g],ah false])∧Y w A
theorem lD.of{a:Option bl}{e:Ending}(k:base≤w.heap.size)(b:gb w w a e A):lD base w oa n f a e A:=by
 cases a with
 |none=>exact b
 |some m=>
  obtain⟨o,d,c,i,h,j⟩:=b;exact⟨o,d,c,i,h.e6 k,fun g l=> .inl (h.block l),j⟩
theorem Ii(v:bl)(x:fc)(oa:Option ai)(n f:Nat)(c:Option ai)(d b:Nat)(j:Option ai)(i h:Nat)(w:ad)(k:br w base oa n f v.rows)(t:bk w c d b x.r.rows)(m:n≤1000000)(y:d≤1000000)(l:base≤w.heap.size)(o:eB v)(p:ht x):
  ao aj 72 #[eE v oa n f,aW x c d b j i h] w (lD base w oa n f (dg v x.r)):=by
 by_cases z:x.r.kind=2
 ·exact(Iq v x oa n f c d b j i h w k.rows m (aG _) o p z).mono fun _ _ a=>lD.of l a
 by_cases B:x.r.kind=3
 ·exact(Ij v x oa n f c d b j i h w k.rows m (aG _) o p B).mono fun _ _ a=>lD.of l a
 by_cases C:x.r.kind=4
 ·exact(It v x oa n f c d b j i h w k.rows m (aG _) o p C).mono fun _ _ a=>lD.of l a
 by_cases D:x.r.kind=6
 ·exact(Im v x oa n f c d b j i h w k.rows t m y (aG _) o p D).mono fun _ _ a=>lD.of l a
 by_cases s:x.r.kind=5
 ·refine(Ir v x oa n f c d b j i h w s).mono fun e A a=>?_;unfold qh at a;have u:dg v x.r=if v.gone=false then Z {v with gone:=true}else none:=by
   unfold dg;rw[aS K,aS K,aS K,aS K,a9 s]
  rw[u];by_cases r:v.gone=false
  ·rw[a9 r]at a ⊢;exact⟨oa,n,f,a.1,k.I a.2,fun g q=> .inr q,a.2⟩
  ·rw[aS r]at a ⊢;exact a
 ·exact(Io v x oa n f c d b j i h w m (aG _) o p K).mono fun _ _ a=>lD.of l a
structure cw where
 key:ByteArray
 page:Int
def fa:dK cw:=fun w x a=>a=[af x.key,O U x.page]∧x.key.size≤maxLen
theorem cW:fQ fa:=fun _ _ _ _ _ a=>a
structure ar where
 x:fc
 ag:List cw
def qc:dK ar:=fun w y a=> ∃ l z j s d m,a=an y.x l z j s d m∧bk w l z j y.x.r.rows∧bo fa 2 w s d m y.ag∧ht y.x
theorem qd:fQ qc:=fun w A y g a ⟨l,z,j,s,d,m,e,b,c,f⟩=>⟨l,z,j,s,d,m,e,b.ex a,c.ex cW a,f⟩
abbrev fr (w:ad) (oa:Option ai) (n f:Nat) (h:List ar):Prop:=bo qc 15 w oa n f h
theorem fr.I{h:List ar}(a:fr w oa n f h)(b:Y w A):fr A oa n f h:=bo.I qd a b
abbrev aZ (w:ad) (oa:Option ai) (n f:Nat) (h:List cw):Prop:=bo fa 2 w oa n f h
abbrev eQ (h:List ar):List g2:=h.map fun y=>y.x.r
structure m4 (w:ad) (b o:Nat) (y:ar) (l:Option ai) (z j:Nat) (s:Option ai) (d m:Nat):Prop where
 aM:w.rangeAt b o (an y.x l z j s d m)
 rows:bk w l z j y.x.r.rows
 ag:aZ w s d m y.ag
 size:ht y.x
theorem m4.I{y:ar}(a:m4 w b o y l z j s d m)(c:Y w A):m4 A b o y l z j s d m:=
 ⟨c.range a.aM,a.rows.I c,bo.I cW a.ag c,a.size⟩
theorem fr.get{h:List ar}(a:fr w oa n f h):
  ∃ b off,(0 < n→oa=Z ⟨b,off,V⟩)∧∀ i y,h[i]?=Z y→∃ l z j s d m,m4 w b (off+i * 15) y l z j s d m:=by
 obtain⟨b,off,c,e⟩:=a.cells;refine⟨b,off,fun q=>(c q).1,fun i y r=>?_⟩;obtain⟨t, -, -,⟨l,z,j,s,d,m,rfl,g,k,o⟩,p⟩:=e i y r;exact⟨l,z,j,s,d,m,p,g,k,o⟩
theorem m4.cell{y:ar}(e:m4 w b o y l z j s d m)(a:Nat){c:ak}(f: (an y.x l z j s d m)[a]?=Z c):w.cell? ⟨b,o+a,V⟩=Z c:=e.aM a c f
theorem nO(f:Nat)(c:0 < n→oa=Z ⟨b,off,V⟩){a:Nat}(d:a < n)(w:ad):
  (Instr.indexAt 114 (ac oa n f) (O U (a:Int))).run aj w= .ok (au (Z ⟨b,off+a * 15,V⟩)) w:=by
 rw[c K];go_simp
theorem pj(f:Nat)(c:0 < n→oa=Z ⟨b,off,V⟩){k:Int}(a:0≤k)(d:k < n)(w:ad):
  (Instr.indexAt 114 (ac oa n f) (O U k)).run aj w= .ok (au (Z ⟨b,off+k.toNat * 15,V⟩)) w:=by
 obtain⟨e,rfl⟩:=fP a;exact nO f c K w
def sc (w:ad) (a:Option bl×Int) (e:Ending) (A:ad):Prop:=
 match a.1 with
 |some v=> ∃ o n c,e=ap (a0 #[eE v o n c,aB])∧br A w.heap.size o n c v.rows∧eB v∧Y w A
 |none=>e=ap (a0 #[eE ⟨⟨#[]⟩,⟨#[]⟩,false,0,[],false⟩ V 0 0,fR a.2])∧Y w A
end
section
def viewAt (h:List ar) (b:ar) (a:Nat):Option bl:=oR dg ((eQ h).dropLast.drop a) (oI b.x.r)
theorem zF(h:List ar)(b:ar){k:Nat}(a:h.length≤k+1):viewAt h b k=Z (oI b.x.r):=by
 unfold viewAt;rw[rG cJ];rfl
theorem zG(h:List ar)(b:ar){a:Nat}{y:ar}(c:h[a]?=Z y)(g:a+1 < h.length):viewAt h b a=(viewAt h b (a+1)).bind fun v=>dg v y.x.r:=by
 unfold viewAt;have e:a < (eQ h).dropLast.length:=cJ;rw[kQ e,wJ];have: (eQ h).dropLast[a]=y.x.r:=by
  rw[List.getElem_dropLast,List.getElem_map];obtain⟨f,d⟩:=c3.1 c;rw[d]
 rw[this]
theorem Iy(h:List ar)(b:ar): ∀ k,viewAt h b k=V→viewAt h b 0=none:=by
 intro k;induction k with
 |zero=>exact id
 |succ k ih=>
  intro a;apply ih;by_cases c:k+1 < h.length
  ·have d:h[k]?=Z h[k]:=cP K;rw[zG h b d c,a];rfl
  ·rw[zF h b (k:=k+1) K]at a;cases a
def o0 (h:List ar):Prop:=∀ (i:Nat) (y:ar),h[i]?=Z y→1≤y.x.r.kind∧y.x.r.kind≤6
theorem xF(h:List ar):lb (eQ h)↔o0 h:=by
 unfold lb o0;constructor
 ·intro a i y b;exact a _ (kE.2 ⟨y,iV b,rfl⟩)
 ·intro a r c;obtain ⟨y,d,rfl⟩:=kE.1 c;obtain ⟨i,b⟩:=List.getElem?_of_mem d;exact a i y b
theorem Du{h:List ar}(a: ¬o0 h):g8 (eQ h)=(V,9):=by
 unfold g8;rw[aS (fun q=>a ((xF h).1 q))]
theorem DA:g8 (eQ [])=(V,10):=rfl
theorem Dz{h:List ar}(a:o0 h){b:ar}(c:h[h.length - 1]?=Z b):g8 (eQ h)=((if b.x.r.kind=1∧hf b.x.r.rows b.x.r.low b.x.r.high b.x.r.unb=true then(match viewAt h b 0 with|some v=>(Z v,0)|none=>(V,10))else(V,10)):Option bl×Int):=by
 unfold g8;rw[a9 ((xF h).2 a)];have: (eQ h).getLast?=Z b.x.r:=by
  rw[uB,mW,fM,c];rfl
 rw[this];rfl
theorem Is{v c:bl}{x:fc}(b:eB v)(d:ht x)(a:dg v x.r=Z c):eB c∧c.rows.length≤v.rows.length+1+x.r.rows.length:=by
 unfold dg at a;split at a
 ·split at a
  ·cases a;refine⟨⟨b.low,b.high⟩,?_⟩;show(ec v.rows _).length≤_;have e:=lf x.r.key v.rows;unfold ec;rw[dG,dG,fm,hl,uC];dsimp only;split <;> omega
  ·cases a
 ·split at a
  ·split at a
   ·cases a;refine⟨⟨b.low,b.high⟩,?_⟩;have:=(sV v.rows x.r.key).length_le;show(et v.rows _).length≤_;omega
   ·cases a
  ·split at a
   ·split at a
    ·cases a;refine⟨⟨b.low,d.key⟩,?_⟩;show(v.rows.take _).length≤_;rw[fm];omega
    ·cases a
   ·split at a
    ·split at a
     ·cases a;refine⟨⟨b.low,d.high⟩,?_⟩;show(v.rows++x.r.rows).length≤_;rw[dG];omega
     ·cases a
    ·split at a
     ·split at a
      ·cases a;exact⟨⟨b.low,b.high⟩,by show v.rows.length≤_;omega⟩
      ·cases a
     ·cases a
end
section
open Go.BigFrame Go.RowKit Go.WideShapes
theorem wm:jc aj 81 174 2 24:=⟨Tryz.underlying81,by
 obtain⟨i,b,d,c,a⟩:=kO (show(aj.info? 174).map (fun i=>(i.zero,i.size,i.bytes))=Z (Z (aw #[af ⟨#[]⟩,O U 0]),2,24)by kernel_rfl);exact⟨i,_,b,d,c,a,rfl⟩,bP⟩
abbrev al:List ak:=[O U 0,af ⟨#[]⟩,af ⟨#[]⟩,ah false,O U 0,ac V 0 0,ac V 0 0,af ⟨#[]⟩,af ⟨#[]⟩,O U 0,O U 0,O U 0,af ⟨#[]⟩,O U 0,O U 0]
def Aa (w:ad) (y:ar) (e:Ending) (A:ad):Prop:=
 ∃ l z j s d m,e=ap (aW y.x l z j s d m)∧br A w.heap.size l z j y.x.r.rows∧bi fa 2 174 A w.heap.size s d m y.ag∧Y w A
theorem bi.gi{k:Type}{a:dK k}(F:fQ a){j:Nat}{d:TypeId}{w:ad}{base b i:Nat}{u:ak}{oa:Option ai}{n f:Nat}{h:List k}(o:bi a j d w base oa n f h)(G:b < base)(v: ∀ x c,a (eb w (Value.ownBlock (ac oa n f))) x c→a (eb (w.setCell ⟨b,i,V⟩ u) (Value.ownBlock (ac oa n f))) x c):bi a j d (w.setCell ⟨b,i,V⟩ u) base oa n f h:=by
 obtain ⟨B,E,p,q,⟨r,s⟩,t⟩:=o;refine ⟨B,E,p,q,⟨r,?_⟩,fun D x c A C=>v _ _ (t D x c A C)⟩;rcases s with e|⟨g,l,m,e,z,y,rest⟩
 ·exact .inl e
 ·refine .inr ⟨g,l,m,e,z,?_,rest⟩;simp only [World.setCell,rD];rw [aS K];exact y
theorem jh{i:Nat}{u:ak}{h:List cw}(a:bi fa 2 174 w base oa n f h)(c:b < base):bi fa 2 174 (w.setCell ⟨b,i,V⟩ u) base oa n f h:=
 a.gi cW c (fun _ _ q=>q)
theorem g7{h:List cw}(d:b < base)(c:List ak): ∀ {w:ad} (i:Nat),bi fa 2 174 w base oa n f h→bi fa 2 174 (ba w b i c) base oa n f h:=by
 induction c with
 |nil=>intro w i a;exact a
 |cons e c ih=>intro w i a;exact ih (i+1) (jh a d)
theorem sQ(y:ar)(l:Option ai)(z j:Nat)(s:Option ai)(d m:Nat)(w:ad)(W:bk w l z j y.x.r.rows)(Q:aZ w s d m y.ag)(aR:z≤1000000)(aS:d * 24≤140737488355328):
  ao aj 50 #[aW y.x l z j s d m] w (Aa w y):=by
 have D:=dL;have t:ae ((H w (X (an y.x l z j s d m) 85)).alloc (X al 85)) w.heap.size (an y.x l z j s d m):=((ae.new w _ _ rfl).I ((Y.refl _).alloc _)).of J;have M:ae ((H w (X (an y.x l z j s d m) 85)).alloc (X al 85)) (w.heap.size+1) al:=(ae.new (H w _) _ _ (by rw [D])).of J;have am:Y w ((H w (X (an y.x l z j s d m) 85)).alloc (X al 85)):=((Y.refl _).alloc _).alloc _;have C: ((H w (X (an y.x l z j s d m) 85)).alloc (X al 85)).heap.size=w.heap.size+2:=by rw [D,D]
 go_enter Tryz.func50,Tryz.ntmps50;go_upto_region 1 with fail
 generalize (H w (X (an y.x l z j s d m) 85)).alloc (X al 85)=e at *;have F:=N C;clear C D;generalize aQ:w.heap.size=c at *;have aa:=N fun E (I:Y e E)=>W.I (am.trans I);have S:=N fun E (I:Y w E)=>bo.I cW Q I;clear W Q;go_cut [] (fun a=> ∃ (k:Option ai) (o n:Nat),ae a c (an y.x k o n s d m)∧ae a (c+1) al∧br a e k o n y.x.r.rows∧Y w a∧aZ a s d m y.ag∧e.heap.size≤a.heap.size)
 case first=>
  have aM:=na (ob:=X #[] 108) (t.cell 5 rfl);go_wp2_with (at_builtin;refine ux (w0:=e) rfl _ _ rfl ((Y.refl e).alloc _) rfl (yh (Y.refl e)) rfl (aa.out _ ((Y.refl e).alloc _)) K ?_;intro r q E aJ f;have aM:=(t.I f).cell 5 rfl;have aO:=(t.I f).free 5 J);go_meet;have B:=(am.trans f).setCell (p:=⟨c,5,V⟩) (by show w.heap.size≤c;omega) (ac r z q);exact ⟨r,z,q,(t.I f).set 5 _,(M.I f).other K _,by simpa using aJ.gi (b:=c) (i:=5) (by have:=F.out;omega),B,S.out _ B,by unfold World.setCell;simpa using f.le⟩
 case rest=>
  obtain ⟨k,o,n,A,aD,aE,f,R,aI⟩:=hcut;have ay:=N R;clear R aa S t M;go_upto_region 2 with fail
  go_cut [] (fun a=> ∃ (u:Option ai) (x v:Nat),ae a c (an y.x k o n u x v)∧ae a (c+1) al∧br a e k o n y.x.r.rows∧bi fa 2 174 a e u x v y.ag∧Y w a)
  case first=>
   have aN:=na (ob:=X #[] 174) (A.cell 6 rfl);have ag:bi fa 2 174 (H wc (X #[] 174)) wc.heap.size (Z ⟨wc,0,V⟩) 0 0 []:=bi.fresh fa 2 _ rfl (aG _);have aq:bo fa 2 (eb (H wc (X #[] 174)) (Value.ownBlock (ac (Z ⟨wc,0,V⟩) 0 0))) s d m y.ag:=ay.out.ex cW (lJ ((Y.refl _).alloc _).ex (fun g aH=>by cases aH;exact aG _));have L:=N ag;have aC:=N aq;clear ag aq;go_wp2_with (at_builtin;refine uw cW wm rfl _ _ rfl (base:=wc.heap.size) ((Y.refl wc).alloc _).le rfl L.out rfl aC.out c4 K ?_;intro r q av aK aF;(have h:Y wc av:=L.out.aC aF ((Y.refl _).alloc _) (aG _));have aN:=(A.I h).cell 6 rfl;have aP:=(A.I h).free 6 J);go_meet;have B:=(f.trans h).setCell (p:=⟨c,6,V⟩) (by show w.heap.size≤c;omega) (ac r d q);have C:=F.out;have aL:bi fa 2 174 av e r d q y.ag:=by simpa using aK.lower aI
   exact ⟨r,d,q,(A.I h).set 6 _,(aD.I h).other K _,(aE.I h).gi (b:=c) (i:=6) K,jh aL K,B⟩
  case rest=>
   obtain ⟨u,x,v,ax,P,T,ab,h⟩:=hcut;have C:=F.out;have az:=N T;have aA:=N ab;clear T ab;go_wp2_with (first|(refine e8 rfl 85 _ rfl _ 0 rfl _ _ (ax).aM cG rfl G ?_)|(refine dY rfl 85 _ _ rfl _ 0 _ rfl rfl (P).may G G ?_));refine bH ((P.aR (us:=an y.x k o n u x v) rfl).e7 rfl _ rfl cG rfl G) rfl ?_;refine ⟨k,o,n,u,x,v,rfl,(az.out.nR K _ 0).e6 K,(g7 K _ 0 aA.out).lower K,?_⟩;exact h.setCells K _ _
end
end Go.Proofs.YtbkmjhhpcinppaaGreatDoor
