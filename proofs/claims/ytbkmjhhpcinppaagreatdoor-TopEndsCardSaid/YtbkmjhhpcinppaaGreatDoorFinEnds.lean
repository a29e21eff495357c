/- 'rowlocktop.TopEnds' returns true for all arguments, and leaves them as they were. Conditions: none beyond the given row's. -/
import Derived.Test.YtbkmjhhpcinppaaGreatDoorQ33
import Derived.Test.YtbkmjhhpcinppaaGreatDoorCards
import Derived.Test.YtbkmjhhpcinppaaGreatDoorRows
import Derived.Test.YtbkmjhhpcinppaaGreatDoorTie
set_option maxRecDepth 100000
set_option maxHeartbeats 2000000
namespace Go.Proofs.YtbkmjhhpcinppaaGreatDoor.topEnds
open Go.ChangeShapes Go.WideShapes Go.ChangeAt Go.RowKit
open Go.ChangeMaps (open_string shut_string)
theorem lifted(os:Os)(started:os.Started)(k:Type)(enc:TypeId×Value→k):
  ReturnsInHanded {} Tryz.checked os 3 .any (fun a args=>(Rows.topEndsSpec.pre enc Tryz.prog Tryz.f3 [] false a args∧laidMetH Tryz.prog np a)∧sizedMet enc Tryz.prog Tryz.f3 (OpenSpec.ofChange Rows.topEndsSpec) false a args)
   (Rows.topEndsSpec.post enc Tryz.prog Tryz.f3 false true false false):=by
 refine returnsInHanded_of_change_and (C:=Tryz.checked) (X:=fun a _=>laidMetH Tryz.prog np a) (fun _ _ _ c s=>s.of_heap c) own started G Tryz.func3
  (ChangeSpec.witness_at (enc:=enc) (C:=Tryz.checked) (os:=os) (X:=fun a _=>laidMetH Tryz.prog np a) false (xG os) #[.agg #[.int .i64 0,.int .i64 0,.int .i64 0,.int .i64 0,.int .i64 0,.int .i64 0,.slice none 0 0,.slice none 0 0],.int .u8 0] 8 rfl G G G G G (ES os _)) ?_
 intro b m args e r before D g _ B y _;have d: ∀ (j:Nat) t v,Tryz.f3.params[j]?=some t→args[j]?=some v→Value.okWide Tryz.prog b .any m t v:=D;have A:=g;obtain⟨p,q,x,z, -, -, -⟩:=A;have f:DataW.TrodAll enc Tryz.prog b 0 (fun _=>true) true Tryz.f3.params.toList args.toList e p:=x;have h: (DataW.weightsEach Tryz.prog (Tryz.f3.params.toList++Rows.topEndsSpec.plain.varTypes Tryz.prog) (e++r)).all (· ≤reachBytes)=true:=B;rw[Tryz.params3]at f d h;obtain⟨cf,ax,ab,ag,an,ar,am,rfl,rfl,u,fC⟩:=trodAll_cons f;obtain⟨i,ay,ae,al,aq,av,rfl,rfl,rfl,w,L⟩:=trodAll_cons fC;obtain⟨rfl,rfl,rfl⟩:=trodAll_nil L;obtain rfl:args= #[cf,i]:=by cases args;simp_all
 obtain⟨rfl, -⟩:=trodVars_none z;refine ET rfl G rfl g rfl ?_;obtain⟨Q,R,S,T,W,aa,J,I,n,E,K,F,o,rfl,N, -,P⟩:=FU (j:=0) (d 0 27 cf rfl rfl) u h rfl rfl;obtain⟨l,rfl, -, -,M⟩:=open_int Tryz.underlying5 (d 1 5 i rfl rfl) w;have c:=D2 y;exact C5 Q R S T W aa J I n E K F o l b N P M c
theorem GD:Rows.TopEndsSaid:=
 OpenClaim.holds_of_wide 3 Tryz.f3 rfl rfl rfl rfl rfl rfl rfl ⟨rfl,rfl,rfl,rfl,rfl⟩ rfl rfl rfl rfl rfl G Tryz.func3 G
  (uJ G) (by unfold Func.isWrapper;first|(rw[a9 (by decide+kernel)];kernel_rfl)|(rw[aS (by decide+kernel)];exact⟨rfl,rfl⟩))
  (fun c started a b _=>lifted c started a b)
theorem proved:Rows.TopEndsCardSaid:=
 Claim7.holds_tied_plain_at .later [] [.handle] true Rows.topEndsCard.stood.harness true
  GD (fun _ a=>by cases a) G (fun _ a=>by cases a) topEnds_row_tie rfl ⟨rfl,rfl⟩ G rfl
  (fun f d e g=>by
   obtain rfl:f=3:=fo ((show Tryz.prog.funcNamed "rowlock/rowlocktop.TopEnds" =some 3 by kernel_rfl).symm.trans e)|>.symm
   obtain rfl:d=Tryz.f3:=(fo (Tryz.func3.symm.trans g)).symm;exact⟨G,fun h t c=>by
    rw[Tryz.params3]at c;have b:t∈[27,5]:=by
     have:=Array.mem_of_getElem? c;simpa using this
    simp only[bd,c0,db]at b;rcases b with rfl|rfl
    ·exact(show Tryz.prog.wantsStandIn 27=false by kernel_rfl)
    ·exact(show Tryz.prog.wantsStandIn 5=false by kernel_rfl)⟩)
  G
end Go.Proofs.YtbkmjhhpcinppaaGreatDoor.topEnds
