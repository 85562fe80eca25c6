/- PlanBuilds: for every input the call returns true, and each argument reads as it did; the table is tied to the program's text. -/
import Derived.Test.YtpapiojicbbheaaGreatDoorTd13
import Derived.Test.YtpapiojicbbheaaGreatDoorCards
import Derived.Test.YtpapiojicbbheaaGreatDoorTie
import Derived.Deep.DeepHandedRow
namespace Go.Proofs.YtpapiojicbbheaaGreatDoor.lawPlanBuilds
open Go.RowKit Go.ChangeShapes Go.WideShapes Go.ChangeAt Go.Proofs.YtpapiojicbbheaaGreatDoor
set_option maxRecDepth 100000 in
theorem contract (H:Type) (enc:TypeId×Value→H) (W:World) (base:Nat) (args:Array Value) (ds gs:List (DataW H)) (before:List MemPlace)
    (hval:∀(j:Nat) t v,Tryz.f3.params[j]?=some t→args[j]?=some v→Value.okWide Tryz.prog W .any base t v)
    (hW:DataW.Whole enc Tryz.prog Tryz.f3.params.toList Rows.planBuildsSpec.vars false W args.toList ds gs before) (hL:laidMetH Tryz.prog Rows.planBuildsRow.laid W) :
    Calls Tryz.prog 3 args W fun e W'=>∃v,e=.returned v∧Rows.planBuildsSpec.post enc Tryz.prog Tryz.f3 false true false false W args v W':=by
  have hW0:=hW
  obtain⟨p,q,hA0,hV,rfl,hfz,hnd⟩:=hW
  have hA:DataW.TrodAll enc Tryz.prog W 0 (fun _=>true) true Tryz.f3.params.toList args.toList ds p:=hA0
  rw[Tryz.params3] at hA hval
  obtain⟨v0,vs0,d0,ds0,p0,q0,hargs,rfl,rfl,h0,r0⟩:=trodAll_cons hA
  obtain⟨v1,vs1,d1,ds1,p1,q1,rfl,rfl,rfl,h1,r1⟩:=trodAll_cons r0
  obtain⟨v2,vs2,d2,ds2,p2,q2,rfl,rfl,rfl,h2,r2⟩:=trodAll_cons r1
  obtain⟨v3,vs3,d3,ds3,p3,q3,rfl,rfl,rfl,h3,r3⟩:=trodAll_cons r2
  obtain⟨v4,vs4,d4,ds4,p4,q4,rfl,rfl,rfl,h4,r4⟩:=trodAll_cons r3
  obtain⟨v5,vs5,d5,ds5,p5,q5,rfl,rfl,rfl,h5,r5⟩:=trodAll_cons r4
  obtain⟨v6,vs6,d6,ds6,p6,q6,rfl,rfl,rfl,h6,r6⟩:=trodAll_cons r5
  obtain⟨rfl,rfl,rfl⟩:=trodAll_nil r6
  obtain rfl:args=#[v0,v1,v2,v3,v4,v5,v6]:=by cases args;simp_all
  obtain⟨cs0,a0,rfl,s0⟩:=arg_struct opens_tp Tryz.underlying27 (hval 0 27 v0 rfl rfl) h0
  obtain⟨A1,n1,c1,l1,rfl,s1⟩:=arg_slice opens_lks Tryz.underlying28 (hval 1 28 v1 rfl rfl) h1
  obtain⟨x2,rfl,b2,c2⟩:=arg_int Tryz.underlying3 (hval 2 3 v2 rfl rfl) h2
  obtain⟨x3,rfl,b3,c3⟩:=arg_int Tryz.underlying3 (hval 3 3 v3 rfl rfl) h3
  obtain⟨x4,rfl⟩:=arg_bool Tryz.underlying4 (hval 4 4 v4 rfl rfl) h4
  obtain⟨x5,rfl,b5,c5⟩:=arg_int Tryz.underlying3 (hval 5 3 v5 rfl rfl) h5
  obtain⟨cs6,a6,rfl,s6⟩:=arg_struct opens_stp Tryz.underlying30 (hval 6 30 v6 rfl rfl) h6
  refine(planBuilds_walk W (laid_gives hL) cs0 a0 s0 A1 n1 c1 l1 s1 x2 x3 x4 x5 cs6 a6 s6).mono fun e W' ⟨he,hg⟩=>?_
  subst he
  exact⟨_,rfl,law_post (bt := 4) laidOut (by kernel_rfl) rfl Tryz.underlying4 rfl hW0 rfl (hg.below (Nat.le_refl _) (fun k h=>h.elim))⟩
theorem laid_met (os:Os):laidMet Tryz.prog Rows.planBuildsRow.laid ((laidWorld os).forCall (fun _ _=>0) ⟨#[],#[.agg #[.slice none 0 0,.slice none 0 0,.slice none 0 0,.slice none 0 0],.slice none 0 0,.int .i64 0,.int .i64 0,.bool false,.int .i64 0,.agg #[.int .i64 0,.bool false]],[]⟩).memory:=
  laidMet_of_run' 8 (by kernel_rfl) (by kernel_rfl)
theorem reads (os:Os) {H:Type} (enc:TypeId×Value→H):∃ds places,DataW.whole enc Tryz.prog ((laidWorld os).forCall (fun _ _=>0) ⟨#[],#[.agg #[.slice none 0 0,.slice none 0 0,.slice none 0 0,.slice none 0 0],.slice none 0 0,.int .i64 0,.int .i64 0,.bool false,.int .i64 0,.agg #[.int .i64 0,.bool false]],[]⟩).memory Tryz.f3.params.toList Rows.planBuildsSpec.vars false (#[.agg #[.slice none 0 0,.slice none 0 0,.slice none 0 0,.slice none 0 0],.slice none 0 0,.int .i64 0,.int .i64 0,.bool false,.int .i64 0,.agg #[.int .i64 0,.bool false]]:Array Value).toList 8=some (ds,[],places):=
  ⟨[.agg [.nil,.nil,.nil,.nil],.nil,.lit (.int .i64 0),.lit (.int .i64 0),.lit (.bool false),.lit (.int .i64 0),.agg [.lit (.int .i64 0),.lit (.bool false)]],[],by kernel_rfl⟩
set_option maxRecDepth 100000 in
theorem lifted (os:Os) (started:os.Started) (H:Type) (enc:TypeId×Value→H) (F:Stop.Interp) :
    ReturnsInHanded {} Tryz.checked os 3 .any ((OpenSpec.ofChange Rows.planBuildsSpec).preRow enc Tryz.prog Tryz.f3 Rows.planBuildsRow.domain false Rows.planBuildsRow.laid) (((OpenSpec.ofChange Rows.planBuildsSpec).at F).post enc Tryz.prog Tryz.f3 false true false false):=by
  obtain⟨ds,places,hx⟩:=reads os enc
  refine returnsInHanded_of_row (C:=Tryz.checked) (s:=OpenSpec.ofChange Rows.planBuildsSpec) ownk started (by kernel_rfl) Tryz.func3
    (witness_row_at (enc:=enc) (C:=Tryz.checked) false (laidWorld os) #[.agg #[.slice none 0 0,.slice none 0 0,.slice none 0 0,.slice none 0 0],.slice none 0 0,.int .i64 0,.int .i64 0,.bool false,.int .i64 0,.agg #[.int .i64 0,.bool false]] rfl (by kernel_rfl) (by kernel_rfl) (by kernel_rfl)
      (OpenSpec.preRow_of_cond 8 hx (by kernel_rfl) (fun k hk=>by cases hk) (by kernel_rfl) (laid_met os))) ?_
  intro W base args ds gs before hval hW _ _ _ hL _ _
  exact contract H enc W base args ds gs before hval hW hL
theorem said:Rows.PlanBuildsSaid:=
  OpenClaim.holds_of_cond 3 Tryz.f3 rfl rfl rfl rfl rfl rfl rfl ⟨rfl,rfl,rfl,rfl,rfl⟩ rfl rfl rfl rfl rfl (by kernel_rfl) Tryz.func3 (by kernel_rfl)
    (of_decide_eq_true (by kernel_rfl)) (by unfold Func.isWrapper;first | (rw[if_pos (by decide +kernel)];kernel_rfl) | (rw[if_neg (by decide +kernel)];exact⟨rfl,rfl⟩))
    (fun os started H enc _ F=>by rw[OpenClaim.pre_eq_preRow];exact lifted os started H enc F)
theorem plain (f:FuncId) (fn:Func) (hf:Tryz.pinned.checked.prog.funcNamed "lineside/linesidelaw17.PlanBuilds" = some f) (hfn:Tryz.pinned.checked.prog.funcs[f]?=some fn) :
    true=Tryz.pinned.checked.prog.looks []∧∀(j:Nat) t,fn.params[j]?=some t→Tryz.pinned.checked.prog.wantsStandIn t=false:=by
  obtain rfl:f = 3 := Option.some.inj ((show Tryz.prog.funcNamed "lineside/linesidelaw17.PlanBuilds" = some 3 by kernel_rfl).symm.trans hf) |>.symm
  obtain rfl:fn=Tryz.f3 := (Option.some.inj (Tryz.func3.symm.trans hfn)).symm
  refine⟨by kernel_rfl,fun j t ht=>?_⟩
  rw[Tryz.params3] at ht
  have hm:t = 27 ∨ t = 28 ∨ t = 3 ∨ t = 3 ∨ t = 4 ∨ t = 3 ∨ t = 30 := by simpa using Array.mem_of_getElem? ht
  rcases hm with rfl | rfl | rfl | rfl | rfl | rfl | rfl
  ·exact(show Tryz.prog.wantsStandIn 27 = false by kernel_rfl)
  ·exact(show Tryz.prog.wantsStandIn 28 = false by kernel_rfl)
  ·exact(show Tryz.prog.wantsStandIn 3 = false by kernel_rfl)
  ·exact(show Tryz.prog.wantsStandIn 3 = false by kernel_rfl)
  ·exact(show Tryz.prog.wantsStandIn 4 = false by kernel_rfl)
  ·exact(show Tryz.prog.wantsStandIn 3 = false by kernel_rfl)
  ·exact(show Tryz.prog.wantsStandIn 30 = false by kernel_rfl)
theorem proved:Rows.PlanBuildsCardSaid:=
  Claim7.holds_tied_plain_at .later [] _ _ _ _ said (fun _ h=>by cases h) (by kernel_rfl) (fun _ h=>by cases h) planBuilds_row_tie rfl ⟨rfl,rfl⟩ (by kernel_rfl) rfl plain (by kernel_rfl)
end Go.Proofs.YtpapiojicbbheaaGreatDoor.lawPlanBuilds