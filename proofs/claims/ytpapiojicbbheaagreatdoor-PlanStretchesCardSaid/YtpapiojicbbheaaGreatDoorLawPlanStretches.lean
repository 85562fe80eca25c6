/- PlanStretches: for every input the call returns true, and each argument reads as it did; the table is tied to the program's text. -/
import Derived.Test.YtpapiojicbbheaaGreatDoorTc00
import Derived.Test.YtpapiojicbbheaaGreatDoorTc01
import Derived.Test.YtpapiojicbbheaaGreatDoorTc02
import Derived.Test.YtpapiojicbbheaaGreatDoorTc03
import Derived.Test.YtpapiojicbbheaaGreatDoorTc04
import Derived.Test.YtpapiojicbbheaaGreatDoorTc05
import Derived.Test.YtpapiojicbbheaaGreatDoorTc06
import Derived.Test.YtpapiojicbbheaaGreatDoorTc07
import Derived.Test.YtpapiojicbbheaaGreatDoorTc08
import Derived.Test.YtpapiojicbbheaaGreatDoorTc09
import Derived.Test.YtpapiojicbbheaaGreatDoorTc10
import Derived.Test.YtpapiojicbbheaaGreatDoorTc11
import Derived.Test.YtpapiojicbbheaaGreatDoorTe14
import Derived.Test.YtpapiojicbbheaaGreatDoorCards
import Derived.Test.YtpapiojicbbheaaGreatDoorTie
import Derived.Deep.DeepHandedRow
namespace Go.Proofs.YtpapiojicbbheaaGreatDoor.lawPlanStretches
open Go.RowKit Go.ChangeShapes Go.WideShapes Go.ChangeAt Go.Proofs.YtpapiojicbbheaaGreatDoor
set_option maxRecDepth 100000 in
theorem contract (H:Type) (enc:TypeId×Value→H) (W:World) (base:Nat) (args:Array Value) (ds gs:List (DataW H)) (before:List MemPlace)
    (hval:∀(j:Nat) t v,Tryz.f7.params[j]?=some t→args[j]?=some v→Value.okWide Tryz.prog W .any base t v)
    (hW:DataW.Whole enc Tryz.prog Tryz.f7.params.toList Rows.planStretchesSpec.vars false W args.toList ds gs before) (hL:laidMetH Tryz.prog Rows.planStretchesRow.laid W) :
    Calls Tryz.prog 7 args W fun e W'=>∃v,e=.returned v∧Rows.planStretchesSpec.post enc Tryz.prog Tryz.f7 false true false false W args v W':=by
  have hW0:=hW
  obtain⟨p,q,hA0,hV,rfl,hfz,hnd⟩:=hW
  have hA:DataW.TrodAll enc Tryz.prog W 0 (fun _=>true) true Tryz.f7.params.toList args.toList ds p:=hA0
  rw[Tryz.params7] at hA hval
  obtain⟨v0,vs0,d0,ds0,p0,q0,hargs,rfl,rfl,h0,r0⟩:=trodAll_cons hA
  obtain⟨v1,vs1,d1,ds1,p1,q1,rfl,rfl,rfl,h1,r1⟩:=trodAll_cons r0
  obtain⟨v2,vs2,d2,ds2,p2,q2,rfl,rfl,rfl,h2,r2⟩:=trodAll_cons r1
  obtain⟨rfl,rfl,rfl⟩:=trodAll_nil r2
  obtain rfl:args=#[v0,v1,v2]:=by cases args;simp_all
  obtain⟨cs0,a0,rfl,s0⟩:=arg_struct opens_tp Tryz.underlying27 (hval 0 27 v0 rfl rfl) h0
  obtain⟨cs1,a1,rfl,s1⟩:=arg_struct opens_ps17 Tryz.underlying71 (hval 1 71 v1 rfl rfl) h1
  obtain⟨x2,rfl,b2,c2⟩:=arg_int Tryz.underlying3 (hval 2 3 v2 rfl rfl) h2
  refine(planStretches_walk W (laid_gives hL) cs0 a0 s0 cs1 a1 s1 x2).mono fun e W' ⟨he,hg⟩=>?_
  subst he
  exact⟨_,rfl,law_post (bt := 4) laidOut (by kernel_rfl) rfl Tryz.underlying4 rfl hW0 rfl (hg.below (Nat.le_refl _) (fun k h=>h.elim))⟩
theorem laid_met (os:Os):laidMet Tryz.prog Rows.planStretchesRow.laid ((laidWorld os).forCall (fun _ _=>0) ⟨#[],#[.agg #[.slice none 0 0,.slice none 0 0,.slice none 0 0,.slice none 0 0],.agg #[.int .i64 0,.int .i64 0,.bool false],.int .i64 0],[]⟩).memory:=
  laidMet_of_run' 8 (by kernel_rfl) (by kernel_rfl)
theorem reads (os:Os) {H:Type} (enc:TypeId×Value→H):∃ds places,DataW.whole enc Tryz.prog ((laidWorld os).forCall (fun _ _=>0) ⟨#[],#[.agg #[.slice none 0 0,.slice none 0 0,.slice none 0 0,.slice none 0 0],.agg #[.int .i64 0,.int .i64 0,.bool false],.int .i64 0],[]⟩).memory Tryz.f7.params.toList Rows.planStretchesSpec.vars false (#[.agg #[.slice none 0 0,.slice none 0 0,.slice none 0 0,.slice none 0 0],.agg #[.int .i64 0,.int .i64 0,.bool false],.int .i64 0]:Array Value).toList 8=some (ds,[],places):=
  ⟨[.agg [.nil,.nil,.nil,.nil],.agg [.lit (.int .i64 0),.lit (.int .i64 0),.lit (.bool false)],.lit (.int .i64 0)],[],by kernel_rfl⟩
set_option maxRecDepth 100000 in
theorem lifted (os:Os) (started:os.Started) (H:Type) (enc:TypeId×Value→H) (F:Stop.Interp) :
    ReturnsInHanded {} Tryz.checked os 7 .any ((OpenSpec.ofChange Rows.planStretchesSpec).preRow enc Tryz.prog Tryz.f7 Rows.planStretchesRow.domain false Rows.planStretchesRow.laid) (((OpenSpec.ofChange Rows.planStretchesSpec).at F).post enc Tryz.prog Tryz.f7 false true false false):=by
  obtain⟨ds,places,hx⟩:=reads os enc
  refine returnsInHanded_of_row (C:=Tryz.checked) (s:=OpenSpec.ofChange Rows.planStretchesSpec) ownk started (by kernel_rfl) Tryz.func7
    (witness_row_at (enc:=enc) (C:=Tryz.checked) false (laidWorld os) #[.agg #[.slice none 0 0,.slice none 0 0,.slice none 0 0,.slice none 0 0],.agg #[.int .i64 0,.int .i64 0,.bool false],.int .i64 0] rfl (by kernel_rfl) (by kernel_rfl) (by kernel_rfl)
      (OpenSpec.preRow_of_cond 8 hx (by kernel_rfl) (fun k hk=>by cases hk) (by kernel_rfl) (laid_met os))) ?_
  intro W base args ds gs before hval hW _ _ _ hL _ _
  exact contract H enc W base args ds gs before hval hW hL
theorem said:Rows.PlanStretchesSaid:=
  OpenClaim.holds_of_cond 7 Tryz.f7 rfl rfl rfl rfl rfl rfl rfl ⟨rfl,rfl,rfl,rfl,rfl⟩ rfl rfl rfl rfl rfl (by kernel_rfl) Tryz.func7 (by kernel_rfl)
    (of_decide_eq_true (by kernel_rfl)) (by unfold Func.isWrapper;first | (rw[if_pos (by decide +kernel)];kernel_rfl) | (rw[if_neg (by decide +kernel)];exact⟨rfl,rfl⟩))
    (fun os started H enc _ F=>by rw[OpenClaim.pre_eq_preRow];exact lifted os started H enc F)
theorem plain (f:FuncId) (fn:Func) (hf:Tryz.pinned.checked.prog.funcNamed "lineside/linesidelaw17.PlanStretches" = some f) (hfn:Tryz.pinned.checked.prog.funcs[f]?=some fn) :
    true=Tryz.pinned.checked.prog.looks []∧∀(j:Nat) t,fn.params[j]?=some t→Tryz.pinned.checked.prog.wantsStandIn t=false:=by
  obtain rfl:f = 7 := Option.some.inj ((show Tryz.prog.funcNamed "lineside/linesidelaw17.PlanStretches" = some 7 by kernel_rfl).symm.trans hf) |>.symm
  obtain rfl:fn=Tryz.f7 := (Option.some.inj (Tryz.func7.symm.trans hfn)).symm
  refine⟨by kernel_rfl,fun j t ht=>?_⟩
  rw[Tryz.params7] at ht
  have hm:t = 27 ∨ t = 71 ∨ t = 3 := by simpa using Array.mem_of_getElem? ht
  rcases hm with rfl | rfl | rfl
  ·exact(show Tryz.prog.wantsStandIn 27 = false by kernel_rfl)
  ·exact(show Tryz.prog.wantsStandIn 71 = false by kernel_rfl)
  ·exact(show Tryz.prog.wantsStandIn 3 = false by kernel_rfl)
theorem proved:Rows.PlanStretchesCardSaid:=
  Claim7.holds_tied_plain_at .later [] _ _ _ _ said (fun _ h=>by cases h) (by kernel_rfl) (fun _ h=>by cases h) planStretches_row_tie rfl ⟨rfl,rfl⟩ (by kernel_rfl) rfl plain (by kernel_rfl)
end Go.Proofs.YtpapiojicbbheaaGreatDoor.lawPlanStretches