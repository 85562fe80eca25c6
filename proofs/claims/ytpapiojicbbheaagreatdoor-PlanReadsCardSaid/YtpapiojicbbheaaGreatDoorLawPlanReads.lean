/- PlanReads: for every input the call returns true, and each argument reads as it did; the table is tied to the program's text. -/
import Derived.Test.YtpapiojicbbheaaGreatDoorTf00
import Derived.Test.YtpapiojicbbheaaGreatDoorTf01
import Derived.Test.YtpapiojicbbheaaGreatDoorTf02
import Derived.Test.YtpapiojicbbheaaGreatDoorTf03
import Derived.Test.YtpapiojicbbheaaGreatDoorTf04
import Derived.Test.YtpapiojicbbheaaGreatDoorTf05
import Derived.Test.YtpapiojicbbheaaGreatDoorTf06
import Derived.Test.YtpapiojicbbheaaGreatDoorTf07
import Derived.Test.YtpapiojicbbheaaGreatDoorTf08
import Derived.Test.YtpapiojicbbheaaGreatDoorTf09
import Derived.Test.YtpapiojicbbheaaGreatDoorTg15
import Derived.Test.YtpapiojicbbheaaGreatDoorCards
import Derived.Test.YtpapiojicbbheaaGreatDoorTie
import Derived.Deep.DeepHandedRow
namespace Go.Proofs.YtpapiojicbbheaaGreatDoor.lawPlanReads
open Go.RowKit Go.ChangeShapes Go.WideShapes Go.ChangeAt Go.Proofs.YtpapiojicbbheaaGreatDoor
set_option maxRecDepth 100000 in
theorem contract (H:Type) (enc:TypeId×Value→H) (W:World) (base:Nat) (args:Array Value) (ds gs:List (DataW H)) (before:List MemPlace)
    (hval:∀(j:Nat) t v,Tryz.f4.params[j]?=some t→args[j]?=some v→Value.okWide Tryz.prog W .any base t v)
    (hW:DataW.Whole enc Tryz.prog Tryz.f4.params.toList Rows.planReadsSpec.vars false W args.toList ds gs before) (hL:laidMetH Tryz.prog Rows.planReadsRow.laid W) :
    Calls Tryz.prog 4 args W fun e W'=>∃v,e=.returned v∧Rows.planReadsSpec.post enc Tryz.prog Tryz.f4 false true false false W args v W':=by
  have hW0:=hW
  obtain⟨p,q,hA0,hV,rfl,hfz,hnd⟩:=hW
  have hA:DataW.TrodAll enc Tryz.prog W 0 (fun _=>true) true Tryz.f4.params.toList args.toList ds p:=hA0
  rw[Tryz.params4] at hA hval
  obtain⟨v0,vs0,d0,ds0,p0,q0,hargs,rfl,rfl,h0,r0⟩:=trodAll_cons hA
  obtain⟨v1,vs1,d1,ds1,p1,q1,rfl,rfl,rfl,h1,r1⟩:=trodAll_cons r0
  obtain⟨v2,vs2,d2,ds2,p2,q2,rfl,rfl,rfl,h2,r2⟩:=trodAll_cons r1
  obtain⟨v3,vs3,d3,ds3,p3,q3,rfl,rfl,rfl,h3,r3⟩:=trodAll_cons r2
  obtain⟨rfl,rfl,rfl⟩:=trodAll_nil r3
  obtain rfl:args=#[v0,v1,v2,v3]:=by cases args;simp_all
  obtain⟨cs0,a0,rfl,s0⟩:=arg_struct opens_tp Tryz.underlying27 (hval 0 27 v0 rfl rfl) h0
  obtain⟨x1,rfl,b1,c1⟩:=arg_int Tryz.underlying3 (hval 1 3 v1 rfl rfl) h1
  obtain⟨x2,rfl⟩:=arg_bool Tryz.underlying4 (hval 2 4 v2 rfl rfl) h2
  obtain⟨A3,n3,c3,l3,rfl,s3⟩:=arg_slice opens_packs17 Tryz.underlying44 (hval 3 44 v3 rfl rfl) h3
  refine(planReads_walk W (laid_gives hL) cs0 a0 s0 x1 x2 A3 n3 c3 l3 s3).mono fun e W' ⟨he,hg⟩=>?_
  subst he
  exact⟨_,rfl,law_post (bt := 4) laidOut (by kernel_rfl) rfl Tryz.underlying4 rfl hW0 rfl (hg.below (Nat.le_refl _) (fun k h=>h.elim))⟩
theorem laid_met (os:Os):laidMet Tryz.prog Rows.planReadsRow.laid ((laidWorld os).forCall (fun _ _=>0) ⟨#[],#[.agg #[.slice none 0 0,.slice none 0 0,.slice none 0 0,.slice none 0 0],.int .i64 0,.bool false,.slice none 0 0],[]⟩).memory:=
  laidMet_of_run' 8 (by kernel_rfl) (by kernel_rfl)
theorem reads (os:Os) {H:Type} (enc:TypeId×Value→H):∃ds places,DataW.whole enc Tryz.prog ((laidWorld os).forCall (fun _ _=>0) ⟨#[],#[.agg #[.slice none 0 0,.slice none 0 0,.slice none 0 0,.slice none 0 0],.int .i64 0,.bool false,.slice none 0 0],[]⟩).memory Tryz.f4.params.toList Rows.planReadsSpec.vars false (#[.agg #[.slice none 0 0,.slice none 0 0,.slice none 0 0,.slice none 0 0],.int .i64 0,.bool false,.slice none 0 0]:Array Value).toList 8=some (ds,[],places):=
  ⟨[.agg [.nil,.nil,.nil,.nil],.lit (.int .i64 0),.lit (.bool false),.nil],[],by kernel_rfl⟩
set_option maxRecDepth 100000 in
theorem lifted (os:Os) (started:os.Started) (H:Type) (enc:TypeId×Value→H) (F:Stop.Interp) :
    ReturnsInHanded {} Tryz.checked os 4 .any ((OpenSpec.ofChange Rows.planReadsSpec).preRow enc Tryz.prog Tryz.f4 Rows.planReadsRow.domain false Rows.planReadsRow.laid) (((OpenSpec.ofChange Rows.planReadsSpec).at F).post enc Tryz.prog Tryz.f4 false true false false):=by
  obtain⟨ds,places,hx⟩:=reads os enc
  refine returnsInHanded_of_row (C:=Tryz.checked) (s:=OpenSpec.ofChange Rows.planReadsSpec) ownk started (by kernel_rfl) Tryz.func4
    (witness_row_at (enc:=enc) (C:=Tryz.checked) false (laidWorld os) #[.agg #[.slice none 0 0,.slice none 0 0,.slice none 0 0,.slice none 0 0],.int .i64 0,.bool false,.slice none 0 0] rfl (by kernel_rfl) (by kernel_rfl) (by kernel_rfl)
      (OpenSpec.preRow_of_cond 8 hx (by kernel_rfl) (fun k hk=>by cases hk) (by kernel_rfl) (laid_met os))) ?_
  intro W base args ds gs before hval hW _ _ _ hL _ _
  exact contract H enc W base args ds gs before hval hW hL
theorem said:Rows.PlanReadsSaid:=
  OpenClaim.holds_of_cond 4 Tryz.f4 rfl rfl rfl rfl rfl rfl rfl ⟨rfl,rfl,rfl,rfl,rfl⟩ rfl rfl rfl rfl rfl (by kernel_rfl) Tryz.func4 (by kernel_rfl)
    (of_decide_eq_true (by kernel_rfl)) (by unfold Func.isWrapper;first | (rw[if_pos (by decide +kernel)];kernel_rfl) | (rw[if_neg (by decide +kernel)];exact⟨rfl,rfl⟩))
    (fun os started H enc _ F=>by rw[OpenClaim.pre_eq_preRow];exact lifted os started H enc F)
theorem plain (f:FuncId) (fn:Func) (hf:Tryz.pinned.checked.prog.funcNamed "lineside/linesidelaw17.PlanReads" = some f) (hfn:Tryz.pinned.checked.prog.funcs[f]?=some fn) :
    true=Tryz.pinned.checked.prog.looks []∧∀(j:Nat) t,fn.params[j]?=some t→Tryz.pinned.checked.prog.wantsStandIn t=false:=by
  obtain rfl:f = 4 := Option.some.inj ((show Tryz.prog.funcNamed "lineside/linesidelaw17.PlanReads" = some 4 by kernel_rfl).symm.trans hf) |>.symm
  obtain rfl:fn=Tryz.f4 := (Option.some.inj (Tryz.func4.symm.trans hfn)).symm
  refine⟨by kernel_rfl,fun j t ht=>?_⟩
  rw[Tryz.params4] at ht
  have hm:t = 27 ∨ t = 3 ∨ t = 4 ∨ t = 44 := by simpa using Array.mem_of_getElem? ht
  rcases hm with rfl | rfl | rfl | rfl
  ·exact(show Tryz.prog.wantsStandIn 27 = false by kernel_rfl)
  ·exact(show Tryz.prog.wantsStandIn 3 = false by kernel_rfl)
  ·exact(show Tryz.prog.wantsStandIn 4 = false by kernel_rfl)
  ·exact(show Tryz.prog.wantsStandIn 44 = false by kernel_rfl)
theorem proved:Rows.PlanReadsCardSaid:=
  Claim7.holds_tied_plain_at .later [] _ _ _ _ said (fun _ h=>by cases h) (by kernel_rfl) (fun _ h=>by cases h) planReads_row_tie rfl ⟨rfl,rfl⟩ (by kernel_rfl) rfl plain (by kernel_rfl)
end Go.Proofs.YtpapiojicbbheaaGreatDoor.lawPlanReads