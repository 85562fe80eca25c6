/- PlanShrinks: for every input the call returns true, and each argument reads as it did; the table is tied to the program's text. -/
import Derived.Test.YtpapiojicbbheaaGreatDoorTc12
import Derived.Test.YtpapiojicbbheaaGreatDoorCards
import Derived.Test.YtpapiojicbbheaaGreatDoorTie
import Derived.Deep.DeepHandedRow
namespace Go.Proofs.YtpapiojicbbheaaGreatDoor.lawPlanShrinks
open Go.RowKit Go.ChangeShapes Go.WideShapes Go.ChangeAt Go.Proofs.YtpapiojicbbheaaGreatDoor
theorem laid_met (os:Os):laidMet Tryz.prog Rows.planShrinksRow.laid ((laidWorld os).forCall (fun _ _=>0) ⟨#[],#[.agg #[.slice none 0 0,.slice none 0 0,.slice none 0 0,.slice none 0 0],.agg #[.int .i64 0,.bool false,.slice none 0 0,.slice none 0 0,.int .i64 0],.int .i64 0,.int .i64 0,.int .i64 0],[]⟩).memory:=
  laidMet_of_run' 8 (by kernel_rfl) (by kernel_rfl)
theorem reads (os:Os) {H:Type} (enc:TypeId×Value→H):∃ds places,DataW.whole enc Tryz.prog ((laidWorld os).forCall (fun _ _=>0) ⟨#[],#[.agg #[.slice none 0 0,.slice none 0 0,.slice none 0 0,.slice none 0 0],.agg #[.int .i64 0,.bool false,.slice none 0 0,.slice none 0 0,.int .i64 0],.int .i64 0,.int .i64 0,.int .i64 0],[]⟩).memory Tryz.f8.params.toList Rows.planShrinksSpec.vars false (#[.agg #[.slice none 0 0,.slice none 0 0,.slice none 0 0,.slice none 0 0],.agg #[.int .i64 0,.bool false,.slice none 0 0,.slice none 0 0,.int .i64 0],.int .i64 0,.int .i64 0,.int .i64 0]:Array Value).toList 8=some (ds,[],places):=
  ⟨[.agg [.nil,.nil,.nil,.nil],.agg [.lit (.int .i64 0),.lit (.bool false),.nil,.nil,.lit (.int .i64 0)],.lit (.int .i64 0),.lit (.int .i64 0),.lit (.int .i64 0)],[],by kernel_rfl⟩
theorem plain (f:FuncId) (fn:Func) (hf:Tryz.pinned.checked.prog.funcNamed "lineside/linesidelaw17.PlanShrinks" = some f) (hfn:Tryz.pinned.checked.prog.funcs[f]?=some fn) :
    true=Tryz.pinned.checked.prog.looks []∧∀(j:Nat) t,fn.params[j]?=some t→Tryz.pinned.checked.prog.wantsStandIn t=false:=by
  obtain rfl:f=8:=Option.some.inj ((show Tryz.prog.funcNamed "lineside/linesidelaw17.PlanShrinks" = some 8 by kernel_rfl).symm.trans hf) |>.symm
  obtain rfl:fn=Tryz.f8:=(Option.some.inj (Tryz.func8.symm.trans hfn)).symm
  refine⟨by kernel_rfl,fun j t ht=>?_⟩
  rw[Tryz.params8] at ht
  have hm:t=27∨t=38∨t=3∨t=3∨t=3:=by simpa using Array.mem_of_getElem? ht
  rcases hm with rfl | rfl | rfl | rfl | rfl
  ·exact(show Tryz.prog.wantsStandIn 27=false by kernel_rfl)
  ·exact(show Tryz.prog.wantsStandIn 38=false by kernel_rfl)
  ·exact(show Tryz.prog.wantsStandIn 3=false by kernel_rfl)
  ·exact(show Tryz.prog.wantsStandIn 3=false by kernel_rfl)
  ·exact(show Tryz.prog.wantsStandIn 3=false by kernel_rfl)
end Go.Proofs.YtpapiojicbbheaaGreatDoor.lawPlanShrinks