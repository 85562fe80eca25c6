/- Chapter 6: Known, Up, head, values. -/
import Derived.Test.YtiebjnibmomcjaaDoorMsgA
namespace Go.Proofs.YtiebjnibmomcjaaDoor
open Go.RowKit

set_option maxHeartbeats 1000000 in
set_option maxRecDepth 100000 in
theorem mknown_any (id : Int) (w : World) : Calls Tryd.prog 14 #[.int .i64 id] w fun e w' => e = .returned (.bool (formM id).isSome) ∧ Keep Never w w' := by
  have HO : Hid (∀ W, Calls Tryd.prog 22 #[.int .i64 id] W fun e w' => ∃ A1 n1 c1 A2 n2 c2 m, e = .returned (.tuple #[.agg #[.slice A1 n1 c1, .int .i64 m, .slice A2 n2 c2], .bool (formM id).isSome]) ∧ Keep Never W w') :=
    fun W => (of_any id W).mono (by rintro e w1 ⟨A1, n1, c1, A2, n2, c2, rfl, hk, _⟩; exact ⟨A1, n1, c1, A2, n2, c2, _, rfl, hk⟩)
  generalize (formM id).isSome = b at HO ⊢
  go_enter Tryd.func14, Tryd.ntmps14
  go_wp2_with fail
  refine (HO.out _).mono ?_
  rintro e w1 ⟨A1, n1, c1, A2, n2, c2, m, rfl, hk⟩
  have HK := Lib.hid (hk.alloc (.cells #[.slice A1 n1 c1, .int .i64 m, .slice A2 n2 c2] 42))
  clear hk
  go_wp2_with fail
  go_ret
  exact ⟨rfl, HK.out⟩

/-- does a message go up? -/
def upM (id : Int) : Bool := (formM id).isSome && decide (129 ≤ id)
set_option maxHeartbeats 1000000 in
set_option maxRecDepth 100000 in
theorem mup_any (id : Int) (w : World) : Calls Tryd.prog 16 #[.int .i64 id] w fun e w' => e = .returned (.bool (upM id)) ∧ Keep Never w w' := by
  have HK : Hid (∀ W, Calls Tryd.prog 14 #[.int .i64 id] W fun e w' => e = .returned (.bool (formM id).isSome) ∧ Keep Never W w') := fun W => mknown_any id W
  have hu : upM id = ((formM id).isSome && decide (129 ≤ id)) := rfl
  rw [hu]
  clear hu
  generalize (formM id).isSome = b at *
  cases b
  · go_enter Tryd.func16, Tryd.ntmps16
    go_wp2_with fail
    refine (HK.out _).mono ?_
    rintro e w1 ⟨rfl, hk⟩
    have HK1 := Lib.hid hk
    clear hk
    go_wp2_with fail
    go_ret
    exact ⟨rfl, HK1.out⟩
  · go_enter Tryd.func16, Tryd.ntmps16
    go_wp2_with fail
    refine (HK.out _).mono ?_
    rintro e w1 ⟨rfl, hk⟩
    have HK1 := Lib.hid hk
    clear hk
    by_cases h : 129 ≤ id
    · go_wp2_with fail
      go_ret
      exact ⟨by simp [h], HK1.out⟩
    · go_wp2_with fail
      go_ret
      exact ⟨by simp, HK1.out⟩

def headM (id : Int) : List Int := if upM id then [2, 9] else [2, 3, 4]
/-- a list of numbers that a function has made -/
def NumsRet (w : World) (l : List Int) (e : Ending) (w' : World) : Prop :=
  ∃ A n c, e = .returned (.slice A n c) ∧ n = l.length ∧ n ≤ c ∧ Rd w' w'.heap.size 1 A n (l.map (.int .i64)) ∧ Keep Never w w'
theorem nums_new {w w0 : World} (hk : Keep Never w0 w) (l : List Int) {m : Nat} (hm : m = l.length) {cs : Array Value} (hcs : cs = (l.map (.int .i64)).toArray) : NumsRet w0 l (.returned (.slice (some ⟨w.heap.size, 0, none⟩) m m)) (w.alloc (.cells cs 3)) := by
  subst hm hcs
  exact ⟨_, _, _, rfl, rfl, Nat.le_refl _, rd_new w l, hk.alloc _⟩

set_option maxHeartbeats 1000000 in
set_option maxRecDepth 100000 in
theorem mhead_any (id : Int) (w : World) : Calls Tryd.prog 26 #[.int .i64 id] w (NumsRet w (headM id)) := by
  have HU : Hid (∀ W, Calls Tryd.prog 16 #[.int .i64 id] W fun e w' => e = .returned (.bool (upM id)) ∧ Keep Never W w') := fun W => mup_any id W
  unfold headM
  generalize upM id = b at *
  cases b
  all_goals
    go_enter Tryd.func26, Tryd.ntmps26
    go_wp2_with fail
    refine (HU.out _).mono ?_
    rintro e w1 ⟨rfl, hk⟩
    have HK1 := Lib.hid hk
    clear hk
    go_wp2_with fail
    go_ret
    exact nums_new HK1.out _ rfl rfl

/-- a message's cells -/
def msgCells (id t ack of_ : Int) (A : Option Addr) (n c : Nat) (B : Option Addr) (k d : Nat) : Array Value := #[.int .i64 id, .int .i64 t, .int .i64 ack, .int .i64 of_, .slice A n c, .slice B k d]
def valuesM (id t ack of_ : Int) : List Int := if upM id then [t, of_] else [t, ack, of_]
set_option maxHeartbeats 1000000 in
set_option maxRecDepth 100000 in
theorem mvalues_any (id t ack of_ : Int) (A : Option Addr) (n c : Nat) (B : Option Addr) (k d : Nat) (w : World) :
    Calls Tryd.prog 25 #[.agg (msgCells id t ack of_ A n c B k d)] w (NumsRet w (valuesM id t ack of_)) := by
  have HU : Hid (∀ W, Calls Tryd.prog 16 #[.int .i64 id] W fun e w' => e = .returned (.bool (upM id)) ∧ Keep Never W w') := fun W => mup_any id W
  have hb0 : Hid (Blk (w.alloc (.cells #[.int .i64 id, .int .i64 t, .int .i64 ack, .int .i64 of_, .slice A n c, .slice B k d] 25)) w.heap.size 25 #[.int .i64 id, .int .i64 t, .int .i64 ack, .int .i64 of_, .slice A n c, .slice B k d]) := Blk.new w 25 _
  have hk0 : Hid (Keep Never w (w.alloc (.cells #[.int .i64 id, .int .i64 t, .int .i64 ack, .int .i64 of_, .slice A n c, .slice B k d] 25))) := (Keep.refl Never w).alloc _
  unfold valuesM msgCells
  generalize upM id = b at *
  cases b
  all_goals
    go_enter Tryd.func25, Tryd.ntmps25
    go_wp2_with fail
    refine (HU.out _).mono ?_
    rintro e w1 ⟨rfl, hk⟩
    have HK1 := Lib.hid (hk0.out.trans hk)
    have hb1 := hb0.out.keep hk (fun h => h)
    have q1 := hb1.cell 1
    have q2 := hb1.cell 2
    have q3 := hb1.cell 3
    clear hk hb1
    go_wp2_with fail
    go_ret
    exact nums_new HK1.out _ rfl rfl

end Go.Proofs.YtiebjnibmomcjaaDoor
