/- Chapter 6: MessageDecodes. -/
import Derived.Test.YtiebjnibmomcjaaDoorMsgW
import Derived.Test.YtiebjnibmomcjaaDoorRf6I
namespace Go.Proofs.YtiebjnibmomcjaaDoor
open Go.RowKit

/-- what both ways to decode leave -/
def DecPost (w' : World) (r : Except Int (Int × Int × Int × Int × List Int × List (Int × List Int))) (id t ack of_ : Int) (A : Option Addr) (n c : Nat) (A2 : Option Addr) (k d : Nat) (x : Int) : Prop :=
  (∃ V P, r = .ok (id, t, ack, of_, V, P) ∧ x = 0 ∧ MsgAt w' w'.heap.size A n c V A2 k d P) ∨ (r = .error x ∧ x ≠ 0 ∧ id = 0 ∧ t = 0 ∧ ack = 0 ∧ of_ = 0 ∧ A = none ∧ n = 0 ∧ c = 0 ∧ A2 = none ∧ k = 0 ∧ d = 0)
theorem msg_zero (w : World) (B : Nat) : MsgAt w B none 0 0 [] none 0 0 [] :=
  ⟨Rd.nil _ _ _ _, rfl, Nat.le_refl _, fun _ h => by (exfalso; simp at h), rfl, Nat.le_refl _, by unfold maxLen; omega, fun _ => rfl, [], Rd.nil _ _ _ _, trivial⟩
theorem dec6_both {b : List Nat} (h8 : ∀ x ∈ b, x < 256) {w w' : World} {id t ack of_ id' t' ack' of' x x' : Int} {A A2 A' A2' : Option Addr} {n c k d n' c' k' d' : Nat}
    (h : DecPost w (DecodeM b) id t ack of_ A n c A2 k d x) (h' : DecPost w' (DecodeM b) id' t' ack' of' A' n' c' A2' k' d' x') :
    id' = id ∧ t' = t ∧ ack' = ack ∧ of' = of_ ∧ x' = x ∧ ∃ V P, MsgAt w w.heap.size A n c V A2 k d P ∧ MsgAt w' w'.heap.size A' n' c' V A2' k' d' P ∧ n ≤ 1000000 ∧ k ≤ 100000 ∧ ∀ p ∈ P, p.2.length ≤ 8200 := by
  rcases h with ⟨V, P, h1, h2, h3⟩ | ⟨h1, h2, rfl, rfl, rfl, rfl, rfl, rfl, rfl, rfl, rfl, rfl⟩
  · rcases h' with ⟨V', P', g1, g2, g3⟩ | ⟨g1, _⟩
    · obtain ⟨s1, s2, s3, s4, s5, s6, s7, s8, s9, s10, s11⟩ := decode_small h8 h1
      rw [h1] at g1
      simp only [Except.ok.injEq, Prod.mk.injEq] at g1
      obtain ⟨rfl, rfl, rfl, rfl, rfl, rfl⟩ := g1
      have e1 := h3.2.1
      have e2 := h3.2.2.2.2.1
      exact ⟨rfl, rfl, rfl, rfl, by rw [g2, h2], V, P, h3, g3, by omega, by omega, s7⟩
    · rw [h1] at g1; cases g1
  · rcases h' with ⟨V', P', g1, g2, g3⟩ | ⟨g1, g2, rfl, rfl, rfl, rfl, rfl, rfl, rfl, rfl, rfl, rfl⟩
    · rw [h1] at g1; cases g1
    · rw [h1] at g1
      injection g1 with g1
      exact ⟨rfl, rfl, rfl, rfl, g1.symm, [], [], msg_zero _ _, msg_zero _ _, by omega, by omega, fun _ h => by (exfalso; simp at h)⟩

set_option maxHeartbeats 4000000 in
set_option maxRecDepth 100000 in
theorem decodes6_walk (W : World) (hW : Widths W) (A : Option Addr) (n c : Nat) (b : List Nat) (hs : Rep.byte.Sl W W.heap.size A n c b) :
    Calls Tryd.prog 4 #[.slice A n c] W fun e w' => e = .returned (.bool true) ∧ Keep Never W w' := by
  obtain ⟨hrd, hbl, h8⟩ := bytes_rd hs
  have hc := hs.2.1
  have hcm := hs.2.2.1
  have HBy := Lib.hid (And.intro hrd (And.intro hbl h8))
  have HC := Lib.hid (And.intro hc hcm)
  have HWi := Lib.hid hW
  have hAw : Hid (∀ w, Keep Never W w → _) := Lib.hid (fun w hk => awake6_any w (hW.keep hk (fun h => h)))
  clear hs hrd hbl h8 hc hcm hW
  by_cases h15 : n ≤ 1500
  rotate_left
  · have h15' : (1500 : Int) < (n : Int) := by omega
    clear h15
    go_enter Tryd.func4, Tryd.ntmps4
    go_wp2_with fail
    refine (hAw.out _ (Keep.refl _ _)).mono ?_
    rintro e w1 ⟨rfl, hk1⟩
    have HK1 := Lib.hid hk1
    clear hk1
    go_wp2_with fail
    go_ret
    exact ⟨rfl, HK1.out⟩
  have h15' : (n : Int) ≤ 1500 := by omega
  have hD : Hid (∀ w, Keep Never W w → Calls Tryd.prog 18 #[.slice A n c] w (DecRet w (DecodeM b))) := Lib.hid (fun w hk =>
    mdecode_any W.heap.size b A n c w (HBy.out.1.keep hk (fun _ h => h.elim)) HBy.out.2.1 HBy.out.2.2 HC.out.1 HC.out.2 (by omega) (HWi.out.keep hk (fun h => h)) HWi.out.lt hk.size)
  have hR : Hid (∀ w, Keep Never W w → Calls Tryd.prog 19 #[.slice A n c] w (DecRet w (DecodeM b))) := Lib.hid (fun w hk =>
    rdec6_any W.heap.size b A n c w (HBy.out.1.keep hk (fun _ h => h.elim)) HBy.out.2.1 HBy.out.2.2 h15 hk.size)
  clear h15
  go_enter Tryd.func4, Tryd.ntmps4
  go_wp2_with fail
  refine (hAw.out _ (Keep.refl _ _)).mono ?_
  rintro e w1 ⟨rfl, hk1⟩
  have HK1 := Lib.hid hk1
  clear hk1 hAw
  go_wp2_with fail
  refine (hD.out _ HK1.out).mono ?_
  rintro e w2 ⟨id, t, ack, of_, A2, n2, c2, A3, k, d, x, rfl, hk2, hpo⟩
  have HK2 := Lib.hid (HK1.out.trans hk2)
  have HB2 := Lib.hid (Blk.new w2 25 #[.int .i64 id, .int .i64 t, .int .i64 ack, .int .i64 of_, .slice A2 n2 c2, .slice A3 k d])
  have hal := (Keep.refl Never w2).alloc (.cells #[.int .i64 id, .int .i64 t, .int .i64 ack, .int .i64 of_, .slice A2 n2 c2, .slice A3 k d] 25)
  have HK3 := Lib.hid (HK2.out.trans hal)
  have Hal := Lib.hid hal
  have HP2 : Hid (DecPost w2 (DecodeM b) id t ack of_ A2 n2 c2 A3 k d x) := Lib.hid hpo
  have hR3 := Lib.hid (hR.out _ HK3.out)
  clear hk2 hal hpo hD hR
  unfold msgCells
  go_wp2_with fail
  refine hR3.out.mono ?_
  rintro e w4 ⟨id', t', ack', of', A4, n4, c4, A5, k', d', x', rfl, hk4, hpo⟩
  have HP4 : Hid (DecPost w4 (DecodeM b) id' t' ack' of' A4 n4 c4 A5 k' d' x') := Lib.hid hpo
  have HK4 := Lib.hid (HK3.out.trans hk4)
  have HK24 := Lib.hid (Hal.out.trans hk4)
  have HB4 := Lib.hid ((HB2.out.keep hk4 (fun h => h)).alloc (.cells #[.int .i64 id', .int .i64 t', .int .i64 ack', .int .i64 of', .slice A4 n4 c4, .slice A5 k' d'] 25))
  have HB5 := Lib.hid (Blk.new w4 25 #[.int .i64 id', .int .i64 t', .int .i64 ack', .int .i64 of', .slice A4 n4 c4, .slice A5 k' d'])
  have hal := (Keep.refl Never w4).alloc (.cells #[.int .i64 id', .int .i64 t', .int .i64 ack', .int .i64 of', .slice A4 n4 c4, .slice A5 k' d'] 25)
  have Hal4 := Lib.hid hal
  have HK5 := Lib.hid (HK4.out.trans hal)
  clear hk4 hpo hal hR3
  obtain ⟨rfl, rfl, rfl, rfl, rfl, V, P, h1, h2, h3, h4, h5⟩ := dec6_both HBy.out.2.2 HP2.out HP4.out
  have hSm := Lib.hid (same6_any w4.heap.size id' t' ack' of' V P A2 n2 c2 A3 k d A4 n4 c4 A5 k' d' (w4.alloc (.cells #[.int .i64 id', .int .i64 t', .int .i64 ack', .int .i64 of', .slice A4 n4 c4, .slice A5 k' d'] 25))
    (by have g := h1.keep (HK24.out.trans Hal4.out) (fun _ h => h.elim); exact ⟨g.1.more HK24.out.size, g.2.1, g.2.2.1, g.2.2.2.1, g.2.2.2.2.more HK24.out.size⟩) (h2.keep Hal4.out (fun _ h => h.elim)) Hal4.out.size h3 h4 h5)
  unfold msgCells at hSm
  have m0 := HB4.out.cell 0
  have m1 := HB4.out.cell 1
  have m2 := HB4.out.cell 2
  have m3 := HB4.out.cell 3
  have m4 := HB4.out.cell 4
  have m5 := HB4.out.cell 5
  clear h1 h2 h3 h4 h5 HP2 HP4
  unfold msgCells
  go_wp2_with fail
  refine hSm.out.mono ?_
  rintro e w6 ⟨rfl, hk6⟩
  have HK6 := Lib.hid (HK5.out.trans hk6)
  clear hk6
  go_wp2_with fail
  go_ret
  exact ⟨rfl, HK6.out⟩

end Go.Proofs.YtiebjnibmomcjaaDoor
