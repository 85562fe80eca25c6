/- Chapter 6: MessageEncodes. -/
import Derived.Test.YtiebjnibmomcjaaDoorMsgW
import Derived.Test.YtiebjnibmomcjaaDoorRf6F
namespace Go.Proofs.YtiebjnibmomcjaaDoor
open Go.RowKit

theorem enc_low {id t ack of_ : Int} {V : List Int} {P : List (Int × List Int)} {l : List Nat} (h : EncodeM id t ack of_ V P = .ok l) : ∀ x ∈ l, x < 256 := by
  obtain ⟨own, must, may, l1, l2, _, rfl⟩ := encode_inv h
  exact bytesOf_lt _
set_option maxHeartbeats 4000000 in
set_option maxRecDepth 100000 in
theorem encodes6_walk (W : World) (hW : Widths W) (cs : Array Value) (m : MsgT) (hp : repMsg.cells W W.heap.size m cs.toList) :
    Calls Tryd.prog 3 #[.agg cs] W fun e w' => e = .returned (.bool true) ∧ Keep Never W w' := by
  obtain ⟨A, n, c, A2, k, d, rfl, hm⟩ := msg_in hp
  have hEn : Hid (lightM m.2.2.2.2.1 m.2.2.2.2.2 = true → ∀ w, Keep Never W w → _) := Lib.hid (fun hl w hk => enc_in hm hl hW hk)
  have hRe : Hid (lightM m.2.2.2.2.1 m.2.2.2.2.2 = true → ∀ w, Keep Never W w → Calls Tryd.prog 13 #[.agg (msgCells m.1 m.2.1 m.2.2.1 m.2.2.2.1 A n c A2 k d)] w (REncRet w (EncodeM m.1 m.2.1 m.2.2.1 m.2.2.2.1 m.2.2.2.2.1 m.2.2.2.2.2))) := Lib.hid (fun hl w hk => by
    obtain ⟨h1, h2, h3, h4, h5, h6, h7⟩ := hm
    obtain ⟨l1, l2, l3, l4⟩ := light_sum hl
    have e1 := h1.2.1
    have e2 := h1.2.2.2.2.1
    exact rencode_any W.heap.size m.1 m.2.1 m.2.2.1 m.2.2.2.1 A n c _ A2 k d _ w (h1.keep hk (fun _ h => h.elim)) (by omega) (by omega) (fun p hp => by have := l3 p hp; omega) l4 hk.size)
  have hLi : Hid (∀ w, Keep Never W w → _) := Lib.hid (fun w hk => light_any W.heap.size m.1 m.2.1 m.2.2.1 m.2.2.2.1 A n c m.2.2.2.2.1 A2 k d m.2.2.2.2.2 w (hm.1.keep hk (fun _ h => h.elim)) hk.size)
  have hAw : Hid (∀ w, Keep Never W w → _) := Lib.hid (fun w hk => awake6_any w (hW.keep hk (fun h => h)))
  obtain ⟨id, t, ack, of_, V, P⟩ := m
  simp only at hEn hLi hRe ⊢
  have hb0 : Hid (Blk (W.alloc (.cells #[.int .i64 id, .int .i64 t, .int .i64 ack, .int .i64 of_, .slice A n c, .slice A2 k d] 25)) W.heap.size 25 #[.int .i64 id, .int .i64 t, .int .i64 ack, .int .i64 of_, .slice A n c, .slice A2 k d]) := Blk.new W 25 _
  have hk0 : Hid (Keep Never W (W.alloc (.cells #[.int .i64 id, .int .i64 t, .int .i64 ack, .int .i64 of_, .slice A n c, .slice A2 k d] 25))) := (Keep.refl Never W).alloc _
  clear hp hm hW
  unfold msgCells at *
  go_enter Tryd.func3, Tryd.ntmps3
  go_wp2_with fail
  refine (hAw.out _ hk0.out).mono ?_
  rintro e w1 ⟨rfl, hk1⟩
  have HK1 := Lib.hid (hk0.out.trans hk1)
  have HB1 := Lib.hid (hb0.out.keep hk1 (fun h => h))
  have m0 := HB1.out.cell 0
  have m1 := HB1.out.cell 1
  have m2 := HB1.out.cell 2
  have m3 := HB1.out.cell 3
  have m4 := HB1.out.cell 4
  have m5 := HB1.out.cell 5
  clear hk1
  go_wp2_with fail
  refine (hLi.out _ HK1.out).mono ?_
  rintro e w2 ⟨rfl, hk2⟩
  have HK2 := Lib.hid (HK1.out.trans hk2)
  have HB2 := Lib.hid (HB1.out.keep hk2 (fun h => h))
  clear hk2 m0 m1 m2 m3 m4 m5
  have m0 := HB2.out.cell 0
  have m1 := HB2.out.cell 1
  have m2 := HB2.out.cell 2
  have m3 := HB2.out.cell 3
  have m4 := HB2.out.cell 4
  have m5 := HB2.out.cell 5
  cases hl : lightM V P with
  | false =>
    go_wp2_with fail
    go_ret
    exact ⟨rfl, HK2.out⟩
  | true =>
    have hE := Lib.hid (hEn.out hl _ HK2.out)
    have hR := Lib.hid (hRe.out hl)
    clear hEn hRe hl
    go_wp2_with fail
    refine hE.out.mono ?_
    rintro e w3 ⟨A3, n3, c3, x3, rfl, hk3, hpo⟩
    have HK3 := Lib.hid (HK2.out.trans hk3)
    have HB3 := Lib.hid (HB2.out.keep hk3 (fun h => h))
    have hR3 := Lib.hid (hR.out _ HK3.out)
    clear hk3 m0 m1 m2 m3 m4 m5
    have m0 := HB3.out.cell 0
    have m1 := HB3.out.cell 1
    have m2 := HB3.out.cell 2
    have m3 := HB3.out.cell 3
    have m4 := HB3.out.cell 4
    have m5 := HB3.out.cell 5
    have Hpo := Lib.hid hpo
    clear hpo hE hR
    go_wp2_with fail
    refine hR3.out.mono ?_
    rintro e w4 ⟨A4, n4, c4, x4, rfl, hk4, hpo4⟩
    have HK4 := Lib.hid (HK3.out.trans hk4)
    have HB4 := Lib.hid (HB3.out.keep hk4 (fun h => h))
    clear m0 m1 m2 m3 m4 m5
    obtain ⟨l, h8, r3, r4, hx⟩ : ∃ l : List Nat, (∀ x ∈ l, x < 256) ∧ Rd w4 w4.heap.size 1 A3 n3 (l.map u8v) ∧ Rd w4 w4.heap.size 1 A4 n4 (l.map u8v) ∧ x3 = x4 := by
      rcases Hpo.out with ⟨l, hE3, rfl, hn3, ho3⟩ | ⟨hE3, hx3, rfl, rfl, rfl⟩
      · rcases hpo4 with ⟨l', hE4, rfl, hn4, hr4⟩ | ⟨hE4, _⟩
        · rw [hE3] at hE4
          injection hE4 with hE4
          subst hE4
          exact ⟨l, enc_low hE3, (ho3.rd.keep hk4 (fun _ h => h.elim)).more hk4.size, hr4, rfl⟩
        · rw [hE3] at hE4; cases hE4
      · rcases hpo4 with ⟨l', hE4, _⟩ | ⟨hE4, hx4, rfl, rfl, rfl⟩
        · rw [hE3] at hE4; cases hE4
        · rw [hE3] at hE4
          injection hE4 with hE4
          exact ⟨[], by simp, Rd.nil _ _ _ _, Rd.nil _ _ _ _, hE4⟩
    subst hx
    have HSf : Hid (∀ w', Keep Never w4 w' → Keep Never w4 w' ∧ w'.cell? ⟨W.heap.size, 0, none⟩ = some (.int .i64 id) ∧ (convert 28 9 (.slice A3 n3 c3)).run Tryd.prog w' = .ok (.string (strOf l)) w' ∧ (convert 28 9 (.slice A4 n4 c4)).run Tryd.prog w' = .ok (.string (strOf l)) w') := Lib.hid (fun w' hk => by
      refine ⟨hk, (HB4.out.keep hk (fun h => h)).cell 0, ?_, ?_⟩
      · exact run_str (P := Tryd.prog) (src := 28) (dst := 9) Tryd.underlying28 Tryd.underlying5 Tryd.underlying9 (r3.keep hk (fun _ h => h.elim)) h8 c3
      · exact run_str (P := Tryd.prog) (src := 28) (dst := 9) Tryd.underlying28 Tryd.underlying5 Tryd.underlying9 (r4.keep hk (fun _ h => h.elim)) h8 c4)
    have HKn : Hid (∀ W, Calls Tryd.prog 14 #[.int .i64 id] W fun e w' => e = .returned (.bool (formM id).isSome) ∧ Keep Never W w') := Lib.hid (fun W => mknown_any id W)
    have HRk : Hid (∀ W, Calls Tryd.prog 15 #[.int .i64 id] W fun e w' => e = .returned (.bool (formM id).isSome) ∧ Keep Never W w') := Lib.hid (fun W => rknown6_any id W)
    have HUp : Hid (∀ W, Calls Tryd.prog 16 #[.int .i64 id] W fun e w' => e = .returned (.bool (upM id)) ∧ Keep Never W w') := Lib.hid (fun W => mup_any id W)
    have HRu : Hid (∀ W, Calls Tryd.prog 17 #[.int .i64 id] W fun e w' => e = .returned (.bool (upM id)) ∧ Keep Never W w') := Lib.hid (fun W => rup6_any id W)
    generalize strOf l = sb at *
    generalize (formM id).isSome = kn at *
    generalize upM id = up at *
    have s1 : (sb.toList == sb.toList) = true := by simp
    have s2 : (x3 == x3) = true := by simp
    have s3 : (kn == kn) = true := by simp
    have s4 : (up == up) = true := by simp
    clear h8 r3 r4 hk4 hpo4 Hpo hR3 hLi hAw HB1 HB2
    go_wp2_with fail
    go_region_held3 (fun w' => Keep Never w4 w' ∧ w'.cell? ⟨W.heap.size, 0, none⟩ = some (.int .i64 id) ∧ (convert 28 9 (.slice A3 n3 c3)).run Tryd.prog w' = .ok (.string sb) w' ∧ (convert 28 9 (.slice A4 n4 c4)).run Tryd.prog w' = .ok (.string sb) w')
      (first | assumption | exact HSf.out _ ((Keep.refl Never w4).drew) | exact HSf.out _ (Keep.trans (And.left (by assumption)) hk'))
      (first
        | (go_at_call 14; refine (HKn.out _).mono ?_; rintro e w' ⟨rfl, hk'⟩)
        | (go_at_call 15; refine (HRk.out _).mono ?_; rintro e w' ⟨rfl, hk'⟩)
        | (go_at_call 16; refine (HUp.out _).mono ?_; rintro e w' ⟨rfl, hk'⟩)
        | (go_at_call 17; refine (HRu.out _).mono ?_; rintro e w' ⟨rfl, hk'⟩))
    rename_i hS
    have HKe := Lib.hid (HK4.out.trans (And.left hS))
    clear hS
    go_wp2_with fail
    go_ret
    exact ⟨rfl, HKe.out⟩

end Go.Proofs.YtiebjnibmomcjaaDoor
