/- The walk of BitsWrites. -/
import Derived.Test.YtfkmcohefppanaaBitsQ
import Derived.Deep.RegionHeld3
namespace Go.Proofs.Ytfkmcohefppanaa
open Go.RowKit

theorem rput_eq {A : Option Addr} {n c B : Nat} {l l' : List Bool} {x width e0 : Int} {w : World} (hl : l.length = n) (hr : Rd w B 1 A n (l.map .bool)) (hn : n ≤ 8184) (hx : x ≤ 9223372036854775807) (he : putE l.length x width = e0) (hL : putL l x width = l') :
    Calls Try.prog 11 #[.slice A n c, .int .i64 x, .int .i64 width] w fun e w' => ∃ A' n' c', e = .returned (.tuple #[.slice A' n' c', .int .i64 e0]) ∧ Hid (n' = l'.length) ∧ n' ≤ 8184 ∧ Hid (Rd w' w'.heap.size 1 A' n' (l'.map .bool)) ∧ Keep Never w w' ∧
      Hid (∀ q, InRow A' q → InRow A q ∨ (w.heap.size ≤ q ∧ q < w'.heap.size)) := by
  subst he; subst hL
  exact rput_any A n c B l hl w hr hn x width hx

theorem wbytes_eq {B p n : Nat} {A : Option Addr} {bs : List Bool} {w : World} (hn : (bytesOf bs).length = n) (hw : WrAt w B p A bs) :
    Calls Try.prog 14 #[.pointer (some ⟨p, 0, none⟩)] w fun e w' => ∃ A' c', e = .returned (.slice A' n c') ∧ Own w' w.heap.size 5 1 A' n c' ((bytesOf bs).map u8v) ∧ Keep Never w w' := by
  subst hn
  exact wbytes_any B p A bs w hw

set_option maxHeartbeats 2000000 in
theorem writes_in (w : World) (A : Option Addr) (n c : Nat) (l : List Item) (hl : repItem.Sl w w.heap.size A n c l) (hn : n ≤ 400) :
    Calls Try.prog 3 #[.slice A n c] w fun e w' => e = .returned (.bool true) ∧ Keep Never w w' := by
  have hni : (n : Int) ≤ 400 := by omega
  have Hl := Lib.hid hl
  clear hl
  go_enter Try.func3, Try.ntmps3
  go_wp2_with (go_at_call 10; refine (awake_any _).mono ?_; rintro e w1 ⟨rfl, hk1⟩)
  have hs1 := hk1.size
  go_loopw [5, 6] (fun v i wr => ∃ (k nx cx : Nat) (A1 Ax : Option Addr), k ≤ n ∧ i = .int .i64 k ∧ v = .slice Ax nx cx ∧ Hid (nx = (puts (l.take k)).length) ∧ nx ≤ 8184 ∧ Hid (WrAt wr w.heap.size w1.heap.size A1 (puts (l.take k))) ∧
      Hid (Rd wr wr.heap.size 1 Ax nx ((puts (l.take k)).map .bool)) ∧ Hid (∀ q, InRow Ax q → q < wr.heap.size ∧ q ≠ w1.heap.size ∧ ¬ InRow A1 q) ∧ Keep Never w wr)
    (fun _ i _ => n - (intOf i).toNat)
  case atStart => exact ⟨0, 0, 0, none, none, by omega, rfl, rfl, rfl, by omega, put_new w1 w hs1, Rd.nil _ _ _ _, fun q h => (by obtain ⟨ad, h, _⟩ := h; cases h), hk1.alloc _⟩
  case round =>
    obtain ⟨k, nx, cx, A1, Ax, hk, rfl, rfl, hnx, hnx8, hwr, hx, hrow, hkr⟩ := hrel
    by_cases hkn : k < n
    · obtain ⟨ad, y, rfl, _, hy, hc0, hc1, hx63⟩ := item_at (Hl.out.keep hkr (by intro k h; cases h)) hkn
      have hps := puts_snoc l hy
      have Hps := Lib.hid hps
      have hsr := hkr.size
      have hki : (k : Int) < (n : Int) := by omega
      clear hps hy
      obtain ⟨e0, he0⟩ : ∃ e0, putE (puts (l.take k)).length y.N y.Width = e0 := ⟨_, rfl⟩
      have He0 := Lib.hid he0
      clear he0
      generalize hbs : puts (l.take k) = bs at *
      have Hbs := Lib.hid hbs
      clear hbs
      go_wp2
      have hlt0 := cell_lt hc0
      have hlt1 := cell_lt hc1
      go_region_held3 (fun w' => w'.cell? (ad.add (k * 2)) = some (.int .i64 y.N) ∧ w'.cell? ⟨(ad.add (k * 2)).block, (ad.add (k * 2)).off + 1, none⟩ = some (.int .i64 y.Width))
        (first | go_keep | (refine ⟨?_, ?_⟩ <;> first | (rw [hk3.cell (p := ad.add (k * 2)) (by simpa using hlt0) (fun h => h)]; go_keep) | (rw [hk3.cell (p := ⟨(ad.add (k * 2)).block, (ad.add (k * 2)).off + 1, none⟩) (by simpa using hlt1) (fun h => h)]; go_keep)))
        (first | (go_at_call 11; refine (rput_eq hnx.out.symm hx.out.drew hnx8 hx63 He0.out rfl).mono ?_; rintro e w3 ⟨A3, n3, c3, rfl, hn3, hn38, hr3, hk3, hrow3⟩))
      have hs3 := hk3.size
      have hc03 : w3.cell? (ad.add (k * 2)) = some (.int .i64 y.N) := (hk3.cell (p := ad.add (k * 2)) (by rw [block_add]; simp; omega) (fun h => h)).trans hc0
      have hc13 : w3.cell? ⟨(ad.add (k * 2)).block, (ad.add (k * 2)).off + 1, none⟩ = some (.int .i64 y.Width) := (hk3.cell (p := ⟨(ad.add (k * 2)).block, (ad.add (k * 2)).off + 1, none⟩) (by rw [block_add]; simp; omega) (fun h => h)).trans hc1
      have hwr3 := Lib.hid (hwr.out.drew.keep hk3 (fun _ _ h => h))
      have hwp := hwr.out.rd
      have hwrow : Hid (∀ q, InRow A1 q → q < wr.heap.size) := by obtain ⟨c, _, ho, _⟩ := hwr.out; exact fun q hq => (ho.row hq).2
      clear hc0 hc1
      go_wp2
      go_still_tail 11, (by kernel_rfl)
      change wpList _ _ _ _ _ w3.drew
      go_wp2_with fail
      refine (wput_eq hx63 (hwr3.out.keep ((Keep.refl _ w3).drew) (fun _ _ h => h)) (by simp at *; omega) He0.out rfl).mono ?_
      rintro e w4 ⟨A4, rfl, hw4, hk4, hr4⟩
      have hs4 := hk4.size
      have hfar : ∀ q, InRow A3 q → q < w3.heap.size ∧ q ≠ w1.heap.size ∧ ¬ InRow A1 q := by
        intro q hq
        rcases hrow3.out q hq with h | ⟨h1, h2⟩
        · have := hrow.out q h; simp at hs3; exact ⟨by omega, this.2⟩
        · simp at h1; exact ⟨h2, by omega, fun h => by have := hwrow.out q h; omega⟩
      have hr34 := Lib.hid ((hr3.out.drew.keep_far hk4 (fun ad' hA _ e => by
        have := hfar ad'.block ⟨ad', hA, rfl⟩
        rcases e with e | e
        · exact this.2.1 e
        · exact this.2.2 e)).at_heap (by omega))
      have hrow4 : Hid (∀ q, InRow A3 q → q < w4.heap.size ∧ q ≠ w1.heap.size ∧ ¬ InRow A4 q) := fun q hq => by
        have h1 := hfar q hq
        simp at hs4
        refine ⟨by omega, h1.2.1, fun h => ?_⟩
        rcases hr4.out q h with h2 | h2
        · exact h1.2.2 h2
        · simp at h2; omega
      have hkr4 : Keep Never w w4 := ((hkr.drew.trans hk3).drew).then_ hk4 (fun i hi e => by have := wr_base hwr.out (w0 := w) (Nat.le_refl _) i e; omega)
      have hlen4 : (((putL bs y.N y.Width).length : Nat) : Int) = (n3 : Int) := by rw [hn3.out]
      clear hfar
      go_wp2_with (go_at_call 13; refine (wlen_any _ _ A4 _ _ hw4.out).mono ?_; rw [hlen4]; rintro e w5 ⟨rfl, rfl⟩)
      go_roundw
      case rel => exact ⟨k + 1, n3, c3, A4, A3, by omega, by go_num, rfl, by rw [Hps.out]; exact hn3.out, hn38, by rw [Hps.out]; exact hw4.out, by rw [Hps.out]; exact hr34.out, hrow4, hkr4⟩
      case measure => simp [intOf]; try omega
    · obtain rfl : k = n := by omega
      have htk : l.take k = l := List.take_of_length_le (by rw [← Hl.out.len]; omega)
      rw [htk] at hwr hx hnx
      have hbl : (puts l).length ≤ 8184 := by obtain ⟨c, _, _, h, _⟩ := hwr.out; exact h
      have hsr := hkr.size
      generalize puts l = bs at *
      clear htk
      go_wp2_with fail
      refine (wbytes_any w.heap.size w1.heap.size A1 _ wr hwr.out).mono ?_
      rintro e w3 ⟨A3, c3, rfl, hb3, hk3⟩
      have Hb3 := Lib.hid hb3
      have hs3 := hk3.size
      clear hb3
      have hx3 := Lib.hid (hx.out.keep hk3 (fun q h => h.elim))
      go_wp2_with fail
      refine (rbytes_any Ax nx cx wr.heap.size bs hnx.out.symm w3 hx3.out hs3 (by omega)).mono ?_
      rintro e w4 ⟨A4, n4, c4, rfl, rfl, hr4, hk4⟩
      have hcv4 := run_str (P := Try.prog) (src := 25) (dst := 9) Try.underlying25 Try.underlying5 Try.underlying9 hr4 (bytesOf_lt _) c4
      have hb4 := Lib.hid (Hb3.out.keep hk4 (fun q _ h => h))
      have hcv3 := run_str (P := Try.prog) (src := 25) (dst := 9) Try.underlying25 Try.underlying5 Try.underlying9 hb4.out.rd (bytesOf_lt _) c3
      have hwr4 := Lib.hid ((hwr.out.keep hk3 (fun _ _ h => h)).keep hk4 (fun _ _ h => h))
      have hk04 : Keep Never w w4 := (hkr.trans hk3).trans hk4
      have hs4 := hk4.size
      clear hr4
      have hwp := hwr.out.rd
      have hwrow : Hid (∀ q, InRow A1 q → q < wr.heap.size) := by obtain ⟨c, _, ho, _⟩ := hwr.out; exact fun q hq => (ho.row hq).2
      have hbrow : Hid (∀ q, InRow A3 q → wr.heap.size ≤ q) := fun q hq => (hb4.out.row hq).1
      have hlb : (bytesOf bs).length ≤ 1023 := by rw [length_bytesOf]; omega
      obtain ⟨wo, rfl⟩ : ∃ wo : World, wo = wr := ⟨_, rfl⟩
      generalize hnb : (bytesOf bs).length = nb at *
      have Hnb := Lib.hid hnb
      clear hnb
      go_wp2_with fail
      clear hcv3 hcv4
      go_loopw [13] (fun i wq => ∃ (j : Nat) (bb : List Nat), j ≤ nb ∧ i = .int .i64 j ∧ Hid (Own wq wo.heap.size 5 1 A3 nb c3 (bb.map u8v)) ∧ Hid (∀ x ∈ bb, x < 256) ∧ Hid (WrAt wq w.heap.size w1.heap.size A1 bs) ∧ Keep Never w wq)
        (fun i _ => nb - (intOf i).toNat)
      case atStart => exact ⟨0, bytesOf bs, by omega, rfl, hb4.out, bytesOf_lt _, hwr4.out, hk04⟩
      case round =>
        obtain ⟨j, bb, hj, rfl, hown, hb8, hwq, hkq⟩ := hrel
        by_cases hjn : j < nb
        · obtain ⟨ad, x, rfl, _, hx', hcell⟩ := hown.out.rd.at1 hjn
          have hx8 : x < 256 := hb8.out x (List.mem_of_getElem? hx')
          have hfr := hown.out.frozen rfl j
          simp only [u8v] at hcell
          have hwv : IntKind.u8.wrap ((x : Int) + 1) = (((x + 1) % 256 : Nat) : Int) := by rw [IntKind.wrap_u8]; omega
          have hbl2 := hbrow.out ad.block ⟨ad, rfl, rfl⟩
          clear hx'
          go_wp2_with fail
          go_roundw
          case rel =>
            refine ⟨j + 1, bb.set j ((x + 1) % 256), by omega, by go_num, ?_, ?_, ?_, hkq.set_ (.inr (by rw [block_add]; omega)) _⟩
            · have := hown.out.stored rfl j (.int .u8 (((x : Int) + 1) % 256))
              rw [List.map_set]
              exact this
            · intro y hy
              rcases List.mem_or_eq_of_mem_set hy with h | h
              · exact hb8.out y h
              · omega
            · exact hwq.out.keep_ (hown.out.stored_keep rfl j _) (fun q hq => ⟨fun e => by have := hbrow.out q hq; omega, fun h => by have h1 := hwrow.out q h; have h2 := hbrow.out q hq; omega⟩)
          case measure => simp [intOf]; try omega
        · obtain rfl : j = nb := by omega
          go_wp2_with fail
          refine (wbytes_eq Hnb.out hwq.out).mono ?_
          rintro e w6 ⟨A6, c6, rfl, hb6, hk6⟩
          have hcv6 := run_str (P := Try.prog) (src := 25) (dst := 9) Try.underlying25 Try.underlying5 Try.underlying9 hb6.rd (bytesOf_lt _) c6
          clear hb6
          go_wp2_with fail
          go_ret
          exact ⟨rfl, hkq.trans hk6⟩

set_option maxHeartbeats 400000 in
theorem writes_out (w : World) (A : Option Addr) (n c : Nat) (hn : (400 : Int) < n) :
    Calls Try.prog 3 #[.slice A n c] w fun e w' => e = .returned (.bool true) ∧ Keep Never w w' := by
  go_enter Try.func3, Try.ntmps3
  go_wp2_with (go_at_call 10; refine (awake_any _).mono ?_; rintro e w1 ⟨rfl, hk1⟩)
  go_ret
  exact ⟨rfl, hk1⟩

theorem writes_walk (w : World) (A : Option Addr) (n c : Nat) (l : List Item) (hl : repItem.Sl w w.heap.size A n c l) :
    Calls Try.prog 3 #[.slice A n c] w fun e w' => e = .returned (.bool true) ∧ Keep Never w w' := by
  by_cases hn : n ≤ 400
  · exact writes_in w A n c l hl hn
  · exact writes_out w A n c (by omega)

end Go.Proofs.Ytfkmcohefppanaa
