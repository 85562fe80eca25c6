/- The walk of BitsReads. -/
import Derived.Test.YtfkmcohefppanaaBitsP
namespace Go.Proofs.Ytfkmcohefppanaa
open Go.RowKit

theorem opens_ints : Rep.Opens Try.prog 46 Rep.int.list := Rep.opens_list Try.underlying46 (by kernel_rfl) (by decide) (Rep.opens_int Try.underlying3)
theorem int_at {w : World} {B n c : Nat} {A : Option Addr} {l : List Int} (h : Rep.int.Sl w B A n c l) {i : Nat} (hi : i < n) :
    ∃ ad x, A = some ad ∧ ad.block < B ∧ l[i]? = some x ∧ w.cell? (ad.add i) = some (.int .i64 x) := by
  obtain ⟨ad, x, cs, hA, hb, hx, ⟨rfl, _, _⟩, hc⟩ := h.at_ hi
  have := hc 0 (by decide)
  simp only [Rep.int, Nat.mul_one, Nat.add_zero] at this
  exact ⟨ad, x, hA, hb, hx, this⟩
theorem getL_drop (b : List Nat) (k : Nat) (width : Int) : getL (leftB b k) width = leftB b (k + if getE (leftB b k).length width = 0 then width.toNat else 0) := by
  by_cases h : width < 1 ∨ 32 < width ∨ ((leftB b k).length : Int) < width
  · have : getE (leftB b k).length width ≠ 0 := fun e => by have := getE_zero e; omega
    rw [getL, if_pos h, if_neg this, Nat.add_zero]
  · have : getE (leftB b k).length width = 0 := by rw [getE, if_neg (by omega), if_neg (by omega)]
    rw [getL, if_neg h, if_pos this, leftB, leftB, List.drop_drop]
theorem rget_eq {A : Option Addr} {n c B : Nat} {l l' : List Bool} {width n0 e0 : Int} {w : World} (hl : l.length = n) (hr : Rd w B 1 A n (l.map .bool)) (hn : n ≤ 1000000) (hc : n ≤ c) (h1 : getN l width = n0) (h2 : getE l.length width = e0) (h3 : getL l width = l') :
    Calls Try.prog 20 #[.slice A n c, .int .i64 width] w fun e w' => ∃ A' n' c', e = .returned (.tuple #[.int .i64 n0, .slice A' n' c', .int .i64 e0]) ∧ n' = l'.length ∧ n' ≤ c' ∧ Hid (Rd w' B 1 A' n' (l'.map .bool)) ∧ Keep Never w w' ∧ Hid (∀ q, InRow A' q → InRow A q) := by
  subst h1; subst h2; subst h3
  exact rget_any A n c B l hl w hr hn hc width

theorem at_eq {B H p : Nat} {b : List Nat} {k : Nat} {v : Int} {w : World} (hw : RdAt w B H p b k) (hv : (k : Int) = v) :
    Calls Try.prog 21 #[.pointer (some ⟨p, 0, none⟩)] w fun e w' => e = .returned (.int .i64 v) ∧ w = w' := by
  subst hv
  exact at_any B H p b k w hw

set_option maxHeartbeats 2000000 in
theorem reads_in (w : World) (A : Option Addr) (n c : Nat) (b : List Nat) (hb : Rep.byte.Sl w w.heap.size A n c b) (A' : Option Addr) (n' c' : Nat) (l : List Int) (hl : Rep.int.Sl w w.heap.size A' n' c' l) (hn : n ≤ 2000) (hn' : n' ≤ 400) :
    Calls Try.prog 7 #[.slice A n c, .slice A' n' c'] w fun e w' => e = .returned (.bool true) ∧ Keep Never w w' := by
  have hni : (n : Int) ≤ 2000 := by omega
  have hni' : (n' : Int) ≤ 400 := by omega
  obtain ⟨hrd, hbl, h8⟩ := bytes_rd hb
  have Hrd := Lib.hid hrd
  have Hbl := Lib.hid hbl
  have H8 := Lib.hid h8
  have Hl := Lib.hid hl
  have h1s := Lib.hid (ones_u8 b)
  clear hrd hbl h8 hb hl
  go_enter Try.func7, Try.ntmps7
  go_wp2_with fail
  refine (awake_any _).mono ?_
  rintro e w1 ⟨rfl, hk1⟩
  have hs1 := hk1.size
  have hr1 := Lib.hid (Hrd.out.keep hk1 (by intro k h; cases h))
  go_wp2_with (at_builtin; refine wpList_app _ rfl (.const (.slice none 0 0)) (.tmp 31) _ rfl elemU w.heap.size rfl (Own.nil _ _ _ _) w.heap.size rfl hr1.out h1s.out (by omega) (by unfold maxLen; omega) hs1 ?_; intro A2 c2 w2 hown2 hk2 hrow2)
  have hk02 : Keep Never w w2 := hk1.then_ hk2 (fun i hi h => by obtain ⟨ad, h, _⟩ := h; cases h)
  have hown2' := Lib.hid (show Own w2 w.heap.size 5 1 A2 n c2 (b.map u8v) by simpa using hown2)
  clear hown2 hrow2 hk2
  have hs2 := hk02.size
  refine (read_any A2 n c2 _ b Hbl.out w2 hown2'.out.rd H8.out (by omega)).mono ?_
  rintro e w3 ⟨p, rfl, hrd3, hk3⟩
  have Hrd3 := Lib.hid hrd3
  have hs3 := hk3.size
  have lo3 := hrd3.lo
  have hrow2 : Hid (∀ q, InRow A2 q → q < w2.heap.size ∧ w.heap.size ≤ q) := fun q hq => ⟨(hown2'.out.row hq).2, (hown2'.out.row hq).1⟩
  have hown3 := Lib.hid (hown2'.out.keep hk3 (fun q _ h => h))
  have hk03 := hk02.trans hk3
  clear hrd3 hown2'
  go_wp2_with fail
  -- the bytes that were handed in are written over
  go_loopw [8] (fun i wr => ∃ (k : Nat) (bb : List Nat), k ≤ n ∧ i = .int .i64 k ∧ Hid (Own wr w.heap.size 5 1 A2 n c2 (bb.map u8v)) ∧ Hid (∀ x ∈ bb, x < 256) ∧ Hid (RdAt wr w2.heap.size w3.heap.size p b 0) ∧ Keep Never w wr ∧ w3.heap.size ≤ wr.heap.size)
    (fun i _ => n - (intOf i).toNat)
  case atStart => exact ⟨0, b, by omega, rfl, hown3.out, H8.out, Hrd3.out, hk03, Nat.le_refl _⟩
  case round =>
    obtain ⟨k, bb, hk, rfl, hown, hb8, hrd, hkr, hsr⟩ := hrel
    by_cases hkn : k < n
    · obtain ⟨ad, x, rfl, _, hx, hcell⟩ := hown.out.rd.at1 hkn
      have hx8 : x < 256 := hb8.out x (List.mem_of_getElem? hx)
      have hfr := hown.out.frozen rfl k
      simp only [u8v] at hcell
      have hwv : IntKind.u8.wrap ((x : Int) + 1) = (((x + 1) % 256 : Nat) : Int) := by rw [IntKind.wrap_u8]; omega
      clear hx
      go_wp2_with fail
      go_roundw
      case rel =>
        refine ⟨k + 1, bb.set k ((x + 1) % 256), by omega, by go_num, ?_, ?_, ?_, hkr.set_ (.inr (by have := (hrow2.out ad.block ⟨ad, rfl, rfl⟩).2; rw [block_add]; omega)) _, by simp; omega⟩
        · have := hown.out.stored rfl k (.int .u8 (((x : Int) + 1) % 256))
          rw [List.map_set]
          exact this
        · intro y hy
          rcases List.mem_or_eq_of_mem_set hy with h | h
          · exact hb8.out y h
          · omega
        · exact hrd.out.keep (hown.out.stored_keep rfl k _) (fun q hq => .inl (hrow2.out q hq).1)
      case measure => simp [intOf]; try omega
    · obtain rfl : k = n := by omega
      clear hown hb8
      have hb4 := Lib.hid (Hrd.out.keep hkr (by intro k h; cases h))
      have hsw := hkr.size
      obtain ⟨wo, rfl⟩ : ∃ wo : World, wo = wr := ⟨_, rfl⟩
      go_wp2_with fail
      refine (rbits_any A k c w.heap.size b Hbl.out wo hb4.out hsw H8.out (by omega)).mono ?_
      rintro e w4 ⟨A4, n4, c4, rfl, hn4, hc4, hx4, hk4, hr4⟩
      have Hr4 := Lib.hid hr4
      clear hr4
      have hk04 := hkr.trans hk4
      have hs4 := hk4.size
      have Hn4 := Lib.hid hn4
      have Hx4 := Lib.hid hx4
      have Hc4 := Lib.hid hc4
      have hrd4 := Lib.hid (hrd.out.keep hk4 (fun q h => h.elim))
      have hn4' : n4 ≤ 16000 := by rw [hn4, Hbl.out]; omega
      clear hn4 hx4 hc4
      go_wp2_with fail
      go_loopw [9, 11] (fun v i wq => ∃ (j kk n5 c5 : Nat) (A5 : Option Addr), j ≤ n' ∧ i = .int .i64 j ∧ v = .slice A5 n5 c5 ∧ Hid (n5 = (leftB b kk).length ∧ n5 ≤ c5) ∧ n5 ≤ n4 ∧ Hid (Rd wq w4.heap.size 1 A5 n5 ((leftB b kk).map .bool)) ∧
          Hid (RdAt wq w2.heap.size w3.heap.size p b kk) ∧ Keep Never w wq ∧ w4.heap.size ≤ wq.heap.size ∧ Hid (∀ q, InRow A5 q → wo.heap.size ≤ q))
        (fun _ i _ => n' - (intOf i).toNat)
      case atStart => exact ⟨0, 0, n4, c4, A4, by omega, rfl, rfl, ⟨by rw [length_leftB, Hn4.out, Nat.sub_zero], Hc4.out⟩, Nat.le_refl _, by rw [show leftB b 0 = bitsB b from rfl]; exact Hx4.out, hrd4.out, hk04, Nat.le_refl _, Hr4.out⟩
      case round =>
        obtain ⟨j, kk, n5, c5, A5, hj, rfl, rfl, hnc5, hle5, hx5, hrd5, hkq, hsq, hr5⟩ := hrel
        have hkk : kk ≤ 8 * b.length := by obtain ⟨_, _, _, _, _, h, _⟩ := hrd5.out; exact h
        by_cases hjn : j < n'
        · obtain ⟨ad, y, rfl, _, hy, hcell⟩ := int_at (Hl.out.keep hkq (by intro k h; cases h)) hjn
          have hji : (j : Int) < (n' : Int) := by omega
          obtain ⟨N, hN⟩ : ∃ N, getN (leftB b kk) y = N := ⟨_, rfl⟩
          obtain ⟨E, hE⟩ : ∃ E, getE (leftB b kk).length y = E := ⟨_, rfl⟩
          obtain ⟨k2, hk2⟩ : ∃ k2, (kk + if getE (leftB b kk).length y = 0 then y.toNat else 0) = k2 := ⟨_, rfl⟩
          have hL : getL (leftB b kk) y = leftB b k2 := by rw [getL_drop, hk2]
          have hk2le : k2 ≤ 8 * b.length ∧ kk ≤ k2 := by
            rw [← hk2]
            by_cases h : getE (leftB b kk).length y = 0
            · have := getE_zero h
              rw [length_leftB] at this
              rw [if_pos h]; omega
            · rw [if_neg h]; omega
          have HN := Lib.hid hN
          have HE := Lib.hid hE
          have HK := Lib.hid hk2
          have HLl := Lib.hid hL
          clear hN hE hk2 hL hy
          go_wp2_with fail
          refine (rget_eq hnc5.out.1.symm hx5.out (by omega) hnc5.out.2 HN.out HE.out HLl.out).mono ?_
          rintro e w6 ⟨A6, n6, c6, rfl, hn6, hc6, hx6, hk6, hr6⟩
          have hs6 := hk6.size
          have hrd6 := Lib.hid (hrd5.out.keep hk6 (fun q h => h.elim))
          have hcell6 : w6.cell? (ad.add j) = some (.int .i64 y) := (hk6.cell (cell_lt hcell) (fun h => h)).trans hcell
          have Hn6 := Lib.hid hn6
          have Hc6 := Lib.hid hc6
          clear hn6 hc6
          go_wp2_with fail
          refine (get_eq (k' := k2) hrd6.out (by omega) HN.out HE.out HK.out).mono ?_
          rintro e w7 ⟨rfl, hrd7, hk7⟩
          have hs7 := hk7.size
          have hx7 := Lib.hid (hx6.out.keep_far hk7 (fun ad' hA _ e => by have := hr5.out _ (hr6.out _ ⟨ad', hA, rfl⟩); omega))
          have hk07 : Keep Never w w7 := (hkq.trans hk6).then_ hk7 (fun i hi e => by omega)
          have hn6' : ((8 * b.length - k2 : Nat) : Int) = (n6 : Int) := by rw [Hn6.out, length_leftB]
          go_wp2_with fail
          refine (left_eq hrd7.out hn6').mono ?_
          rintro e w8 ⟨rfl, z1, rfl⟩
          go_wp2_with fail
          have hn6le : n6 ≤ n4 := by have h1 := Hn6.out; rw [length_leftB] at h1; have h2 := Hn4.out; omega
          have hatv : Hid ((k2 : Int) = (n4 : Int) - (n6 : Int)) := by have h1 := Hn6.out; rw [length_leftB] at h1; have h2 := Hn4.out; show (k2 : Int) = _; omega
          refine (at_eq (hrd7.out.drewN z1) hatv.out).mono ?_
          rintro e w9 ⟨rfl, rfl⟩
          go_wp2_with fail
          go_roundw
          case rel =>
            exact ⟨j + 1, k2, n6, c6, A6, by omega, by go_num, rfl, ⟨Hn6.out, Hc6.out⟩, hn6le, hx7.out.drewN z1, hrd7.out.drewN z1, hk07.drewN z1, by simp; omega, fun q hq => hr5.out q (hr6.out q hq)⟩
          case measure => simp [intOf]; try omega
        · obtain rfl : j = n' := by omega
          have hn5' : ((8 * b.length - kk : Nat) : Int) = (n5 : Int) := by rw [hnc5.out.1, length_leftB]
          go_wp2_with fail
          refine (left_eq hrd5.out hn5').mono ?_
          rintro e w8 ⟨rfl, z1, rfl⟩
          go_wp2_with fail
          go_ret
          exact ⟨rfl, hkq.drewN z1⟩

set_option maxHeartbeats 400000 in
theorem reads_out (w : World) (A : Option Addr) (n c : Nat) (A' : Option Addr) (n' c' : Nat) (h : (2000 : Int) < n ∨ ((n : Int) ≤ 2000 ∧ (400 : Int) < n')) :
    Calls Try.prog 7 #[.slice A n c, .slice A' n' c'] w fun e w' => e = .returned (.bool true) ∧ Keep Never w w' := by
  rcases h with h | ⟨h, h'⟩
  all_goals
    go_enter Try.func7, Try.ntmps7
    go_wp2_with (go_at_call 10; refine (awake_any _).mono ?_; rintro e w1 ⟨rfl, hk1⟩)
    go_ret
    exact ⟨rfl, hk1⟩

theorem reads_walk (w : World) (A : Option Addr) (n c : Nat) (b : List Nat) (hb : Rep.byte.Sl w w.heap.size A n c b) (A' : Option Addr) (n' c' : Nat) (l : List Int) (hl : Rep.int.Sl w w.heap.size A' n' c' l) :
    Calls Try.prog 7 #[.slice A n c, .slice A' n' c'] w fun e w' => e = .returned (.bool true) ∧ Keep Never w w' := by
  by_cases hn : n ≤ 2000
  · by_cases hn' : n' ≤ 400
    · exact reads_in w A n c b hb A' n' c' l hl hn hn'
    · exact reads_out w A n c A' n' c' (.inr ⟨by omega, by omega⟩)
  · exact reads_out w A n c A' n' c' (.inl (by omega))

end Go.Proofs.Ytfkmcohefppanaa
