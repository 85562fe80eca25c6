/- The reference of layer 5: Total, Laid, Ints, Same. -/
import Derived.Test.YtiebjnibmomcjaaDoorPackL
import Derived.Test.YtiebjnibmomcjaaDoorBitsG
namespace Go.Proofs.YtiebjnibmomcjaaDoor
open Go.RowKit

set_option maxHeartbeats 1000000 in
theorem total_any (l : List (Int × Int)) (hw : ∀ y ∈ l, 0 ≤ y.2 ∧ y.2 ≤ 32) (A : Option Addr) (n c B : Nat) (w : World) (hn : l.length = n) (h5 : n ≤ 10000) (hr : Rd w B 2 A n (bitCells l)) :
    Calls Tryd.prog 39 #[.slice A n c] w fun e w' => e = .returned (.int .i64 (sumW l)) ∧ w = w' := by
  have Hw := Lib.hid hw
  have Hn := Lib.hid hn
  have Hr := Lib.hid hr
  clear hw hn hr
  go_enter Tryd.func39, Tryd.ntmps39
  go_wp2_with fail
  go_loop [3, 4] (fun s i => ∃ k : Nat, k ≤ n ∧ i = .int .i64 k ∧ s = .int .i64 (sumW (l.take k))) (fun _ i => n - (intOf i).toNat)
  case atStart => exact ⟨0, by omega, rfl, rfl⟩
  case round =>
    obtain ⟨k, hk, rfl, rfl⟩ := hrel
    have hs1 := sumW_bound Hw.out k
    have hs2 : sumW (l.take k) ≤ 320000 := by have := Hn.out; omega
    by_cases h0 : k < n
    · have hx : l[k]? = some (l[k]'(by have := Hn.out; omega)) := List.getElem?_eq_getElem _
      have hy2 := Hw.out _ (List.mem_of_getElem? hx)
      generalize l[k]'(by have := Hn.out; omega) = y at hx hy2
      obtain ⟨y1, y2⟩ := y
      simp only at hy2
      obtain ⟨hat1, hat2⟩ := bitCells_at _ hx
      obtain ⟨ad, hA, _, hcc⟩ := Hr.out.2 (by omega)
      subst hA
      have d1 := hcc _ _ hat2
      rw [fld _ _ (by omega)] at d1
      have HS : Hid (sumW (l.take (k + 1)) = sumW (l.take k) + y2) := sumW_take hx
      obtain ⟨S, hS⟩ : ∃ S, sumW (l.take k) = S := ⟨_, rfl⟩
      rw [hS] at hs1 hs2
      rw [hS]
      have HS0 := Lib.hid hS
      clear hx hat1 hat2 hcc hS
      go_wp2_with fail
      go_round
      case rel => exact ⟨k + 1, by omega, by go_num, by rw [HS.out, HS0.out]⟩
      case measure => simp [intOf]; omega
    · obtain rfl : k = n := by omega
      have htk : Hid (sumW (l.take k) = sumW l) := by show _ = _; rw [List.take_of_length_le (by have := Hn.out; omega)]
      go_wp2_with fail
      go_ret
      exact ⟨by rw [← htk.out]; rfl, rfl⟩

/-- the bits of numbers and widths -/
def layP (l : List (Int × Int)) : List Bool := l.flatMap fun x => bitsOf x.1.toNat x.2.toNat
theorem layP_take {l : List (Int × Int)} {k : Nat} {x : Int × Int} (h : l[k]? = some x) : layP (l.take (k + 1)) = layP (l.take k) ++ bitsOf x.1.toNat x.2.toNat := by
  obtain ⟨h2, h3⟩ := List.getElem?_eq_some_iff.1 h
  rw [List.take_succ_eq_append_getElem h2, h3]
  simp [layP]
theorem layP_items (tr : List (Int × Int)) : layP (itemsOf tr) = layT tr := by
  simp [layP, itemsOf, layT, List.flatMap_map]
theorem length_layP {l : List (Int × Int)} (hw : ∀ y ∈ l, 0 ≤ y.2 ∧ y.2 ≤ 32) : ((layP l).length : Int) = sumW l := by
  induction l with
  | nil => rfl
  | cons y l ih =>
    have h1 := hw y (by simp)
    have h2 := ih (fun z hz => hw z (by simp [hz]))
    simp only [layP, sumW, List.flatMap_cons, List.length_append, length_bitsOf, List.map_cons, List.sum_cons] at h2 ⊢
    omega
theorem layP_take_len {l : List (Int × Int)} (hw : ∀ y ∈ l, 0 ≤ y.2 ∧ y.2 ≤ 32) (k : Nat) : (layP (l.take k)).length ≤ 32 * l.length := by
  have h1 := length_layP (l := l.take k) (fun y hy => hw y (List.mem_of_mem_take hy))
  have h2 := sumW_bound hw k
  omega

/-- what Laid leaves -/
def LRet (w : World) (l : List (Int × Int)) (e : Ending) (w' : World) : Prop :=
  ∃ A' n' c', e = .returned (.slice A' n' c') ∧ n' = (layP l).length ∧ Own w' w.heap.size 4 1 A' n' c' ((layP l).map .bool) ∧ Keep Never w w'

set_option maxHeartbeats 2000000 in
theorem laid_any (l : List (Int × Int)) (hw : ∀ y ∈ l, 0 ≤ y.2 ∧ y.2 ≤ 32) (hN : ∀ y ∈ l, 0 ≤ y.1 ∧ y.1 ≤ 9223372036854775807) (A : Option Addr) (n c B : Nat) (w : World) (hn : l.length = n) (h5 : n ≤ 10000) (hr : Rd w B 2 A n (bitCells l)) (hB : B ≤ w.heap.size) :
    Calls Tryd.prog 41 #[.slice A n c] w (LRet w l) := by
  have Hw := Lib.hid hw
  have HN := Lib.hid hN
  have Hn := Lib.hid hn
  have hRd := Lib.hid hr
  clear hw hN hn hr
  go_enter Tryd.func41, Tryd.ntmps41
  go_wp2_with fail
  go_loopw [3, 4, 5] (fun v i _ wr => ∃ (q m c3 : Nat) (A3 : Option Addr), q ≤ n ∧ i = .int .i64 q ∧ v = .slice A3 m c3 ∧ Hid (m = (layP (l.take q)).length ∧ Own wr w.heap.size 4 1 A3 m c3 ((layP (l.take q)).map .bool) ∧ Keep Never w wr))
    (fun _ i _ _ => n - (intOf i).toNat)
  case atStart => exact ⟨0, 0, 0, none, by omega, rfl, rfl, ⟨rfl, by simpa [layP] using Own.nil _ _ _ _, Keep.refl _ _⟩⟩
  case round =>
    obtain ⟨q, m, c3, A3, hq, rfl, rfl, HH⟩ := hrel
    by_cases h0 : q < n
    · have hx : l[q]? = some (l[q]'(by have := Hn.out; omega)) := List.getElem?_eq_getElem _
      have hy2 := Hw.out _ (List.mem_of_getElem? hx)
      have hy1 := HN.out _ (List.mem_of_getElem? hx)
      generalize l[q]'(by have := Hn.out; omega) = y at hx hy2 hy1
      obtain ⟨y1, y2⟩ := y
      simp only at hy2 hy1
      obtain ⟨xn, rfl⟩ : ∃ xn : Nat, y1 = xn := ⟨y1.toNat, by omega⟩
      obtain ⟨wd, rfl⟩ : ∃ wd : Nat, y2 = wd := ⟨y2.toNat, by omega⟩
      obtain ⟨hat1, hat2⟩ := bitCells_at _ hx
      have hcc := hRd.out.2 (by omega)
      obtain ⟨ad, hA, hadB, hcc⟩ := hcc
      subst hA
      have d0 : wr.cell? (ad.add (q * 2)) = some (.int .i64 xn) := (HH.out.2.2.cell (cell_lt (hcc _ _ hat1)) (fun h => h)).trans (hcc _ _ hat1)
      have d1 : wr.cell? (ad.add (q * 2 + 1)) = some (.int .i64 wd) := (HH.out.2.2.cell (cell_lt (hcc _ _ hat2)) (fun h => h)).trans (hcc _ _ hat2)
      rw [fld _ _ (by omega)] at d1
      have HD0 : Hid (w.cell? (ad.add (q * 2)) = some (.int .i64 xn)) := hcc _ _ hat1
      have HX := Lib.hid hx
      have hwd : wd ≤ 32 := by omega
      have hxn : xn ≤ 9223372036854775807 := by omega
      have HadB : Hid (ad.block < B) := hadB
      have hle := layP_take_len Hw.out (q + 1)
      have hle2 : (layP (l.take (q + 1))).length ≤ 320000 := by have := Hn.out; omega
      rw [layP_take hx, List.length_append] at hle2
      simp only [Int.toNat_natCast, length_bitsOf] at hle2
      have Hle2 := Lib.hid hle2
      clear hx hat1 hat2 hcc hy1 hy2 hle hle2
      go_wp2_with fail
      obtain ⟨wo, rfl⟩ : ∃ wo : World, wo = wr := ⟨_, rfl⟩
      go_loopw [3, 5] (fun v i wi => ∃ (j m3 c3 : Nat) (A3 : Option Addr), j ≤ wd ∧ i = .int .i64 ((j : Int) - 1) ∧ v = .slice A3 m3 c3 ∧ Hid (m3 = (layP (l.take q)).length + (wd - j) ∧ Own wi w.heap.size 4 1 A3 m3 c3 ((layP (l.take q) ++ (bitsOf xn wd).take (wd - j)).map .bool) ∧ Keep Never w wi))
        (fun _ i _ => (intOf i + 1).toNat)
      case atStart => exact ⟨wd, m, c3, A3, by omega, rfl, rfl, ⟨by have := HH.out.1; omega, by simpa using HH.out.2.1, HH.out.2.2⟩⟩
      case round =>
        obtain ⟨j, m3, c4, A4, hj, rfl, rfl, HJ⟩ := hrel
        by_cases hj0 : 1 ≤ j
        · obtain ⟨i, rfl⟩ : ∃ i, j = i + 1 := ⟨j - 1, by omega⟩
          have hp1 := pow_pos' i
          have hb := bit_int xn i
          have htk := bitsOf_take xn wd i (by omega)
          have Hb := Lib.hid hb
          have Htk := Lib.hid htk
          have hcell : wr.cell? (ad.add (q * 2)) = some (.int .i64 xn) := (HJ.out.2.2.cell (cell_lt HD0.out) (fun h => h)).trans HD0.out
          have hm3 : m3 ≤ 320000 := by have := HJ.out.1; have := Hle2.out; omega
          generalize hp : ((2 ^ i : Nat) : Int) = p at *
          have HP := Lib.hid hp
          have hq1 : 0 ≤ (xn : Int) / p := Int.ediv_nonneg (by omega) (by omega)
          have hq2 : (xn : Int) / p ≤ 9223372036854775807 := Int.le_trans (Int.ediv_le_self _ (by omega)) (by omega)
          clear hb htk hp
          go_wp2_with fail
          have hs0 := HJ.out.2.2.size
          have hnr : ¬ InRow A4 ad.block := fun e => by have := (HJ.out.2.1.row e).1; have := HadB.out; omega
          have Hnr := Lib.hid hnr
          clear hnr
          have hq0 : ¬ p = 0 := by omega
          have hq3 := wrap_tdiv (x := (xn : Int)) (p := p) (by omega) hp1 (by omega)
          have hq4 : ((xn : Int) / p).tmod 2 = (xn : Int) / p % 2 := Int.tmod_eq_emod_of_nonneg hq1
          have hq6 : IntKind.i64.wrap ((xn : Int) / p) = (xn : Int) / p := IntWalk.i64_in _ ⟨by omega, by omega⟩
          go_region_held3 (fun w' => w'.cell? (ad.add (q * 2)) = some (.int .i64 xn)) (first | go_keep | (rw [hk5.cell (by simp [block_add]; omega) (by rw [block_add]; exact Hnr.out)]; go_keep))
            (first
              | (go_at_call 63; refine (power_any' i (by omega) p HP.out _).mono ?_; rintro e w' ⟨rfl, rfl⟩)
              | (refine step_app _ rfl (.tmp 22) (.tmp 33) _ rfl elemB w.heap.size rfl (HJ.out.2.1.alloc _) _ rfl (Rd.of_blk (n := 1) (cs := [.bool _]) (Blk.new _ _ _) rfl) (by simp [Value.oneCell']) (by omega) (by unfold maxLen; omega) (by simp; omega) ?_; intro A5 c5 w5 hown5 hk5 hrow5))
          go_wp2_with fail
          have hr5 := Lib.hid hrow5
          go_roundw
          case rel =>
            refine ⟨i, m3 + 1, c5, A5, by omega, rfl, rfl, by have := HJ.out.1; omega, ?_, ?_⟩
            · rw [Htk.out]
              simpa [Hb.out] using hown5
            · exact (HJ.out.2.2.drew.alloc _).then_ hk5 (fun z hz hr => by have := (HJ.out.2.1.row hr).1; omega)
          case measure => simp [intOf]; try omega
        · obtain rfl : j = 0 := by omega
          have e1 : (bitsOf xn wd).take (wd - 0) = bitsOf xn wd := List.take_of_length_le (by rw [length_bitsOf]; omega)
          have HE : Hid (layP (l.take (q + 1)) = layP (l.take q) ++ bitsOf xn wd) := by show _ = _; have := layP_take HX.out; simpa using this
          have HE1 := Lib.hid e1
          clear e1
          go_wp2_with fail
          go_roundw
          case rel =>
            obtain ⟨g1, g2, g3⟩ := HJ.out
            rw [HE1.out] at g2
            refine ⟨q + 1, m3, c4, A4, by omega, by go_num, rfl, by rw [HE.out, List.length_append, length_bitsOf]; omega, by rw [HE.out]; exact g2, g3⟩
          case measure => simp [intOf]; try omega
    · obtain rfl : q = n := by omega
      go_wp2_with fail
      go_ret
      obtain ⟨e1, o1, k1⟩ := HH.out
      rw [List.take_of_length_le (by rw [Hn.out]; exact Nat.le_refl _)] at e1 o1
      exact ⟨A3, m, c3, rfl, e1, o1, k1⟩

set_option maxHeartbeats 2000000 in
theorem ints_any (l m : List Int) (A A' : Option Addr) (n n' c c' B : Nat) (w : World) (hl : l.length = n) (hm : m.length = n') (hn : n ≤ 1000000) (hn' : n' ≤ 1000000) (hr : Rd w B 1 A n (l.map (.int .i64))) (hr' : Rd w B 1 A' n' (m.map (.int .i64))) :
    Calls Tryd.prog 51 #[.slice A n c, .slice A' n' c'] w fun e w' => e = .returned (.bool (decide (l = m))) ∧ Keep Never w w' := by
  have Hl := Lib.hid hl
  have Hm := Lib.hid hm
  have Hr := Lib.hid hr
  have Hr' := Lib.hid hr'
  clear hl hm hr hr'
  by_cases hne : n = n'
  · subst hne
    go_enter Tryd.func51, Tryd.ntmps51
    go_wp2_with fail
    go_loopw [5] (fun i wr => ∃ k : Nat, k ≤ n ∧ i = .int .i64 k ∧ Hid (Keep Never w wr ∧ l.take k = m.take k)) (fun i _ => n - (intOf i).toNat)
    case atStart => exact ⟨0, by omega, rfl, Keep.refl _ _, by simp⟩
    case round =>
      obtain ⟨k, hk, rfl, HH⟩ := hrel
      by_cases h0 : k < n
      · obtain ⟨ad, x, hA, _, hx, hcx⟩ := (Hr.out.keep HH.out.1 (fun _ h => h.elim)).at1 h0
        obtain ⟨ad', y, hA', _, hy, hcy⟩ := (Hr'.out.keep HH.out.1 (fun _ h => h.elim)).at1 h0
        subst hA
        subst hA'
        have HX := Lib.hid hx
        have HY := Lib.hid hy
        have hki : (k : Int) < (n : Int) := by omega
        have hk00 : (0 : Int) ≤ (k : Int) := by omega
        clear hx hy
        have htx : Hid (l.take (k + 1) = l.take k ++ [x]) := by
          obtain ⟨h2, h3⟩ := List.getElem?_eq_some_iff.1 HX.out
          show _ = _
          rw [List.take_succ_eq_append_getElem h2, h3]
        have hty : Hid (m.take (k + 1) = m.take k ++ [y]) := by
          obtain ⟨h2, h3⟩ := List.getElem?_eq_some_iff.1 HY.out
          show _ = _
          rw [List.take_succ_eq_append_getElem h2, h3]
        by_cases hxy : x = y
        · subst hxy
          go_wp2_with fail
          go_quiet (fail)
          go_wp2_with fail
          go_roundw
          case rel => exact ⟨k + 1, by omega, by go_num, HH.out.1.drewN _, by rw [htx.out, hty.out, HH.out.2]⟩
          case measure => simp [intOf]; omega
        · have hb : (x == y) = false := by simpa using hxy
          have hne : Hid (decide (l = m) = false) := by
            show _ = _
            rw [decide_eq_false_iff_not]
            intro e
            have h1 := HX.out
            rw [e, HY.out] at h1
            injection h1 with h1
            exact hxy h1.symm
          clear hxy
          go_wp2_with fail
          go_quiet (fail)
          go_wp2_with fail
          go_ret
          exact ⟨by rw [hne.out]; rfl, HH.out.1.drewN _⟩
      · obtain rfl : k = n := by omega
        have he : Hid (decide (l = m) = true) := by
          show _ = _
          rw [decide_eq_true_iff]
          have := HH.out.2
          rwa [List.take_of_length_le (by rw [Hl.out]; exact Nat.le_refl _), List.take_of_length_le (by rw [Hm.out]; exact Nat.le_refl _)] at this
        go_wp2_with fail
        go_ret
        exact ⟨by rw [he.out]; rfl, HH.out.1⟩
  · have he : Hid (decide (l = m) = false) := by
      show _ = _
      rw [decide_eq_false_iff_not]
      intro e
      have h1 := Hl.out
      rw [e, Hm.out] at h1
      exact hne h1.symm
    have hb : ((n : Int) == (n' : Int)) = false := by simp; omega
    clear hne
    go_enter Tryd.func51, Tryd.ntmps51
    go_wp2_with fail
    go_ret
    exact ⟨by rw [he.out]; rfl, Keep.refl _ _⟩

set_option maxHeartbeats 2000000 in
theorem same_any (i j : Int) (l m : List Int) (A A' : Option Addr) (n n' c c' B : Nat) (w : World) (hl : l.length = n) (hm : m.length = n') (hn : n ≤ 1000000) (hn' : n' ≤ 1000000) (hr : Rd w B 1 A n (l.map (.int .i64))) (hr' : Rd w B 1 A' n' (m.map (.int .i64))) :
    Calls Tryd.prog 52 #[.agg (packCells i A n c), .agg (packCells j A' n' c')] w fun e w' => e = .returned (.bool (decide (l = m) && i == j)) ∧ Keep Never w w' := by
  have hcall : Hid (∀ W, Keep Never w W → Calls Tryd.prog 51 #[.slice A n c, .slice A' n' c'] W fun e w' => e = .returned (.bool (decide (l = m))) ∧ Keep Never W w') := fun W hk =>
    ints_any l m A A' n n' c c' B W hl hm hn hn' (hr.keep hk (fun _ h => h.elim)) (hr'.keep hk (fun _ h => h.elim))
  obtain ⟨b, hb⟩ : ∃ b, decide (l = m) = b := ⟨_, rfl⟩
  rw [hb] at hcall ⊢
  unfold packCells at *
  clear hr hr' hl hm hb
  have hk2 : Hid (Keep Never w ((w.alloc (.cells #[.int .i64 i, .slice A n c] 39)).alloc (.cells #[.int .i64 j, .slice A' n' c'] 39))) := ((Keep.refl Never w).alloc _).alloc _
  obtain ⟨g1, g2, g3, g4⟩ := alloc2 w #[.int .i64 i, .slice A n c] #[.int .i64 j, .slice A' n' c'] 39 39
  have G1 := Lib.hid g1
  have G2 := Lib.hid g2
  clear g1 g2 g3 g4
  cases b
  all_goals
    go_enter Tryd.func52, Tryd.ntmps52
    go_wp2_with fail
    refine (hcall.out _ hk2.out).mono ?_
    rintro e w1 ⟨rfl, hk1⟩
    have c0 : w1.cell? ⟨w.heap.size, 0, none⟩ = some (.int .i64 i) := (G1.out.keep hk1 (fun h => h)).cell 0
    have c1 : w1.cell? ⟨w.heap.size + 1, 0, none⟩ = some (.int .i64 j) := (G2.out.keep hk1 (fun h => h)).cell 0
    have HK := Lib.hid (hk2.out.trans hk1)
    clear hk1
    go_wp2_with fail
    go_ret
    exact ⟨by first | rfl | (refine ret_bool ?_; simp), HK.out⟩

end Go.Proofs.YtiebjnibmomcjaaDoor
