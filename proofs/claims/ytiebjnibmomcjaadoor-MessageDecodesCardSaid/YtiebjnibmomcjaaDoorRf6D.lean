/- Chapter 6, the document's: Fits. -/
import Derived.Test.YtiebjnibmomcjaaDoorBdRf6P
import Derived.Test.YtiebjnibmomcjaaDoorMsgD
import Derived.StillTailTactics
namespace Go.Proofs.YtiebjnibmomcjaaDoor
open Go.RowKit

theorem fitsR_congr {may m m' : List Int} (h : ∀ y, y ∈ m ↔ y ∈ m') (l : List Int) : fitsR may m l = fitsR may m' l := by
  rw [Bool.eq_iff_iff, fitsR_iff, fitsR_iff]
  simp only [h]
theorem at0 {l : List Int} {j : Nat} {x : Int} (_ : 0 ≤ j) (h : l[j]? = some x) : l[j]? = some x := h
theorem at1_ {l : List Int} {j : Nat} {x y : Int} (hj : 1 ≤ j) (h : (y :: l)[j]? = some x) : l[j - 1]? = some x := by
  obtain ⟨k, rfl⟩ : ∃ k, j = k + 1 := ⟨j - 1, by omega⟩
  simpa using h
theorem noStr : (⟨#[]⟩ : ByteArray).toList = [] := by rw [Lib.toList_data]

set_option maxHeartbeats 8000000 in
set_option maxRecDepth 100000 in
theorem fits6_free (B : Nat) (s1 s2 s3 : ByteArray) (may : List Int) (hs2 : s2.toList = []) (hmay : ∀ x, amongM x s3 = decide (x ∈ may)) (h3 : s3.data.toList.length ≤ 1000) (A : Option Addr) (n c : Nat) (ids : List Int) (w : World) (hi : IdsAt w B A n ids) (hn : n ≤ 100000) :
    Calls Tryd.prog 38 #[.agg #[.string s1, .string s2, .string s3], .slice A n c] w fun e w' => e = .returned (.bool (fitsR may [] ids)) ∧ Keep Never w w' := by
  have HI := Lib.hid hi
  have H3 := Lib.hid h3
  have Hmay := Lib.hid hmay
  have HLn : Hid (ids.length = n) := Lib.hid hi.choose_spec.2.1
  have HK0 : Hid (Keep Never w (w.alloc (.cells #[.string s1, .string s2, .string s3] 58)) ∧ Blk (w.alloc (.cells #[.string s1, .string s2, .string s3] 58)) w.heap.size 58 #[.string s1, .string s2, .string s3]) := Lib.hid ⟨(Keep.refl Never w).alloc _, Blk.new w _ _⟩
  have m1 : (w.alloc (.cells #[.string s1, .string s2, .string s3] 58)).cell? ⟨w.heap.size, 1, none⟩ = some (.string s2) := HK0.out.2.cell 1
  have e2 : (s2.toList == []) = true := by rw [hs2]; rfl
  clear hi h3 hmay
  go_enter Tryd.func38, Tryd.ntmps38
  go_wp2_with fail

  go_loopw [7] (fun i wr => ∃ j : Nat, 0 ≤ j ∧ j ≤ n ∧ i = .int .i64 j ∧ Hid (Keep Never w wr ∧ Blk wr w.heap.size 58 #[.string s1, .string s2, .string s3] ∧ fitsR may (ids.take j) (ids.drop j) = fitsR may [] ids)) (fun i _ => n - (intOf i).toNat)
  case atStart => exact ⟨0, by omega, by omega, rfl, Lib.hid ⟨HK0.out.1, HK0.out.2, rfl⟩⟩
  case round =>
    obtain ⟨j, hfj, hj, rfl, HJ⟩ := hrel
    by_cases hjn : j < n
    · have hji : (j : Int) < (n : Int) := by omega
      obtain ⟨ad, x, A', n', c', hA, hx0, hi64, cx0, cx1⟩ := (HI.out.keep HJ.out.1 (fun _ h => h.elim)).at_ (k := j) (by omega)
      have hx : ids[j]? = some x := at0 hfj hx0
      have m2 : wr.cell? ⟨w.heap.size, 2, none⟩ = some (.string s3) := HJ.out.2.1.cell 2
      have HAm : Hid (∀ W, Calls Tryd.prog 67 #[.int .i64 x, .string s3] W fun e w' => e = .returned (.bool (decide (x ∈ may))) ∧ Keep Never W w') := Lib.hid (fun W => by have := among6_any x s3 (by have := H3.out; omega) W; rwa [Hmay.out] at this)
      have hstep := HJ.out.2.2
      rw [fitsR_step hx] at hstep
      subst hA
      have Hstep := Lib.hid hstep
      have Hx := Lib.hid hx
      have Hx0 := Lib.hid hx0
      clear hstep hx hx0 cx1
      go_wp2_with fail
      go_still_tail 7, (by kernel_rfl)
      change wpList _ _ _ _ _ wr.drew
      go_wp2_with fail
      refine (HAm.out _).mono ?_
      rintro e w5 ⟨rfl, hk5⟩
      have HK5 := Lib.hid (HJ.out.1.drew.trans hk5)
      have HB5 := Lib.hid (HJ.out.2.1.drew.keep hk5 (fun h => h))
      clear hk5 m2 cx0
      by_cases hmay : x ∈ may
      · rw [decide_eq_true hmay]
        go_wp2_with fail
        obtain ⟨wo, rfl⟩ : ∃ wo : World, wo = wr := ⟨_, rfl⟩
        go_loopw [9] (fun i wi => ∃ k : Nat, 0 ≤ k ∧ k ≤ j ∧ i = .int .i64 k ∧ Hid (Keep Never w5 wi ∧ x ∉ ids.take k)) (fun i _ => j - (intOf i).toNat)
        case atStart => exact ⟨0, by omega, by omega, rfl, Lib.hid ⟨Keep.refl _ _, by simp⟩⟩
        case round =>
          obtain ⟨k, hfk, hk, rfl, HI5⟩ := hrel
          by_cases hkj : k < j
          · have hki : (k : Int) < (j : Int) := by omega
            obtain ⟨ad1, y, A1, n1', c1', hA1, hy0, _, cy0, cy1⟩ := (HI.out.keep (HK5.out.trans HI5.out.1) (fun _ h => h.elim)).at_ (k := k) (by omega)
            obtain rfl : ad = ad1 := by injection hA1
            obtain ⟨ad2, x', A2, n2', c2', hA2, hx0', _, cx0, cx1⟩ := (HI.out.keep (HK5.out.trans HI5.out.1) (fun _ h => h.elim)).at_ (k := j) (by omega)
            obtain rfl : ad = ad2 := by injection hA2
            rw [Hx0.out] at hx0'
            obtain rfl : x = x' := by injection hx0'
            have hki2 : (k : Int) < (n : Int) := by omega
            have hy : ids[k]? = some y := at0 hfk hy0
            by_cases hyx : y = x
            · have e1 : (y == x) = true := by simpa using hyx
              have HR : Hid (fitsR may [] ids = false) := Lib.hid (by
                have hmem : x ∈ ids.take j := by
                  rw [← hyx]
                  exact List.mem_of_getElem? (i := k) (by rw [List.getElem?_take, if_pos (by omega)]; exact hy)
                rw [← Hstep.out, if_pos (.inl hmem)])
              clear hA1 hA2 hx0' cy1 cx1 hy0 hy hyx
              go_wp2_with fail
              go_quiet (fail)
              go_wp2_with fail
              go_ret
              exact ⟨by rw [HR.out]; rfl, (HK5.out.trans HI5.out.1).drewN _⟩
            · have e1 : (y == x) = false := by simpa using hyx
              have HNx : Hid (x ∉ ids.take (k + 1)) := Lib.hid (by
                rw [show (k + 1) = k + 1 by omega, List.take_add_one, hy]
                simp only [List.mem_append, Option.toList_some, List.mem_singleton, not_or]
                exact ⟨HI5.out.2, fun h => hyx h.symm⟩)
              clear hA1 hA2 hx0' cy1 cx1 hy0 hy hyx
              go_wp2_with fail
              go_quiet (fail)
              go_wp2_with fail
              go_roundw
              case rel => exact ⟨k + 1, by omega, by omega, by go_num, Lib.hid ⟨HI5.out.1.drewN _, HNx.out⟩⟩
              case measure => simp [intOf]; try omega
          · obtain rfl : k = j := by omega
            have hki : ¬ (k : Int) < (k : Int) := by omega
            have HR : Hid (fitsR may (ids.take (k + 1)) (ids.drop (k + 1)) = fitsR may [] ids) := Lib.hid (by
              rw [← Hstep.out, if_neg (by rintro (h | h); exact HI5.out.2 h; exact h hmay), show (k + 1) = k + 1 by omega]
              refine fitsR_congr (fun z => ?_) _
              rw [List.take_add_one, Hx.out]
              simp [or_comm])
            go_wp2_with fail
            go_roundw
            case rel => exact ⟨k + 1, by omega, by omega, by go_num, Lib.hid ⟨HK5.out.trans HI5.out.1, HB5.out.keep HI5.out.1 (fun h => h), HR.out⟩⟩
            case measure => simp [intOf]; try omega
      · rw [decide_eq_false hmay]
        have HR : Hid (fitsR may [] ids = false) := Lib.hid (by rw [← Hstep.out, if_pos (.inr hmay)])
        go_wp2_with fail
        go_ret
        exact ⟨by rw [HR.out]; rfl, HK5.out⟩
    · obtain rfl : j = n := by omega
      have hji : ¬ (j : Int) < (j : Int) := by omega
      have HR : Hid (fitsR may [] ids = true) := Lib.hid (by rw [← HJ.out.2.2, List.drop_eq_nil_of_le (by have := HLn.out; omega)]; rfl)
      go_wp2_with fail
      go_ret
      exact ⟨by rw [HR.out]; rfl, HJ.out.1⟩



set_option maxHeartbeats 8000000 in
set_option maxRecDepth 100000 in
theorem fits6_must (B : Nat) (s1 s2 s3 : ByteArray) (must : Int) (may : List Int) (hs2 : (must = 0 ∧ s2 = wREP) ∨ (must = 15 ∧ s2 = w15)) (hmay : ∀ x, amongM x s3 = decide (x ∈ may)) (h3 : s3.data.toList.length ≤ 1000) (A : Option Addr) (n c : Nat) (ids : List Int) (w : World) (hi : IdsAt w B A n ids) (hn : n ≤ 100000) :
    Calls Tryd.prog 38 #[.agg #[.string s1, .string s2, .string s3], .slice A n c] w fun e w' => e = .returned (.bool (fitsM must may ids)) ∧ Keep Never w w' := by
  have HI := Lib.hid hi
  have H3 := Lib.hid h3
  have Hmay := Lib.hid hmay
  have HLi : Hid (ids.length = n) := Lib.hid hi.choose_spec.2.1
  have HK0 : Hid (Keep Never w (w.alloc (.cells #[.string s1, .string s2, .string s3] 58)) ∧ Blk (w.alloc (.cells #[.string s1, .string s2, .string s3] 58)) w.heap.size 58 #[.string s1, .string s2, .string s3]) := Lib.hid ⟨(Keep.refl Never w).alloc _, Blk.new w _ _⟩
  obtain ⟨W1, hW1⟩ : ∃ W1, w.alloc (.cells #[.string s1, .string s2, .string s3] 58) = W1 := ⟨_, rfl⟩
  rw [hW1] at HK0
  have m1 : W1.cell? ⟨w.heap.size, 1, none⟩ = some (.string s2) := HK0.out.2.cell 1
  have hm0 : 0 ≤ must := by rcases hs2 with ⟨h, _⟩ | ⟨h, _⟩ <;> omega
  have e2 : (s2.toList == []) = false := by rcases hs2 with ⟨_, rfl⟩ | ⟨_, rfl⟩ <;> (rw [Lib.toList_data]; rfl)
  have e2' : (s2.toList != []) = true := by simp [bne, e2]
  have HS2 := Lib.hid hs2
  clear hi h3 hmay
  cases ids with
  | nil =>
    have hF : fitsM must may [] = false := by unfold fitsM; rw [if_pos hm0]
    rw [hF]
    obtain rfl : n = 0 := by have := HLi.out; simpa using this.symm
    clear hF hs2
    go_enter Tryd.func38, Tryd.ntmps38
    go_wp2_with fail
    go_ret
    exact ⟨rfl, HK0.out.1⟩
  | cons x0 l =>
    have hn1 : 1 ≤ n := by have := HLi.out; simp at this; omega
    have hn0 : ((n : Int) == 0) = false := by simp; omega
    have hn1' : 0 < n := hn1
    have HLn : Hid (l.length = n - 1) := Lib.hid (by have := HLi.out; simp at this; omega)
    obtain ⟨ad0, y0, A0, N0, C0, hA0, hy0, _, cx0, cx1⟩ := (HI.out.keep HK0.out.1 (fun _ h => h.elim)).at_ (k := 0) (by omega)
    simp only [List.getElem?_cons_zero, Option.some.injEq] at hy0
    subst hy0 hA0
    have hz : ad0.add (0 * 2) = ad0 := by simp [Addr.add]
    rw [hz] at cx0 cx1
    have HAm : Hid (∀ W, Calls Tryd.prog 67 #[.int .i64 x0, .string s2] W fun e w' => e = .returned (.bool (amongM x0 s2)) ∧ Keep Never W w') := Lib.hid (fun W => among6_any x0 s2 (by rcases hs2 with ⟨_, rfl⟩ | ⟨_, rfl⟩ <;> decide) W)
    have e3a : must = 0 → (s2.toList == [82, 69, 80, 79, 82, 84]) = true := fun h => by
      rcases hs2 with ⟨_, rfl⟩ | ⟨h', _⟩
      · rw [Lib.toList_data]; rfl
      · omega
    have e3b : must = 15 → (s2.toList == [82, 69, 80, 79, 82, 84]) = false := fun h => by
      rcases hs2 with ⟨h', _⟩ | ⟨_, rfl⟩
      · omega
      · rw [Lib.toList_data]; rfl
    have ham : must = 15 → amongM x0 s2 = decide (x0 = 15) := fun h => by
      rcases hs2 with ⟨h', _⟩ | ⟨_, rfl⟩
      · omega
      · exact among_15 x0
    have hFF : fitsM must may (x0 :: l) = ((decide (x0 = must) || (decide (must = 0) && decide (x0 = 1))) && fitsR may [] l) := by unfold fitsM; rw [if_pos hm0]
    rw [hFF]
    have hmm : must = 0 ∨ must = 15 := by rcases hs2 with ⟨h, _⟩ | ⟨h, _⟩ <;> omega
    clear hFF hs2 hm0 hz
    generalize amongM x0 s2 = am at *
    rcases hmm with rfl | rfl
    · have e3 := e3a rfl
      clear e3a e3b ham
      by_cases hok : x0 = 0 ∨ x0 = 1
      · have hT : (decide (x0 = 0) || (decide ((0 : Int) = 0) && decide (x0 = 1))) = true := by simpa using hok
        rw [hT, Bool.true_and]
        have hx : (x0 == 0) = true ∨ ((x0 == 0) = false ∧ (x0 == 1) = true) := by
          by_cases h : x0 = 0
          · left; simpa using h
          · right; rcases hok with h' | h'
            · exact absurd h' h
            · exact ⟨by simpa using h, by simpa using h'⟩
        clear hT hok
        rcases hx with hx | ⟨hx, hx'⟩
        all_goals
          go_enter Tryd.func38, Tryd.ntmps38
          go_wp2_with fail
          go_still_tail 6, (by kernel_rfl)
          change wpList _ _ _ _ _ W1.drew
          go_wp2_with fail
          refine (HAm.out _).mono ?_
          rintro e w5 ⟨rfl, hk5⟩
          have HK5 := Lib.hid (HK0.out.1.drew.trans hk5)
          have HB5 := Lib.hid (HK0.out.2.drew.keep hk5 (fun h => h))
          have cx5 : w5.cell? ad0 = some (.int .i64 x0) := (hk5.cell (cell_lt cx0) (fun h => h)).trans cx0
          have m5 : w5.cell? ⟨w.heap.size, 1, none⟩ = some (.string s2) := HB5.out.cell 1
          clear hk5 cx0 cx1 m1 hW1
          go_wp2_with fail
          cases am
          all_goals
            have HK0 := Lib.hid (And.intro HK5.out HB5.out)
            clear HAm HS2 e2 e2' cx5 m5 hx
            go_loopw [7] (fun i wr => ∃ j : Nat, 1 ≤ j ∧ j ≤ n ∧ i = .int .i64 j ∧ Hid (Keep Never w wr ∧ Blk wr w.heap.size 58 #[.string s1, .string s2, .string s3] ∧ fitsR may (l.take (j - 1)) (l.drop (j - 1)) = fitsR may [] l)) (fun i _ => n - (intOf i).toNat)
            case atStart => exact ⟨1, by omega, by omega, rfl, Lib.hid ⟨HK0.out.1, HK0.out.2, rfl⟩⟩
            case round =>
              obtain ⟨j, hfj, hj, rfl, HJ⟩ := hrel
              by_cases hjn : j < n
              · have hji : (j : Int) < (n : Int) := by omega
                obtain ⟨ad, x, A', n', c', hA, hx0, hi64, cx0, cx1⟩ := (HI.out.keep HJ.out.1 (fun _ h => h.elim)).at_ (k := j) (by omega)
                have hx : l[(j - 1)]? = some x := at1_ hfj hx0
                have m2 : wr.cell? ⟨w.heap.size, 2, none⟩ = some (.string s3) := HJ.out.2.1.cell 2
                have HAm : Hid (∀ W, Calls Tryd.prog 67 #[.int .i64 x, .string s3] W fun e w' => e = .returned (.bool (decide (x ∈ may))) ∧ Keep Never W w') := Lib.hid (fun W => by have := among6_any x s3 (by have := H3.out; omega) W; rwa [Hmay.out] at this)
                have hstep := HJ.out.2.2
                rw [fitsR_step hx] at hstep
                obtain rfl : ad0 = ad := by injection hA
                have Hstep := Lib.hid hstep
                have Hx := Lib.hid hx
                have Hx0 := Lib.hid hx0
                clear hstep hx hx0 cx1
                go_wp2_with fail
                go_still_tail 7, (by kernel_rfl)
                change wpList _ _ _ _ _ wr.drew
                go_wp2_with fail
                refine (HAm.out _).mono ?_
                rintro e w5 ⟨rfl, hk5⟩
                have HK5 := Lib.hid (HJ.out.1.drew.trans hk5)
                have HB5 := Lib.hid (HJ.out.2.1.drew.keep hk5 (fun h => h))
                clear hk5 m2 cx0
                by_cases hmay : x ∈ may
                · rw [decide_eq_true hmay]
                  go_wp2_with fail
                  obtain ⟨wo, rfl⟩ : ∃ wo : World, wo = wr := ⟨_, rfl⟩
                  go_loopw [9] (fun i wi => ∃ k : Nat, 1 ≤ k ∧ k ≤ j ∧ i = .int .i64 k ∧ Hid (Keep Never w5 wi ∧ x ∉ l.take (k - 1))) (fun i _ => j - (intOf i).toNat)
                  case atStart => exact ⟨1, by omega, by omega, rfl, Lib.hid ⟨Keep.refl _ _, by simp⟩⟩
                  case round =>
                    obtain ⟨k, hfk, hk, rfl, HI5⟩ := hrel
                    by_cases hkj : k < j
                    · have hki : (k : Int) < (j : Int) := by omega
                      obtain ⟨ad1, y, A1, n1', c1', hA1, hy0, _, cy0, cy1⟩ := (HI.out.keep (HK5.out.trans HI5.out.1) (fun _ h => h.elim)).at_ (k := k) (by omega)
                      obtain rfl : ad0 = ad1 := by injection hA1
                      obtain ⟨ad2, x', A2, n2', c2', hA2, hx0', _, cx0, cx1⟩ := (HI.out.keep (HK5.out.trans HI5.out.1) (fun _ h => h.elim)).at_ (k := j) (by omega)
                      obtain rfl : ad0 = ad2 := by injection hA2
                      rw [Hx0.out] at hx0'
                      obtain rfl : x = x' := by injection hx0'
                      have hki2 : (k : Int) < (n : Int) := by omega
                      have hy : l[(k - 1)]? = some y := at1_ hfk hy0
                      by_cases hyx : y = x
                      · have e1 : (y == x) = true := by simpa using hyx
                        have HR : Hid (fitsR may [] l = false) := Lib.hid (by
                          have hmem : x ∈ l.take (j - 1) := by
                            rw [← hyx]
                            exact List.mem_of_getElem? (i := (k - 1)) (by rw [List.getElem?_take, if_pos (by omega)]; exact hy)
                          rw [← Hstep.out, if_pos (.inl hmem)])
                        clear hA1 hA2 hx0' cy1 cx1 hy0 hy hyx
                        go_wp2_with fail
                        go_quiet (fail)
                        go_wp2_with fail
                        go_ret
                        exact ⟨by rw [HR.out]; rfl, (HK5.out.trans HI5.out.1).drewN _⟩
                      · have e1 : (y == x) = false := by simpa using hyx
                        have HNx : Hid (x ∉ l.take (k + 1 - 1)) := Lib.hid (by
                          rw [show (k + 1 - 1) = (k - 1) + 1 by omega, List.take_add_one, hy]
                          simp only [List.mem_append, Option.toList_some, List.mem_singleton, not_or]
                          exact ⟨HI5.out.2, fun h => hyx h.symm⟩)
                        clear hA1 hA2 hx0' cy1 cx1 hy0 hy hyx
                        go_wp2_with fail
                        go_quiet (fail)
                        go_wp2_with fail
                        go_roundw
                        case rel => exact ⟨k + 1, by omega, by omega, by go_num, Lib.hid ⟨HI5.out.1.drewN _, HNx.out⟩⟩
                        case measure => simp [intOf]; try omega
                    · obtain rfl : k = j := by omega
                      have hki : ¬ (k : Int) < (k : Int) := by omega
                      have HR : Hid (fitsR may (l.take (k + 1 - 1)) (l.drop (k + 1 - 1)) = fitsR may [] l) := Lib.hid (by
                        rw [← Hstep.out, if_neg (by rintro (h | h); exact HI5.out.2 h; exact h hmay), show (k + 1 - 1) = (k - 1) + 1 by omega]
                        refine fitsR_congr (fun z => ?_) _
                        rw [List.take_add_one, Hx.out]
                        simp [or_comm])
                      go_wp2_with fail
                      go_roundw
                      case rel => exact ⟨k + 1, by omega, by omega, by go_num, Lib.hid ⟨HK5.out.trans HI5.out.1, HB5.out.keep HI5.out.1 (fun h => h), HR.out⟩⟩
                      case measure => simp [intOf]; try omega
                · rw [decide_eq_false hmay]
                  have HR : Hid (fitsR may [] l = false) := Lib.hid (by rw [← Hstep.out, if_pos (.inr hmay)])
                  go_wp2_with fail
                  go_ret
                  exact ⟨by rw [HR.out]; rfl, HK5.out⟩
              · obtain rfl : j = n := by omega
                have hji : ¬ (j : Int) < (j : Int) := by omega
                have HR : Hid (fitsR may [] l = true) := Lib.hid (by rw [← HJ.out.2.2, List.drop_eq_nil_of_le (by have := HLn.out; omega)]; rfl)
                go_wp2_with fail
                go_ret
                exact ⟨by rw [HR.out]; rfl, HJ.out.1⟩

      · have hT : (decide (x0 = 0) || (decide ((0 : Int) = 0) && decide (x0 = 1))) = false := by
          simp only [not_or] at hok
          simp [hok.1, hok.2]
        rw [hT, Bool.false_and]
        have hx : (x0 == 0) = false := by simp only [not_or] at hok; simpa using hok.1
        have hx' : (x0 == 1) = false := by simp only [not_or] at hok; simpa using hok.2
        clear hT hok
        go_enter Tryd.func38, Tryd.ntmps38
        go_wp2_with fail
        go_still_tail 6, (by kernel_rfl)
        change wpList _ _ _ _ _ W1.drew
        go_wp2_with fail
        refine (HAm.out _).mono ?_
        rintro e w5 ⟨rfl, hk5⟩
        have HK5 := Lib.hid (HK0.out.1.drew.trans hk5)
        have HB5 := Lib.hid (HK0.out.2.drew.keep hk5 (fun h => h))
        have cx5 : w5.cell? ad0 = some (.int .i64 x0) := (hk5.cell (cell_lt cx0) (fun h => h)).trans cx0
        have m5 : w5.cell? ⟨w.heap.size, 1, none⟩ = some (.string s2) := HB5.out.cell 1
        clear hk5 cx0 cx1 m1 hW1
        go_wp2_with fail
        cases am
        all_goals
          go_ret
          exact ⟨rfl, HK5.out⟩
    · have e3 := e3b rfl
      have ham' := ham rfl
      clear e3a e3b ham
      by_cases hok : x0 = 15
      · have hT : (decide (x0 = 15) || (decide ((15 : Int) = 0) && decide (x0 = 1))) = true := by simp [hok]
        rw [hT, Bool.true_and]
        rw [decide_eq_true hok] at ham'
        subst ham'
        clear hT hok
        go_enter Tryd.func38, Tryd.ntmps38
        go_wp2_with fail
        go_still_tail 6, (by kernel_rfl)
        change wpList _ _ _ _ _ W1.drew
        go_wp2_with fail
        refine (HAm.out _).mono ?_
        rintro e w5 ⟨rfl, hk5⟩
        have HK5 := Lib.hid (HK0.out.1.drew.trans hk5)
        have HB5 := Lib.hid (HK0.out.2.drew.keep hk5 (fun h => h))
        have cx5 : w5.cell? ad0 = some (.int .i64 x0) := (hk5.cell (cell_lt cx0) (fun h => h)).trans cx0
        have m5 : w5.cell? ⟨w.heap.size, 1, none⟩ = some (.string s2) := HB5.out.cell 1
        clear hk5 cx0 cx1 m1 hW1
        go_wp2_with fail
        have HK0 := Lib.hid (And.intro HK5.out HB5.out)
        clear HAm HS2 e2 e2' cx5 m5
        go_loopw [7] (fun i wr => ∃ j : Nat, 1 ≤ j ∧ j ≤ n ∧ i = .int .i64 j ∧ Hid (Keep Never w wr ∧ Blk wr w.heap.size 58 #[.string s1, .string s2, .string s3] ∧ fitsR may (l.take (j - 1)) (l.drop (j - 1)) = fitsR may [] l)) (fun i _ => n - (intOf i).toNat)
        case atStart => exact ⟨1, by omega, by omega, rfl, Lib.hid ⟨HK0.out.1, HK0.out.2, rfl⟩⟩
        case round =>
          obtain ⟨j, hfj, hj, rfl, HJ⟩ := hrel
          by_cases hjn : j < n
          · have hji : (j : Int) < (n : Int) := by omega
            obtain ⟨ad, x, A', n', c', hA, hx0, hi64, cx0, cx1⟩ := (HI.out.keep HJ.out.1 (fun _ h => h.elim)).at_ (k := j) (by omega)
            have hx : l[(j - 1)]? = some x := at1_ hfj hx0
            have m2 : wr.cell? ⟨w.heap.size, 2, none⟩ = some (.string s3) := HJ.out.2.1.cell 2
            have HAm : Hid (∀ W, Calls Tryd.prog 67 #[.int .i64 x, .string s3] W fun e w' => e = .returned (.bool (decide (x ∈ may))) ∧ Keep Never W w') := Lib.hid (fun W => by have := among6_any x s3 (by have := H3.out; omega) W; rwa [Hmay.out] at this)
            have hstep := HJ.out.2.2
            rw [fitsR_step hx] at hstep
            obtain rfl : ad0 = ad := by injection hA
            have Hstep := Lib.hid hstep
            have Hx := Lib.hid hx
            have Hx0 := Lib.hid hx0
            clear hstep hx hx0 cx1
            go_wp2_with fail
            go_still_tail 7, (by kernel_rfl)
            change wpList _ _ _ _ _ wr.drew
            go_wp2_with fail
            refine (HAm.out _).mono ?_
            rintro e w5 ⟨rfl, hk5⟩
            have HK5 := Lib.hid (HJ.out.1.drew.trans hk5)
            have HB5 := Lib.hid (HJ.out.2.1.drew.keep hk5 (fun h => h))
            clear hk5 m2 cx0
            by_cases hmay : x ∈ may
            · rw [decide_eq_true hmay]
              go_wp2_with fail
              obtain ⟨wo, rfl⟩ : ∃ wo : World, wo = wr := ⟨_, rfl⟩
              go_loopw [9] (fun i wi => ∃ k : Nat, 1 ≤ k ∧ k ≤ j ∧ i = .int .i64 k ∧ Hid (Keep Never w5 wi ∧ x ∉ l.take (k - 1))) (fun i _ => j - (intOf i).toNat)
              case atStart => exact ⟨1, by omega, by omega, rfl, Lib.hid ⟨Keep.refl _ _, by simp⟩⟩
              case round =>
                obtain ⟨k, hfk, hk, rfl, HI5⟩ := hrel
                by_cases hkj : k < j
                · have hki : (k : Int) < (j : Int) := by omega
                  obtain ⟨ad1, y, A1, n1', c1', hA1, hy0, _, cy0, cy1⟩ := (HI.out.keep (HK5.out.trans HI5.out.1) (fun _ h => h.elim)).at_ (k := k) (by omega)
                  obtain rfl : ad0 = ad1 := by injection hA1
                  obtain ⟨ad2, x', A2, n2', c2', hA2, hx0', _, cx0, cx1⟩ := (HI.out.keep (HK5.out.trans HI5.out.1) (fun _ h => h.elim)).at_ (k := j) (by omega)
                  obtain rfl : ad0 = ad2 := by injection hA2
                  rw [Hx0.out] at hx0'
                  obtain rfl : x = x' := by injection hx0'
                  have hki2 : (k : Int) < (n : Int) := by omega
                  have hy : l[(k - 1)]? = some y := at1_ hfk hy0
                  by_cases hyx : y = x
                  · have e1 : (y == x) = true := by simpa using hyx
                    have HR : Hid (fitsR may [] l = false) := Lib.hid (by
                      have hmem : x ∈ l.take (j - 1) := by
                        rw [← hyx]
                        exact List.mem_of_getElem? (i := (k - 1)) (by rw [List.getElem?_take, if_pos (by omega)]; exact hy)
                      rw [← Hstep.out, if_pos (.inl hmem)])
                    clear hA1 hA2 hx0' cy1 cx1 hy0 hy hyx
                    go_wp2_with fail
                    go_quiet (fail)
                    go_wp2_with fail
                    go_ret
                    exact ⟨by rw [HR.out]; rfl, (HK5.out.trans HI5.out.1).drewN _⟩
                  · have e1 : (y == x) = false := by simpa using hyx
                    have HNx : Hid (x ∉ l.take (k + 1 - 1)) := Lib.hid (by
                      rw [show (k + 1 - 1) = (k - 1) + 1 by omega, List.take_add_one, hy]
                      simp only [List.mem_append, Option.toList_some, List.mem_singleton, not_or]
                      exact ⟨HI5.out.2, fun h => hyx h.symm⟩)
                    clear hA1 hA2 hx0' cy1 cx1 hy0 hy hyx
                    go_wp2_with fail
                    go_quiet (fail)
                    go_wp2_with fail
                    go_roundw
                    case rel => exact ⟨k + 1, by omega, by omega, by go_num, Lib.hid ⟨HI5.out.1.drewN _, HNx.out⟩⟩
                    case measure => simp [intOf]; try omega
                · obtain rfl : k = j := by omega
                  have hki : ¬ (k : Int) < (k : Int) := by omega
                  have HR : Hid (fitsR may (l.take (k + 1 - 1)) (l.drop (k + 1 - 1)) = fitsR may [] l) := Lib.hid (by
                    rw [← Hstep.out, if_neg (by rintro (h | h); exact HI5.out.2 h; exact h hmay), show (k + 1 - 1) = (k - 1) + 1 by omega]
                    refine fitsR_congr (fun z => ?_) _
                    rw [List.take_add_one, Hx.out]
                    simp [or_comm])
                  go_wp2_with fail
                  go_roundw
                  case rel => exact ⟨k + 1, by omega, by omega, by go_num, Lib.hid ⟨HK5.out.trans HI5.out.1, HB5.out.keep HI5.out.1 (fun h => h), HR.out⟩⟩
                  case measure => simp [intOf]; try omega
            · rw [decide_eq_false hmay]
              have HR : Hid (fitsR may [] l = false) := Lib.hid (by rw [← Hstep.out, if_pos (.inr hmay)])
              go_wp2_with fail
              go_ret
              exact ⟨by rw [HR.out]; rfl, HK5.out⟩
          · obtain rfl : j = n := by omega
            have hji : ¬ (j : Int) < (j : Int) := by omega
            have HR : Hid (fitsR may [] l = true) := Lib.hid (by rw [← HJ.out.2.2, List.drop_eq_nil_of_le (by have := HLn.out; omega)]; rfl)
            go_wp2_with fail
            go_ret
            exact ⟨by rw [HR.out]; rfl, HJ.out.1⟩

      · have hT : (decide (x0 = 15) || (decide ((15 : Int) = 0) && decide (x0 = 1))) = false := by simp [hok]
        rw [hT, Bool.false_and]
        rw [decide_eq_false hok] at ham'
        subst ham'
        clear hT hok
        go_enter Tryd.func38, Tryd.ntmps38
        go_wp2_with fail
        go_still_tail 6, (by kernel_rfl)
        change wpList _ _ _ _ _ W1.drew
        go_wp2_with fail
        refine (HAm.out _).mono ?_
        rintro e w5 ⟨rfl, hk5⟩
        have HK5 := Lib.hid (HK0.out.1.drew.trans hk5)
        have HB5 := Lib.hid (HK0.out.2.drew.keep hk5 (fun h => h))
        have cx5 : w5.cell? ad0 = some (.int .i64 x0) := (hk5.cell (cell_lt cx0) (fun h => h)).trans cx0
        have m5 : w5.cell? ⟨w.heap.size, 1, none⟩ = some (.string s2) := HB5.out.cell 1
        clear hk5 cx0 cx1 m1 hW1
        go_wp2_with fail
        go_ret
        exact ⟨rfl, HK5.out⟩


end Go.Proofs.YtiebjnibmomcjaaDoor