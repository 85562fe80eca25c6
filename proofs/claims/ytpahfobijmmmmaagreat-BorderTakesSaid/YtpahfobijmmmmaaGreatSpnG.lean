/- Chapter 15: SortFunc at spans; Norm. -/
import Derived.Test.YtpahfobijmmmmaaGreatSpnF
import Derived.StillTailTactics
namespace Go.Proofs.YtpahfobijmmmmaaGreat
open Go.RowKit Go.Shelf

theorem sort0_insert (w : World) : Calls Tryz.prog 100 #[.slice none 0 0, .int .i64 0, .int .i64 0, .func (.func 74) #[] #[]] w fun e w' => e = .returned (.tuple #[]) ∧ w' = w := by
  go_enter Tryz.func100, Tryz.ntmps100
  go_wp2
  refine wp_loop_rounds 1 ?_
  rw [rounds_succ]
  go_wp2
  go_end0
  exact ⟨rfl, rfl⟩
theorem sort0_pdq (lim : Int) (w : World) : Calls Tryz.prog 90 #[.slice none 0 0, .int .i64 0, .int .i64 0, .int .i64 lim, .func (.func 74) #[] #[]] w fun e w' => e = .returned (.tuple #[]) ∧ w' = w := by
  have hi := sort0_insert
  go_enter Tryz.func90, Tryz.ntmps90
  go_wp2
  refine wp_loop_rounds 1 ?_
  rw [rounds_succ]
  go_wp2_with (go_at_call 100; refine (hi _).mono ?_; rintro e w' ⟨rfl, rfl⟩)
  (try simp only [Exit.inBlock, Exit.then])
  refine bodyPost_ret (results_none rfl _ _ _) rfl ?_
  exact ⟨rfl, rfl⟩
theorem sort0_any (w : World) : Calls Tryz.prog 73 #[.slice none 0 0, .func (.func 74) #[] #[]] w fun e w' => e = .returned (.tuple #[]) ∧ w' = w := by
  have hp := sort0_pdq
  have hl : ∀ W, Calls Tryz.prog 91 #[.int .u64 0] W fun e w' => e = .returned (.int .i64 (Lib.bitLen 0 : Nat)) ∧ w' = W := fun W =>
    Any.bits_Len (SlLaysF0.n15.bits (P := Tryz.prog) (ρ := sortSp_ren) { sortSp with }) 0 W (by omega) (by omega)
  go_enter Tryz.func73, Tryz.ntmps73
  go_wp2_with (first | (go_at_call 91; refine (hl _).mono ?_; rintro e w' ⟨rfl, rfl⟩) | (go_at_call 90; refine (hp _ _).mono ?_; rintro e w' ⟨rfl, rfl⟩))
  go_end0
  exact ⟨rfl, rfl⟩
/-- SortFunc with the comparison of Norm -/
theorem sortf_any (base : Nat) (A : Option Addr) (n c : Nat) (l : List Sp) (w : World) (ho : Own w base 74 3 A n c (spCells l)) (hb : base ≤ w.heap.size) (hn : n ≤ 100000000000) :
    Calls Tryz.prog 73 #[.slice A n c, .func (.func 74) #[] #[]] w fun e w' => e = .returned (.tuple #[]) ∧ ∃ l' : List Sp, l'.Perm l ∧ l'.Pairwise leS ∧ Own w' base 74 3 A n c (spCells l') ∧ Keep (InRow A) w w' := by
  have hlen : l.length = n := ho.rd.sp_len
  rcases ho.form with ⟨rfl, rfl, rfl, _⟩ | ⟨g, cur, rfl, hbg, hB, _⟩
  · obtain rfl := List.eq_nil_of_length_eq_zero hlen
    refine (sort0_any w).mono ?_
    rintro e w' ⟨rfl, rfl⟩
    exact ⟨rfl, [], List.Perm.refl _, List.Pairwise.nil, ho, Keep.refl _ _⟩
  · have hcon := AnyQ.slices_SortFunc (P := Tryz.prog) (ρ := sortSp_ren) sortSp 3 Tryz.isAgg74 Tryz.sizeOf74 spCell (fun _ => rfl) (fun x v hv => by simp [spCell] at hv; rcases hv with rfl | rfl | rfl <;> rfl) cmpS swo_cmpS 74 #[] g 0 c l.toArray w (enters_of Tryz.func74 (by kernel_rfl) rfl) (cmpLays_sp g 0 _ w) (holds_of_own ho) hB.lt (by simp; omega)
    have e1 : l.toArray.size = n := by simpa using hlen
    rw [e1] at hcon
    refine Calls.mono (show Calls Tryz.prog 73 _ _ _ from hcon) ?_
    rintro e w' ⟨rfl, d', m, os, hp, hs, rfl⟩
    have hsz : d'.size = n := hp.1.trans e1
    have hperm : d'.toList.Perm l := by
      have h := hp.2.2
      rw [Array.extract_eq_self_of_le (by omega), Array.extract_eq_self_of_le (by omega)] at h
      simpa using h
    obtain ⟨h1, h2⟩ := own_sort (m := m) (l' := d'.toList) os ho (by simpa [hlen] using hsz) hb
    simp only [Array.toArray_toList] at h1 h2
    refine ⟨rfl, d'.toList, hperm, ?_, h1, h2⟩
    rw [List.pairwise_iff_getElem]
    intro i j hi hj hij
    have h3 := hs i j (Nat.zero_le _) hij (by simpa [hsz] using hj)
    have hi' : i < d'.size := by simpa using hi
    have hj' : j < d'.size := by simpa using hj
    rw [getElem!_pos d' i hi', getElem!_pos d' j hj', ← not_true_iff, lt_cmpS] at h3
    simp only [Array.getElem_toList]
    unfold leS
    omega
/-- what a function of spans leaves: new spans -/
def SpRet (w : World) (p : List Sp → Prop) (e : Ending) (w' : World) : Prop :=
  ∃ (m : List Sp) (A : Option Addr) (n c : Nat), e = .returned (.slice A n c) ∧ n = m.length ∧ Own w' w.heap.size 74 3 A n c (spCells m) ∧ Keep Never w w' ∧ p m

set_option maxHeartbeats 4000000 in
set_option maxRecDepth 100000 in
theorem norm_any (A : Option Addr) (n c B : Nat) (l : List Sp) (w : World) (hr : Rd w B 3 A n (spCells l)) (hA : A = none → c = 0) (hnc : n ≤ c) (hn : n ≤ 100000000000) (hB : B ≤ w.heap.size) :
    Calls Tryz.prog 46 #[.slice A n c] w (SpRet w fun m => NormOf l m ∧ m.length ≤ l.length) := by
  have HC := Lib.hid (clone_any A n c B l w hr hA hnc hn hB)
  have HL : Hid (l.length = n) := Lib.hid hr.sp_len
  clear hr hA hnc hB
  go_enter Tryz.func46, Tryz.ntmps46
  go_wp2_with fail
  refine HC.out.mono ?_
  rintro e w1 ⟨A1, c1, rfl, ho1, hk1⟩
  have HD := Lib.hid (deletef_any w.heap.size A1 n c1 l w1 ho1 hn)
  have HK1 := Lib.hid hk1
  have HI1 : Hid (∀ k, InRow A1 k → w.heap.size ≤ k) := Lib.hid (fun k h => (ho1.row h).1)
  have hfl : (l.filter someS).length ≤ n := by rw [← HL.out]; exact List.length_filter_le _ _
  clear ho1 hk1 HC
  go_wp2_with fail
  refine HD.out.mono ?_
  rintro e w2 ⟨rfl, ho2, hk2⟩
  have HK2 : Hid (Keep Never w w2) := Lib.hid (HK1.out.then_ hk2 (fun i hi h => by have := HI1.out i h; omega))
  obtain ⟨m, hm⟩ : ∃ m, (l.filter someS).length = m := ⟨_, rfl⟩
  rw [hm] at ho2 hfl ⊢
  have hmn : m ≤ 100000000000 := by omega
  have HS := Lib.hid (sortf_any w.heap.size A1 m c1 _ w2 ho2 HK2.out.size hmn)
  have HM := Lib.hid hm
  clear ho2 hk2 HD hm hfl
  go_wp2_with fail
  refine HS.out.mono ?_
  rintro e w3 ⟨rfl, l', hp, hs, ho3, hk3⟩
  have HK3 : Hid (Keep Never w w3) := Lib.hid (HK2.out.then_ hk3 (fun i hi h => by have := HI1.out i h; omega))
  have HO3 := Lib.hid ho3
  have HP := Lib.hid (norm_of hp hs)
  have HL3 : Hid (l'.length = m) := Lib.hid ho3.rd.sp_len
  have hlm : Hid (m ≤ l.length) := Lib.hid (by rw [← HM.out]; exact List.length_filter_le _ _)
  clear hp hs ho3 hk3 HS
  go_wp2_with fail
  go_loopw [4, 6, 7, 15] (fun s4 _ _ s15 wr => ∃ (j no co : Nat) (Ao : Option Addr), j ≤ m ∧ s15 = .int .i64 j ∧ s4 = .slice Ao no co ∧ Hid (∃ out : List Sp, no = out.length ∧ no ≤ j ∧ Own wr w3.heap.size 74 3 Ao no co (spCells out) ∧ out = (l'.take j).foldl normStep [] ∧ Keep Never w3 wr))
    (fun _ _ _ j _ => m - (intOf j).toNat)
  case atStart => exact ⟨0, 0, 0, none, by omega, rfl, rfl, Lib.hid ⟨[], rfl, by omega, Own.nil _ _ _ _, rfl, Keep.refl _ _⟩⟩
  case round =>
    obtain ⟨j, no, co, Ao, hj, rfl, rfl, HH⟩ := hrel
    obtain ⟨out, hno, hnj, ho, hout, hk⟩ := HH.out
    by_cases h0 : j < m
    · have hjz : (j : Int) < (m : Int) := by omega
      have hrd := HO3.out.keep hk (fun _ _ h => h)
      obtain ⟨ad, s, hA1, _, hs, c0, c1', c2⟩ := hrd.rd.sp h0
      subst hA1
      have hstep : (l'.take (j + 1)).foldl normStep [] = normStep out s := by
        obtain ⟨h2, h3⟩ := List.getElem?_eq_some_iff.1 hs
        rw [List.take_succ_eq_append_getElem h2, h3, List.foldl_append, ← hout]; rfl
      have HStep := Lib.hid hstep
      have HO := Lib.hid ho
      have Hk := Lib.hid hk
      have Hno := Lib.hid hno
      obtain ⟨s1, s2, s3⟩ := s
      simp only at c0 c1' c2
      have hkb : Hid (Keep Never wr (wr.alloc (.cells #[.int .i64 s1, .int .i64 s2, .int .i64 s3] 74)) ∧ Blk (wr.alloc (.cells #[.int .i64 s1, .int .i64 s2, .int .i64 s3] 74)) wr.heap.size 74 #[.int .i64 s1, .int .i64 s2, .int .i64 s3]) := Lib.hid ⟨(Keep.refl Never wr).alloc _, Blk.new wr _ _⟩
      rcases List.eq_nil_or_concat out with rfl | ⟨l0, t, rfl⟩
      · -- nothing yet
        obtain rfl : no = 0 := by simpa using Hno.out
        have hF : Hid (normStep [] (s1, s2, s3) = [(s1, s2, s3)]) := Lib.hid rfl
        clear hs hstep ho hk hno hout HH hrd
        go_wp2_with fail
        go_quiet (fail)
        have hkq := hkb.out.1.drewN nq
        have hbq := hkb.out.2.drewN nq
        obtain ⟨wq, hwq⟩ : ∃ W : World, (wr.alloc (.cells #[.int .i64 s1, .int .i64 s2, .int .i64 s3] 74)).drewN nq = W := ⟨_, rfl⟩
        rw [hwq] at hkq hbq ⊢
        have b0 : wq.cell? ⟨wr.heap.size, 0, none⟩ = some (.int .i64 s1) := hbq.cell 0
        have b1 : wq.cell? ⟨wr.heap.size, 1, none⟩ = some (.int .i64 s2) := hbq.cell 1
        have b2 : wq.cell? ⟨wr.heap.size, 2, none⟩ = some (.int .i64 s3) := hbq.cell 2
        have HOq := Lib.hid (HO.out.keep hkq (fun _ _ h => h))
        have HKq := Lib.hid (Hk.out.trans hkq)
        have hsz3 : w3.heap.size ≤ (wq.alloc (.cells #[.int .i64 s1, .int .i64 s2, .int .i64 s3] 74)).heap.size := by have := HKq.out.size; simp; omega
        clear hwq hkq hbq
        go_wp2_with (at_builtin; refine wpList_app _ rfl (.tmp 56) (.tmp 58) _ rfl elemSp w3.heap.size (A := Ao) (n := 0) (c := co) (by go_simp) (HOq.out.alloc _) _ (A' := some ⟨wq.heap.size, 0, none⟩) (m := 1) (c' := 1) (by go_simp) (Rd.of_blk (n := 1) (cs := [.int .i64 s1, .int .i64 s2, .int .i64 s3]) (Blk.new wq _ _) rfl) (by simp [Value.oneCell']) (by omega) (by unfold maxLen; omega) hsz3 ?_; intro A5 c5 w5 hown5 hk5 hrow5)
        have HFin : Hid (∃ out : List Sp, 0 + 1 = out.length ∧ 0 + 1 ≤ j + 1 ∧ Own w5 w3.heap.size 74 3 A5 (0 + 1) c5 (spCells out) ∧ out = (l'.take (j + 1)).foldl normStep [] ∧ Keep Never w3 w5) := by
          refine Lib.hid ⟨[(s1, s2, s3)], rfl, by omega, by simpa [spCells, spCell] using hown5, by rw [HStep.out, hF.out], (HKq.out.alloc _).then_ hk5 (fun i hi h => ?_)⟩
          have := (HO.out.row h).1
          omega
        clear hown5 hk5 hrow5
        go_wp2_with fail
        go_roundw
        case measure => simp [intOf]; try omega
        case rel => exact ⟨j + 1, 0 + 1, c5, A5, by omega, by go_num, rfl, HFin⟩
      · rw [List.concat_eq_append] at *
        obtain ⟨k0, hk0⟩ : ∃ k0, l0.length = k0 := ⟨_, rfl⟩
        have Hk0 : Hid (no = k0 + 1 ∧ l0.length = k0) := Lib.hid ⟨by have := Hno.out; simp at this; omega, hk0⟩
        have hk0lt : k0 < no := by have := Hk0.out.1; omega
        have hk0z : (k0 : Int) < (no : Int) := by omega
        have hk0s : (no : Int) - 1 = (k0 : Int) := by have := Hk0.out.1; omega
        have hk00 : (0 : Int) ≤ (k0 : Int) := by omega
        obtain ⟨g, cur, rfl, hbg, hB, hnc, hcm, hcs, hct⟩ : ∃ g cur, Ao = some ⟨g, 0, none⟩ ∧ w3.heap.size ≤ g ∧ Blk wr g 74 cur ∧ no ≤ co ∧ co ≤ maxLen ∧ cur.size = co * 3 ∧ cur.toList.take (no * 3) = spCells (l0 ++ [t]) := by
          rcases HO.out.form with ⟨_, h, _⟩ | h
          · omega
          · exact h
        have ht : (l0 ++ [t])[k0]? = some t := by rw [List.getElem?_append_right (by omega), hk0]; simp
        obtain ⟨a0, a1, a2⟩ := spCells_at _ ht
        have t0 := (HO.out.alloc (.cells #[.int .i64 s1, .int .i64 s2, .int .i64 s3] 74)).cell0 a0
        have t1 := (HO.out.alloc (.cells #[.int .i64 s1, .int .i64 s2, .int .i64 s3] 74)).cell0 a1
        have t2 := (HO.out.alloc (.cells #[.int .i64 s1, .int .i64 s2, .int .i64 s3] 74)).cell0 a2
        have hF0 := normStep_app l0 t (s1, s2, s3)
        obtain ⟨t1', t2', t3'⟩ := t
        simp only at t0 t1 t2 hF0
        clear hs hstep ho hk hno hout HH hrd hB hcs hct a0 a1 a2 hk0
        by_cases hc1 : t1' = s1
        · have e1 : (t1' == s1) = true := by simpa using hc1
          by_cases hc2 : s2 ≤ t3'
          · have e2 : decide (t3' ≥ s2) = true := by simpa using hc2
            have hF := Lib.hid (hF0.trans (if_pos ⟨hc1, hc2⟩))
            clear hF0 hc1 hc2
            go_wp2_with fail
            go_quiet (fail)
            have hkq := hkb.out.1.drewN nq
            have hbq := hkb.out.2.drewN nq
            obtain ⟨wq, hwq⟩ : ∃ W : World, (wr.alloc (.cells #[.int .i64 s1, .int .i64 s2, .int .i64 s3] 74)).drewN nq = W := ⟨_, rfl⟩
            rw [hwq] at hkq hbq ⊢
            have b2 : wq.cell? ⟨wr.heap.size, 2, none⟩ = some (.int .i64 s3) := hbq.cell 2
            have HOq := Lib.hid (HO.out.keep hkq (fun _ _ h => h))
            have HKq := Lib.hid (Hk.out.trans hkq)
            have t2q := HOq.out.cell0 (spCells_at _ ht).2.2
            simp only at t2q
            have f2q := HOq.out.frozen0 (k0 * 3 + 2)
            have hset : (l0 ++ [(t1', t2', t3')]).set k0 (t1', t2', max t3' s3) = l0 ++ [(t1', t2', max t3' s3)] := by
              have h1 := Hk0.out.2
              rw [List.set_append_right _ _ (by omega), h1, Nat.sub_self]; rfl
            have hcs := spCells_set2 _ ht (max t3' s3)
            simp only at hcs
            rw [hset] at hcs
            obtain ⟨mx, hmx⟩ : ∃ z, max t3' s3 = z := ⟨_, rfl⟩
            rw [hmx] at hF hcs
            have HOs : Hid (Own (wq.setCell ⟨g, k0 * 3 + 2, none⟩ (.int .i64 mx)) w3.heap.size 74 3 (some ⟨g, 0, none⟩) no co (spCells (l0 ++ [(t1', t2', mx)]))) := by
              have h1 := HOq.out.stored rfl (k0 * 3 + 2) (.int .i64 mx)
              rw [add0, ← hcs] at h1
              exact Lib.hid h1
            have HKs : Hid (Keep Never w3 (wq.setCell ⟨g, k0 * 3 + 2, none⟩ (.int .i64 mx))) := Lib.hid (HKq.out.set_ (p := ⟨g, k0 * 3 + 2, none⟩) (.inr hbg) _)
            have HMx := Lib.hid hmx
            clear hwq hkq hbq t0 t1 t2 ht hset hcs hmx
            go_wp2_with fail
            go_still_tail 12, (by kernel_rfl)
            change wpList _ _ _ _ _ wq.drew
            go_wp2_with fail
            rw [HMx.out]
            go_roundw
            case measure => simp [intOf]; try omega
            case rel => exact ⟨j + 1, no, co, _, by omega, by go_num, rfl, Lib.hid ⟨_, by have := Hk0.out; simp; omega, by omega, HOs.out.drew, by rw [HStep.out, hF.out], HKs.out.drew⟩⟩
          · have e2 : decide (t3' ≥ s2) = false := by simpa using hc2
            have hF := Lib.hid (hF0.trans (if_neg (by omega)))
            clear hF0 hc1 hc2
            go_wp2_with fail
            go_quiet (fail)
            have hkq := hkb.out.1.drewN nq
            have hbq := hkb.out.2.drewN nq
            obtain ⟨wq, hwq⟩ : ∃ W : World, (wr.alloc (.cells #[.int .i64 s1, .int .i64 s2, .int .i64 s3] 74)).drewN nq = W := ⟨_, rfl⟩
            rw [hwq] at hkq hbq ⊢
            have b0 : wq.cell? ⟨wr.heap.size, 0, none⟩ = some (.int .i64 s1) := hbq.cell 0
            have b1 : wq.cell? ⟨wr.heap.size, 1, none⟩ = some (.int .i64 s2) := hbq.cell 1
            have b2 : wq.cell? ⟨wr.heap.size, 2, none⟩ = some (.int .i64 s3) := hbq.cell 2
            have HOq := Lib.hid (HO.out.keep hkq (fun _ _ h => h))
            have HKq := Lib.hid (Hk.out.trans hkq)
            have hsz3 : w3.heap.size ≤ (wq.alloc (.cells #[.int .i64 s1, .int .i64 s2, .int .i64 s3] 74)).heap.size := by have := HKq.out.size; simp; omega
            clear hwq hkq hbq
            go_wp2_with (at_builtin; refine wpList_app _ rfl (.tmp 56) (.tmp 58) _ rfl elemSp w3.heap.size (A := some ⟨g, 0, none⟩) (n := no) (c := co) (by go_simp) (HOq.out.alloc _) _ (A' := some ⟨wq.heap.size, 0, none⟩) (m := 1) (c' := 1) (by go_simp) (Rd.of_blk (n := 1) (cs := [.int .i64 s1, .int .i64 s2, .int .i64 s3]) (Blk.new wq _ _) rfl) (by simp [Value.oneCell']) (by omega) (by unfold maxLen; omega) hsz3 ?_; intro A5 c5 w5 hown5 hk5 hrow5)
            have HFin : Hid (∃ out : List Sp, no + 1 = out.length ∧ no + 1 ≤ j + 1 ∧ Own w5 w3.heap.size 74 3 A5 (no + 1) c5 (spCells out) ∧ out = (l'.take (j + 1)).foldl normStep [] ∧ Keep Never w3 w5) := by
              refine Lib.hid ⟨l0 ++ [(t1', t2', t3')] ++ [(s1, s2, s3)], by have := Hk0.out; simp; omega, by omega, by simpa [spCells, spCell] using hown5, by rw [HStep.out, hF.out], (HKq.out.alloc _).then_ hk5 (fun i hi h => ?_)⟩
              have := (HO.out.row h).1
              omega
            clear hown5 hk5 hrow5
            go_wp2_with fail
            go_roundw
            case measure => simp [intOf]; try omega
            case rel => exact ⟨j + 1, no + 1, c5, A5, by omega, by go_num, rfl, HFin⟩
        · have e1 : (t1' == s1) = false := by simpa using hc1
          have hF := Lib.hid (hF0.trans (if_neg (by omega)))
          clear hF0 hc1
          go_wp2_with fail
          go_quiet (fail)
          have hkq := hkb.out.1.drewN nq
          have hbq := hkb.out.2.drewN nq
          obtain ⟨wq, hwq⟩ : ∃ W : World, (wr.alloc (.cells #[.int .i64 s1, .int .i64 s2, .int .i64 s3] 74)).drewN nq = W := ⟨_, rfl⟩
          rw [hwq] at hkq hbq ⊢
          have b0 : wq.cell? ⟨wr.heap.size, 0, none⟩ = some (.int .i64 s1) := hbq.cell 0
          have b1 : wq.cell? ⟨wr.heap.size, 1, none⟩ = some (.int .i64 s2) := hbq.cell 1
          have b2 : wq.cell? ⟨wr.heap.size, 2, none⟩ = some (.int .i64 s3) := hbq.cell 2
          have HOq := Lib.hid (HO.out.keep hkq (fun _ _ h => h))
          have HKq := Lib.hid (Hk.out.trans hkq)
          have hsz3 : w3.heap.size ≤ (wq.alloc (.cells #[.int .i64 s1, .int .i64 s2, .int .i64 s3] 74)).heap.size := by have := HKq.out.size; simp; omega
          clear hwq hkq hbq
          go_wp2_with (at_builtin; refine wpList_app _ rfl (.tmp 56) (.tmp 58) _ rfl elemSp w3.heap.size (A := some ⟨g, 0, none⟩) (n := no) (c := co) (by go_simp) (HOq.out.alloc _) _ (A' := some ⟨wq.heap.size, 0, none⟩) (m := 1) (c' := 1) (by go_simp) (Rd.of_blk (n := 1) (cs := [.int .i64 s1, .int .i64 s2, .int .i64 s3]) (Blk.new wq _ _) rfl) (by simp [Value.oneCell']) (by omega) (by unfold maxLen; omega) hsz3 ?_; intro A5 c5 w5 hown5 hk5 hrow5)
          have HFin : Hid (∃ out : List Sp, no + 1 = out.length ∧ no + 1 ≤ j + 1 ∧ Own w5 w3.heap.size 74 3 A5 (no + 1) c5 (spCells out) ∧ out = (l'.take (j + 1)).foldl normStep [] ∧ Keep Never w3 w5) := by
            refine Lib.hid ⟨l0 ++ [(t1', t2', t3')] ++ [(s1, s2, s3)], by have := Hk0.out; simp; omega, by omega, by simpa [spCells, spCell] using hown5, by rw [HStep.out, hF.out], (HKq.out.alloc _).then_ hk5 (fun i hi h => ?_)⟩
            have := (HO.out.row h).1
            omega
          clear hown5 hk5 hrow5
          go_wp2_with fail
          go_roundw
          case measure => simp [intOf]; try omega
          case rel => exact ⟨j + 1, no + 1, c5, A5, by omega, by go_num, rfl, HFin⟩
    · obtain rfl : j = m := by omega
      have hjz : ¬ (j : Int) < (j : Int) := by omega
      have hR : Hid (NormOf l out ∧ out.length ≤ l.length) := Lib.hid (by
        have h1 := HP.out
        rw [hout, List.take_of_length_le (by have := HL3.out; omega)]
        refine ⟨h1, ?_⟩
        have h2 := normFold_len l' []
        have h3 := HL3.out
        have h4 := hlm.out
        simp only [List.length_nil] at h2
        omega)
      have HO := Lib.hid (Own.less ho HK3.out.size)
      have HK := Lib.hid (HK3.out.trans hk)
      have Hno := Lib.hid hno
      clear ho hk hno hout HH
      go_wp2_with fail
      go_ret
      exact ⟨out, Ao, no, co, rfl, Hno.out, HO.out, HK.out, hR.out⟩

end Go.Proofs.YtpahfobijmmmmaaGreat
