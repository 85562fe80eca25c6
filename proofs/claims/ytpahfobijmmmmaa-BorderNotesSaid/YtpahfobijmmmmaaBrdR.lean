/- Chapter 20 (border), the document: Encode, take. -/
import Derived.Test.YtpahfobijmmmmaaBrdP
import Derived.Test.YtpahfobijmmmmaaBdBrdF
namespace Go.Proofs.Ytpahfobijmmmmaa
open Go.RowKit

/-- what the document's Encode answers -/
def REncRet20 (n : Nt) (w : World) (e : Ending) (w' : World) : Prop := ∃ A m c, e = .returned (.tuple #[.slice A m c, .int .i64 (if mayN n = true then 0 else 1)]) ∧ Rd w' w'.heap.size 1 A m ((if mayN n = true then encN n else []).map u8v) ∧ Keep Never w w'
theorem len_bitC20 : ∀ L : List (Int × Int), (bitC20 L).length = 2 * L.length
  | [] => rfl
  | a :: L => by
    have ih := len_bitC20 L
    simp only [bitC20, List.flatMap_cons, List.length_append, List.length_cons, List.length_nil] at ih ⊢
    omega
theorem bitC_app20 (l m : List (Int × Int)) : bitC20 (l ++ m) = bitC20 l ++ bitC20 m := by simp [bitC20]
set_option maxHeartbeats 16000000 in
set_option maxRecDepth 100000 in
theorem renc20_any (k0 tr tt un : Int) (A1 A2 : Option Addr) (n1 c1 n2 c2 B : Nat) (l : List Lok) (h : List Sp) (w : World) (hl : SpAt w B A1 n1 c1 l) (hh : SpAt w B A2 n2 c2 h) (hn1 : n1 ≤ 1000) (hn2 : n2 ≤ 1000) (hB : B ≤ w.heap.size) :
    Calls Try.prog 10 #[.agg #[.int .i64 k0, .int .i64 tr, .int .i64 tt, .int .i64 un, .slice A1 n1 c1, .slice A2 n2 c2]] w (REncRet20 (k0, tr, tt, un, l, h) w) := by
  have HMy : Hid (∀ V, Keep Never w V → Calls Try.prog 12 #[.agg #[.int .i64 k0, .int .i64 tr, .int .i64 tt, .int .i64 un, .slice A1 n1 c1, .slice A2 n2 c2]] V fun e w' => e = .returned (.bool (mayN (k0, tr, tt, un, l, h))) ∧ Keep Never V w') := Lib.hid (fun V hV => rmay20_any k0 tr tt un A1 A2 n1 c1 n2 c2 B l h V (hl.keep hV) (hh.keep hV) hn1 hn2 (Nat.le_trans hB hV.size))
  have HLl := Lib.hid hl
  have HLh := Lib.hid hh
  have HN1 : Hid (l.length = n1) := Lib.hid hl.len
  have HN2 : Hid (h.length = n2) := Lib.hid hh.len
  clear hl hh hn1 hn2
  obtain ⟨w1, hw1⟩ : ∃ V : World, w.alloc (.cells #[.int .i64 k0, .int .i64 tr, .int .i64 tt, .int .i64 un, .slice A1 n1 c1, .slice A2 n2 c2] 25) = V := ⟨_, rfl⟩
  have kw1 : Keep Never w w1 := by rw [← hw1]; exact (Keep.refl _ _).alloc _
  have bw1 := Blk.new w 25 #[.int .i64 k0, .int .i64 tr, .int .i64 tt, .int .i64 un, .slice A1 n1 c1, .slice A2 n2 c2]
  rw [hw1] at bw1
  have HB1 := Lib.hid bw1
  have HK := Lib.hid kw1
  clear kw1 bw1
  obtain ⟨my, hmy⟩ : ∃ z, mayN (k0, tr, tt, un, l, h) = z := ⟨_, rfl⟩
  rw [hmy] at HMy
  have HMi := Lib.hid hmy
  have HC := Lib.hid (HMy.out w1 HK.out)
  clear HMy
  have m0 : w1.cell? ⟨w.heap.size, 0, none⟩ = some (.int .i64 k0) := HB1.out.cell 0
  have m1 : w1.cell? ⟨w.heap.size, 1, none⟩ = some (.int .i64 tr) := HB1.out.cell 1
  have m2 : w1.cell? ⟨w.heap.size, 2, none⟩ = some (.int .i64 tt) := HB1.out.cell 2
  have m3 : w1.cell? ⟨w.heap.size, 3, none⟩ = some (.int .i64 un) := HB1.out.cell 3
  have m4 : w1.cell? ⟨w.heap.size, 4, none⟩ = some (.slice A1 n1 c1) := HB1.out.cell 4
  have m5 : w1.cell? ⟨w.heap.size, 5, none⟩ = some (.slice A2 n2 c2) := HB1.out.cell 5
  clear hmy
  go_enter Try.func10, Try.ntmps10
  go_wp2_with fail
  refine HC.out.mono ?_
  rintro en w2 ⟨rfl, hk2⟩
  have HK2 := Lib.hid (HK.out.trans hk2)
  have HB2 := Lib.hid (HB1.out.keep hk2 (fun h => h))
  clear hk2 HC m0 m1 m2 m3 m4 m5 hw1
  cases my with
  | false =>
    go_wp2_with fail
    go_ret2
    exact ⟨none, 0, 0, by rw [HMi.out]; rfl, by rw [HMi.out]; exact Rd.nil _ _ _ _, HK2.out⟩
  | true =>
  have hm := mayN_iff.1 HMi.out
  have HM := Lib.hid hm
  have hun : 0 ≤ un ∧ un ≤ 1099511627776 := hm.till
  have h24 : n1 ≤ 24 := by have h1 := hm.few; have h2 := HN1.out; simp only at h1; omega
  have h16 : n2 ≤ 16 := by have h1 := hm.here; have h2 := HN2.out; simp only at h1; omega
  clear hm
  have HGn : Hid (∀ x ∈ wordsN (k0, tr, tt, un, l, h), GoodW x) := Lib.hid (wordsN_good HM.out)
  obtain ⟨uq, huq⟩ : ∃ z, un / 1048576 = z := ⟨_, rfl⟩
  obtain ⟨ur, hur⟩ : ∃ z, un % 1048576 = z := ⟨_, rfl⟩
  have dq : un.tdiv 1048576 = uq := by rw [Int.tdiv_eq_ediv_of_nonneg hun.1]; exact huq
  have dr : un.tmod 1048576 = ur := by rw [Int.tmod_eq_emod_of_nonneg hun.1]; exact hur
  have dw : IntKind.i64.wrap uq = uq := IntWalk.i64_in _ (by omega)
  have dw2 : IntKind.i64.wrap ur = ur := IntWalk.i64_in _ (by omega)
  have HSx : Hid (∀ L1 L2 : List (Int × Int), [(k0, 8), (tr, 24), (tt, 32), (uq, 21), (ur, 20), ((n1 : Int), 8)] ++ L1 ++ [((n2 : Int), 8)] ++ L2 = sixW k0 tr tt un n1 ++ L1 ++ [((n2 : Int), 8)] ++ L2) := Lib.hid (fun L1 L2 => by unfold sixW; rw [huq, hur])
  have HUn := Lib.hid hun
  clear huq hur hun
  have m0 : w2.cell? ⟨w.heap.size, 0, none⟩ = some (.int .i64 k0) := HB2.out.cell 0
  have m1 : w2.cell? ⟨w.heap.size, 1, none⟩ = some (.int .i64 tr) := HB2.out.cell 1
  have m2 : w2.cell? ⟨w.heap.size, 2, none⟩ = some (.int .i64 tt) := HB2.out.cell 2
  have m3 : w2.cell? ⟨w.heap.size, 3, none⟩ = some (.int .i64 un) := HB2.out.cell 3
  have m4 : w2.cell? ⟨w.heap.size, 4, none⟩ = some (.slice A1 n1 c1) := HB2.out.cell 4
  have m5 : w2.cell? ⟨w.heap.size, 5, none⟩ = some (.slice A2 n2 c2) := HB2.out.cell 5
  go_wp2_with fail
  go_still_tail 23, (by kernel_rfl)
  change wpList _ _ _ _ _ w2.drew
  obtain ⟨w3, hw3⟩ : ∃ V : World, w2.drew = V := ⟨_, rfl⟩
  rw [hw3]
  have k3 : Keep Never w2 w3 := by rw [← hw3]; exact (Keep.refl _ _).drew
  have HK3 := Lib.hid (HK2.out.trans k3)
  have HB3 := Lib.hid (HB2.out.keep k3 (fun h => h))
  clear k3 hw3 m0 m1 m2 m3 m4 m5
  obtain ⟨w4, hw4⟩ : ∃ V : World, w3.alloc (.cells #[.int .i64 k0, .int .i64 8, .int .i64 tr, .int .i64 24, .int .i64 tt, .int .i64 32, .int .i64 uq, .int .i64 21, .int .i64 ur, .int .i64 20, .int .i64 n1, .int .i64 8] 59) = V := ⟨_, rfl⟩
  have k4 : Keep Never w3 w4 := by rw [← hw4]; exact (Keep.refl _ _).alloc _
  have bb := Blk.new w3 59 #[.int .i64 k0, .int .i64 8, .int .i64 tr, .int .i64 24, .int .i64 tt, .int .i64 32, .int .i64 uq, .int .i64 21, .int .i64 ur, .int .i64 20, .int .i64 n1, .int .i64 8]
  rw [hw4] at bb
  obtain ⟨g3, hg3⟩ : ∃ q, w3.heap.size = q := ⟨_, rfl⟩
  rw [hg3] at bb
  have HL4 : Hid (Own w4 w.heap.size 59 2 (some ⟨g3, 0, none⟩) 6 6 (bitC20 [(k0, 8), (tr, 24), (tt, 32), (uq, 21), (ur, 20), ((n1 : Int), 8)])) := Lib.hid (Own.of_blk20 (n := 6) (xs := bitC20 [(k0, 8), (tr, 24), (tt, 32), (uq, 21), (ur, 20), ((n1 : Int), 8)]) bb rfl (by unfold maxLen; omega) (by rw [← hg3]; exact HK3.out.size))
  have HK4 := Lib.hid (HK3.out.trans k4)
  have HB4 := Lib.hid (HB3.out.keep k4 (fun h => h))
  clear k4 bb dq dr dw dw2
  have m0 : w4.cell? ⟨w.heap.size, 0, none⟩ = some (.int .i64 k0) := HB4.out.cell 0
  have m1 : w4.cell? ⟨w.heap.size, 1, none⟩ = some (.int .i64 tr) := HB4.out.cell 1
  have m2 : w4.cell? ⟨w.heap.size, 2, none⟩ = some (.int .i64 tt) := HB4.out.cell 2
  have m3 : w4.cell? ⟨w.heap.size, 3, none⟩ = some (.int .i64 un) := HB4.out.cell 3
  have m4 : w4.cell? ⟨w.heap.size, 4, none⟩ = some (.slice A1 n1 c1) := HB4.out.cell 4
  have m5 : w4.cell? ⟨w.heap.size, 5, none⟩ = some (.slice A2 n2 c2) := HB4.out.cell 5
  go_wp2_with fail
  (try rw [hg3])
  clear hg3 hw4 m0 m1 m2 m3 m4 m5
  go_loopw [6, 7] (fun v i wr => ∃ (k c6 : Nat) (A6 : Option Addr), k ≤ n1 ∧ v = .slice A6 (6 + 3 * k) c6 ∧ i = .int .i64 k ∧ Hid (Keep Never w wr ∧ Blk wr w.heap.size 25 #[.int .i64 k0, .int .i64 tr, .int .i64 tt, .int .i64 un, .slice A1 n1 c1, .slice A2 n2 c2] ∧ Own wr w.heap.size 59 2 A6 (6 + 3 * k) c6 (bitC20 ([(k0, 8), (tr, 24), (tt, 32), (uq, 21), (ur, 20), ((n1 : Int), 8)] ++ lokW l k)))) (fun _ i _ => n1 - (intOf i).toNat)
  case atStart => exact ⟨0, 6, _, by omega, rfl, rfl, Lib.hid ⟨HK4.out, HB4.out, by have h1 := HL4.out; simpa [lokW] using h1⟩⟩
  case round =>
    obtain ⟨k, c6, A6, hk, rfl, rfl, HH⟩ := hrel
    have HKr := Lib.hid HH.out.1
    have HBr := Lib.hid HH.out.2.1
    have HOr := Lib.hid HH.out.2.2
    clear HH
    by_cases h0 : k < n1
    · have hki : (k : Int) < (n1 : Int) := by omega
      have m0 : wr.cell? ⟨w.heap.size, 0, none⟩ = some (.int .i64 k0) := HBr.out.cell 0
      have m1 : wr.cell? ⟨w.heap.size, 1, none⟩ = some (.int .i64 tr) := HBr.out.cell 1
      have m2 : wr.cell? ⟨w.heap.size, 2, none⟩ = some (.int .i64 tt) := HBr.out.cell 2
      have m3 : wr.cell? ⟨w.heap.size, 3, none⟩ = some (.int .i64 un) := HBr.out.cell 3
      have m4 : wr.cell? ⟨w.heap.size, 4, none⟩ = some (.slice A1 n1 c1) := HBr.out.cell 4
      have m5 : wr.cell? ⟨w.heap.size, 5, none⟩ = some (.slice A2 n2 c2) := HBr.out.cell 5
      obtain ⟨ad, s, hA, _, hs, c0, c1', c2'⟩ := (HLl.out.keep HKr.out).rd.sp h0
      subst hA
      obtain ⟨s1, s2, s3⟩ := s
      simp only at c0 c1' c2'
      have Hs := Lib.hid hs
      have hlk := HM.out.lok _ (List.mem_of_getElem? hs)
      simp only at hlk
      have h3 : 0 ≤ s3 ∧ s3 ≤ 1099511627775 := by omega
      clear hs hlk
      obtain ⟨vq, hvq⟩ : ∃ z, s3 / 1048576 = z := ⟨_, rfl⟩
      obtain ⟨vr, hvr⟩ : ∃ z, s3 % 1048576 = z := ⟨_, rfl⟩
      have dq : s3.tdiv 1048576 = vq := by rw [Int.tdiv_eq_ediv_of_nonneg h3.1]; exact hvq
      have dr : s3.tmod 1048576 = vr := by rw [Int.tmod_eq_emod_of_nonneg h3.1]; exact hvr
      have dw : IntKind.i64.wrap vq = vq := IntWalk.i64_in _ (by omega)
      have dw2 : IntKind.i64.wrap vr = vr := IntWalk.i64_in _ (by omega)
      have HWn : Hid (lokW l (k + 1) = lokW l k ++ [(s1, 16), (vq, 20), (vr, 20)]) := Lib.hid (by rw [lokW_next Hs.out]; unfold wordsL; rw [hvq, hvr])
      clear hvq hvr h3
      have z0 : (wr.alloc (.cells #[.int .i64 0, .int .i64 0, .int .i64 0] 44)).cell? ⟨wr.heap.size, 0, none⟩ = some (.int .i64 0) := (Blk.new wr 44 #[.int .i64 0, .int .i64 0, .int .i64 0]).cell 0
      have zf0 := (Blk.new wr 44 #[.int .i64 0, .int .i64 0, .int .i64 0]).frozen 0
      have z1 : (wr.alloc (.cells #[.int .i64 0, .int .i64 0, .int .i64 0] 44)).cell? ⟨wr.heap.size, 1, none⟩ = some (.int .i64 0) := (Blk.new wr 44 #[.int .i64 0, .int .i64 0, .int .i64 0]).cell 1
      have zf1 := (Blk.new wr 44 #[.int .i64 0, .int .i64 0, .int .i64 0]).frozen 1
      have z2 : (wr.alloc (.cells #[.int .i64 0, .int .i64 0, .int .i64 0] 44)).cell? ⟨wr.heap.size, 2, none⟩ = some (.int .i64 0) := (Blk.new wr 44 #[.int .i64 0, .int .i64 0, .int .i64 0]).cell 2
      have zf2 := (Blk.new wr 44 #[.int .i64 0, .int .i64 0, .int .i64 0]).frozen 2
      go_upto_region 10 with (fail)
      clear z0 z1 z2 zf0 zf1 zf2 c0 c1' c2'
      obtain ⟨wb, hwb⟩ : ∃ V : World, wr.alloc (.cells #[.int .i64 s1, .int .i64 s2, .int .i64 s3] 44) = V := ⟨_, rfl⟩
      have kb : Keep Never wr wb := (by rw [← hwb]; exact (Keep.refl _ _).alloc _)
      have bb := Blk.new wr 44 #[.int .i64 s1, .int .i64 s2, .int .i64 s3]
      rw [hwb] at bb ⊢
      obtain ⟨bl, hbl⟩ : ∃ q, wr.heap.size = q := ⟨_, rfl⟩
      rw [hbl] at bb ⊢
      have HKb := Lib.hid (HKr.out.trans kb)
      have HBb := Lib.hid (HBr.out.keep kb (fun h => h))
      have HOb := Lib.hid (HOr.out.keep kb (fun _ _ h => h))
      clear kb hwb hbl m0 m1 m2 m3 m4 m5
      have x0 : wb.cell? ⟨bl, 0, none⟩ = some (.int .i64 s1) := bb.cell 0
      have x2 : wb.cell? ⟨bl, 2, none⟩ = some (.int .i64 s3) := bb.cell 2
      have HS2 : Hid (∀ W', Keep (InRow A6) wb W' → Keep (InRow A6) wb W' ∧ W'.cell? ⟨bl, 0, none⟩ = some (.int .i64 s1) ∧ W'.cell? ⟨bl, 2, none⟩ = some (.int .i64 s3)) := Lib.hid (fun W' h => by
        have h2 := bb.keep h (fun h => HOb.out.ne_blk bb (by decide) _ h rfl)
        exact ⟨h, h2.cell 0, h2.cell 2⟩)
      clear bb
      have hwz : w.heap.size ≤ wb.heap.size := HKb.out.size
      go_region_held3 (fun W' => Keep (InRow A6) wb W' ∧ W'.cell? ⟨bl, 0, none⟩ = some (.int .i64 s1) ∧ W'.cell? ⟨bl, 2, none⟩ = some (.int .i64 s3))
        (first | assumption | exact HS2.out _ ((Keep.refl _ wb).drew) | exact HS2.out _ HK8.out | exact HS2.out _ (Keep.alloc (And.left (by assumption)) _) | exact HS2.out _ ((Keep.refl _ wb).drew.alloc _))
        (first
          | (refine step_app _ rfl (.tmp 51) (.tmp 65) _ rfl elemBits20 w.heap.size (A := A6) (n := 6 + 3 * k) (c := c6) (by go_simp) (by first | exact HOb.out.drew.alloc _ | exact HOb.out.alloc _) _ (A' := some ⟨_, 0, none⟩) (m := 3) (c' := 3) (news := [.int .i64 s1, .int .i64 16, .int .i64 vq, .int .i64 20, .int .i64 vr, .int .i64 20]) (by go_simp) (Rd.of_blk (n := 3) (cs := [.int .i64 s1, .int .i64 16, .int .i64 vq, .int .i64 20, .int .i64 vr, .int .i64 20]) (Blk.new _ _ _) rfl) (by simp [Value.oneCell']) (by omega) (by unfold maxLen; omega) (by simp; omega) ?_
             intro A8 c8 w8 hown hk8 hrow8
             have HO8 := Lib.hid hown
             have HK8 : Hid (Keep (InRow A6) wb w8) := Lib.hid (by first | exact (((Keep.refl (InRow A6) wb).drew).alloc _).trans hk8 | exact ((Keep.refl (InRow A6) wb).alloc _).trans hk8)
             clear hown hk8 hrow8))
      all_goals
        (try rename_i hS)
        (try clear hS)
        have HKn := Lib.hid (HKb.out.then_ HK8.out (fun i hi h => by have := (HOb.out.row h).1; omega))
        have HBn := Lib.hid (HBb.out.keep HK8.out (fun h => HOb.out.ne_blk HBb.out (by decide) _ h rfl))
        have HOn : Hid (Own w8 w.heap.size 59 2 A8 (6 + 3 * (k + 1)) c8 (bitC20 ([(k0, 8), (tr, 24), (tt, 32), (uq, 21), (ur, 20), ((n1 : Int), 8)] ++ lokW l (k + 1)))) := Lib.hid (by
          have h1 := HO8.out
          rw [HWn.out, ← List.append_assoc, bitC_app20]
          exact h1)
        clear HO8 HK8 HS2 x0 x2 dq dr dw dw2
        go_wp2_with fail
        refine ⟨⟨k + 1, c8, A8, by omega, by (first | rfl | (congr 1; omega)), by go_num, Lib.hid ⟨HKn.out, HBn.out, HOn.out⟩⟩, ?_⟩
        simp [intOf]; try omega
    · obtain rfl : k = n1 := by omega
      have hki : ¬ (k : Int) < (k : Int) := by omega
      have HFl : Hid (lokW l k = l.flatMap wordsL) := Lib.hid (by unfold lokW; rw [List.take_of_length_le (by have := HN1.out; omega)])
      rename World => wq
      have m0 : wq.cell? ⟨w.heap.size, 0, none⟩ = some (.int .i64 k0) := HBr.out.cell 0
      have m1 : wq.cell? ⟨w.heap.size, 1, none⟩ = some (.int .i64 tr) := HBr.out.cell 1
      have m2 : wq.cell? ⟨w.heap.size, 2, none⟩ = some (.int .i64 tt) := HBr.out.cell 2
      have m3 : wq.cell? ⟨w.heap.size, 3, none⟩ = some (.int .i64 un) := HBr.out.cell 3
      have m4 : wq.cell? ⟨w.heap.size, 4, none⟩ = some (.slice A1 k c1) := HBr.out.cell 4
      have m5 : wq.cell? ⟨w.heap.size, 5, none⟩ = some (.slice A2 n2 c2) := HBr.out.cell 5
      have hwz : w.heap.size ≤ wq.heap.size := HKr.out.size
      go_wp2_with (at_builtin; refine wpList_app _ rfl (.tmp 67) (.tmp 72) _ rfl elemBits20 w.heap.size (A := A6) (n := 6 + 3 * k) (c := c6) (by go_simp) (HOr.out.alloc _) _ (A' := some ⟨_, 0, none⟩) (m := 1) (c' := 1) (news := [.int .i64 n2, .int .i64 8]) (by go_simp) (Rd.of_blk (n := 1) (cs := [.int .i64 n2, .int .i64 8]) (Blk.new _ _ _) rfl) (by simp [Value.oneCell']) (by omega) (by unfold maxLen; omega) (by simp; omega) ?_; intro A8 c8 w8 hown hk8 hrow8)
      have HKw : Hid (Keep (InRow A6) wq w8) := Lib.hid (((Keep.refl (InRow A6) wq).alloc _).trans hk8)
      have HKn := Lib.hid (HKr.out.then_ HKw.out (fun i hi h => by have := (HOr.out.row h).1; omega))
      have HBn := Lib.hid (HBr.out.keep HKw.out (fun h => HOr.out.ne_blk HBr.out (by decide) _ h rfl))
      have HOn : Hid (Own w8 w.heap.size 59 2 A8 (6 + 3 * k + 1) c8 (bitC20 ([(k0, 8), (tr, 24), (tt, 32), (uq, 21), (ur, 20), ((k : Int), 8)] ++ lokW l k ++ [((n2 : Int), 8)]))) := Lib.hid (by rw [bitC_app20]; exact hown)
      clear hown hk8 hrow8 HKw HKr HBr HOr m0 m1 m2 m3 m4 m5 hwz
      have m0 : w8.cell? ⟨w.heap.size, 0, none⟩ = some (.int .i64 k0) := HBn.out.cell 0
      have m1 : w8.cell? ⟨w.heap.size, 1, none⟩ = some (.int .i64 tr) := HBn.out.cell 1
      have m2 : w8.cell? ⟨w.heap.size, 2, none⟩ = some (.int .i64 tt) := HBn.out.cell 2
      have m3 : w8.cell? ⟨w.heap.size, 3, none⟩ = some (.int .i64 un) := HBn.out.cell 3
      have m4 : w8.cell? ⟨w.heap.size, 4, none⟩ = some (.slice A1 k c1) := HBn.out.cell 4
      have m5 : w8.cell? ⟨w.heap.size, 5, none⟩ = some (.slice A2 n2 c2) := HBn.out.cell 5
      go_wp2_with fail
      clear m0 m1 m2 m3 m4 m5
      go_loopw [6, 9] (fun v i wz => ∃ (q c7 : Nat) (A7 : Option Addr), q ≤ n2 ∧ v = .slice A7 (6 + 3 * k + 1 + 3 * q) c7 ∧ i = .int .i64 q ∧ Hid (Keep Never w wz ∧ Blk wz w.heap.size 25 #[.int .i64 k0, .int .i64 tr, .int .i64 tt, .int .i64 un, .slice A1 k c1, .slice A2 n2 c2] ∧ Own wz w.heap.size 59 2 A7 (6 + 3 * k + 1 + 3 * q) c7 (bitC20 ([(k0, 8), (tr, 24), (tt, 32), (uq, 21), (ur, 20), ((k : Int), 8)] ++ lokW l k ++ [((n2 : Int), 8)] ++ spW h q)))) (fun _ i _ => n2 - (intOf i).toNat)
      case atStart => exact ⟨0, c8, A8, by omega, rfl, rfl, Lib.hid ⟨HKn.out, HBn.out, by have h1 := HOn.out; simpa [spW] using h1⟩⟩
      case round =>
        obtain ⟨q, c7, A7, hq, rfl, rfl, HH⟩ := hrel
        have HKz := Lib.hid HH.out.1
        have HBz := Lib.hid HH.out.2.1
        have HOz := Lib.hid HH.out.2.2
        clear HH
        rename World => wz
        have m0 : wz.cell? ⟨w.heap.size, 0, none⟩ = some (.int .i64 k0) := HBz.out.cell 0
        have m1 : wz.cell? ⟨w.heap.size, 1, none⟩ = some (.int .i64 tr) := HBz.out.cell 1
        have m2 : wz.cell? ⟨w.heap.size, 2, none⟩ = some (.int .i64 tt) := HBz.out.cell 2
        have m3 : wz.cell? ⟨w.heap.size, 3, none⟩ = some (.int .i64 un) := HBz.out.cell 3
        have m4 : wz.cell? ⟨w.heap.size, 4, none⟩ = some (.slice A1 k c1) := HBz.out.cell 4
        have m5 : wz.cell? ⟨w.heap.size, 5, none⟩ = some (.slice A2 n2 c2) := HBz.out.cell 5
        by_cases h0 : q < n2
        · have hqi : (q : Int) < (n2 : Int) := by omega
          obtain ⟨ad, s, hA, _, hs, c0, c1', c2'⟩ := (HLh.out.keep HKz.out).rd.sp h0
          subst hA
          obtain ⟨s1, s2, s3⟩ := s
          simp only at c0 c1' c2'
          have Hs := Lib.hid hs
          clear hs
          have HWn : Hid (spW h (q + 1) = spW h q ++ [(s1, 8), (s2, 20), (s3, 20)]) := Lib.hid (by rw [spW_next Hs.out]; rfl)
          have z0 : (wz.alloc (.cells #[.int .i64 0, .int .i64 0, .int .i64 0] 56)).cell? ⟨wz.heap.size, 0, none⟩ = some (.int .i64 0) := (Blk.new wz 56 #[.int .i64 0, .int .i64 0, .int .i64 0]).cell 0
          have zf0 := (Blk.new wz 56 #[.int .i64 0, .int .i64 0, .int .i64 0]).frozen 0
          have z1 : (wz.alloc (.cells #[.int .i64 0, .int .i64 0, .int .i64 0] 56)).cell? ⟨wz.heap.size, 1, none⟩ = some (.int .i64 0) := (Blk.new wz 56 #[.int .i64 0, .int .i64 0, .int .i64 0]).cell 1
          have zf1 := (Blk.new wz 56 #[.int .i64 0, .int .i64 0, .int .i64 0]).frozen 1
          have z2 : (wz.alloc (.cells #[.int .i64 0, .int .i64 0, .int .i64 0] 56)).cell? ⟨wz.heap.size, 2, none⟩ = some (.int .i64 0) := (Blk.new wz 56 #[.int .i64 0, .int .i64 0, .int .i64 0]).cell 2
          have zf2 := (Blk.new wz 56 #[.int .i64 0, .int .i64 0, .int .i64 0]).frozen 2
          go_upto_region 16 with (fail)
          clear z0 z1 z2 zf0 zf1 zf2 c0 c1' c2'
          obtain ⟨wb, hwb⟩ : ∃ V : World, wz.alloc (.cells #[.int .i64 s1, .int .i64 s2, .int .i64 s3] 56) = V := ⟨_, rfl⟩
          have kb : Keep Never wz wb := (by rw [← hwb]; exact (Keep.refl _ _).alloc _)
          have bb := Blk.new wz 56 #[.int .i64 s1, .int .i64 s2, .int .i64 s3]
          rw [hwb] at bb ⊢
          obtain ⟨bl, hbl⟩ : ∃ z, wz.heap.size = z := ⟨_, rfl⟩
          rw [hbl] at bb ⊢
          have HKb := Lib.hid (HKz.out.trans kb)
          have HBb := Lib.hid (HBz.out.keep kb (fun h => h))
          have HOb := Lib.hid (HOz.out.keep kb (fun _ _ h => h))
          clear kb hwb hbl m0 m1 m2 m3 m4 m5
          have x0 : wb.cell? ⟨bl, 0, none⟩ = some (.int .i64 s1) := bb.cell 0
          have x1 : wb.cell? ⟨bl, 1, none⟩ = some (.int .i64 s2) := bb.cell 1
          have x2 : wb.cell? ⟨bl, 2, none⟩ = some (.int .i64 s3) := bb.cell 2
          clear bb
          have hwz : w.heap.size ≤ wb.heap.size := HKb.out.size
          go_wp2_with (at_builtin; refine wpList_app _ rfl (.tmp 86) (.tmp 96) _ rfl elemBits20 w.heap.size (A := A7) (n := 6 + 3 * k + 1 + 3 * q) (c := c7) (by go_simp) (HOb.out.alloc _) _ (A' := some ⟨_, 0, none⟩) (m := 3) (c' := 3) (news := [.int .i64 s1, .int .i64 8, .int .i64 s2, .int .i64 20, .int .i64 s3, .int .i64 20]) (by go_simp) (Rd.of_blk (n := 3) (cs := [.int .i64 s1, .int .i64 8, .int .i64 s2, .int .i64 20, .int .i64 s3, .int .i64 20]) (Blk.new _ _ _) rfl) (by simp [Value.oneCell']) (by omega) (by unfold maxLen; omega) (by simp; omega) ?_; intro A9 c9 w9 hown hk9 hrow9)
          have HKw : Hid (Keep (InRow A7) wb w9) := Lib.hid (((Keep.refl (InRow A7) wb).alloc _).trans hk9)
          have HKm := Lib.hid (HKb.out.then_ HKw.out (fun i hi h => by have := (HOb.out.row h).1; omega))
          have HBm := Lib.hid (HBb.out.keep HKw.out (fun h => HOb.out.ne_blk HBb.out (by decide) _ h rfl))
          have HOm : Hid (Own w9 w.heap.size 59 2 A9 (6 + 3 * k + 1 + 3 * (q + 1)) c9 (bitC20 ([(k0, 8), (tr, 24), (tt, 32), (uq, 21), (ur, 20), ((k : Int), 8)] ++ lokW l k ++ [((n2 : Int), 8)] ++ spW h (q + 1)))) := Lib.hid (by
            rw [HWn.out, ← List.append_assoc, bitC_app20]
            exact hown)
          clear hown hk9 hrow9 HKw x0 x1 x2
          go_wp2_with fail
          refine ⟨⟨q + 1, c9, A9, by omega, by (first | rfl | (congr 1; omega)), by go_num, Lib.hid ⟨HKm.out, HBm.out, HOm.out⟩⟩, ?_⟩
          simp [intOf]; try omega
        · obtain rfl : q = n2 := by omega
          have hqi : ¬ (q : Int) < (q : Int) := by omega
          have HOl : Hid (Own wz w.heap.size 59 2 A7 (6 + 3 * k + 1 + 3 * q) c7 (bitC20 (wordsN (k0, tr, tt, un, l, h)))) := Lib.hid (by
            have h1 := HOz.out
            rw [HSx.out] at h1
            unfold spW at h1
            rw [List.take_of_length_le (by rw [HN2.out]; exact Nat.le_refl _), HFl.out] at h1
            have e : sixW k0 tr tt un k ++ l.flatMap wordsL ++ [((q : Int), 8)] ++ h.flatMap wordsS = wordsN (k0, tr, tt, un, l, h) := by
              unfold wordsN sixW
              simp only [HN1.out, HN2.out, List.append_assoc]
            rwa [e] at h1)
          have HLn : Hid ((wordsN (k0, tr, tt, un, l, h)).length = 6 + 3 * k + 1 + 3 * q) := Lib.hid (by have h1 := HOl.out.len; have h2 := len_bitC20 (wordsN (k0, tr, tt, un, l, h)); omega)
          have HC := Lib.hid (laid20_any (wordsN (k0, tr, tt, un, l, h)) (fun y hy => by have := (HGn.out y hy).w; omega) (fun y hy => by have h1 := (HGn.out y hy).lo; have h2 := (HGn.out y hy).hi; have h3 := (HGn.out y hy).w; have h4 : ((2 : Nat) ^ y.2.toNat : Nat) ≤ 2 ^ 32 := Nat.pow_le_pow_right (by decide) (by omega); omega) A7 _ c7 _ wz HLn.out (by omega) HOl.out.rd (Nat.le_refl _))
          go_wp2_with fail
          refine HC.out.mono ?_
          rintro en w5 ⟨A8', n8, c8', rfl, hn8, ho8, hk8⟩
          have HK8 := Lib.hid (HKz.out.trans hk8)
          have HLy : Hid ((layW (wordsN (k0, tr, tt, un, l, h))).length ≤ 1000000) := Lib.hid (by have h1 := layW_len HGn.out; have h2 := HLn.out; show (layW _).length ≤ _; omega)
          have HBy := Lib.hid (rbytes_any A8' n8 c8' _ _ hn8.symm w5 ho8.rd (Nat.le_refl _) (by rw [hn8]; exact HLy.out))
          clear hk8 ho8 hn8 HC
          go_wp2_with fail
          refine HBy.out.mono ?_
          rintro en w6 ⟨A9, n9, c9, rfl, hn9, hr9, hk9, _, _⟩
          have HK9 := Lib.hid (HK8.out.trans hk9)
          have HR9 := Lib.hid hr9
          clear hk9 hr9 hn9 HBy
          go_wp2_with fail
          go_ret2
          exact ⟨A9, n9, c9, by rw [HMi.out]; rfl, by rw [HMi.out]; exact HR9.out, HK9.out⟩

/-- bits that a slice reads as -/
structure BtAt (w : World) (B : Nat) (A : Option Addr) (n c : Nat) (l : List Bool) : Prop where
  rd : Rd w B 1 A n (l.map .bool)
  len : l.length = n
  cap : n ≤ c
  big : n ≤ 1000000
theorem BtAt.keep {w w' : World} {B n c : Nat} {A : Option Addr} {l : List Bool} (h : BtAt w B A n c l) (hk : Keep Never w w') : BtAt w' B A n c l := ⟨h.rd.keep hk (fun _ h => h.elim), h.len, h.cap, h.big⟩
set_option maxHeartbeats 2000000 in
set_option maxRecDepth 100000 in
theorem rtake20_any (A : Option Addr) (n c B : Nat) (l : List Bool) (width : Int) (w : World) (hb : BtAt w B A n c l) :
    Calls Try.prog 41 #[.slice A n c, .int .i64 width] w (fun e w' => ∃ A' n' c', e = .returned (.tuple #[.int .i64 (gR l width).1, .slice A' n' c']) ∧ BtAt w' B A' n' c' (gR l width).2 ∧ Keep Never w w') := by
  have HC := Lib.hid (rget_any A n c B l hb.len w hb.rd hb.big hb.cap width)
  have HG : Hid (getE l.length width = 0 → gR l width = (getN l width, getL l width)) := Lib.hid (fun h => by unfold gR; rw [if_pos h])
  have HG2 : Hid (getE l.length width ≠ 0 → gR l width = (0, [])) := Lib.hid (fun h => by unfold gR; rw [if_neg h])
  have HLe : Hid ((getL l width).length ≤ 1000000) := Lib.hid (by have h1 := hb.big; have h2 := hb.len; unfold getL; split <;> (try rw [List.length_drop]) <;> omega)
  clear hb
  go_enter Try.func41, Try.ntmps41
  go_wp2_with fail
  refine HC.out.mono ?_
  rintro en w2 ⟨A3, n3, c3, rfl, hn3, hc3, hr3, hk3, _⟩
  have H3 : Hid (BtAt w2 B A3 n3 c3 (getL l width)) := Lib.hid ⟨hr3, hn3.symm, hc3, by have := HLe.out; omega⟩
  have HK3 := Lib.hid hk3
  clear hr3 hn3 hc3 hk3 HC
  obtain ⟨ge, hge⟩ : ∃ z, getE l.length width = z := ⟨_, rfl⟩
  obtain ⟨gv, hgv⟩ : ∃ z, getN l width = z := ⟨_, rfl⟩
  rw [hge] at HG HG2
  rw [hge, hgv]
  rw [hgv] at HG
  clear hge hgv
  by_cases g : ge = 0
  · subst g
    have t0 : ((0 : Int) != 0) = false := by decide
    have HE := Lib.hid (HG.out rfl)
    go_wp2_with fail
    go_ret2
    exact ⟨A3, n3, c3, by rw [HE.out]; rfl, by rw [HE.out]; exact H3.out, HK3.out⟩
  · have t0 : (ge != 0) = true := by simpa using g
    have HE := Lib.hid (HG2.out g)
    clear g
    go_wp2_with fail
    go_ret2
    exact ⟨none, 0, 0, by rw [HE.out]; rfl, by rw [HE.out]; exact ⟨Rd.nil _ _ _ _, rfl, Nat.le_refl _, by omega⟩, HK3.out⟩


end Go.Proofs.Ytpahfobijmmmmaa
