/- SpanLong: topo.Back. -/
import Derived.Test.YtijdkjcjhfebfaaRevS
namespace Go.Proofs.Ytijdkjcjhfebfaa
open Go.RowKit

theorem stp_set : ∀ (L : List Stp) (k : Nat) (s1 : Int) (s2 b : Bool), L[k]? = some (s1, s2) → (stpCells L).set (k * 2 + 1) (.bool b) = stpCells (L.set k (s1, b))
  | [], k, s1, s2, b, h => by simp at h
  | s :: L, 0, s1, s2, b, h => by
    simp at h
    subst h
    rfl
  | s :: L, k + 1, s1, s2, b, h => by
    have h' : L[k]? = some (s1, s2) := by simpa using h
    have e : (k + 1) * 2 + 1 = (k * 2 + 1) + 1 + 1 := by omega
    rw [stpCells_cons, e, List.set_cons_succ, List.set_cons_succ, stp_set L k s1 s2 b h', List.set_cons_succ, stpCells_cons]
theorem Own.storedT {w : World} {base n c g : Nat} {L : List Stp} (h : Own w base 45 2 (some ⟨g, 0, none⟩) n c (stpCells L)) {k : Nat} {s1 : Int} {s2 b : Bool} (hk : L[k]? = some (s1, s2)) :
    Own (w.setCell ⟨g, k * 2 + 1, none⟩ (.bool b)) base 45 2 (some ⟨g, 0, none⟩) n c (stpCells (L.set k (s1, b))) ∧ Keep (InRow (some ⟨g, 0, none⟩)) w (w.setCell ⟨g, k * 2 + 1, none⟩ (.bool b)) := by
  have e0 : (⟨g, 0, none⟩ : Addr).add (k * 2 + 1) = ⟨g, k * 2 + 1, none⟩ := by unfold Addr.add; split <;> simp_all
  have h1 := h.stored rfl (k * 2 + 1) (.bool b)
  have h2 := h.stored_keep rfl (k * 2 + 1) (.bool b)
  rw [e0] at h1 h2
  rw [stp_set L k s1 s2 b hk] at h1
  exact ⟨h1, h2⟩
theorem Own.atT {w : World} {base n c g : Nat} {L : List Stp} (h : Own w base 45 2 (some ⟨g, 0, none⟩) n c (stpCells L)) {k : Nat} (hk : k < n) :
    ∃ s1 s2, L[k]? = some (s1, s2) ∧ w.cell? ⟨g, k * 2, none⟩ = some (.int .i64 s1) ∧ w.cell? ⟨g, k * 2 + 1, none⟩ = some (.bool s2) ∧ w.frozen? ⟨g, k * 2 + 1, none⟩ = false := by
  obtain ⟨ad, s, hA, _, hs, c0, c1⟩ := h.rd.stp hk
  injection hA with hA
  subst hA
  obtain ⟨s1, s2⟩ := s
  have e0 : ∀ j, (⟨g, 0, none⟩ : Addr).add j = ⟨g, j, none⟩ := fun j => by unfold Addr.add; split <;> simp_all
  have hf := h.frozen rfl (k * 2 + 1)
  rw [e0] at c0 c1 hf
  exact ⟨s1, s2, hs, c0, c1, hf⟩
set_option maxHeartbeats 4000000 in
set_option maxRecDepth 100000 in
theorem back_any (A : Option Addr) (n c B : Nat) (l : List Stp) (w : World) (hr : Rd w B 2 A n (stpCells l)) (hA : A = none → c = 0) (hnc : n ≤ c) (hn : n ≤ 100000000) (hB : B ≤ w.heap.size) :
    Calls Try.prog 25 #[.slice A n c] w fun e w' => ∃ A' c', e = .returned (.slice A' n c') ∧ Own w' w.heap.size 45 2 A' n c' (stpCells (backM l)) ∧ Keep Never w w' := by
  have HC := Lib.hid (cloneT_any A n c B l w hr hA hnc (by omega) hB)
  have HL : Hid (l.length = n) := Lib.hid hr.stp_len
  clear hr hA hnc hB
  go_enter Try.func25, Try.ntmps25
  go_wp2_with fail
  refine HC.out.mono ?_
  rintro e w1 ⟨A1, c1, rfl, ho1, hk1⟩
  have HR := Lib.hid (rev_any w.heap.size n c1 A1 l w1 ho1 hk1.size hn)
  have HI := Lib.hid (fun q (h : InRow A1 q) => (ho1.row h).1)
  have HK1 := Lib.hid hk1
  clear HC ho1 hk1
  go_wp2_with fail
  refine HR.out.mono ?_
  rintro e w2 ⟨rfl, ho2, hk2⟩
  have HK2 := Lib.hid (HK1.out.then_ hk2 (fun i hi h => by have := HI.out i h; omega))
  have HO2 := Lib.hid ho2
  clear ho2 hk2 HR
  go_wp2_with fail
  go_loopw [11] (fun i wr => ∃ (k : Nat) (L : List Stp), k ≤ n ∧ i = .int .i64 k ∧ Hid (Keep Never w wr ∧ L.length = n ∧ (∀ j, L[j]? = if j < k then (l.reverse[j]?).map flipM else l.reverse[j]?) ∧ Own wr w.heap.size 45 2 A1 n c1 (stpCells L))) (fun i _ => n - (intOf i).toNat)
  case atStart => exact ⟨0, l.reverse, by omega, rfl, Lib.hid ⟨HK2.out, by rw [List.length_reverse]; exact HL.out, by simp, HO2.out⟩⟩
  case round =>
    obtain ⟨k, L, hk, rfl, HH⟩ := hrel
    by_cases h0 : k < n
    · have hkz : (k : Int) < (n : Int) := by omega
      rcases HH.out.2.2.2.form with ⟨_, h2, _⟩ | ⟨g, cur, rfl, _⟩
      · omega
      obtain ⟨s1, s2, hs, c0, c1', f1⟩ := HH.out.2.2.2.atT h0
      have Hs := Lib.hid hs
      clear hs
      go_wp2_with fail
      refine ⟨⟨k + 1, L.set k (s1, !s2), by omega, by go_num, Lib.hid ⟨HH.out.1.then_ (HH.out.2.2.2.storedT Hs.out).2 (fun i hi h => by have := HI.out i h; omega), by rw [List.length_set]; exact HH.out.2.1, fun j => ?_, (HH.out.2.2.2.storedT Hs.out).1⟩⟩, ?_⟩
      · have h5 := HH.out.2.2.1
        by_cases hj : j = k
        · subst hj
          rw [List.getElem?_set_self (by rw [HH.out.2.1]; exact h0), if_pos (by omega)]
          have h6 := h5 j
          rw [Hs.out, if_neg (by omega)] at h6
          rw [← h6]
          rfl
        · rw [List.getElem?_set_ne (by omega), h5 j]
          by_cases hj2 : j < k
          · rw [if_pos hj2, if_pos (by omega)]
          · rw [if_neg hj2, if_neg (by omega)]
      · simp [intOf]; try omega
    · obtain rfl : n = k := by omega
      have hkz : ¬ (n : Int) < (n : Int) := by omega
      have HE : Hid (L = backM l) := Lib.hid (by
        apply List.ext_getElem?
        intro j
        rw [HH.out.2.2.1 j]
        unfold backM
        rw [List.getElem?_map]
        by_cases hj : j < n
        · rw [if_pos hj]
        · rw [if_neg hj, List.getElem?_eq_none (by rw [List.length_reverse, HL.out]; omega)]; rfl)
      go_wp2_with fail
      go_ret
      exact ⟨A1, c1, rfl, by rw [← HE.out]; exact HH.out.2.2.2, HH.out.1⟩

end Go.Proofs.Ytijdkjcjhfebfaa
