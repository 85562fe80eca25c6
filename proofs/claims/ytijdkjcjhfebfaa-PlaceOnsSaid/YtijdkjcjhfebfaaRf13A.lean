/- Chapter 13: the document's Bal and Route. -/
import Derived.Test.YtijdkjcjhfebfaaBdTopP
namespace Go.Proofs.Ytijdkjcjhfebfaa
open Go.RowKit

set_option maxRecDepth 100000 in
theorem rbal_results {w : World} {b : Nat} {v0 v1 v2 : Value} (hb : Blk w b 82 #[v0, v1, v2]) (tmps : Array Value) (ht : tmps.getD 4 undef = .pointer (some ⟨b, 0, none⟩)) :
    (results Try.f46 tmps).run Try.prog w = .ok (.tuple #[.agg #[v0, v1, v2], tmps.getD 5 undef]) w := by
  have q0 : w.cell? ⟨b, 0, none⟩ = some v0 := hb.cell 0
  have q1 : w.cell? ⟨b, 1, none⟩ = some v1 := hb.cell 1
  have q2 : w.cell? ⟨b, 2, none⟩ = some v2 := hb.cell 2
  have ht' : tmps[4]?.getD undef = .pointer (some ⟨b, 0, none⟩) := by rw [← Array.getD_eq_getD_getElem?]; exact ht
  simp [results, ht', go_sem, q0, q1, q2]

set_option maxHeartbeats 4000000 in
set_option maxRecDepth 100000 in
theorem rbal_any (x : TA) (t : Tp) (B : Nat) (id : Int) (w : World) (ht : TpAt w B x t) (hn : x.nb ≤ 100000000) :
    Calls Try.prog 46 #[.agg x.cs, .int .i64 id] w (BalRet (balM t.2.2.1 id) w) := by
  have HT := Lib.hid ht
  have HL : Hid (x.nb = t.2.2.1.length) := Lib.hid ht.b.len
  obtain ⟨Ae, ne, ce, Aj, nj, cj, Ab, nb, cb, Ar, nr, cr⟩ := x
  simp only [TA.cs] at HL hn ⊢
  clear ht
  obtain ⟨w1, hw1⟩ : ∃ W : World, w.alloc (.cells #[.slice Ae ne ce, .slice Aj nj cj, .slice Ab nb cb, .slice Ar nr cr] 27) = W := ⟨_, rfl⟩
  obtain ⟨w2, hw2⟩ : ∃ W : World, w1.alloc (.cells #[.int .i64 0, .int .i64 0, .int .i64 0] 82) = W := ⟨_, rfl⟩
  have z1 : w1.heap.size = w.heap.size + 1 := by rw [← hw1]; simp
  have k1 : Keep Never w w1 := by rw [← hw1]; exact (Keep.refl _ _).alloc _
  have k2 : Keep Never w1 w2 := by rw [← hw2]; exact (Keep.refl _ _).alloc _
  have c1 := Blk.new w 27 #[.slice Ae ne ce, .slice Aj nj cj, .slice Ab nb cb, .slice Ar nr cr]
  rw [hw1] at c1
  have c2 := Blk.new w1 82 #[.int .i64 0, .int .i64 0, .int .i64 0]
  rw [hw2, z1] at c2
  have HB1 := Lib.hid (c1.keep k2 (fun h => h))
  have HB2 := Lib.hid c2
  have HK := Lib.hid (k1.trans k2)
  clear k1 k2 c1 c2
  go_enter Try.func46, Try.ntmps46
  go_wp2_with fail
  clear hw2 hw1
  go_loopw [6] (fun i wr => ∃ k : Nat, k ≤ nb ∧ i = .int .i64 k ∧ Hid (Keep Never w2 wr ∧ ∀ x ∈ t.2.2.1.take k, x.1 ≠ id)) (fun i _ => nb - (intOf i).toNat)
  case atStart => exact ⟨0, by omega, rfl, Lib.hid ⟨Keep.refl _ _, by simp⟩⟩
  case round =>
    obtain ⟨k, hk, rfl, HH⟩ := hrel
    have yF : wr.cell? ⟨w.heap.size, 2, none⟩ = some (.slice Ab nb cb) := (HB1.out.keep HH.out.1 (fun h => h)).cell 2
    have hb2 := HB2.out.keep HH.out.1 (fun h => h)
    have HB2' := Lib.hid hb2
    have HKr := Lib.hid (HK.out.trans HH.out.1)
    by_cases h0 : k < nb
    · have hkz : (k : Int) < (nb : Int) := by omega
      obtain ⟨ad, b, hA, _, hb, c0, c1, c2⟩ := (bl_rd (HT.out.keep HKr.out).b).sp h0
      simp only at hA
      subst hA
      obtain ⟨s1, s2, s3⟩ := b
      simp only at c0 c1 c2
      have Hb := Lib.hid hb
      by_cases g : s1 = id
      · have t1 : (s1 == id) = true := by simpa using g
        have HM : Hid (balM t.2.2.1 id = some (s1, s2, s3)) := Lib.hid (bal_hit Hb.out g HH.out.2)
        have g0 : wr.cell? ⟨w.heap.size + 1, 0, none⟩ = some (.int .i64 0) := hb2.cell 0
        have h0' := hb2.frozen 0
        have g1 : wr.cell? ⟨w.heap.size + 1, 1, none⟩ = some (.int .i64 0) := hb2.cell 1
        have h1' := hb2.frozen 1
        have g2 : wr.cell? ⟨w.heap.size + 1, 2, none⟩ = some (.int .i64 0) := hb2.cell 2
        have h2' := hb2.frozen 2
        clear g hb hb2
        go_wp2_with fail
        (try simp only [Exit.inBlock, Exit.then])
        refine bodyPost_ret (rbal_results (put3_blk HB2'.out (.int .i64 s1) (.int .i64 s2) (.int .i64 s3)) _ rfl) rfl ⟨by rw [HM.out]; rfl, put3_keep HKr.out (show w.heap.size ≤ w.heap.size + 1 by omega) (.int .i64 s1) (.int .i64 s2) (.int .i64 s3)⟩
      · have t1 : (s1 == id) = false := by simpa using g
        have HN : Hid (∀ x ∈ t.2.2.1.take (k + 1), x.1 ≠ id) := Lib.hid (all_take Hb.out HH.out.2 g)
        clear g hb hb2 c1 c2
        go_wp2_with fail
        refine ⟨⟨k + 1, by omega, by go_num, Lib.hid ⟨HH.out.1, HN.out⟩⟩, ?_⟩
        simp [intOf]; try omega
    · obtain rfl : nb = k := by omega
      have hkz : ¬ (nb : Int) < (nb : Int) := by omega
      have HM : Hid (balM t.2.2.1 id = none) := Lib.hid (bal_miss (fun x hx => HH.out.2 x (by rw [List.take_of_length_le (by rw [← HL.out]; exact Nat.le_refl _)]; exact hx)))
      have g0 : wr.cell? ⟨w.heap.size + 1, 0, none⟩ = some (.int .i64 0) := hb2.cell 0
      have h0' := hb2.frozen 0
      have g1 : wr.cell? ⟨w.heap.size + 1, 1, none⟩ = some (.int .i64 0) := hb2.cell 1
      have h1' := hb2.frozen 1
      have g2 : wr.cell? ⟨w.heap.size + 1, 2, none⟩ = some (.int .i64 0) := hb2.cell 2
      have h2' := hb2.frozen 2
      clear hb2
      go_wp2_with fail
      (try simp only [Exit.inBlock, Exit.then])
      refine bodyPost_ret (rbal_results (put3_blk HB2'.out (.int .i64 0) (.int .i64 0) (.int .i64 0)) _ rfl) rfl ⟨by rw [HM.out]; rfl, put3_keep HKr.out (show w.heap.size ≤ w.heap.size + 1 by omega) (.int .i64 0) (.int .i64 0) (.int .i64 0)⟩
end Go.Proofs.Ytijdkjcjhfebfaa
