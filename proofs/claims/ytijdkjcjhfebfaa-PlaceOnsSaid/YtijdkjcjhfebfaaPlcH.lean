/- Chapter 14: the document's Right, Turn, ahead, moved, begin. -/
import Derived.Test.YtijdkjcjhfebfaaPlcC
import Derived.Test.YtijdkjcjhfebfaaRf13D
namespace Go.Proofs.Ytijdkjcjhfebfaa
open Go.RowKit

def movedP (p : Ps) (n : Int) : Ps := if p.2.2 = true then (p.1, p.2.1 - n, true) else (p.1, p.2.1 + n, false)
def beginP (t : Tp) (s : Stp) : Ps := if s.2 = true then (s.1, edgeM t s.1, true) else (s.1, 0, false)
theorem moved_begin (t : Tp) (s : Stp) (n : Int) : movedP (beginP t s) n = overP t s n := by
  obtain ⟨e, r⟩ := s
  cases r <;> simp [movedP, beginP, overP]
theorem moved_on (t : Tp) (p : Ps) (n : Int) : movedP p n = overP t (p.1, p.2.2) (n + alongP t p) := by
  obtain ⟨e, a, r⟩ := p
  cases r <;> simp [movedP, overP, alongP] <;> omega

set_option maxHeartbeats 4000000 in
set_option maxRecDepth 100000 in
theorem rright_any (x : TA) (t : Tp) (B : Nat) (e a : Int) (r : Bool) (w : World) (h : TpAt w B x t) (hs : TpSmall x t) (hB : B ≤ w.heap.size) :
    Calls Try.prog 17 #[.agg x.cs, .agg #[.int .i64 e, .int .i64 a, .bool r]] w fun en w' => en = .returned (.bool (rightB t (e, a, r))) ∧ Keep Never w w' := by
  have HCh := Lib.hid (fun (W : World) (hk : Keep Never w W) => rcheck_any x t B W (h.keep hk) hs (Nat.le_trans hB hk.size))
  have HEl : Hid (x.ne = t.1.length) := Lib.hid h.e.len
  have HED := Lib.hid (fun (W : World) (hk : Keep Never w W) (i : Int) (h0 : 0 ≤ i) (h1 : i < (x.ne : Int)) => edge_at (h.keep hk) h0 h1)
  obtain ⟨Ae, ne, ce, Aj, nj, cj, Ab, nb, cb, Ar, nr, cr⟩ := x
  simp only [TA.cs] at HCh HEl HED ⊢
  clear h hs hB
  have HR : Hid (rightB t (e, a, r) = (decide (checkM t = 0) && (decide (0 ≤ e) && decide (e < (ne : Int))) && decide (0 ≤ a) && decide (a ≤ edgeM t e))) := Lib.hid (by rw [HEl.out]; rfl)
  obtain ⟨ck, hck⟩ : ∃ z, checkM t = z := ⟨_, rfl⟩
  rw [hck] at HR HCh
  clear hck
  obtain ⟨w1, hw1⟩ : ∃ V : World, w.alloc (.cells #[.slice Ae ne ce, .slice Aj nj cj, .slice Ab nb cb, .slice Ar nr cr] 27) = V := ⟨_, rfl⟩
  have zw1 : w1.heap.size = w.heap.size + 1 := by rw [← hw1]; simp
  have kw1 : Keep Never w w1 := by rw [← hw1]; exact (Keep.refl _ _).alloc _
  have bw1 := Blk.new w 27 #[.slice Ae ne ce, .slice Aj nj cj, .slice Ab nb cb, .slice Ar nr cr]
  rw [hw1] at bw1
  obtain ⟨w2, hw2⟩ : ∃ V : World, w1.alloc (.cells #[.int .i64 e, .int .i64 a, .bool r] 29) = V := ⟨_, rfl⟩
  have kw2 : Keep Never w1 w2 := by rw [← hw2]; exact (Keep.refl _ _).alloc _
  have bw2 := Blk.new w1 29 #[.int .i64 e, .int .i64 a, .bool r]
  rw [hw2, zw1] at bw2
  have HB1 := Lib.hid (bw1.keep kw2 (fun h => h))
  have HB2 := Lib.hid bw2
  have HK := Lib.hid (kw1.trans kw2)
  clear kw1 kw2 bw1 bw2
  have HC := Lib.hid (HCh.out w2 HK.out)
  clear HCh
  by_cases g0 : ck = 0
  case neg =>
    have t0 : (ck == 0) = false := by simpa using g0
    have HF : Hid (rightB t (e, a, r) = false) := Lib.hid (by rw [HR.out, decide_eq_false g0]; rfl)
    clear g0
    have y0 : w2.cell? ⟨w.heap.size, 0, none⟩ = some (.slice Ae ne ce) := HB1.out.cell 0
    have y1 : w2.cell? ⟨w.heap.size, 1, none⟩ = some (.slice Aj nj cj) := HB1.out.cell 1
    have y2 : w2.cell? ⟨w.heap.size, 2, none⟩ = some (.slice Ab nb cb) := HB1.out.cell 2
    have y3 : w2.cell? ⟨w.heap.size, 3, none⟩ = some (.slice Ar nr cr) := HB1.out.cell 3
    have q0 : w2.cell? ⟨w.heap.size + 1, 0, none⟩ = some (.int .i64 e) := HB2.out.cell 0
    have q1 : w2.cell? ⟨w.heap.size + 1, 1, none⟩ = some (.int .i64 a) := HB2.out.cell 1
    have q2 : w2.cell? ⟨w.heap.size + 1, 2, none⟩ = some (.bool r) := HB2.out.cell 2
    go_enter Try.func17, Try.ntmps17
    go_wp2_with fail
    refine HC.out.mono ?_
    rintro en w3 ⟨rfl, hk3⟩
    have HK3 := Lib.hid (HK.out.trans hk3)
    have HX1 := Lib.hid (HB1.out.keep hk3 (fun h => h))
    have HX2 := Lib.hid (HB2.out.keep hk3 (fun h => h))
    clear hk3 HC HB1 HB2 y0 y1 y2 y3 q0 q1 q2 hw1 hw2 zw1
    have y0 : w3.cell? ⟨w.heap.size, 0, none⟩ = some (.slice Ae ne ce) := HX1.out.cell 0
    have y1 : w3.cell? ⟨w.heap.size, 1, none⟩ = some (.slice Aj nj cj) := HX1.out.cell 1
    have y2 : w3.cell? ⟨w.heap.size, 2, none⟩ = some (.slice Ab nb cb) := HX1.out.cell 2
    have y3 : w3.cell? ⟨w.heap.size, 3, none⟩ = some (.slice Ar nr cr) := HX1.out.cell 3
    have q0 : w3.cell? ⟨w.heap.size + 1, 0, none⟩ = some (.int .i64 e) := HX2.out.cell 0
    have q1 : w3.cell? ⟨w.heap.size + 1, 1, none⟩ = some (.int .i64 a) := HX2.out.cell 1
    have q2 : w3.cell? ⟨w.heap.size + 1, 2, none⟩ = some (.bool r) := HX2.out.cell 2
    go_wp2_with fail
    go_quiet (fail)
    go_wp2_with fail
    go_ret
    exact ⟨by rw [HF.out]; rfl, HK3.out.drewN _⟩
  have t0 : (ck == 0) = true := by simpa using g0
  by_cases g1 : 0 ≤ e
  case neg =>
    have t1 : decide (e ≥ 0) = false := by simpa using g1
    have HF : Hid (rightB t (e, a, r) = false) := Lib.hid (by rw [HR.out, decide_eq_false g1]; simp)
    clear g0 g1
    have y0 : w2.cell? ⟨w.heap.size, 0, none⟩ = some (.slice Ae ne ce) := HB1.out.cell 0
    have y1 : w2.cell? ⟨w.heap.size, 1, none⟩ = some (.slice Aj nj cj) := HB1.out.cell 1
    have y2 : w2.cell? ⟨w.heap.size, 2, none⟩ = some (.slice Ab nb cb) := HB1.out.cell 2
    have y3 : w2.cell? ⟨w.heap.size, 3, none⟩ = some (.slice Ar nr cr) := HB1.out.cell 3
    have q0 : w2.cell? ⟨w.heap.size + 1, 0, none⟩ = some (.int .i64 e) := HB2.out.cell 0
    have q1 : w2.cell? ⟨w.heap.size + 1, 1, none⟩ = some (.int .i64 a) := HB2.out.cell 1
    have q2 : w2.cell? ⟨w.heap.size + 1, 2, none⟩ = some (.bool r) := HB2.out.cell 2
    go_enter Try.func17, Try.ntmps17
    go_wp2_with fail
    refine HC.out.mono ?_
    rintro en w3 ⟨rfl, hk3⟩
    have HK3 := Lib.hid (HK.out.trans hk3)
    have HX1 := Lib.hid (HB1.out.keep hk3 (fun h => h))
    have HX2 := Lib.hid (HB2.out.keep hk3 (fun h => h))
    clear hk3 HC HB1 HB2 y0 y1 y2 y3 q0 q1 q2 hw1 hw2 zw1
    have y0 : w3.cell? ⟨w.heap.size, 0, none⟩ = some (.slice Ae ne ce) := HX1.out.cell 0
    have y1 : w3.cell? ⟨w.heap.size, 1, none⟩ = some (.slice Aj nj cj) := HX1.out.cell 1
    have y2 : w3.cell? ⟨w.heap.size, 2, none⟩ = some (.slice Ab nb cb) := HX1.out.cell 2
    have y3 : w3.cell? ⟨w.heap.size, 3, none⟩ = some (.slice Ar nr cr) := HX1.out.cell 3
    have q0 : w3.cell? ⟨w.heap.size + 1, 0, none⟩ = some (.int .i64 e) := HX2.out.cell 0
    have q1 : w3.cell? ⟨w.heap.size + 1, 1, none⟩ = some (.int .i64 a) := HX2.out.cell 1
    have q2 : w3.cell? ⟨w.heap.size + 1, 2, none⟩ = some (.bool r) := HX2.out.cell 2
    go_wp2_with fail
    go_quiet (fail)
    go_wp2_with fail
    go_ret
    exact ⟨by rw [HF.out]; rfl, HK3.out.drewN _⟩
  have t1 : decide (e ≥ 0) = true := by simpa using g1
  by_cases g2 : e < (ne : Int)
  case neg =>
    have t2 : decide (e < (ne : Int)) = false := by simpa using g2
    have HF : Hid (rightB t (e, a, r) = false) := Lib.hid (by rw [HR.out, decide_eq_false g2]; simp)
    clear g0 g1 g2
    have y0 : w2.cell? ⟨w.heap.size, 0, none⟩ = some (.slice Ae ne ce) := HB1.out.cell 0
    have y1 : w2.cell? ⟨w.heap.size, 1, none⟩ = some (.slice Aj nj cj) := HB1.out.cell 1
    have y2 : w2.cell? ⟨w.heap.size, 2, none⟩ = some (.slice Ab nb cb) := HB1.out.cell 2
    have y3 : w2.cell? ⟨w.heap.size, 3, none⟩ = some (.slice Ar nr cr) := HB1.out.cell 3
    have q0 : w2.cell? ⟨w.heap.size + 1, 0, none⟩ = some (.int .i64 e) := HB2.out.cell 0
    have q1 : w2.cell? ⟨w.heap.size + 1, 1, none⟩ = some (.int .i64 a) := HB2.out.cell 1
    have q2 : w2.cell? ⟨w.heap.size + 1, 2, none⟩ = some (.bool r) := HB2.out.cell 2
    go_enter Try.func17, Try.ntmps17
    go_wp2_with fail
    refine HC.out.mono ?_
    rintro en w3 ⟨rfl, hk3⟩
    have HK3 := Lib.hid (HK.out.trans hk3)
    have HX1 := Lib.hid (HB1.out.keep hk3 (fun h => h))
    have HX2 := Lib.hid (HB2.out.keep hk3 (fun h => h))
    clear hk3 HC HB1 HB2 y0 y1 y2 y3 q0 q1 q2 hw1 hw2 zw1
    have y0 : w3.cell? ⟨w.heap.size, 0, none⟩ = some (.slice Ae ne ce) := HX1.out.cell 0
    have y1 : w3.cell? ⟨w.heap.size, 1, none⟩ = some (.slice Aj nj cj) := HX1.out.cell 1
    have y2 : w3.cell? ⟨w.heap.size, 2, none⟩ = some (.slice Ab nb cb) := HX1.out.cell 2
    have y3 : w3.cell? ⟨w.heap.size, 3, none⟩ = some (.slice Ar nr cr) := HX1.out.cell 3
    have q0 : w3.cell? ⟨w.heap.size + 1, 0, none⟩ = some (.int .i64 e) := HX2.out.cell 0
    have q1 : w3.cell? ⟨w.heap.size + 1, 1, none⟩ = some (.int .i64 a) := HX2.out.cell 1
    have q2 : w3.cell? ⟨w.heap.size + 1, 2, none⟩ = some (.bool r) := HX2.out.cell 2
    go_wp2_with fail
    go_quiet (fail)
    go_wp2_with fail
    go_ret
    exact ⟨by rw [HF.out]; rfl, HK3.out.drewN _⟩
  have t2 : decide (e < (ne : Int)) = true := by simpa using g2
  by_cases g3 : 0 ≤ a
  case neg =>
    have t3 : decide (a ≥ 0) = false := by simpa using g3
    have HF : Hid (rightB t (e, a, r) = false) := Lib.hid (by rw [HR.out, decide_eq_false g3]; simp)
    clear g0 g1 g2 g3
    have y0 : w2.cell? ⟨w.heap.size, 0, none⟩ = some (.slice Ae ne ce) := HB1.out.cell 0
    have y1 : w2.cell? ⟨w.heap.size, 1, none⟩ = some (.slice Aj nj cj) := HB1.out.cell 1
    have y2 : w2.cell? ⟨w.heap.size, 2, none⟩ = some (.slice Ab nb cb) := HB1.out.cell 2
    have y3 : w2.cell? ⟨w.heap.size, 3, none⟩ = some (.slice Ar nr cr) := HB1.out.cell 3
    have q0 : w2.cell? ⟨w.heap.size + 1, 0, none⟩ = some (.int .i64 e) := HB2.out.cell 0
    have q1 : w2.cell? ⟨w.heap.size + 1, 1, none⟩ = some (.int .i64 a) := HB2.out.cell 1
    have q2 : w2.cell? ⟨w.heap.size + 1, 2, none⟩ = some (.bool r) := HB2.out.cell 2
    go_enter Try.func17, Try.ntmps17
    go_wp2_with fail
    refine HC.out.mono ?_
    rintro en w3 ⟨rfl, hk3⟩
    have HK3 := Lib.hid (HK.out.trans hk3)
    have HX1 := Lib.hid (HB1.out.keep hk3 (fun h => h))
    have HX2 := Lib.hid (HB2.out.keep hk3 (fun h => h))
    clear hk3 HC HB1 HB2 y0 y1 y2 y3 q0 q1 q2 hw1 hw2 zw1
    have y0 : w3.cell? ⟨w.heap.size, 0, none⟩ = some (.slice Ae ne ce) := HX1.out.cell 0
    have y1 : w3.cell? ⟨w.heap.size, 1, none⟩ = some (.slice Aj nj cj) := HX1.out.cell 1
    have y2 : w3.cell? ⟨w.heap.size, 2, none⟩ = some (.slice Ab nb cb) := HX1.out.cell 2
    have y3 : w3.cell? ⟨w.heap.size, 3, none⟩ = some (.slice Ar nr cr) := HX1.out.cell 3
    have q0 : w3.cell? ⟨w.heap.size + 1, 0, none⟩ = some (.int .i64 e) := HX2.out.cell 0
    have q1 : w3.cell? ⟨w.heap.size + 1, 1, none⟩ = some (.int .i64 a) := HX2.out.cell 1
    have q2 : w3.cell? ⟨w.heap.size + 1, 2, none⟩ = some (.bool r) := HX2.out.cell 2
    go_wp2_with fail
    go_quiet (fail)
    go_wp2_with fail
    go_ret
    exact ⟨by rw [HF.out]; rfl, HK3.out.drewN _⟩
  have t3 : decide (a ≥ 0) = true := by simpa using g3
  obtain ⟨ad, k, v, hA, he, hk, d0, hv⟩ := HED.out w2 HK.out e g1 g2
  subst hA
  rw [hv] at HR
  have hkz : (k : Int) < (ne : Int) := by omega
  have HRb : Hid (rightB t (e, a, r) = decide (a ≤ v)) := Lib.hid (by rw [HR.out, decide_eq_true g0, decide_eq_true g1, decide_eq_true g2, decide_eq_true g3]; rfl)
  have HD0 := Lib.hid d0
  clear g0 g1 g2 g3 HED HR hv d0
  subst he
  by_cases g4 : a ≤ v
  · have t4 : decide (a ≤ v) = true := by simpa using g4
    have HF : Hid (rightB t (((k : Nat) : Int), a, r) = true) := Lib.hid (by rw [HRb.out]; exact t4)
    clear g4 HRb
    have y0 : w2.cell? ⟨w.heap.size, 0, none⟩ = some (.slice (some ad) ne ce) := HB1.out.cell 0
    have y1 : w2.cell? ⟨w.heap.size, 1, none⟩ = some (.slice Aj nj cj) := HB1.out.cell 1
    have y2 : w2.cell? ⟨w.heap.size, 2, none⟩ = some (.slice Ab nb cb) := HB1.out.cell 2
    have y3 : w2.cell? ⟨w.heap.size, 3, none⟩ = some (.slice Ar nr cr) := HB1.out.cell 3
    have q0 : w2.cell? ⟨w.heap.size + 1, 0, none⟩ = some (.int .i64 ((k : Nat) : Int)) := HB2.out.cell 0
    have q1 : w2.cell? ⟨w.heap.size + 1, 1, none⟩ = some (.int .i64 a) := HB2.out.cell 1
    have q2 : w2.cell? ⟨w.heap.size + 1, 2, none⟩ = some (.bool r) := HB2.out.cell 2
    go_enter Try.func17, Try.ntmps17
    go_wp2_with fail
    refine HC.out.mono ?_
    rintro en w3 ⟨rfl, hk3⟩
    have HK3 := Lib.hid (HK.out.trans hk3)
    have HX1 := Lib.hid (HB1.out.keep hk3 (fun h => h))
    have HX2 := Lib.hid (HB2.out.keep hk3 (fun h => h))
    have d0 := keepT hk3 HD0.out
    clear hk3 HC HB1 HB2 y0 y1 y2 y3 q0 q1 q2 hw1 hw2 zw1
    have y0 : w3.cell? ⟨w.heap.size, 0, none⟩ = some (.slice (some ad) ne ce) := HX1.out.cell 0
    have y1 : w3.cell? ⟨w.heap.size, 1, none⟩ = some (.slice Aj nj cj) := HX1.out.cell 1
    have y2 : w3.cell? ⟨w.heap.size, 2, none⟩ = some (.slice Ab nb cb) := HX1.out.cell 2
    have y3 : w3.cell? ⟨w.heap.size, 3, none⟩ = some (.slice Ar nr cr) := HX1.out.cell 3
    have q0 : w3.cell? ⟨w.heap.size + 1, 0, none⟩ = some (.int .i64 ((k : Nat) : Int)) := HX2.out.cell 0
    have q1 : w3.cell? ⟨w.heap.size + 1, 1, none⟩ = some (.int .i64 a) := HX2.out.cell 1
    have q2 : w3.cell? ⟨w.heap.size + 1, 2, none⟩ = some (.bool r) := HX2.out.cell 2
    go_wp2_with fail
    go_quiet (fail)
    go_wp2_with fail
    go_ret
    exact ⟨by rw [HF.out]; rfl, HK3.out.drewN _⟩
  · have t4 : decide (a ≤ v) = false := by simpa using g4
    have HF : Hid (rightB t (((k : Nat) : Int), a, r) = false) := Lib.hid (by rw [HRb.out]; exact t4)
    clear g4 HRb
    have y0 : w2.cell? ⟨w.heap.size, 0, none⟩ = some (.slice (some ad) ne ce) := HB1.out.cell 0
    have y1 : w2.cell? ⟨w.heap.size, 1, none⟩ = some (.slice Aj nj cj) := HB1.out.cell 1
    have y2 : w2.cell? ⟨w.heap.size, 2, none⟩ = some (.slice Ab nb cb) := HB1.out.cell 2
    have y3 : w2.cell? ⟨w.heap.size, 3, none⟩ = some (.slice Ar nr cr) := HB1.out.cell 3
    have q0 : w2.cell? ⟨w.heap.size + 1, 0, none⟩ = some (.int .i64 ((k : Nat) : Int)) := HB2.out.cell 0
    have q1 : w2.cell? ⟨w.heap.size + 1, 1, none⟩ = some (.int .i64 a) := HB2.out.cell 1
    have q2 : w2.cell? ⟨w.heap.size + 1, 2, none⟩ = some (.bool r) := HB2.out.cell 2
    go_enter Try.func17, Try.ntmps17
    go_wp2_with fail
    refine HC.out.mono ?_
    rintro en w3 ⟨rfl, hk3⟩
    have HK3 := Lib.hid (HK.out.trans hk3)
    have HX1 := Lib.hid (HB1.out.keep hk3 (fun h => h))
    have HX2 := Lib.hid (HB2.out.keep hk3 (fun h => h))
    have d0 := keepT hk3 HD0.out
    clear hk3 HC HB1 HB2 y0 y1 y2 y3 q0 q1 q2 hw1 hw2 zw1
    have y0 : w3.cell? ⟨w.heap.size, 0, none⟩ = some (.slice (some ad) ne ce) := HX1.out.cell 0
    have y1 : w3.cell? ⟨w.heap.size, 1, none⟩ = some (.slice Aj nj cj) := HX1.out.cell 1
    have y2 : w3.cell? ⟨w.heap.size, 2, none⟩ = some (.slice Ab nb cb) := HX1.out.cell 2
    have y3 : w3.cell? ⟨w.heap.size, 3, none⟩ = some (.slice Ar nr cr) := HX1.out.cell 3
    have q0 : w3.cell? ⟨w.heap.size + 1, 0, none⟩ = some (.int .i64 ((k : Nat) : Int)) := HX2.out.cell 0
    have q1 : w3.cell? ⟨w.heap.size + 1, 1, none⟩ = some (.int .i64 a) := HX2.out.cell 1
    have q2 : w3.cell? ⟨w.heap.size + 1, 2, none⟩ = some (.bool r) := HX2.out.cell 2
    go_wp2_with fail
    go_quiet (fail)
    go_wp2_with fail
    go_ret
    exact ⟨by rw [HF.out]; rfl, HK3.out.drewN _⟩

set_option maxHeartbeats 4000000 in
set_option maxRecDepth 100000 in
theorem rturn_any (e a : Int) (r : Bool) (w : World) :
    Calls Try.prog 19 #[.agg #[.int .i64 e, .int .i64 a, .bool r]] w (PsRet (turnP (e, a, r)) w) := by
  obtain ⟨w1, hw1⟩ : ∃ V : World, w.alloc (.cells #[.int .i64 e, .int .i64 a, .bool r] 29) = V := ⟨_, rfl⟩
  have zw1 : w1.heap.size = w.heap.size + 1 := by rw [← hw1]; simp
  have kw1 : Keep Never w w1 := by rw [← hw1]; exact (Keep.refl _ _).alloc _
  have bw1 := Blk.new w 29 #[.int .i64 e, .int .i64 a, .bool r]
  rw [hw1] at bw1
  obtain ⟨w2, hw2⟩ : ∃ V : World, w1.alloc (.cells #[.int .i64 0, .int .i64 0, .bool false] 29) = V := ⟨_, rfl⟩
  have kw2 : Keep Never w1 w2 := by rw [← hw2]; exact (Keep.refl _ _).alloc _
  have bw2 := Blk.new w1 29 #[.int .i64 0, .int .i64 0, .bool false]
  rw [hw2, zw1] at bw2
  have HB1 := Lib.hid (bw1.keep kw2 (fun h => h))
  have HB2 := Lib.hid bw2
  have HK := Lib.hid (kw1.trans kw2)
  clear kw1 kw2 bw1 bw2
  have q0 : w2.cell? ⟨w.heap.size, 0, none⟩ = some (.int .i64 e) := HB1.out.cell 0
  have q1 : w2.cell? ⟨w.heap.size, 1, none⟩ = some (.int .i64 a) := HB1.out.cell 1
  have q2 : w2.cell? ⟨w.heap.size, 2, none⟩ = some (.bool r) := HB1.out.cell 2
  have qf0 := HB1.out.frozen 0
  have qf1 := HB1.out.frozen 1
  have qf2 := HB1.out.frozen 2
  go_enter Try.func19, Try.ntmps19
  have z0 : w2.cell? ⟨w.heap.size + 1, 0, none⟩ = some (.int .i64 0) := HB2.out.cell 0
  have z1 : w2.cell? ⟨w.heap.size + 1, 1, none⟩ = some (.int .i64 0) := HB2.out.cell 1
  have z2 : w2.cell? ⟨w.heap.size + 1, 2, none⟩ = some (.bool false) := HB2.out.cell 2
  have zf0 := HB2.out.frozen 0
  have zf1 := HB2.out.frozen 1
  have zf2 := HB2.out.frozen 2
  go_wp2_with fail
  (try simp only [Exit.inBlock, Exit.then])
  have hp := ps3_keep HK.out (b := w.heap.size + 1) (.inr (by omega)) (.int .i64 e) (.int .i64 a) (.bool !r)
  refine bodyPost_ret (ps_results (fn := Try.f19) (r := 2) rfl (ps3_blk HB2.out (.int .i64 e) (.int .i64 a) (.bool !r)) _ rfl) rfl ⟨rfl, hp⟩

set_option maxHeartbeats 4000000 in
set_option maxRecDepth 100000 in
theorem rahead_any (x : TA) (t : Tp) (B : Nat) (e a : Int) (r : Bool) (w : World) (h : TpAt w B x t) (h0 : 0 ≤ e) (h1 : e < (x.ne : Int)) (hv1 : 0 ≤ edgeM t e) (hv2 : edgeM t e ≤ 1000000) (ha1 : 0 ≤ a) (ha2 : a ≤ 1000000) :
    Calls Try.prog 40 #[.agg x.cs, .agg #[.int .i64 e, .int .i64 a, .bool r]] w fun en w' => en = .returned (.int .i64 (aheadP t (e, a, r))) ∧ Keep Never w w' := by
  obtain ⟨ad, k, v, hA, he, hk, d0, hv⟩ := edge_at h h0 h1
  have HD : Hid (∀ W, Keep Never w W → W.cell? (ad.add k) = some (.int .i64 v)) := Lib.hid (fun W hk => keepT hk d0)
  obtain ⟨Ae, ne, ce, Aj, nj, cj, Ab, nb, cb, Ar, nr, cr⟩ := x
  simp only [TA.cs] at hA hk ⊢
  subst hA he
  have hkz : (k : Int) < (ne : Int) := by omega
  rw [hv] at hv1 hv2
  have hw : IntKind.i64.wrap (v - a) = v - a := IntWalk.i64_in _ (by omega)
  cases r with
  | true =>
    have HF : Hid (aheadP t (((k : Nat) : Int), a, true) = a) := Lib.hid (by unfold aheadP; rw [if_pos rfl])
    clear h d0 hv h0 h1 hv1 hv2 ha1 ha2
    obtain ⟨w1, hw1⟩ : ∃ V : World, w.alloc (.cells #[.slice (some ad) ne ce, .slice Aj nj cj, .slice Ab nb cb, .slice Ar nr cr] 27) = V := ⟨_, rfl⟩
    have zw1 : w1.heap.size = w.heap.size + 1 := by rw [← hw1]; simp
    have kw1 : Keep Never w w1 := by rw [← hw1]; exact (Keep.refl _ _).alloc _
    have bw1 := Blk.new w 27 #[.slice (some ad) ne ce, .slice Aj nj cj, .slice Ab nb cb, .slice Ar nr cr]
    rw [hw1] at bw1
    obtain ⟨w2, hw2⟩ : ∃ V : World, w1.alloc (.cells #[.int .i64 ((k : Nat) : Int), .int .i64 a, .bool true] 29) = V := ⟨_, rfl⟩
    have kw2 : Keep Never w1 w2 := by rw [← hw2]; exact (Keep.refl _ _).alloc _
    have bw2 := Blk.new w1 29 #[.int .i64 ((k : Nat) : Int), .int .i64 a, .bool true]
    rw [hw2, zw1] at bw2
    have HB1 := Lib.hid (bw1.keep kw2 (fun h => h))
    have HB2 := Lib.hid bw2
    have HK := Lib.hid (kw1.trans kw2)
    clear kw1 kw2 bw1 bw2
    have y0 : w2.cell? ⟨w.heap.size, 0, none⟩ = some (.slice (some ad) ne ce) := HB1.out.cell 0
    have y1 : w2.cell? ⟨w.heap.size, 1, none⟩ = some (.slice Aj nj cj) := HB1.out.cell 1
    have y2 : w2.cell? ⟨w.heap.size, 2, none⟩ = some (.slice Ab nb cb) := HB1.out.cell 2
    have y3 : w2.cell? ⟨w.heap.size, 3, none⟩ = some (.slice Ar nr cr) := HB1.out.cell 3
    have q0 : w2.cell? ⟨w.heap.size + 1, 0, none⟩ = some (.int .i64 ((k : Nat) : Int)) := HB2.out.cell 0
    have q1 : w2.cell? ⟨w.heap.size + 1, 1, none⟩ = some (.int .i64 a) := HB2.out.cell 1
    have q2 : w2.cell? ⟨w.heap.size + 1, 2, none⟩ = some (.bool true) := HB2.out.cell 2
    have d0 := HD.out w2 HK.out
    go_enter Try.func40, Try.ntmps40
    go_wp2_with fail
    go_ret
    exact ⟨by rw [HF.out]; rfl, HK.out⟩
  | false =>
    have HF : Hid (aheadP t (((k : Nat) : Int), a, false) = v - a) := Lib.hid (by unfold aheadP; rw [if_neg (by simp)]; simp only; rw [hv])
    clear h d0 hv h0 h1 hv1 hv2 ha1 ha2
    obtain ⟨w1, hw1⟩ : ∃ V : World, w.alloc (.cells #[.slice (some ad) ne ce, .slice Aj nj cj, .slice Ab nb cb, .slice Ar nr cr] 27) = V := ⟨_, rfl⟩
    have zw1 : w1.heap.size = w.heap.size + 1 := by rw [← hw1]; simp
    have kw1 : Keep Never w w1 := by rw [← hw1]; exact (Keep.refl _ _).alloc _
    have bw1 := Blk.new w 27 #[.slice (some ad) ne ce, .slice Aj nj cj, .slice Ab nb cb, .slice Ar nr cr]
    rw [hw1] at bw1
    obtain ⟨w2, hw2⟩ : ∃ V : World, w1.alloc (.cells #[.int .i64 ((k : Nat) : Int), .int .i64 a, .bool false] 29) = V := ⟨_, rfl⟩
    have kw2 : Keep Never w1 w2 := by rw [← hw2]; exact (Keep.refl _ _).alloc _
    have bw2 := Blk.new w1 29 #[.int .i64 ((k : Nat) : Int), .int .i64 a, .bool false]
    rw [hw2, zw1] at bw2
    have HB1 := Lib.hid (bw1.keep kw2 (fun h => h))
    have HB2 := Lib.hid bw2
    have HK := Lib.hid (kw1.trans kw2)
    clear kw1 kw2 bw1 bw2
    have y0 : w2.cell? ⟨w.heap.size, 0, none⟩ = some (.slice (some ad) ne ce) := HB1.out.cell 0
    have y1 : w2.cell? ⟨w.heap.size, 1, none⟩ = some (.slice Aj nj cj) := HB1.out.cell 1
    have y2 : w2.cell? ⟨w.heap.size, 2, none⟩ = some (.slice Ab nb cb) := HB1.out.cell 2
    have y3 : w2.cell? ⟨w.heap.size, 3, none⟩ = some (.slice Ar nr cr) := HB1.out.cell 3
    have q0 : w2.cell? ⟨w.heap.size + 1, 0, none⟩ = some (.int .i64 ((k : Nat) : Int)) := HB2.out.cell 0
    have q1 : w2.cell? ⟨w.heap.size + 1, 1, none⟩ = some (.int .i64 a) := HB2.out.cell 1
    have q2 : w2.cell? ⟨w.heap.size + 1, 2, none⟩ = some (.bool false) := HB2.out.cell 2
    have d0 := HD.out w2 HK.out
    go_enter Try.func40, Try.ntmps40
    go_wp2_with fail
    go_quiet (fail)
    go_wp2_with fail
    go_ret
    exact ⟨by rw [HF.out]; rfl, HK.out.drewN _⟩

set_option maxHeartbeats 4000000 in
set_option maxRecDepth 100000 in
theorem rmoved_any (e a : Int) (r : Bool) (n : Int) (w : World) (ha1 : 0 ≤ a) (ha2 : a ≤ 1000000) (hn1 : 0 ≤ n) (hn2 : n ≤ 4398046511104) :
    Calls Try.prog 43 #[.agg #[.int .i64 e, .int .i64 a, .bool r], .int .i64 n] w (PsRet (movedP (e, a, r) n) w) := by
  have hw1' : wrap64 (a + n) = a + n := by have := IntWalk.i64_in (a + n) (by omega); rwa [IntWalk.i64_left] at this
  have hw2' : wrap64 (a - n) = a - n := by have := IntWalk.i64_in (a - n) (by omega); rwa [IntWalk.i64_left] at this
  have hw3' : IntKind.i64.wrap (a + n) = a + n := IntWalk.i64_in (a + n) (by omega)
  have hw4' : IntKind.i64.wrap (a - n) = a - n := IntWalk.i64_in (a - n) (by omega)
  cases r with
  | true =>
    have HF : Hid (movedP (e, a, true) n = (e, a - n, true)) := Lib.hid (by unfold movedP; rw [if_pos rfl])
    clear ha1 ha2 hn1 hn2
    obtain ⟨w1, hw1⟩ : ∃ V : World, w.alloc (.cells #[.int .i64 e, .int .i64 a, .bool true] 29) = V := ⟨_, rfl⟩
    have zw1 : w1.heap.size = w.heap.size + 1 := by rw [← hw1]; simp
    have kw1 : Keep Never w w1 := by rw [← hw1]; exact (Keep.refl _ _).alloc _
    have bw1 := Blk.new w 29 #[.int .i64 e, .int .i64 a, .bool true]
    rw [hw1] at bw1
    obtain ⟨w2, hw2⟩ : ∃ V : World, w1.alloc (.cells #[.int .i64 0, .int .i64 0, .bool false] 29) = V := ⟨_, rfl⟩
    have kw2 : Keep Never w1 w2 := by rw [← hw2]; exact (Keep.refl _ _).alloc _
    have bw2 := Blk.new w1 29 #[.int .i64 0, .int .i64 0, .bool false]
    rw [hw2, zw1] at bw2
    have HB1 := Lib.hid (bw1.keep kw2 (fun h => h))
    have HB2 := Lib.hid bw2
    have HK := Lib.hid (kw1.trans kw2)
    clear kw1 kw2 bw1 bw2
    have q0 : w2.cell? ⟨w.heap.size, 0, none⟩ = some (.int .i64 e) := HB1.out.cell 0
    have q1 : w2.cell? ⟨w.heap.size, 1, none⟩ = some (.int .i64 a) := HB1.out.cell 1
    have q2 : w2.cell? ⟨w.heap.size, 2, none⟩ = some (.bool true) := HB1.out.cell 2
    go_enter Try.func43, Try.ntmps43
    have z0 : w2.cell? ⟨w.heap.size + 1, 0, none⟩ = some (.int .i64 0) := HB2.out.cell 0
    have z1 : w2.cell? ⟨w.heap.size + 1, 1, none⟩ = some (.int .i64 0) := HB2.out.cell 1
    have z2 : w2.cell? ⟨w.heap.size + 1, 2, none⟩ = some (.bool false) := HB2.out.cell 2
    have zf0 := HB2.out.frozen 0
    have zf1 := HB2.out.frozen 1
    have zf2 := HB2.out.frozen 2
    go_wp2_with fail
    (try simp only [Exit.inBlock, Exit.then])
    have hp := ps3_keep HK.out (b := w.heap.size + 1) (.inr (by omega)) (.int .i64 e) (.int .i64 (a - n)) (.bool true)
    refine bodyPost_ret (ps_results (fn := Try.f43) (r := 4) rfl (ps3_blk HB2.out (.int .i64 e) (.int .i64 (a - n)) (.bool true)) _ rfl) rfl ⟨by rw [HF.out], hp⟩
  | false =>
    have HF : Hid (movedP (e, a, false) n = (e, a + n, false)) := Lib.hid (by unfold movedP; rw [if_neg (by simp)])
    clear ha1 ha2 hn1 hn2
    obtain ⟨w1, hw1⟩ : ∃ V : World, w.alloc (.cells #[.int .i64 e, .int .i64 a, .bool false] 29) = V := ⟨_, rfl⟩
    have zw1 : w1.heap.size = w.heap.size + 1 := by rw [← hw1]; simp
    have kw1 : Keep Never w w1 := by rw [← hw1]; exact (Keep.refl _ _).alloc _
    have bw1 := Blk.new w 29 #[.int .i64 e, .int .i64 a, .bool false]
    rw [hw1] at bw1
    obtain ⟨w2, hw2⟩ : ∃ V : World, w1.alloc (.cells #[.int .i64 0, .int .i64 0, .bool false] 29) = V := ⟨_, rfl⟩
    have kw2 : Keep Never w1 w2 := by rw [← hw2]; exact (Keep.refl _ _).alloc _
    have bw2 := Blk.new w1 29 #[.int .i64 0, .int .i64 0, .bool false]
    rw [hw2, zw1] at bw2
    have HB1 := Lib.hid (bw1.keep kw2 (fun h => h))
    have HB2 := Lib.hid bw2
    have HK := Lib.hid (kw1.trans kw2)
    clear kw1 kw2 bw1 bw2
    have q0 : w2.cell? ⟨w.heap.size, 0, none⟩ = some (.int .i64 e) := HB1.out.cell 0
    have q1 : w2.cell? ⟨w.heap.size, 1, none⟩ = some (.int .i64 a) := HB1.out.cell 1
    have q2 : w2.cell? ⟨w.heap.size, 2, none⟩ = some (.bool false) := HB1.out.cell 2
    go_enter Try.func43, Try.ntmps43
    have z0 : w2.cell? ⟨w.heap.size + 1, 0, none⟩ = some (.int .i64 0) := HB2.out.cell 0
    have z1 : w2.cell? ⟨w.heap.size + 1, 1, none⟩ = some (.int .i64 0) := HB2.out.cell 1
    have z2 : w2.cell? ⟨w.heap.size + 1, 2, none⟩ = some (.bool false) := HB2.out.cell 2
    have zf0 := HB2.out.frozen 0
    have zf1 := HB2.out.frozen 1
    have zf2 := HB2.out.frozen 2
    go_wp2_with fail
    (try simp only [Exit.inBlock, Exit.then])
    have hp := ps3_keep HK.out (b := w.heap.size + 1) (.inr (by omega)) (.int .i64 e) (.int .i64 (a + n)) (.bool false)
    refine bodyPost_ret (ps_results (fn := Try.f43) (r := 4) rfl (ps3_blk HB2.out (.int .i64 e) (.int .i64 (a + n)) (.bool false)) _ rfl) rfl ⟨by rw [HF.out], hp⟩

set_option maxHeartbeats 4000000 in
set_option maxRecDepth 100000 in
theorem rbegin_any (x : TA) (t : Tp) (B : Nat) (e : Int) (r : Bool) (w : World) (h : TpAt w B x t) (h0 : 0 ≤ e) (h1 : e < (x.ne : Int)) :
    Calls Try.prog 42 #[.agg x.cs, .agg #[.int .i64 e, .bool r]] w (PsRet (beginP t (e, r)) w) := by
  obtain ⟨ad, k, v, hA, he, hk, d0, hv⟩ := edge_at h h0 h1
  have HD : Hid (∀ W, Keep Never w W → W.cell? (ad.add k) = some (.int .i64 v)) := Lib.hid (fun W hk => keepT hk d0)
  obtain ⟨Ae, ne, ce, Aj, nj, cj, Ab, nb, cb, Ar, nr, cr⟩ := x
  simp only [TA.cs] at hA hk ⊢
  subst hA he
  have hkz : (k : Int) < (ne : Int) := by omega
  cases r with
  | true =>
    have HF : Hid (beginP t (((k : Nat) : Int), true) = (((k : Nat) : Int), v, true)) := Lib.hid (by unfold beginP; rw [if_pos rfl]; simp only; rw [hv])
    clear h d0 hv h0 h1
    obtain ⟨w1, hw1⟩ : ∃ V : World, w.alloc (.cells #[.slice (some ad) ne ce, .slice Aj nj cj, .slice Ab nb cb, .slice Ar nr cr] 27) = V := ⟨_, rfl⟩
    have zw1 : w1.heap.size = w.heap.size + 1 := by rw [← hw1]; simp
    have kw1 : Keep Never w w1 := by rw [← hw1]; exact (Keep.refl _ _).alloc _
    have bw1 := Blk.new w 27 #[.slice (some ad) ne ce, .slice Aj nj cj, .slice Ab nb cb, .slice Ar nr cr]
    rw [hw1] at bw1
    obtain ⟨w2, hw2⟩ : ∃ V : World, w1.alloc (.cells #[.int .i64 ((k : Nat) : Int), .bool true] 45) = V := ⟨_, rfl⟩
    have zw2 : w2.heap.size = w.heap.size + 1 + 1 := by rw [← hw2]; simp [zw1]
    have kw2 : Keep Never w1 w2 := by rw [← hw2]; exact (Keep.refl _ _).alloc _
    have bw2 := Blk.new w1 45 #[.int .i64 ((k : Nat) : Int), .bool true]
    rw [hw2, zw1] at bw2
    obtain ⟨w3, hw3⟩ : ∃ V : World, w2.alloc (.cells #[.int .i64 0, .int .i64 0, .bool false] 29) = V := ⟨_, rfl⟩
    have kw3 : Keep Never w2 w3 := by rw [← hw3]; exact (Keep.refl _ _).alloc _
    have bw3 := Blk.new w2 29 #[.int .i64 0, .int .i64 0, .bool false]
    rw [hw3, zw2] at bw3
    have HB1 := Lib.hid ((bw1.keep kw2 (fun h => h)).keep kw3 (fun h => h))
    have HB2 := Lib.hid (bw2.keep kw3 (fun h => h))
    have HB3 := Lib.hid bw3
    have HK := Lib.hid ((kw1.trans kw2).trans kw3)
    clear kw1 kw2 kw3 bw1 bw2 bw3
    have y0 : w3.cell? ⟨w.heap.size, 0, none⟩ = some (.slice (some ad) ne ce) := HB1.out.cell 0
    have y1 : w3.cell? ⟨w.heap.size, 1, none⟩ = some (.slice Aj nj cj) := HB1.out.cell 1
    have y2 : w3.cell? ⟨w.heap.size, 2, none⟩ = some (.slice Ab nb cb) := HB1.out.cell 2
    have y3 : w3.cell? ⟨w.heap.size, 3, none⟩ = some (.slice Ar nr cr) := HB1.out.cell 3
    have q0 : w3.cell? ⟨w.heap.size + 1, 0, none⟩ = some (.int .i64 ((k : Nat) : Int)) := HB2.out.cell 0
    have q1 : w3.cell? ⟨w.heap.size + 1, 1, none⟩ = some (.bool true) := HB2.out.cell 1
    have d0 := HD.out w3 HK.out
    go_enter Try.func42, Try.ntmps42
    go_wp2_with fail
    go_still_tail 9, (by kernel_rfl)
    change wpList _ _ _ _ _ w3.drew
    obtain ⟨w5, hw5⟩ : ∃ V : World, w3.drew = V := ⟨_, rfl⟩
    rw [hw5]
    have HKd : Hid (Keep Never w w5) := Lib.hid (by rw [← hw5]; exact HK.out.drew)
    have HBd : Hid (Blk w5 (w.heap.size + 1 + 1) 29 #[.int .i64 0, .int .i64 0, .bool false]) := Lib.hid (by rw [← hw5]; exact HB3.out.drew)
    clear hw5
    have z0 : w5.cell? ⟨w.heap.size + 1 + 1, 0, none⟩ = some (.int .i64 0) := HBd.out.cell 0
    have z1 : w5.cell? ⟨w.heap.size + 1 + 1, 1, none⟩ = some (.int .i64 0) := HBd.out.cell 1
    have z2 : w5.cell? ⟨w.heap.size + 1 + 1, 2, none⟩ = some (.bool false) := HBd.out.cell 2
    have zf0 := HBd.out.frozen 0
    have zf1 := HBd.out.frozen 1
    have zf2 := HBd.out.frozen 2
    go_wp2_with fail
    (try simp only [Exit.inBlock, Exit.then])
    have hp := ps3_keep HKd.out (b := w.heap.size + 1 + 1) (.inr (by omega)) (.int .i64 ((k : Nat) : Int)) (.int .i64 v) (.bool true)
    refine bodyPost_ret (ps_results (fn := Try.f42) (r := 4) rfl (ps3_blk HBd.out (.int .i64 ((k : Nat) : Int)) (.int .i64 v) (.bool true)) _ rfl) rfl ⟨by rw [HF.out], hp⟩
  | false =>
    have HF : Hid (beginP t (((k : Nat) : Int), false) = (((k : Nat) : Int), 0, false)) := Lib.hid (by unfold beginP; rw [if_neg (by simp)])
    clear h d0 hv h0 h1
    obtain ⟨w1, hw1⟩ : ∃ V : World, w.alloc (.cells #[.slice (some ad) ne ce, .slice Aj nj cj, .slice Ab nb cb, .slice Ar nr cr] 27) = V := ⟨_, rfl⟩
    have zw1 : w1.heap.size = w.heap.size + 1 := by rw [← hw1]; simp
    have kw1 : Keep Never w w1 := by rw [← hw1]; exact (Keep.refl _ _).alloc _
    have bw1 := Blk.new w 27 #[.slice (some ad) ne ce, .slice Aj nj cj, .slice Ab nb cb, .slice Ar nr cr]
    rw [hw1] at bw1
    obtain ⟨w2, hw2⟩ : ∃ V : World, w1.alloc (.cells #[.int .i64 ((k : Nat) : Int), .bool false] 45) = V := ⟨_, rfl⟩
    have zw2 : w2.heap.size = w.heap.size + 1 + 1 := by rw [← hw2]; simp [zw1]
    have kw2 : Keep Never w1 w2 := by rw [← hw2]; exact (Keep.refl _ _).alloc _
    have bw2 := Blk.new w1 45 #[.int .i64 ((k : Nat) : Int), .bool false]
    rw [hw2, zw1] at bw2
    obtain ⟨w3, hw3⟩ : ∃ V : World, w2.alloc (.cells #[.int .i64 0, .int .i64 0, .bool false] 29) = V := ⟨_, rfl⟩
    have kw3 : Keep Never w2 w3 := by rw [← hw3]; exact (Keep.refl _ _).alloc _
    have bw3 := Blk.new w2 29 #[.int .i64 0, .int .i64 0, .bool false]
    rw [hw3, zw2] at bw3
    have HB1 := Lib.hid ((bw1.keep kw2 (fun h => h)).keep kw3 (fun h => h))
    have HB2 := Lib.hid (bw2.keep kw3 (fun h => h))
    have HB3 := Lib.hid bw3
    have HK := Lib.hid ((kw1.trans kw2).trans kw3)
    clear kw1 kw2 kw3 bw1 bw2 bw3
    have y0 : w3.cell? ⟨w.heap.size, 0, none⟩ = some (.slice (some ad) ne ce) := HB1.out.cell 0
    have y1 : w3.cell? ⟨w.heap.size, 1, none⟩ = some (.slice Aj nj cj) := HB1.out.cell 1
    have y2 : w3.cell? ⟨w.heap.size, 2, none⟩ = some (.slice Ab nb cb) := HB1.out.cell 2
    have y3 : w3.cell? ⟨w.heap.size, 3, none⟩ = some (.slice Ar nr cr) := HB1.out.cell 3
    have q0 : w3.cell? ⟨w.heap.size + 1, 0, none⟩ = some (.int .i64 ((k : Nat) : Int)) := HB2.out.cell 0
    have q1 : w3.cell? ⟨w.heap.size + 1, 1, none⟩ = some (.bool false) := HB2.out.cell 1
    have d0 := HD.out w3 HK.out
    go_enter Try.func42, Try.ntmps42
    have z0 : w3.cell? ⟨w.heap.size + 1 + 1, 0, none⟩ = some (.int .i64 0) := HB3.out.cell 0
    have z1 : w3.cell? ⟨w.heap.size + 1 + 1, 1, none⟩ = some (.int .i64 0) := HB3.out.cell 1
    have z2 : w3.cell? ⟨w.heap.size + 1 + 1, 2, none⟩ = some (.bool false) := HB3.out.cell 2
    have zf0 := HB3.out.frozen 0
    have zf1 := HB3.out.frozen 1
    have zf2 := HB3.out.frozen 2
    go_wp2_with fail
    (try simp only [Exit.inBlock, Exit.then])
    have hp := ps3_keep HK.out (b := w.heap.size + 1 + 1) (.inr (by omega)) (.int .i64 ((k : Nat) : Int)) (.int .i64 0) (.bool false)
    refine bodyPost_ret (ps_results (fn := Try.f42) (r := 4) rfl (ps3_blk HB3.out (.int .i64 ((k : Nat) : Int)) (.int .i64 0) (.bool false)) _ rfl) rfl ⟨by rw [HF.out], hp⟩
end Go.Proofs.Ytijdkjcjhfebfaa
