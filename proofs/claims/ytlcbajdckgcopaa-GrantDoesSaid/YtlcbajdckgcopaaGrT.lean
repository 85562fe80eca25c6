/- Chapter 18 (grant), the document: which ledgers may be. -/
import Derived.Test.YtlcbajdckgcopaaGrS
namespace Go.Proofs.Ytlcbajdckgcopaa
open Go.RowKit

def timeB (t : Int) : Bool := decide (0 ≤ t) && decide (t ≤ 4294967294)
set_option maxHeartbeats 4000000 in
set_option maxRecDepth 100000 in
theorem rtime_any (t : Int) (w : World) :
    Calls Try.prog 150 #[.int .i64 t] w fun e w' => e = .returned (.bool (timeB t)) ∧ Keep Never w w' := by
  by_cases g0 : 0 ≤ t
  case neg =>
    have t0 : decide (t ≥ 0) = false := by simpa using g0
    have HF : Hid (timeB t = false) := Lib.hid (by unfold timeB; simp [g0])
    clear g0
    go_enter Try.func150, Try.ntmps150
    go_wp2_with fail
    go_ret
    exact ⟨by rw [HF.out]; rfl, Keep.refl _ _⟩
  have t0 : decide (t ≥ 0) = true := by simpa using g0
  by_cases g1 : t ≤ 4294967294
  case neg =>
    have t1 : decide (t < 4294967295) = false := by simp; omega
    have HF : Hid (timeB t = false) := Lib.hid (by unfold timeB; simp [g1])
    clear g0 g1
    go_enter Try.func150, Try.ntmps150
    go_wp2_with fail
    go_ret
    exact ⟨by rw [HF.out]; rfl, Keep.refl _ _⟩
  have t1 : decide (t < 4294967295) = true := by simp; omega
  have HF : Hid (timeB t = true) := Lib.hid (by unfold timeB; simp [g0, g1])
  clear g0 g1
  go_enter Try.func150, Try.ntmps150
  go_wp2_with fail
  go_ret
  exact ⟨by rw [HF.out]; rfl, Keep.refl _ _⟩

set_option maxHeartbeats 4000000 in
set_option maxRecDepth 100000 in
theorem rnormal_any (A : Option Addr) (n c B : Nat) (l : List Sp) (w : World) (h : SpAt w B A n c l) (hn : n ≤ 1000) (hB : B ≤ w.heap.size) :
    Calls Try.prog 87 #[.slice A n c] w fun e w' => e = .returned (.bool (normB l)) ∧ Keep Never w w' := by
  have HS := Lib.hid (h.more hB)
  have HC := Lib.hid (rnorm_g 0 A n c l w (h.more hB) hn)
  have HLl := Lib.hid h.len
  clear h hB
  go_enter Try.func87, Try.ntmps87
  go_wp2_with fail
  refine HC.out.mono ?_
  rintro e w1 ⟨A1, n1, c1, rfl, hg1, hk1⟩
  have hn1' : n1 ≤ 100000000 := by have h1 := hg1.at_.len; have h2 := normM_len l; have h3 := HLl.out; omega
  have HE := Lib.hid (same15_any (normM l) l A1 A n1 n c1 c w1.heap.size w.heap.size w1 hg1.at_.rd (HS.out.keep hk1).rd (by omega) (by omega))
  have HK := Lib.hid hk1
  clear hg1 hk1 HC hn1'
  go_wp2_with fail
  refine HE.out.mono ?_
  rintro e w2 ⟨rfl, hk2⟩
  go_wp2_with fail
  go_ret
  exact ⟨rfl, HK.out.trans hk2⟩

set_option maxHeartbeats 4000000 in
set_option maxRecDepth 100000 in
theorem rentry_any (t u : Int) (b : Bool) (A : Option Addr) (n c B : Nat) (x : List Sp) (w : World) (h : SpAt w B A n c x) (hn : n ≤ 1000) (hB : B ≤ w.heap.size) :
    Calls Try.prog 125 #[.agg #[.int .i64 t, .int .i64 u, .slice A n c, .bool b]] w fun e w' => e = .returned (.bool (entB (t, u, x, b))) ∧ Keep Never w w' := by
  have HN := Lib.hid (fun (W : World) (hk : Keep Never w W) => rnormal_any A n c B x W (h.keep hk) hn (Nat.le_trans hB hk.size))
  have HLl := Lib.hid h.len
  have HE : Hid (entB (t, u, x, b) = (timeB t && normB x && decide (0 ≤ u) && decide (u ≤ 1099511627776) && decide (0 < n))) := Lib.hid (by
    unfold entB timeB
    have := h.len
    simp only [this]
    cases decide (0 ≤ t) <;> cases decide (t ≤ 4294967294) <;> cases decide (0 ≤ u) <;> cases decide (u ≤ 1099511627776) <;> cases decide (0 < n) <;> cases normB x <;> rfl)
  clear h hB
  obtain ⟨w1, hw1⟩ : ∃ V : World, w.alloc (.cells #[.int .i64 t, .int .i64 u, .slice A n c, .bool b] 77) = V := ⟨_, rfl⟩
  have kw1 : Keep Never w w1 := by rw [← hw1]; exact (Keep.refl _ _).alloc _
  have bw1 := Blk.new w 77 #[.int .i64 t, .int .i64 u, .slice A n c, .bool b]
  rw [hw1] at bw1
  have HB1 := Lib.hid bw1
  have HK := Lib.hid kw1
  have y0 : w1.cell? ⟨w.heap.size, 0, none⟩ = some (.int .i64 t) := HB1.out.cell 0
  have y1 : w1.cell? ⟨w.heap.size, 1, none⟩ = some (.int .i64 u) := HB1.out.cell 1
  have y2 : w1.cell? ⟨w.heap.size, 2, none⟩ = some (.slice A n c) := HB1.out.cell 2
  clear kw1 bw1
  have HC := Lib.hid (rtime_any t w1)
  go_enter Try.func125, Try.ntmps125
  go_wp2_with fail
  refine HC.out.mono ?_
  rintro e w2 ⟨rfl, hk2⟩
  have HK2 := Lib.hid (HK.out.trans hk2)
  have HB2 := Lib.hid (HB1.out.keep hk2 (fun h => h))
  clear hk2 HC y0 y1 y2 hw1
  have y2 : w2.cell? ⟨w.heap.size, 2, none⟩ = some (.slice A n c) := HB2.out.cell 2
  have HC := Lib.hid (HN.out w2 HK2.out)
  go_wp2_with fail
  refine HC.out.mono ?_
  rintro e w3 ⟨rfl, hk3⟩
  have HK3 := Lib.hid (HK2.out.trans hk3)
  have HB3 := Lib.hid (HB2.out.keep hk3 (fun h => h))
  clear hk3 HC HN y2
  have y1 : w3.cell? ⟨w.heap.size, 1, none⟩ = some (.int .i64 u) := HB3.out.cell 1
  have y2 : w3.cell? ⟨w.heap.size, 2, none⟩ = some (.slice A n c) := HB3.out.cell 2
  obtain ⟨tb, htb⟩ : ∃ z, timeB t = z := ⟨_, rfl⟩
  obtain ⟨nb, hnb⟩ : ∃ z, normB x = z := ⟨_, rfl⟩
  rw [htb, hnb] at HE
  rw [htb, hnb]
  clear htb hnb
  cases tb with
  | false =>
    have HF : Hid (entB (t, u, x, b) = false) := Lib.hid (by rw [HE.out]; rfl)
    go_wp2_with fail
    go_ret
    exact ⟨by rw [HF.out]; rfl, HK3.out⟩
  | true =>
    cases nb with
    | false =>
      have HF : Hid (entB (t, u, x, b) = false) := Lib.hid (by rw [HE.out]; rfl)
      go_wp2_with fail
      go_ret
      exact ⟨by rw [HF.out]; rfl, HK3.out⟩
    | true =>
      by_cases g0 : 0 ≤ u
      case neg =>
        have t0 : decide (u ≥ 0) = false := by simpa using g0
        have HF : Hid (entB (t, u, x, b) = false) := Lib.hid (by rw [HE.out, decide_eq_false g0]; rfl)
        clear g0
        go_wp2_with fail
        go_ret
        exact ⟨by rw [HF.out]; rfl, HK3.out⟩
      have t0 : decide (u ≥ 0) = true := by simpa using g0
      by_cases g1 : u ≤ 1099511627776
      case neg =>
        have t1 : decide (u ≤ 1099511627776) = false := by simpa using g1
        have HF : Hid (entB (t, u, x, b) = false) := Lib.hid (by rw [HE.out, decide_eq_false g1]; simp)
        clear g0 g1
        go_wp2_with fail
        go_ret
        exact ⟨by rw [HF.out]; rfl, HK3.out⟩
      have t1 : decide (u ≤ 1099511627776) = true := by simpa using g1
      by_cases g2 : 0 < n
      · have t2 : decide (0 < n) = true := by simp; omega
        have HF : Hid (entB (t, u, x, b) = true) := Lib.hid (by rw [HE.out, decide_eq_true g0, decide_eq_true g1, decide_eq_true g2]; rfl)
        clear g0 g1 g2
        go_wp2_with fail
        go_ret
        exact ⟨by rw [HF.out]; rfl, HK3.out⟩
      · have t2 : decide (0 < n) = false := by simp; omega
        have HF : Hid (entB (t, u, x, b) = false) := Lib.hid (by rw [HE.out, decide_eq_false g2]; simp)
        clear g0 g1 g2
        go_wp2_with fail
        go_ret
        exact ⟨by rw [HF.out]; rfl, HK3.out⟩

set_option maxHeartbeats 4000000 in
set_option maxRecDepth 100000 in
theorem rlist_any (A : Option Addr) (n c B : Nat) (l : List Ent) (w : World) (h : repE.Sl w B A n c l) (hn : n ≤ 100000) (hx : ∀ e ∈ l, e.2.2.1.length ≤ 1000) (hB : B ≤ w.heap.size) :
    Calls Try.prog 86 #[.slice A n c] w fun e w' => e = .returned (.bool (listB 0 l)) ∧ Keep Never w w' := by
  have HE := Lib.hid h
  have HLl := Lib.hid h.len
  have Hx := Lib.hid hx
  have HBw := Lib.hid hB
  clear h hx hB
  go_enter Try.func86, Try.ntmps86
  go_wp2_with fail
  go_loopw [3, 4] (fun i _m wr => ∃ k : Nat, k ≤ n ∧ i = .int .i64 k ∧ Hid (Keep Never w wr ∧ listB 0 (l.take k) = true)) (fun i _ _ => n - (intOf i).toNat)
  case atStart => exact ⟨0, by omega, rfl, Lib.hid ⟨Keep.refl _ _, rfl⟩⟩
  case round =>
    obtain ⟨k, hk, rfl, HH⟩ := hrel
    by_cases h0 : k < n
    · have hkz : (k : Int) < (n : Int) := by omega
      obtain ⟨ad, e, A2, n2, c2, hA, _, he, c0, c1, c2', c3, hsp⟩ := ent_at (HE.out.keep HH.out.1 (fun _ h => h.elim)) h0
      subst hA
      obtain ⟨e0, e1, x, e3⟩ := e
      simp only at c0 c1 c2' c3 hsp
      have Hee := Lib.hid he
      have hn2 : n2 ≤ 1000 := by have := Hx.out _ (List.mem_of_getElem? he); have := hsp.len; simp only at *; omega
      have HC := Lib.hid (rentry_any e0 e1 e3 A2 n2 c2 B x wr hsp hn2 (Nat.le_trans HBw.out HH.out.1.size))
      clear he hsp hn2
      go_wp2_with fail
      refine HC.out.mono ?_
      rintro e w2 ⟨rfl, hk2⟩
      have HK2 := Lib.hid (HH.out.1.trans hk2)
      clear hk2 HC c0 c1 c2' c3
      have HT := Lib.hid (listB_take (t := 0) Hee.out)
      cases hb : entB (e0, e1, x, e3) with
      | false =>
        have HF : Hid (listB 0 l = false) := Lib.hid (listB_cut (k := k + 1) (by rw [HT.out, hb]; simp))
        clear hb
        go_wp2_with fail
        go_quiet (fail)
        go_wp2_with fail
        go_ret
        exact ⟨by rw [HF.out]; rfl, HK2.out.drewN _⟩
      | true =>
        obtain ⟨ad', e', A2', n2', c2', hA', _, he', c0, _, _, _, _⟩ := ent_at (HE.out.keep HK2.out (fun _ h => h.elim)) h0
        injection hA' with hA'
        subst hA'
        rw [Hee.out] at he'
        injection he' with he'
        subst he'
        simp only at c0
        cases k with
        | zero =>
          have HN : Hid (listB 0 (l.take (0 + 1)) = true) := Lib.hid (by
            rw [HT.out, hb]
            have := (entB_iff.1 hb).1
            simp [lastT]; simp at this; simpa [listB] using this)
          clear hb
          go_wp2_with fail
          go_quiet (fail)
          go_wp2_with fail
          refine ⟨⟨0 + 1, by omega, by go_num, Lib.hid ⟨HK2.out.drewN _, HN.out⟩⟩, ?_⟩
          simp [intOf]; try omega
        | succ m =>
          obtain ⟨ad3, f, A3, n3, c3, hA3, _, hf, d0, _, _, _, _⟩ := ent_at (HE.out.keep HK2.out (fun _ h => h.elim)) (show m < n by omega)
          injection hA3 with hA3
          subst hA3
          obtain ⟨f0, f1, fx, f3⟩ := f
          simp only at d0
          have HL2 : Hid (lastT 0 (l.take (m + 1)) = f0) := Lib.hid (by rw [take_ent hf, lastT_app]; rfl)
          have hz0 : (0 : Int) < (m : Int) + 1 := by omega
          have hz1 : decide ((0 : Int) < (m : Int) + 1) = true := decide_eq_true hz0
          have hz5 : IntKind.i64.wrap ((m : Int) + 1 - 1) = (m : Int) := by rw [show (m : Int) + 1 - 1 = m by omega]; exact IntWalk.i64_in _ (by omega)
          have hz6 : IntKind.i64.wrap (m : Int) = (m : Int) := IntWalk.i64_in _ (by omega)
          have hz7 : (0 : Int) ≤ (m : Int) + 1 := by omega
          have hz8 : ((m : Int) + 1).toNat = m + 1 := by omega
          have hz9 : (m : Int) < (n : Int) := by omega
          by_cases hl : e0 < f0
          · have t1 : decide (e0 < f0) = true := by simpa using hl
            have HF : Hid (listB 0 l = false) := Lib.hid (listB_cut (k := m + 1 + 1) (by rw [HT.out, HL2.out]; simp; intros; omega))
            clear hb hl hf
            go_wp2_with fail
            go_quiet (fail)
            go_wp2_with fail
            go_ret
            exact ⟨by rw [HF.out]; rfl, HK2.out.drewN _⟩
          · have t1 : decide (e0 < f0) = false := by simpa using hl
            have HN : Hid (listB 0 (l.take (m + 1 + 1)) = true) := Lib.hid (by rw [HT.out, HL2.out, hb, HH.out.2]; simp; omega)
            clear hb hl hf
            go_wp2_with fail
            go_quiet (fail)
            go_wp2_with fail
            refine ⟨⟨m + 1 + 1, by omega, by go_num, Lib.hid ⟨HK2.out.drewN _, HN.out⟩⟩, ?_⟩
            simp [intOf]; try omega
    · obtain rfl : k = n := by omega
      have hkz : ¬ (k : Int) < (k : Int) := by omega
      have HF : Hid (listB 0 l = true) := Lib.hid (by have := HH.out.2; rwa [List.take_of_length_le (by rw [HLl.out]; exact Nat.le_refl _)] at this)
      go_wp2_with fail
      go_ret
      exact ⟨by rw [HF.out]; rfl, HH.out.1⟩

/-- what is asked of a ledger's size, for the document -/
structure LdT (x : LA) (l : Ldg) : Prop where
  n : x.n ≤ 100000
  e : ∀ e ∈ l.1, e.2.2.1.length ≤ 1000
  h : x.n2 ≤ 1000
set_option maxHeartbeats 4000000 in
set_option maxRecDepth 100000 in
theorem rMay_any (x : LA) (l : Ldg) (B : Nat) (w : World) (h : LdAt w B x l) (hs : LdT x l) (hB : B ≤ w.heap.size) :
    Calls Try.prog 32 #[.agg x.cs] w fun e w' => e = .returned (.bool (mayL l)) ∧ Keep Never w w' := by
  have HE := Lib.hid (fun (W : World) (hk : Keep Never w W) => rlist_any x.A x.n x.c B l.1 W ((h.keep hk).e) hs.n hs.e (Nat.le_trans hB hk.size))
  have HN := Lib.hid (fun (W : World) (hk : Keep Never w W) => rnormal_any x.A2 x.n2 x.c2 B l.2.1 W ((h.keep hk).h) hs.h (Nat.le_trans hB hk.size))
  have HLl := Lib.hid (And.intro h.e.len h.h.len)
  have HKn := Lib.hid h.k
  obtain ⟨A, n, c, A2, n2, c2, k⟩ := x
  obtain ⟨es, hr, kn⟩ := l
  simp only [LA.cs] at HE HN HLl HKn ⊢
  obtain rfl := HKn.out
  clear h hB hs HKn
  have HM : Hid (mayL (es, hr, k) = (listB 0 es && normB hr && decide (n ≤ 32) && (k || decide (n2 = 0)))) := Lib.hid (by
    have h1 := HLl.out
    unfold mayL
    simp only [← h1.1, h1.2]
    cases decide (n ≤ 32) <;> cases listB 0 es <;> cases normB hr <;> rfl)
  obtain ⟨w1, hw1⟩ : ∃ V : World, w.alloc (.cells #[.slice A n c, .slice A2 n2 c2, .bool k] 53) = V := ⟨_, rfl⟩
  have kw1 : Keep Never w w1 := by rw [← hw1]; exact (Keep.refl _ _).alloc _
  have bw1 := Blk.new w 53 #[.slice A n c, .slice A2 n2 c2, .bool k]
  rw [hw1] at bw1
  have HB1 := Lib.hid bw1
  have HK := Lib.hid kw1
  have y0 : w1.cell? ⟨w.heap.size, 0, none⟩ = some (.slice A n c) := HB1.out.cell 0
  have y1 : w1.cell? ⟨w.heap.size, 1, none⟩ = some (.slice A2 n2 c2) := HB1.out.cell 1
  have y2 : w1.cell? ⟨w.heap.size, 2, none⟩ = some (.bool k) := HB1.out.cell 2
  clear kw1 bw1
  have HC := Lib.hid (HE.out w1 HK.out)
  go_enter Try.func32, Try.ntmps32
  go_wp2_with fail
  refine HC.out.mono ?_
  rintro e w2 ⟨rfl, hk2⟩
  have HK2 := Lib.hid (HK.out.trans hk2)
  have HB2 := Lib.hid (HB1.out.keep hk2 (fun h => h))
  clear hk2 HC y0 y1 y2 hw1
  have v1 : w2.cell? ⟨w.heap.size, 1, none⟩ = some (.slice A2 n2 c2) := HB2.out.cell 1
  have HC := Lib.hid (HN.out w2 HK2.out)
  go_wp2_with fail
  refine HC.out.mono ?_
  rintro e w3 ⟨rfl, hk3⟩
  have HK3 := Lib.hid (HK2.out.trans hk3)
  have HB3 := Lib.hid (HB2.out.keep hk3 (fun h => h))
  clear hk3 HC HN HE v1
  have v0 : w3.cell? ⟨w.heap.size, 0, none⟩ = some (.slice A n c) := HB3.out.cell 0
  have v1 : w3.cell? ⟨w.heap.size, 1, none⟩ = some (.slice A2 n2 c2) := HB3.out.cell 1
  have v2 : w3.cell? ⟨w.heap.size, 2, none⟩ = some (.bool k) := HB3.out.cell 2
  obtain ⟨tb, htb⟩ : ∃ z, listB 0 es = z := ⟨_, rfl⟩
  obtain ⟨nb, hnb⟩ : ∃ z, normB hr = z := ⟨_, rfl⟩
  rw [htb, hnb] at HM
  rw [htb, hnb]
  clear htb hnb
  cases tb with
  | false =>
    have HF : Hid (mayL (es, hr, k) = false) := Lib.hid (by rw [HM.out]; rfl)
    go_wp2_with fail
    go_ret
    exact ⟨by rw [HF.out]; rfl, HK3.out⟩
  | true =>
    cases nb with
    | false =>
      have HF : Hid (mayL (es, hr, k) = false) := Lib.hid (by rw [HM.out]; rfl)
      go_wp2_with fail
      go_ret
      exact ⟨by rw [HF.out]; rfl, HK3.out⟩
    | true =>
      by_cases g0 : n ≤ 32
      case neg =>
        have t0 : decide ((n : Int) ≤ 32) = false := by simp; omega
        have HF : Hid (mayL (es, hr, k) = false) := Lib.hid (by rw [HM.out, decide_eq_false g0]; rfl)
        clear g0
        go_wp2_with fail
        go_ret
        exact ⟨by rw [HF.out]; rfl, HK3.out⟩
      have t0 : decide ((n : Int) ≤ 32) = true := by simp; omega
      cases k with
      | true =>
        have HF : Hid (mayL (es, hr, true) = true) := Lib.hid (by rw [HM.out, decide_eq_true g0]; rfl)
        clear g0
        go_wp2_with fail
        go_ret
        exact ⟨by rw [HF.out]; rfl, HK3.out⟩
      | false =>
        by_cases g1 : n2 = 0
        · have t1 : ((n2 : Int) == 0) = true := by simp; omega
          have HF : Hid (mayL (es, hr, false) = true) := Lib.hid (by rw [HM.out, decide_eq_true g0, decide_eq_true g1]; rfl)
          clear g0 g1
          go_wp2_with fail
          go_ret
          exact ⟨by rw [HF.out]; rfl, HK3.out⟩
        · have t1 : ((n2 : Int) == 0) = false := by simp; omega
          have HF : Hid (mayL (es, hr, false) = false) := Lib.hid (by rw [HM.out, decide_eq_true g0, decide_eq_false g1]; rfl)
          clear g0 g1
          go_wp2_with fail
          go_ret
          exact ⟨by rw [HF.out]; rfl, HK3.out⟩
end Go.Proofs.Ytlcbajdckgcopaa
