/- Chapter 15: span.Over. -/
import Derived.Test.YtijdkjcjhfebfaaGreatTopH
namespace Go.Proofs.YtijdkjcjhfebfaaGreat
open Go.RowKit

def overK (es : List Int) (lo hi : Int) (p : List Stp) : Nat → List Sp
  | 0 => []
  | k + 1 => overK es lo hi p k ++ (match p[k]? with | some s => [cutS es lo hi (sumM es (p.take k)) s] | none => [])
theorem overK_len (es : List Int) (lo hi : Int) (p : List Stp) : ∀ k, (overK es lo hi p k).length ≤ k
  | 0 => Nat.le_refl _
  | k + 1 => by
    have := overK_len es lo hi p k
    unfold overK
    rw [List.length_append]
    cases p[k]? <;> simp <;> omega
theorem overK_at {es : List Int} {lo hi : Int} {p : List Stp} {k : Nat} {s : Stp} (h : p[k]? = some s) : overK es lo hi p (k + 1) = overK es lo hi p k ++ [cutS es lo hi (sumM es (p.take k)) s] := by
  conv => lhs; unfold overK
  rw [h]
/-- lengths that are right, steps that are there -/
def goodM (es : List Int) (p : List Stp) : Prop := (∀ v ∈ es, 1 ≤ v ∧ v ≤ 1000000) ∧ (∀ s ∈ p, thereB es.length s.1 = true) ∧ p.length ≤ 40
theorem good_at {es : List Int} {p : List Stp} (h : goodM es p) {k : Nat} {s : Stp} (hs : p[k]? = some s) : ∃ j : Nat, s.1 = (j : Int) ∧ j < es.length ∧ ∃ v, es[j]? = some v ∧ 1 ≤ v ∧ v ≤ 1000000 ∧ es.getD s.1.toNat 0 = v := by
  have h1 := h.2.1 s (List.mem_of_getElem? hs)
  unfold thereB at h1
  rw [Bool.and_eq_true, decide_eq_true_eq, decide_eq_true_eq] at h1
  obtain ⟨j, hj⟩ : ∃ j : Nat, s.1 = (j : Int) := ⟨s.1.toNat, by omega⟩
  have hl : j < es.length := by omega
  have hv : es[j]? = some es[j] := List.getElem?_eq_getElem hl
  have h2 := h.1 _ (List.getElem_mem hl)
  exact ⟨j, hj, hl, _, hv, h2.1, h2.2, by rw [hj, List.getD_eq_getElem?_getD, Int.toNat_natCast, hv]; rfl⟩
theorem sum_good {es : List Int} {p : List Stp} (h : goodM es p) : ∀ k, k ≤ p.length → 0 ≤ sumM es (p.take k) ∧ sumM es (p.take k) ≤ 1000000 * k
  | 0, _ => by simp [sumM]
  | k + 1, hk => by
    obtain ⟨i1, i2⟩ := sum_good h k (by omega)
    have hs : p[k]? = some p[k] := List.getElem?_eq_getElem (by omega)
    obtain ⟨j, _, _, v, _, h1, h2, h3⟩ := good_at h hs
    rw [sumM_take hs, h3, IntWalk.i64_in _ (by have := h.2.2; omega)]
    omega
theorem sum_step {es : List Int} {p : List Stp} (h : goodM es p) {k : Nat} {s : Stp} (hs : p[k]? = some s) : sumM es (p.take (k + 1)) = sumM es (p.take k) + es.getD s.1.toNat 0 := by
  have hk : k < p.length := (List.getElem?_eq_some_iff.1 hs).1
  obtain ⟨i1, i2⟩ := sum_good h k (by omega)
  obtain ⟨j, _, _, v, _, h1, h2, h3⟩ := good_at h hs
  rw [sumM_take hs, h3, IntWalk.i64_in _ (by have := h.2.2; omega)]
/-- what Over answers -/
def OverRet (t : Tp) (p : List Stp) (lo hi : Int) (w : World) (e : Ending) (w' : World) : Prop :=
  ∃ m A n c, e = .returned (.tuple #[.slice A n c, .int .i64 (overE t p lo hi)]) ∧ Hid (n = m.length) ∧ Hid (n ≤ 100000000) ∧ SpAt w' w'.heap.size A n c m ∧ Keep Never w w' ∧ Hid (if overE t p lo hi = 0 then NormOf (overK t.1 lo hi p p.length) m else m = [])
theorem over_err {t : Tp} {p : List Stp} {lo hi : Int} {w w' : World} {e : Int} (h : overE t p lo hi = e) (he : e ≠ 0) (hk : Keep Never w w') : OverRet t p lo hi w (.returned (.tuple #[.slice none 0 0, .int .i64 e])) w' :=
  ⟨[], none, 0, 0, by rw [h], Lib.hid rfl, Lib.hid (by omega), nilAt w', hk, Lib.hid (by rw [if_neg (by rw [h]; exact he)])⟩
theorem len_good {t : Tp} {p : List Stp} (h : (lenM t p).2 = 0) (hw : t.1.any wrongB = false) : goodM t.1 p ∧ (lenM t p).1 = sumM t.1 p := by
  unfold lenM at h ⊢
  split at h
  · simp at h
  · rename_i h0
    rw [if_neg h0]
    split at h
    · rename_i h1
      rw [if_pos h1]
      split at h
      · rename_i h2
        rw [if_pos h2]
        refine ⟨⟨fun v hv => ?_, fun s hs => ?_, by omega⟩, rfl⟩
        · have := (List.any_eq_false.1 hw) v hv
          unfold wrongB at this
          simp only [Bool.or_eq_true, decide_eq_true_eq, not_or] at this
          omega
        · exact List.all_eq_true.1 h1 s hs
      · simp at h
    · simp at h

set_option maxHeartbeats 4000000 in
set_option maxRecDepth 100000 in
theorem over_any (x : TA) (t : Tp) (B : Nat) (A : Option Addr) (n c : Nat) (p : List Stp) (lo hi : Int) (w : World) (ht : TpAt w B x t) (hp : repStp.Sl w B A n c p) (hn : x.nj ≤ 100000000) (hn1 : x.ne ≤ 100000000) (hn2 : n ≤ 100000000) (_hB : B ≤ w.heap.size)
    (l1 : -9223372036854775808 ≤ lo) (l2 : lo ≤ 9223372036854775807) (l3 : -9223372036854775808 ≤ hi) (l4 : hi ≤ 9223372036854775807) :
    Calls Tryz.prog 40 #[.agg x.cs, .slice A n c, .int .i64 lo, .int .i64 hi] w (OverRet t p lo hi w) := by
  have HLn : Hid (∀ (w' : World), Keep Never w w' → Calls Tryz.prog 39 #[.agg x.cs, .slice A n c] w' fun e w'' => e = .returned (.tuple #[.int .i64 (lenM t p).1, .int .i64 (lenM t p).2]) ∧ Keep Never w' w'') := Lib.hid (fun w' h => length_any x t B A n c p w' (ht.keep h) (hp.keep h (fun _ h => h.elim)) hn hn2)
  have HE := Lib.hid ht.e
  have HPl : Hid (n = p.length) := Lib.hid hp.len
  obtain ⟨Ae, ne, ce, Aj, nj, cj, Ab, nb, cb, Ar, nr, cr⟩ := x
  simp only [TA.cs] at HLn HE hn1 ⊢
  have HWr : Hid (∀ (w' : World), Keep Never w w' → Calls Tryz.prog 54 #[.slice Ae ne ce, .func (.func 66) #[] #[]] w' fun e w'' => e = .returned (.bool (t.1.any wrongB)) ∧ Keep Never w' w'') := Lib.hid (fun w' h => wrong_any Ae ne ce B t.1 w' (int_rd (HE.out.keep h (fun _ h => h.elim))) (by omega))
  obtain ⟨wb, hwb⟩ : ∃ wb : World, w.alloc (.cells #[.slice Ae ne ce, .slice Aj nj cj, .slice Ab nb cb, .slice Ar nr cr] 27) = wb := ⟨_, rfl⟩
  have k1 : Keep Never w wb := by rw [← hwb]; exact (Keep.refl _ _).alloc _
  have b1' := Blk.new w 27 #[.slice Ae ne ce, .slice Aj nj cj, .slice Ab nb cb, .slice Ar nr cr]
  rw [hwb] at b1'
  have y0 : wb.cell? ⟨w.heap.size, 0, none⟩ = some (.slice Ae ne ce) := b1'.cell 0
  have y1 : wb.cell? ⟨w.heap.size, 1, none⟩ = some (.slice Aj nj cj) := b1'.cell 1
  have y2 : wb.cell? ⟨w.heap.size, 2, none⟩ = some (.slice Ab nb cb) := b1'.cell 2
  have y3 : wb.cell? ⟨w.heap.size, 3, none⟩ = some (.slice Ar nr cr) := b1'.cell 3
  have HB := Lib.hid b1'
  have HK := Lib.hid k1
  have HP := Lib.hid (hp.keep k1 (fun _ h => h.elim))
  have HEb := Lib.hid (HE.out.keep k1 (fun _ h => h.elim))
  have HC := Lib.hid (HLn.out wb k1)
  obtain ⟨all, hall⟩ : ∃ z, (lenM t p).1 = z := ⟨_, rfl⟩
  obtain ⟨er, her⟩ : ∃ z, (lenM t p).2 = z := ⟨_, rfl⟩
  have HAl := Lib.hid hall
  have HEr := Lib.hid her
  rw [hall, her] at HC
  clear k1 b1' hp ht HE HLn hall her
  go_enter Tryz.func40, Tryz.ntmps40
  go_wp2_with fail
  refine HC.out.mono ?_
  rintro e w1 ⟨rfl, hk1⟩
  have HK1 := Lib.hid (HK.out.trans hk1)
  have HB1 := Lib.hid (HB.out.keep hk1 (fun h => h))
  have y0 : w1.cell? ⟨w.heap.size, 0, none⟩ = some (.slice Ae ne ce) := HB1.out.cell 0
  have HKb := Lib.hid hk1
  have HC2 := Lib.hid (HWr.out w1 HK1.out)
  clear hk1 HC
  by_cases g0 : er = 0
  case neg =>
    have t0 : (er != 0) = true := by simpa using g0
    have t0' : (er == 0) = false := by simpa using g0
    have HF : Hid (overE t p lo hi = er ∧ er ≠ 0) := Lib.hid ⟨by unfold overE; rw [HEr.out, if_pos g0], g0⟩
    clear g0
    go_wp2_with fail
    go_ret2
    exact over_err HF.out.1 HF.out.2 HK1.out
  subst g0
  go_wp2_with fail
  refine HC2.out.mono ?_
  rintro e w2 ⟨rfl, hk2⟩
  have HK2 := Lib.hid (HK1.out.trans hk2)
  have HKb2 := Lib.hid (HKb.out.trans hk2)
  clear hk2 HC2 y0 HKb HB1 HWr HK1
  cases hwr : t.1.any wrongB with
  | true =>
    have HF : Hid (overE t p lo hi = 1) := Lib.hid (by unfold overE; rw [HEr.out, if_neg (by simp), if_pos (.inl hwr)])
    clear hwr
    go_wp2_with fail
    go_ret2
    exact over_err HF.out (by omega) HK2.out
  | false =>
    have HWf := Lib.hid hwr
    clear hwr
    by_cases g1 : lo < 0
    · have t1 : decide (lo < 0) = true := by simpa using g1
      have HF : Hid (overE t p lo hi = 1) := Lib.hid (by unfold overE; rw [HEr.out, if_neg (by simp), if_pos (.inr (.inl g1))])
      clear g1
      go_wp2_with fail
      go_ret2
      exact over_err HF.out (by omega) HK2.out
    have t1 : decide (lo < 0) = false := by simpa using g1
    by_cases g2 : lo > hi
    · have t2 : decide (lo > hi) = true := by simpa using g2
      have HF : Hid (overE t p lo hi = 1) := Lib.hid (by unfold overE; rw [HEr.out, if_neg (by simp), if_pos (.inr (.inr (.inl g2)))])
      clear g1 g2
      go_wp2_with fail
      go_ret2
      exact over_err HF.out (by omega) HK2.out
    have t2 : decide (lo > hi) = false := by simpa using g2
    by_cases g3 : hi > all
    · have t3 : decide (hi > all) = true := by simpa using g3
      have HF : Hid (overE t p lo hi = 1) := Lib.hid (by unfold overE; rw [HEr.out, if_neg (by simp), if_pos (.inr (.inr (.inr (by rw [HAl.out]; exact g3))))])
      clear g1 g2 g3
      go_wp2_with fail
      go_ret2
      exact over_err HF.out (by omega) HK2.out
    have t3 : decide (hi > all) = false := by simpa using g3
    have HF : Hid (overE t p lo hi = 0) := Lib.hid (by
      unfold overE
      rw [HEr.out, if_neg (by simp), if_neg]
      rintro (h | h | h | h)
      · rw [HWf.out] at h; cases h
      · exact g1 h
      · exact g2 h
      · exact g3 (by rw [← HAl.out]; exact h))
    obtain ⟨hgd, hsm⟩ := len_good HEr.out HWf.out
    have HGd := Lib.hid hgd
    have hn40 : n ≤ 40 := by have := hgd.2.2; have := HPl.out; omega
    have h00 : 0 ≤ lo := by omega
    have h01 : lo ≤ hi := by omega
    have h02 : hi ≤ 40000000 := by
      have h := (sum_good hgd p.length (Nat.le_refl _)).2
      rw [List.take_length, ← hsm, HAl.out] at h
      have := hgd.2.2
      omega
    clear g1 g2 g3 hgd hsm l1 l2 l3 l4
    go_wp2_with fail
    clear t1 t2 t3
    rename World => w2
    go_loopw [13, 14, 16, 17, 18, 48] (fun ov av _ _ _ i wr => ∃ (k no co : Nat) (Ao : Option Addr), k ≤ n ∧ i = .int .i64 k ∧ av = .int .i64 (sumM t.1 (p.take k)) ∧ ov = .slice Ao no co ∧ no ≤ k ∧
      Hid (Keep Never w2 wr ∧ Own wr w2.heap.size 68 3 Ao no co (spCells (overK t.1 lo hi p k)) ∧ no = (overK t.1 lo hi p k).length)) (fun _ _ _ _ _ i _ => n - (intOf i).toNat)
    case atStart => exact ⟨0, 0, 0, none, by omega, rfl, rfl, rfl, by omega, Lib.hid ⟨Keep.refl _ _, Own.nil _ _ _ _, rfl⟩⟩
    case round =>
      obtain ⟨k, no, co, Ao, hk, rfl, rfl, rfl, hno, HH⟩ := hrel
      obtain ⟨hkr, ho, hol⟩ := HH.out
      by_cases h0 : k < n
      · have hkz : (k : Int) < (n : Int) := by omega
        obtain ⟨ad, s, hA, hab, hs, c0, c1, _⟩ := stp_at (HP.out.keep (HKb2.out.trans hkr) (fun _ h => h.elim)) h0
        subst hA
        obtain ⟨j, hj, hjl, v, hv, v1, v2, hgv⟩ := good_at HGd.out hs
        have hst := sum_step HGd.out hs
        have hrg := sum_good HGd.out k (by have := HPl.out; omega)
        have hov := overK_at (es := t.1) (lo := lo) (hi := hi) hs
        rw [hgv] at hst
        obtain ⟨s1, rv⟩ := s
        simp only at c0 c1 hj
        subst hj
        have hcut : cutS t.1 lo hi (sumM t.1 (p.take k)) ((j : Int), rv) = if rv = true then ((j : Int), v - min (hi - sumM t.1 (p.take k)) v, v - max (lo - sumM t.1 (p.take k)) 0) else ((j : Int), max (lo - sumM t.1 (p.take k)) 0, min (hi - sumM t.1 (p.take k)) v) := by
          unfold cutS; simp only at hgv ⊢; rw [hgv]
        rw [hcut] at hov
        generalize sumM t.1 (p.take k) = S at *
        obtain ⟨mx, hmx⟩ : ∃ z, max (lo - S) 0 = z := ⟨_, rfl⟩
        obtain ⟨mn, hmn⟩ : ∃ z, min (hi - S) v = z := ⟨_, rfl⟩
        rw [hmx, hmn] at hov
        have hjn : j < ne := by have := HEb.out.len; omega
        obtain ⟨ad2, v', hA2, _, hv', d0⟩ := (int_rd (HEb.out.keep (HKb2.out.trans hkr) (fun _ h => h.elim))).at1 hjn
        subst hA2
        obtain rfl : v = v' := by rw [hv] at hv'; injection hv'
        have hjz : (j : Int) < (ne : Int) := by omega
        have hj0 : (0 : Int) ≤ (j : Int) := by omega
        have hS1 := hrg.1
        have hS2 : S ≤ 40000000 := by have := hrg.2; omega
        have hmx1 : 0 ≤ mx := by omega
        have hmx2 : mx ≤ 40000000 := by omega
        have hmn1 : -40000000 ≤ mn := by omega
        have hmn2 : mn ≤ 1000000 := by omega
        have HSt := Lib.hid hst
        have HOv := Lib.hid hov
        have HO := Lib.hid ho
        have HOl := Lib.hid hol
        have HKr := Lib.hid hkr
        have y0 : wr.cell? ⟨w.heap.size, 0, none⟩ = some (.slice (some ad2) ne ce) := (HB.out.keep (HKb2.out.trans hkr) (fun h => h)).cell 0
        have HD0 := Lib.hid d0
        have HY0 := Lib.hid y0
        obtain ⟨w3, hw3⟩ : ∃ w3 : World, wr.alloc (.cells #[.int .i64 (j : Int), .bool rv] 81) = w3 := ⟨_, rfl⟩
        obtain ⟨w4, hw4⟩ : ∃ w4 : World, w3.alloc (.cells #[.int .i64 (j : Int), .int .i64 mx, .int .i64 mn] 68) = w4 := ⟨_, rfl⟩
        have s3 : w3.heap.size = wr.heap.size + 1 := by rw [← hw3]; simp
        have k3 : Keep Never wr w3 := by rw [← hw3]; exact (Keep.refl _ _).alloc _
        have k4 : Keep Never w3 w4 := by rw [← hw4]; exact (Keep.refl _ _).alloc _
        have b3 := Blk.new wr 81 #[.int .i64 (j : Int), .bool rv]
        rw [hw3] at b3
        have b4 := Blk.new w3 68 #[.int .i64 (j : Int), .int .i64 mx, .int .i64 mn]
        rw [hw4, s3] at b4
        have z0 : w3.cell? ⟨wr.heap.size, 0, none⟩ = some (.int .i64 (j : Int)) := b3.cell 0
        have z1 : w4.cell? ⟨wr.heap.size, 1, none⟩ = some (.bool rv) := (b3.keep k4 (fun h => h)).cell 1
        have z01 : w3.cell? ⟨wr.heap.size, 1, none⟩ = some (.bool rv) := b3.cell 1
        have g0 := b3.frozen 0
        have g1 := b3.frozen 1
        have f0 := b4.frozen 0
        have z2 : w3.cell? ⟨w.heap.size, 0, none⟩ = some (.slice (some ad2) ne ce) := keepT k3 HY0.out
        have z3 := keepT k3 HD0.out
        have q0 : w4.cell? ⟨wr.heap.size + 1, 0, none⟩ = some (.int .i64 (j : Int)) := b4.cell 0
        have q1 : w4.cell? ⟨wr.heap.size + 1, 1, none⟩ = some (.int .i64 mx) := b4.cell 1
        have q2 : w4.cell? ⟨wr.heap.size + 1, 2, none⟩ = some (.int .i64 mn) := b4.cell 2
        have f1 := b4.frozen 1
        have f2 := b4.frozen 2
        have HB4 := Lib.hid b4
        have HK4 := Lib.hid (k3.trans k4)
        clear hs hab hv hv' hgv hcut hst hrg hov ho hol hkr y0 d0 k3 k4 b3 b4 HH
        have HKT : Hid (Keep Never wr ((w4.setCell ⟨wr.heap.size + 1, 1, none⟩ (.int .i64 (v - mn))).setCell ⟨wr.heap.size + 1, 2, none⟩ (.int .i64 (v - mx)))) := Lib.hid ((HK4.out.set_ (p := ⟨wr.heap.size + 1, 1, none⟩) (.inr (by show wr.heap.size ≤ wr.heap.size + 1; omega)) _).set_ (p := ⟨wr.heap.size + 1, 2, none⟩) (.inr (by show wr.heap.size ≤ wr.heap.size + 1; omega)) _)
        have HOT := Lib.hid (HO.out.keep HKT.out (fun _ _ h => h))
        have HOF := Lib.hid (HO.out.keep HK4.out (fun _ _ h => h))
        have HKT2 := Lib.hid (HKr.out.trans HKT.out)
        have HKF2 := Lib.hid (HKr.out.trans HK4.out)
        go_wp2_with (first | (refine wpList_app _ rfl (.tmp 82) (.tmp 84) _ rfl elemSp w2.heap.size (A := Ao) (n := no) (c := co) (by go_simp) (HOT.out.alloc _) _ (A' := some ⟨_, 0, none⟩) (m := 1) (c' := 1) (news := [.int .i64 (j : Int), .int .i64 (v - mn), .int .i64 (v - mx)]) (by go_simp) (Rd.of_blk (n := 1) (cs := [.int .i64 (j : Int), .int .i64 (v - mn), .int .i64 (v - mx)]) (Blk.new _ _ _) rfl) (by simp [Value.oneCell']) (by omega) (by unfold maxLen; omega) (by have := HKT2.out.size; simp at this ⊢; omega) ?_; intro A10 c10 w10 hown10 hk10 hrow10; have hkk : Keep Never w2 w10 := (HKT2.out.alloc _).then_ hk10 (fun i hi h => by have := (HO.out.row h).1; omega)) | (refine wpList_app _ rfl (.tmp 82) (.tmp 84) _ rfl elemSp w2.heap.size (A := Ao) (n := no) (c := co) (by go_simp) (HOF.out.alloc _) _ (A' := some ⟨_, 0, none⟩) (m := 1) (c' := 1) (news := [.int .i64 (j : Int), .int .i64 (mx), .int .i64 (mn)]) (by go_simp) (Rd.of_blk (n := 1) (cs := [.int .i64 (j : Int), .int .i64 (mx), .int .i64 (mn)]) (Blk.new _ _ _) rfl) (by simp [Value.oneCell']) (by omega) (by unfold maxLen; omega) (by have := HKF2.out.size; simp at this ⊢; omega) ?_; intro A10 c10 w10 hown10 hk10 hrow10; have hkk : Keep Never w2 w10 := (HKF2.out.alloc _).then_ hk10 (fun i hi h => by have := (HO.out.row h).1; omega)))
        all_goals
          refine ⟨⟨k + 1, no + 1, c10, A10, by omega, by go_num, by rw [HSt.out], rfl, by omega, Lib.hid ⟨hkk, ?_, ?_⟩⟩, ?_⟩
          · rw [HOv.out]
            by_cases hrv : rv = true
            · rw [if_pos hrv]
              first | (simpa [spCells, spCell] using hown10) | contradiction | (simp_all; done)
            · rw [if_neg hrv]
              first | (simpa [spCells, spCell] using hown10) | contradiction | (simp_all; done)
          · rw [HOv.out, List.length_append, ← HOl.out]; rfl
          · simp [intOf]; try omega
      · obtain rfl : k = n := by omega
        have hkz : ¬ (k : Int) < (k : Int) := by omega
        have HKr := Lib.hid (HK2.out.trans hkr)
        have hol2 : no ≤ 40 := by omega
        have hsp := SpAt.of_own ho
        have HN := Lib.hid (norm_any Ao no co _ (overK t.1 lo hi p k) wr hsp.rd hsp.nil hsp.cap (by omega) (Nat.le_refl _))
        have HOl := Lib.hid hol
        clear hkr ho hol hsp HH
        go_wp2_with fail
        refine HN.out.mono ?_
        rintro e w5 hr5
        obtain ⟨m, A5, n5, c5, rfl, hn5, hs5, hk5, hp5, hl5⟩ := hr5.ans
        have HS5 := Lib.hid hs5
        have HK5 := Lib.hid (HKr.out.trans hk5)
        have HP5 := Lib.hid hp5
        have hl6 : n5 ≤ 100000000 := by have := hn5.out; have := HOl.out; omega
        clear hr5 hs5 hk5 hp5 HN hl5
        go_wp2_with fail
        go_ret2
        exact ⟨m, A5, n5, c5, by rw [HF.out]; rfl, hn5, Lib.hid hl6, HS5.out, HK5.out, Lib.hid (by rw [if_pos HF.out, ← HPl.out]; exact HP5.out)⟩

end Go.Proofs.YtijdkjcjhfebfaaGreat
