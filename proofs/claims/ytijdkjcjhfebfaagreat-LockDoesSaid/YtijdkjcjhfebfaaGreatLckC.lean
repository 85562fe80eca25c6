/- Chapter 16 (lock): those, Of, locked, numbered, New, Extent, met. -/
import Derived.Test.YtijdkjcjhfebfaaGreatLckB
namespace Go.Proofs.YtijdkjcjhfebfaaGreat
open Go.RowKit

/-- spans are answered -/
def SpsRet (m : List Sp) (w : World) (e : Ending) (w' : World) : Prop := ∃ A n c, e = .returned (.slice A n c) ∧ Hid (n = m.length) ∧ SpAt w' w'.heap.size A n c m ∧ Keep Never w w'
/-- lockings are answered, in a row of their own -/
def LksRet (m : List Lk) (w : World) (e : Ending) (w' : World) : Prop := ∃ A n c, e = .returned (.slice A n c) ∧ Hid (n = m.length) ∧ Own w' w.heap.size 63 3 A n c (spCells m) ∧ Keep Never w w'
theorem extM_len {t : Tp} {N : Nat} (h : ∀ r ∈ t.2.2.2, r.2.1.length ≤ N) (route : Int) : (extM t route).length ≤ N := by
  unfold extM
  cases e : rtM t.2.2.2 route with
  | none => simp
  | some r =>
    have hr : r ∈ t.2.2.2 := List.mem_of_find?_eq_some e
    simp only
    split
    · split
      · have h1 := normM_len (overK t.1 0 (lenM t r.2.1).1 r.2.1 r.2.1.length)
        have h2 := overK_len t.1 0 (lenM t r.2.1).1 r.2.1 r.2.1.length
        have h3 := h r hr
        omega
      · simp
    · simp
theorem meetsB_eq {a b : List Sp} {r : Bool} (h : meetsB a b r) : r = meetsM a b := by
  unfold meetsB at h
  rw [← meetsM_iff] at h
  cases r <;> cases e : meetsM a b <;> simp [e] at h ⊢

set_option maxHeartbeats 1000000 in
set_option maxRecDepth 100000 in
theorem lkF_any (a b c : Int) (id : Int) (g : Nat) (w : World) (h : w.cell? ⟨g, 0, none⟩ = some (.int .i64 id)) : Calls Tryz.prog 50 #[.agg #[.int .i64 a, .int .i64 b, .int .i64 c], .pointer (some ⟨g, 0, none⟩)] w fun e w' => e = .returned (.bool (a == id)) ∧ Keep Never w w' := by
  obtain ⟨w1, hw1⟩ : ∃ W : World, w.alloc (.cells #[.int .i64 a, .int .i64 b, .int .i64 c] 63) = W := ⟨_, rfl⟩
  have k1 : Keep Never w w1 := by rw [← hw1]; exact (Keep.refl _ _).alloc _
  have b1 := Blk.new w 63 #[.int .i64 a, .int .i64 b, .int .i64 c]
  rw [hw1] at b1
  have c0 := b1.cell 0
  have c1 := b1.cell 1
  have c2 := b1.cell 2
  have d0 := keepT k1 h
  have HK := Lib.hid k1
  clear k1 b1 h
  obtain ⟨r, hr⟩ : ∃ r : Bool, (a == id) = r := ⟨_, rfl⟩
  have HF := Lib.hid hr
  go_enter Tryz.func50, Tryz.ntmps50
  go_wp2_with fail
  go_ret
  exact ⟨by rw [HF.out]; rfl, HK.out⟩


set_option maxHeartbeats 1000000 in
set_option maxRecDepth 100000 in
theorem ofF_any (a b c : Int) (id : Int) (g : Nat) (w : World) (h : w.cell? ⟨g, 0, none⟩ = some (.int .i64 id)) : Calls Tryz.prog 45 #[.agg #[.int .i64 a, .int .i64 b, .int .i64 c], .pointer (some ⟨g, 0, none⟩)] w fun e w' => e = .returned (.bool (b == id)) ∧ Keep Never w w' := by
  obtain ⟨w1, hw1⟩ : ∃ W : World, w.alloc (.cells #[.int .i64 a, .int .i64 b, .int .i64 c] 63) = W := ⟨_, rfl⟩
  have k1 : Keep Never w w1 := by rw [← hw1]; exact (Keep.refl _ _).alloc _
  have b1 := Blk.new w 63 #[.int .i64 a, .int .i64 b, .int .i64 c]
  rw [hw1] at b1
  have c0 := b1.cell 0
  have c1 := b1.cell 1
  have c2 := b1.cell 2
  have d0 := keepT k1 h
  have HK := Lib.hid k1
  clear k1 b1 h
  obtain ⟨r, hr⟩ : ∃ r : Bool, (b == id) = r := ⟨_, rfl⟩
  have HF := Lib.hid hr
  go_enter Tryz.func45, Tryz.ntmps45
  go_wp2_with fail
  go_ret
  exact ⟨by rw [HF.out]; rfl, HK.out⟩


set_option maxHeartbeats 1000000 in
set_option maxRecDepth 100000 in
theorem frF_any (a b c : Int) (id : Int) (g : Nat) (w : World) (h : w.cell? ⟨g, 0, none⟩ = some (.int .i64 id)) : Calls Tryz.prog 36 #[.agg #[.int .i64 a, .int .i64 b, .int .i64 c], .pointer (some ⟨g, 0, none⟩)] w fun e w' => e = .returned (.bool (c != id)) ∧ Keep Never w w' := by
  obtain ⟨w1, hw1⟩ : ∃ W : World, w.alloc (.cells #[.int .i64 a, .int .i64 b, .int .i64 c] 63) = W := ⟨_, rfl⟩
  have k1 : Keep Never w w1 := by rw [← hw1]; exact (Keep.refl _ _).alloc _
  have b1 := Blk.new w 63 #[.int .i64 a, .int .i64 b, .int .i64 c]
  rw [hw1] at b1
  have c0 := b1.cell 0
  have c1 := b1.cell 1
  have c2 := b1.cell 2
  have d0 := keepT k1 h
  have HK := Lib.hid k1
  clear k1 b1 h
  obtain ⟨r, hr⟩ : ∃ r : Bool, (c != id) = r := ⟨_, rfl⟩
  have HF := Lib.hid hr
  go_enter Tryz.func36, Tryz.ntmps36
  go_wp2_with fail
  go_ret
  exact ⟨by rw [HF.out]; rfl, HK.out⟩


set_option maxHeartbeats 8000000 in
set_option maxRecDepth 100000 in
theorem those_any (g : Nat) (lb : Array Value) (p : Lk → Bool) (eg_ : ∀ args w, (callFunc g args).run Tryz.prog w = .ok (.enter g args) w) (A : Option Addr) (n c B : Nat) (l : List Lk) (w : World) (h : SpAt w B A n c l) (hp : PredSp g lb p w) (hn : n ≤ 1000000) :
    Calls Tryz.prog 35 #[.slice A n c, .func (.func g) #[] lb] w (LksRet (l.filter p) w) := by
  have HL := Lib.hid h.len
  have HR := Lib.hid h.rd
  have HP := Lib.hid hp
  clear h hp
  go_enter Tryz.func35, Tryz.ntmps35
  go_wp2_with fail
  go_loopw [5, 10] (fun so si wr => ∃ (k no co : Nat) (Ao : Option Addr), k ≤ n ∧ si = .int .i64 k ∧ so = .slice Ao no co ∧ no ≤ k ∧ Hid (no = ((l.take k).filter p).length ∧ Own wr w.heap.size 63 3 Ao no co (spCells ((l.take k).filter p)) ∧ Keep Never w wr)) (fun _ si _ => n - (intOf si).toNat)
  case atStart => exact ⟨0, 0, 0, none, by omega, rfl, rfl, by omega, Lib.hid ⟨by simp, by simpa [spCells_nil] using Own.nil _ _ _ _, Keep.refl _ _⟩⟩
  case round =>
    obtain ⟨k, no, co, Ao, hk, rfl, rfl, hno, HH⟩ := hrel
    by_cases h0 : k < n
    · have hki : (k : Int) < (n : Int) := by omega
      obtain ⟨ad, s, hA, _, hs, c0, c1, c2⟩ := (HR.out.keep HH.out.2.2 (fun _ h => h.elim)).sp h0
      subst hA
      have htk : Hid (l.take (k + 1) = l.take k ++ [s]) := Lib.hid (by
        obtain ⟨h2, h3⟩ := List.getElem?_eq_some_iff.1 hs
        rw [List.take_succ_eq_append_getElem h2, h3])
      clear hs
      obtain ⟨s1, s2, s3⟩ := s
      simp only at c0 c1 c2
      obtain ⟨w4, hw4⟩ : ∃ V : World, wr.alloc (.cells #[.int .i64 s1, .int .i64 s2, .int .i64 s3] 63) = V := ⟨_, rfl⟩
      have k4 : Keep Never wr w4 := by rw [← hw4]; exact (Keep.refl _ _).alloc _
      have B4 := Blk.new wr 63 #[.int .i64 s1, .int .i64 s2, .int .i64 s3]
      rw [hw4] at B4
      obtain ⟨br, hbr⟩ : ∃ q, wr.heap.size = q := ⟨_, rfl⟩
      rw [hbr] at B4
      have hcall := HP.out w4 (s1, s2, s3) (HH.out.2.2.trans k4)
      have HB4 := Lib.hid B4
      have HK4 := Lib.hid (HH.out.2.2.trans k4)
      have HO4 := Lib.hid (HH.out.2.1.keep k4 (fun _ _ h => h.elim))
      have HN := Lib.hid HH.out.1
      have HZ := Lib.hid (show w.heap.size ≤ br by rw [← hbr]; exact HH.out.2.2.size)
      have b0 : w4.cell? ⟨br, 0, none⟩ = some (.int .i64 s1) := HB4.out.cell 0
      have b1 : w4.cell? ⟨br, 1, none⟩ = some (.int .i64 s2) := HB4.out.cell 1
      have b2 : w4.cell? ⟨br, 2, none⟩ = some (.int .i64 s3) := HB4.out.cell 2
      clear k4 B4 HH
      cases hps : p (s1, s2, s3) with
      | true =>
        rw [hps] at hcall
        have hf : Hid ((l.take (k + 1)).filter p = (l.take k).filter p ++ [(s1, s2, s3)]) := Lib.hid (by rw [htk.out, List.filter_append]; simp [hps])
        have HC := Lib.hid hcall
        clear hps hcall
        go_wp2_with (first
          | (go_at_fn g; refine HC.out.mono ?_; rintro e w5 ⟨rfl, hk5⟩
             have HK5 := Lib.hid (HK4.out.trans hk5)
             have HO5 := Lib.hid (HO4.out.keep hk5 (fun _ _ h => h.elim))
             have HB5 := Lib.hid (HB4.out.keep hk5 (fun h => h))
             have b0 : w5.cell? ⟨br, 0, none⟩ = some (.int .i64 s1) := HB5.out.cell 0
             have b1 : w5.cell? ⟨br, 1, none⟩ = some (.int .i64 s2) := HB5.out.cell 1
             have b2 : w5.cell? ⟨br, 2, none⟩ = some (.int .i64 s3) := HB5.out.cell 2
             have hz5 : w.heap.size ≤ w5.heap.size := HK5.out.size
             clear hk5)
          | (at_builtin; refine wpList_app _ rfl (.tmp 17) (.tmp 19) _ rfl elemLk w.heap.size (A := Ao) (n := no) (c := co) (by go_simp) (HO5.out.alloc _) _ (A' := some ⟨_, 0, none⟩) (m := 1) (c' := 1) (news := [.int .i64 s1, .int .i64 s2, .int .i64 s3]) (by go_simp) (Rd.of_blk (n := 1) (cs := [.int .i64 s1, .int .i64 s2, .int .i64 s3]) (Blk.new _ _ _) rfl) (by simp [Value.oneCell']) (by omega) (by unfold maxLen; omega) (by simp; omega) ?_
             intro A6 c6 w6 hown hk6 hrow6
             have HO6 := Lib.hid hown
             have HK6 := Lib.hid hk6
             clear hown hk6 hrow6))
        go_roundw
        case measure => simp [intOf]; try omega
        case rel =>
          refine ⟨k + 1, no + 1, c6, A6, by omega, by go_num, rfl, by omega, Lib.hid ⟨by rw [hf.out, List.length_append, ← HN.out]; rfl, by rw [hf.out, spCells_app]; exact HO6.out, (HK5.out.alloc _).then_ HK6.out (fun i hi h => by have := (HO5.out.row h).1; omega)⟩⟩
      | false =>
        rw [hps] at hcall
        have hf : Hid ((l.take (k + 1)).filter p = (l.take k).filter p) := Lib.hid (by rw [htk.out, List.filter_append]; simp [hps])
        have HC := Lib.hid hcall
        clear hps hcall
        go_wp2_with (go_at_fn g; refine HC.out.mono ?_; rintro e w5 ⟨rfl, hk5⟩
                     have HK5 := Lib.hid (HK4.out.trans hk5)
                     have HO5 := Lib.hid (HO4.out.keep hk5 (fun _ _ h => h.elim))
                     clear hk5)
        go_roundw
        case measure => simp [intOf]; try omega
        case rel =>
          refine ⟨k + 1, no, co, Ao, by omega, by go_num, rfl, by omega, Lib.hid ⟨by rw [hf.out]; exact HN.out, by rw [hf.out]; exact HO5.out, HK5.out⟩⟩
    · obtain rfl : k = n := by omega
      have hki : ¬ (k : Int) < (k : Int) := by omega
      have HF : Hid ((l.take k).filter p = l.filter p) := Lib.hid (by rw [List.take_of_length_le (by have := HL.out; omega)])
      go_wp2_with fail
      go_ret
      exact ⟨Ao, no, co, rfl, Lib.hid (by rw [← HF.out]; exact HH.out.1), by rw [← HF.out]; exact HH.out.2.1, HH.out.2.2⟩


set_option maxHeartbeats 4000000 in
set_option maxRecDepth 100000 in
theorem of_any (A : Option Addr) (n c B : Nat) (l : List Lk) (train : Int) (w : World) (h : SpAt w B A n c l) (hn : n ≤ 1000000) :
    Calls Tryz.prog 20 #[.slice A n c, .int .i64 train] w (LksRet (ofM l train) w) := by
  obtain ⟨w1, hw1⟩ : ∃ V : World, w.alloc (.cells #[.int .i64 train] 3) = V := ⟨_, rfl⟩
  have kw1 : Keep Never w w1 := by rw [← hw1]; exact (Keep.refl _ _).alloc _
  have bw1 := Blk.new w 3 #[.int .i64 train]
  rw [hw1] at bw1
  have HB1 := Lib.hid bw1
  have HK := Lib.hid kw1
  have v0 : w1.cell? ⟨w.heap.size, 0, none⟩ = some (.int .i64 train) := HB1.out.cell 0
  clear kw1 bw1
  have HC := Lib.hid (those_any 45 #[.pointer (some ⟨w.heap.size, 0, none⟩)] (fun s => s.2.1 == train) (enters_of Tryz.func45 (by kernel_rfl) rfl) A n c B l w1 (h.keep HK.out) (fun W s hk => ofF_any s.1 s.2.1 s.2.2 train _ W (keepT hk v0)) (by omega))
  clear h v0
  go_enter Tryz.func20, Tryz.ntmps20
  go_wp2_with fail
  refine HC.out.mono ?_
  rintro e w2 ⟨A2, n2, c2, rfl, hn2, ho, hk⟩
  have HN := hn2
  have HO := Lib.hid ho
  have HK2 := Lib.hid hk
  clear ho hk
  go_wp2_with fail
  go_ret
  exact ⟨A2, n2, c2, rfl, HN, HO.out.less HK.out.size, HK.out.trans HK2.out⟩

set_option maxHeartbeats 4000000 in
set_option maxRecDepth 100000 in
theorem lkd_any (A : Option Addr) (n c B : Nat) (l : List Lk) (route : Int) (w : World) (h : SpAt w B A n c l) (hn : n ≤ 1000000) :
    Calls Tryz.prog 28 #[.slice A n c, .int .i64 route] w fun e w' => e = .returned (.bool (lockedB l route)) ∧ Keep Never w w' := by
  obtain ⟨w1, hw1⟩ : ∃ V : World, w.alloc (.cells #[.int .i64 route] 3) = V := ⟨_, rfl⟩
  have kw1 : Keep Never w w1 := by rw [← hw1]; exact (Keep.refl _ _).alloc _
  have bw1 := Blk.new w 3 #[.int .i64 route]
  rw [hw1] at bw1
  have HB1 := Lib.hid bw1
  have HK := Lib.hid kw1
  have v0 : w1.cell? ⟨w.heap.size, 0, none⟩ = some (.int .i64 route) := HB1.out.cell 0
  clear kw1 bw1
  have HC := Lib.hid (containsfk_any 50 #[.pointer (some ⟨w.heap.size, 0, none⟩)] (fun s => s.1 == route) (enters_of Tryz.func50 (by kernel_rfl) rfl) A n c B l w1 ((h.keep HK.out).rd) (fun W s hk => lkF_any s.1 s.2.1 s.2.2 route _ W (keepT hk v0)) (by omega))
  clear h v0
  go_enter Tryz.func28, Tryz.ntmps28
  go_wp2_with fail
  refine HC.out.mono ?_
  rintro e w2 ⟨rfl, hk⟩
  have HK2 := Lib.hid hk
  clear hk
  go_wp2_with fail
  go_ret
  exact ⟨rfl, HK.out.trans HK2.out⟩

set_option maxHeartbeats 4000000 in
set_option maxRecDepth 100000 in
theorem nmb_any (train : Int) (w : World) :
    Calls Tryz.prog 26 #[.int .i64 train] w fun e w' => e = .returned (.bool (trainB train)) ∧ Keep Never w w' := by
  by_cases g0 : 0 ≤ train
  · have t0 : decide (train ≥ 0) = true := by simpa using g0
    by_cases g1 : train < 16777216
    · have t1 : decide (train < 16777216) = true := by simpa using g1
      have HF : Hid (trainB train = true) := Lib.hid (by unfold trainB; simp; omega)
      clear g0 g1
      go_enter Tryz.func26, Tryz.ntmps26
      go_wp2_with fail
      go_ret
      exact ⟨by rw [HF.out]; rfl, Keep.refl _ _⟩
    · have t1 : decide (train < 16777216) = false := by simpa using g1
      have HF : Hid (trainB train = false) := Lib.hid (by unfold trainB; simp; omega)
      clear g0 g1
      go_enter Tryz.func26, Tryz.ntmps26
      go_wp2_with fail
      go_ret
      exact ⟨by rw [HF.out]; rfl, Keep.refl _ _⟩
  · have t0 : decide (train ≥ 0) = false := by simpa using g0
    have HF : Hid (trainB train = false) := Lib.hid (by unfold trainB; simp; omega)
    clear g0
    go_enter Tryz.func26, Tryz.ntmps26
    go_wp2_with fail
    go_ret
    exact ⟨by rw [HF.out]; rfl, Keep.refl _ _⟩

theorem it_results {fn : Func} {r : Nat} (h : fn.results = #[.cell r 30]) {w : World} {b : Nat} {v0 v1 : Value} (hb : Blk w b 30 #[v0, v1]) (tmps : Array Value) (ht : tmps.getD r undef = .pointer (some ⟨b, 0, none⟩)) :
    (results fn tmps).run Tryz.prog w = .ok (.agg #[v0, v1]) w := by
  have q0 : w.cell? ⟨b, 0, none⟩ = some v0 := hb.cell 0
  have q1 : w.cell? ⟨b, 1, none⟩ = some v1 := hb.cell 1
  have ht' : tmps[r]?.getD undef = .pointer (some ⟨b, 0, none⟩) := by rw [← Array.getD_eq_getD_getElem?]; exact ht
  simp [results, h, ht', go_sem, q0, q1]
set_option maxRecDepth 100000 in
theorem it_results2 {fn : Func} {r s : Nat} (h : fn.results = #[.cell r 30, .tmp s]) {w : World} {b : Nat} {v0 v1 : Value} (hb : Blk w b 30 #[v0, v1]) (tmps : Array Value) (ht : tmps.getD r undef = .pointer (some ⟨b, 0, none⟩)) :
    (results fn tmps).run Tryz.prog w = .ok (.tuple #[.agg #[v0, v1], tmps.getD s undef]) w := by
  have q0 : w.cell? ⟨b, 0, none⟩ = some v0 := hb.cell 0
  have q1 : w.cell? ⟨b, 1, none⟩ = some v1 := hb.cell 1
  have ht' : tmps[r]?.getD undef = .pointer (some ⟨b, 0, none⟩) := by rw [← Array.getD_eq_getD_getElem?]; exact ht
  simp [results, h, ht', go_sem, q0, q1]
set_option maxRecDepth 100000 in
theorem it_results3 {fn : Func} {r s u : Nat} (h : fn.results = #[.cell r 30, .tmp s, .tmp u]) {w : World} {b : Nat} {v0 v1 : Value} (hb : Blk w b 30 #[v0, v1]) (tmps : Array Value) (ht : tmps.getD r undef = .pointer (some ⟨b, 0, none⟩)) :
    (results fn tmps).run Tryz.prog w = .ok (.tuple #[.agg #[v0, v1], tmps.getD s undef, tmps.getD u undef]) w := by
  have q0 : w.cell? ⟨b, 0, none⟩ = some v0 := hb.cell 0
  have q1 : w.cell? ⟨b, 1, none⟩ = some v1 := hb.cell 1
  have ht' : tmps[r]?.getD undef = .pointer (some ⟨b, 0, none⟩) := by rw [← Array.getD_eq_getD_getElem?]; exact ht
  simp [results, h, ht', go_sem, q0, q1]
theorem put2_blk {w : World} {b t : Nat} {u0 u1 : Value} (h : Blk w b t #[u0, u1]) (v0 v1 : Value) : Blk ((w.setCell ⟨b, 0, none⟩ v0).setCell ⟨b, 1, none⟩ v1) b t #[v0, v1] := by
  have := (h.set_ 0 v0).set_ 1 v1
  simpa using this
theorem put2_keep {S : Nat → Prop} {w0 w : World} {b : Nat} (h : Keep S w0 w) (hb : S b ∨ w0.heap.size ≤ b) (v0 v1 : Value) : Keep S w0 ((w.setCell ⟨b, 0, none⟩ v0).setCell ⟨b, 1, none⟩ v1) :=
  (h.set_ (p := ⟨b, 0, none⟩) hb v0).set_ (p := ⟨b, 1, none⟩) hb v1

set_option maxHeartbeats 1000000 in
set_option maxRecDepth 100000 in
theorem new16_any (w : World) : Calls Tryz.prog 23 #[] w fun e w' => e = .returned (.agg #[.slice none 0 0, .int .i64 1]) ∧ Keep Never w w' := by
  have hb := Blk.new w 30 #[.slice none 0 0, .int .i64 0]
  have HBz := Lib.hid (Blk.new w 30 #[.slice none 0 0, .int .i64 1])
  have HKz := Lib.hid ((Keep.refl Never w).alloc (.cells #[.slice none 0 0, .int .i64 1] 30))
  have f0 := hb.frozen 0
  have f1 := hb.frozen 1
  have g0 : (w.alloc (.cells #[.slice none 0 0, .int .i64 0] 30)).cell? ⟨w.heap.size, 0, none⟩ = some (.slice none 0 0) := hb.cell 0
  have g1 : (w.alloc (.cells #[.slice none 0 0, .int .i64 0] 30)).cell? ⟨w.heap.size, 1, none⟩ = some (.int .i64 0) := hb.cell 1
  clear hb
  go_enter Tryz.func23, Tryz.ntmps23
  go_wp2_with fail
  (try simp only [Exit.inBlock, Exit.then])
  refine bodyPost_ret (it_results rfl HBz.out _ rfl) rfl ⟨rfl, HKz.out⟩
theorem Rep.Sl.hereK {α : Type} {r : Rep α} {w w' : World} {A : Option Addr} {n c : Nat} {l : List α} (h : r.Sl w w.heap.size A n c l) (hk : Keep Never w w') : r.Sl w' w'.heap.size A n c l := (h.keep hk (fun _ h => h.elim)).more hk.size
theorem TpAt.wide {w : World} {B B2 : Nat} {x : TA} {t : Tp} (h : TpAt w B x t) (hB : B ≤ B2) : TpAt w B2 x t := ⟨h.e.more hB, h.j.more hB, h.b.more hB, h.r.more hB⟩
theorem sum_range (es : List Int) : ∀ (p : List Stp) (a : Int), (-9223372036854775808 ≤ a ∧ a ≤ 9223372036854775807) → -9223372036854775808 ≤ p.foldl (fun n s => IntKind.i64.wrap (n + es.getD s.1.toNat 0)) a ∧ p.foldl (fun n s => IntKind.i64.wrap (n + es.getD s.1.toNat 0)) a ≤ 9223372036854775807
  | [], a, h => h
  | s :: p, a, h => by
    rw [List.foldl_cons]
    refine sum_range es p _ ?_
    rw [IntWalk.i64_left]
    generalize a + es.getD s.1.toNat 0 = z
    unfold wrap64; omega
theorem len_small {t : Tp} {p : List Stp} (_h : (lenM t p).2 = 0) : -9223372036854775808 ≤ (lenM t p).1 ∧ (lenM t p).1 ≤ 9223372036854775807 := by
  unfold lenM
  split
  · simp only; omega
  · split
    · split
      · exact sum_range t.1 p 0 (by omega)
      · simp only; omega
    · simp only; omega

set_option maxHeartbeats 8000000 in
set_option maxRecDepth 100000 in
theorem ext_any (x : TA) (t : Tp) (B : Nat) (route : Int) (w : World) (ht : TpAt w B x t) (hs : TpSmall x t) (hB : B ≤ w.heap.size) :
    Calls Tryz.prog 15 #[.agg x.cs, .int .i64 route] w (SpsRet (extM t route) w) := by
  have HRt : Hid (∀ V, Keep Never w V → Calls Tryz.prog 27 #[.agg x.cs, .int .i64 route] V (RtRet (rtM t.2.2.2 route) V)) := Lib.hid (fun V h => route_any x t B route V (ht.keep h) hs.r hs.p (Nat.le_trans hB h.size))
  have HLn : Hid (∀ V A n c p, Keep Never w V → repStp.Sl V V.heap.size A n c p → n ≤ 100000000 → Calls Tryz.prog 39 #[.agg x.cs, .slice A n c] V fun e w' => e = .returned (.tuple #[.int .i64 (lenM t p).1, .int .i64 (lenM t p).2]) ∧ Keep Never V w') := Lib.hid (fun V A n c p h hp hn => length_any x t V.heap.size A n c p V ((ht.keep h).wide (Nat.le_trans hB h.size)) hp hs.j hn)
  have HOv : Hid (∀ V A n c p lo hi, Keep Never w V → repStp.Sl V V.heap.size A n c p → n ≤ 100000000 → -9223372036854775808 ≤ lo → lo ≤ 9223372036854775807 → -9223372036854775808 ≤ hi → hi ≤ 9223372036854775807 → Calls Tryz.prog 40 #[.agg x.cs, .slice A n c, .int .i64 lo, .int .i64 hi] V (OverRet t p lo hi V)) := Lib.hid (fun V A n c p lo hi h hp hn a1 a2 a3 a4 => over_any x t V.heap.size A n c p lo hi V ((ht.keep h).wide (Nat.le_trans hB h.size)) hp hs.j hs.e hn (Nat.le_refl _) a1 a2 a3 a4)
  have HSp := Lib.hid hs.p
  obtain ⟨Ae, ne, ce, Aj, nj, cj, Ab, nb, cb, Ar, nr, cr⟩ := x
  simp only [TA.cs] at HRt HLn HOv ⊢
  clear ht hs
  obtain ⟨w1, hw1⟩ : ∃ V : World, w.alloc (.cells #[.slice Ae ne ce, .slice Aj nj cj, .slice Ab nb cb, .slice Ar nr cr] 27) = V := ⟨_, rfl⟩
  have kw1 : Keep Never w w1 := by rw [← hw1]; exact (Keep.refl _ _).alloc _
  have bw1 := Blk.new w 27 #[.slice Ae ne ce, .slice Aj nj cj, .slice Ab nb cb, .slice Ar nr cr]
  rw [hw1] at bw1
  have HB1 := Lib.hid bw1
  have HK := Lib.hid kw1
  clear kw1 bw1
  obtain ⟨o, ho⟩ : ∃ o, rtM t.2.2.2 route = o := ⟨_, rfl⟩
  have hw := HRt.out w1 HK.out
  rw [ho] at hw
  obtain ⟨r1, hr1⟩ : ∃ z, (o.getD (0, [], 0, 0)).1 = z := ⟨_, rfl⟩
  obtain ⟨rp, hrp⟩ : ∃ z, (o.getD (0, [], 0, 0)).2.1 = z := ⟨_, rfl⟩
  obtain ⟨r3, hr3⟩ : ∃ z, (o.getD (0, [], 0, 0)).2.2.1 = z := ⟨_, rfl⟩
  obtain ⟨r4, hr4⟩ : ∃ z, (o.getD (0, [], 0, 0)).2.2.2 = z := ⟨_, rfl⟩
  obtain ⟨os, hos⟩ : ∃ z, o.isSome = z := ⟨_, rfl⟩
  unfold RtRet at hw
  rw [hr1, hrp, hr3, hr4, hos] at hw
  have HC := Lib.hid hw
  have HOz : Hid ((os = true → rtM t.2.2.2 route = some (r1, rp, r3, r4)) ∧ (os = false → rtM t.2.2.2 route = none)) := Lib.hid (by
    rw [ho]
    cases o with
    | none => exact ⟨fun h => by rw [← hos] at h; exact absurd h (by simp), fun _ => rfl⟩
    | some z => exact ⟨fun _ => by rw [← hr1, ← hrp, ← hr3, ← hr4]; rfl, fun h => by rw [← hos] at h; exact absurd h (by simp)⟩)
  clear hw hr1 hrp hr3 hr4 hos ho HRt
  have y0 : w1.cell? ⟨w.heap.size, 0, none⟩ = some (.slice Ae ne ce) := HB1.out.cell 0
  have y1 : w1.cell? ⟨w.heap.size, 1, none⟩ = some (.slice Aj nj cj) := HB1.out.cell 1
  have y2 : w1.cell? ⟨w.heap.size, 2, none⟩ = some (.slice Ab nb cb) := HB1.out.cell 2
  have y3 : w1.cell? ⟨w.heap.size, 3, none⟩ = some (.slice Ar nr cr) := HB1.out.cell 3
  go_enter Tryz.func15, Tryz.ntmps15
  go_wp2_with fail
  refine HC.out.mono ?_
  rintro e w2 ⟨A, n, c, rfl, hsl, hk2⟩
  have HSl := Lib.hid hsl
  clear hsl
  have HK1 := Lib.hid (HK.out.trans hk2)
  have Hy1 := Lib.hid (HB1.out.keep hk2 (fun h => h))
  clear y0 y1 y2 y3 hk2 HC
  obtain ⟨w102, hw102⟩ : ∃ V : World, w2.alloc (.cells #[.int .i64 r1, .slice A n c, .int .i64 r3, .int .i64 r4] 57) = V := ⟨_, rfl⟩
  have kx : Keep Never w2 w102 := by rw [← hw102]; exact (Keep.refl _ _).alloc _
  have bx := Blk.new w2 57 #[.int .i64 r1, .slice A n c, .int .i64 r3, .int .i64 r4]
  rw [hw102] at bx
  obtain ⟨br, hbr⟩ : ∃ q, w2.heap.size = q := ⟨_, rfl⟩
  rw [hbr] at bx
  have HBx2 := Lib.hid bx
  have HK2 := Lib.hid (HK1.out.trans kx)
  have Hy2 := Lib.hid (Hy1.out.keep kx (fun h => h))
  clear kx bx
  have HSl := Lib.hid ((HSl.out.keep (show Keep Never w2 w102 from by rw [← hw102]; exact (Keep.refl Never _).alloc _) (fun _ h => h.elim)).more (show w2.heap.size ≤ w102.heap.size from by rw [← hw102]; simp))
  cases os with
  | false =>
    have HF : Hid (extM t route = []) := Lib.hid (by unfold extM; rw [HOz.out.2 rfl])
    go_wp2_with fail
    go_ret
    exact ⟨none, 0, 0, rfl, Lib.hid (by rw [HF.out]; rfl), by rw [HF.out]; exact nilAt _, HK2.out⟩
  | true =>
    have hmem : (r1, rp, r3, r4) ∈ t.2.2.2 := List.mem_of_find?_eq_some (HOz.out.1 rfl)
    have Ho := Lib.hid (HOz.out.1 rfl)
    have hn8 : n ≤ 100000000 := by have h1 := HSp.out _ hmem; have h2 := HSl.out.len; simp only at h1; omega
    have Hn8 := Lib.hid hn8
    clear hmem hn8 HSp
    obtain ⟨ln, hln⟩ : ∃ z, (lenM t rp).1 = z := ⟨_, rfl⟩
    obtain ⟨le, hle⟩ : ∃ z, (lenM t rp).2 = z := ⟨_, rfl⟩
    have hw := HLn.out w102 A n c rp HK2.out HSl.out Hn8.out
    rw [hln, hle] at hw
    have HC := Lib.hid hw
    clear hw HLn
    have y0 : w102.cell? ⟨w.heap.size, 0, none⟩ = some (.slice Ae ne ce) := Hy2.out.cell 0
    have y1 : w102.cell? ⟨w.heap.size, 1, none⟩ = some (.slice Aj nj cj) := Hy2.out.cell 1
    have y2 : w102.cell? ⟨w.heap.size, 2, none⟩ = some (.slice Ab nb cb) := Hy2.out.cell 2
    have y3 : w102.cell? ⟨w.heap.size, 3, none⟩ = some (.slice Ar nr cr) := Hy2.out.cell 3
    have r0 : w102.cell? ⟨br, 0, none⟩ = some (.int .i64 r1) := HBx2.out.cell 0
    have r1 : w102.cell? ⟨br, 1, none⟩ = some (.slice A n c) := HBx2.out.cell 1
    have r2 : w102.cell? ⟨br, 2, none⟩ = some (.int .i64 r3) := HBx2.out.cell 2
    have r3 : w102.cell? ⟨br, 3, none⟩ = some (.int .i64 r4) := HBx2.out.cell 3
    go_wp2_with fail
    refine HC.out.mono ?_
    rintro en w103 ⟨rfl, hk3⟩
    have HK3 := Lib.hid (HK2.out.trans hk3)
    have Hy3 := Lib.hid (Hy2.out.keep hk3 (fun h => h))
    have Hr3 := Lib.hid (HBx2.out.keep hk3 (fun h => h))
    have HSl3 := Lib.hid (HSl.out.hereK hk3)
    clear y0 y1 y2 y3 r0 r1 r2 r3 hk3 HC
    clear hw102 hbr

    by_cases g : le = 0
    case neg =>
      have t0 : (le != 0) = true := by simpa using g
      have HF : Hid (extM t route = []) := Lib.hid (by unfold extM; rw [Ho.out]; simp only; rw [if_neg (by rw [hle]; exact g)])
      clear g hle hln
      go_wp2_with fail
      go_ret
      exact ⟨none, 0, 0, rfl, Lib.hid (by rw [HF.out]; rfl), by rw [HF.out]; exact nilAt _, HK3.out⟩
    subst g
    have t0 : ((0 : Int) != 0) = false := by decide
    have hlb : -9223372036854775808 ≤ ln ∧ ln ≤ 9223372036854775807 := by have := len_small hle; rw [hln] at this; exact this
    have HC := Lib.hid (HOv.out w103 A n c rp 0 ln HK3.out HSl3.out Hn8.out (by omega) (by omega) hlb.1 hlb.2)
    clear HOv hlb
    have y0 : w103.cell? ⟨w.heap.size, 0, none⟩ = some (.slice Ae ne ce) := Hy3.out.cell 0
    have y1 : w103.cell? ⟨w.heap.size, 1, none⟩ = some (.slice Aj nj cj) := Hy3.out.cell 1
    have y2 : w103.cell? ⟨w.heap.size, 2, none⟩ = some (.slice Ab nb cb) := Hy3.out.cell 2
    have y3 : w103.cell? ⟨w.heap.size, 3, none⟩ = some (.slice Ar nr cr) := Hy3.out.cell 3
    have r0 : w103.cell? ⟨br, 0, none⟩ = some (.int .i64 r1) := Hr3.out.cell 0
    have r1 : w103.cell? ⟨br, 1, none⟩ = some (.slice A n c) := Hr3.out.cell 1
    have r2 : w103.cell? ⟨br, 2, none⟩ = some (.int .i64 r3) := Hr3.out.cell 2
    have r3 : w103.cell? ⟨br, 3, none⟩ = some (.int .i64 r4) := Hr3.out.cell 3
    go_wp2_with fail
    refine HC.out.mono ?_
    rintro e w9 ⟨m, A9, n9, c9, rfl, hn9, _, hs9, hk9, hm9⟩
    have HF : Hid (m = extM t route) := Lib.hid (by
      have h1 := hm9.out
      unfold extM; rw [Ho.out]; simp only; rw [if_pos hle, hln]
      split at h1
      · rename_i h2; rw [if_pos h2]; exact normM_eq h1
      · rename_i h2; rw [if_neg h2]; exact h1)
    have HS9 := Lib.hid hs9
    have HK9 := Lib.hid (HK3.out.trans hk9)
    clear hs9 hk9 hm9 hle hln HC
    go_wp2_with fail
    go_ret
    exact ⟨A9, n9, c9, rfl, Lib.hid (by rw [← HF.out]; exact hn9.out), by rw [← HF.out]; exact HS9.out, HK9.out⟩


end Go.Proofs.YtijdkjcjhfebfaaGreat
