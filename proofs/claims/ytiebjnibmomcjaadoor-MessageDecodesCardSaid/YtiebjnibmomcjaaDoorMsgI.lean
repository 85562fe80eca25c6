/- Chapter 6: Decode, the walk. -/
import Derived.Test.YtiebjnibmomcjaaDoorMsgP
import Derived.Deep.DeepCutAuto
namespace Go.Proofs.YtiebjnibmomcjaaDoor
open Go.RowKit

set_option maxRecDepth 100000 in
theorem elemPk : Elem Tryd.prog 23 39 2 32 := ⟨Tryd.underlying23, _, _, rfl, rfl, rfl, rfl, rfl, by omega⟩
theorem dec_results {w : World} {b : Nat} {v0 v1 v2 v3 v4 v5 : Value} (hb : Blk w b 25 #[v0, v1, v2, v3, v4, v5]) (tmps : Array Value) (ht : tmps.getD 2 undef = .pointer (some ⟨b, 0, none⟩)) :
    (results Tryd.f18 tmps).run Tryd.prog w = .ok (.tuple #[.agg #[v0, v1, v2, v3, v4, v5], tmps.getD 3 undef]) w := by
  have q0 : w.cell? ⟨b, 0, none⟩ = some v0 := hb.cell 0
  have q1 : w.cell? ⟨b, 1, none⟩ = some v1 := hb.cell 1
  have q2 : w.cell? ⟨b, 2, none⟩ = some v2 := hb.cell 2
  have q3 : w.cell? ⟨b, 3, none⟩ = some v3 := hb.cell 3
  have q4 : w.cell? ⟨b, 4, none⟩ = some v4 := hb.cell 4
  have q5 : w.cell? ⟨b, 5, none⟩ = some v5 := hb.cell 5
  have ht' : tmps[2]?.getD undef = .pointer (some ⟨b, 0, none⟩) := by rw [← Array.getD_eq_getD_getElem?]; exact ht
  simp [results, ht', go_sem, q0, q1, q2, q3, q4, q5]
/-- six cells are written -/
def put6 (w : World) (b : Nat) (v0 v1 v2 v3 v4 v5 : Value) : World := (((((w.setCell ⟨b, 0, none⟩ v0).setCell ⟨b, 1, none⟩ v1).setCell ⟨b, 2, none⟩ v2).setCell ⟨b, 3, none⟩ v3).setCell ⟨b, 4, none⟩ v4).setCell ⟨b, 5, none⟩ v5
theorem put6_keep (w : World) (b : Nat) (v0 v1 v2 v3 v4 v5 : Value) : Keep (fun k => k = b) w (put6 w b v0 v1 v2 v3 v4 v5) :=
  ((((((Keep.refl (fun k => k = b) w).set_ (p := ⟨b, 0, none⟩) (.inl rfl) v0).set_ (p := ⟨b, 1, none⟩) (.inl rfl) v1).set_ (p := ⟨b, 2, none⟩) (.inl rfl) v2).set_ (p := ⟨b, 3, none⟩) (.inl rfl) v3).set_ (p := ⟨b, 4, none⟩) (.inl rfl) v4).set_ (p := ⟨b, 5, none⟩) (.inl rfl) v5
theorem put6_blk {w : World} {b t : Nat} {u0 u1 u2 u3 u4 u5 : Value} (h : Blk w b t #[u0, u1, u2, u3, u4, u5]) (v0 v1 v2 v3 v4 v5 : Value) : Blk (put6 w b v0 v1 v2 v3 v4 v5) b t #[v0, v1, v2, v3, v4, v5] := by
  have := (((((h.set_ 0 v0).set_ 1 v1).set_ 2 v2).set_ 3 v3).set_ 4 v4).set_ 5 v5
  unfold put6
  simpa using this

/-- a packet that Decode has taken up, ahead of the row A8 -/
def PkOk (w : World) (A8 : Option Addr) (lo : Nat) (p : Int × List Int) (cs : List Value) : Prop :=
  ∃ A n c, cs = [.int .i64 p.1, .slice A n c] ∧ i64 p.1 ∧ Rd w w.heap.size 1 A n (p.2.map (.int .i64)) ∧ p.2.length = n ∧ n ≤ c ∧ c ≤ maxLen ∧ (∀ x ∈ p.2, i64 x) ∧ (0 < n → ∀ k, InRow A k → lo ≤ k ∧ ¬ InRow A8 k ∧ k < w.heap.size)
theorem PkOk.step {w w' : World} {A8 A8' : Option Addr} {lo : Nat} {p : Int × List Int} {cs : List Value} (h : PkOk w A8 lo p cs) {S : Nat → Prop} (hk : Keep S w w') (hS : ∀ k, S k → InRow A8 k ∨ k < lo ∨ w.heap.size ≤ k) (hA : ∀ k, InRow A8' k → InRow A8 k ∨ w.heap.size ≤ k) : PkOk w' A8' lo p cs := by
  obtain ⟨A, n, c, rfl, h1, h2, h3, h4, h5, h6, h7⟩ := h
  refine ⟨A, n, c, rfl, h1, (h2.keep_far hk (fun ad e hn hs => ?_)).more hk.size, h3, h4, h5, h6, fun hn k hi => ?_⟩
  · obtain ⟨a1, a2, a3⟩ := h7 hn ad.block ⟨ad, e, rfl⟩
    rcases hS _ hs with h | h | h
    · exact a2 h
    · omega
    · omega
  · obtain ⟨a1, a2, a3⟩ := h7 hn k hi
    refine ⟨a1, fun h => ?_, Nat.lt_of_lt_of_le a3 hk.size⟩
    rcases hA k h with h | h
    · exact a2 h
    · omega
theorem PkOk.rep {w : World} {A8 : Option Addr} {lo : Nat} {p : Int × List Int} {cs : List Value} (h : PkOk w A8 lo p cs) : repPk.cells w w.heap.size p cs := by
  obtain ⟨A, n, c, rfl, h1, h2, h3, h4, h5, h6, h7⟩ := h
  exact ⟨A, n, c, rfl, h1, h2, h3, h4, h5, h6⟩

set_option maxHeartbeats 8000000 in
set_option maxRecDepth 100000 in
theorem mdecode_any (B : Nat) (b : List Nat) (A : Option Addr) (n c : Nat) (w : World) (hb : Rd w B 1 A n (b.map u8v)) (hbl : b.length = n) (h8 : ∀ x ∈ b, x < 256) (hc : n ≤ c) (hcm : c ≤ maxLen) (hn : n ≤ 1000000) (hW : Widths w) (hg : 0 < B) (hB : B ≤ w.heap.size) :
    Calls Tryd.prog 18 #[.slice A n c] w (DecRet w (DecodeM b)) := by
  have hmf : ∀ (fn : Fn) (first cap : Array Value) (w : World), (Instr.makeFunc fn first cap).run Tryd.prog w = .ok (.func fn first cap) w := fun _ _ _ _ => rfl
  have HBy := Lib.hid (And.intro hb (And.intro hbl h8))
  have HW := Lib.hid hW
  have HG := Lib.hid (And.intro hg hB)
  have HC := Lib.hid (And.intro hc hcm)
  have HRd : Hid (Calls Tryd.prog 42 #[.slice A n c] (w.alloc (.cells zMsg 25)) (WRead (w.alloc (.cells zMsg 25)) b)) := Lib.hid (read_any A n c B b hbl _ (hb.alloc _) h8 hn)
  have hres : Hid (Blk (w.alloc (.cells zMsg 25)) w.heap.size 25 zMsg) := Blk.new w 25 _
  have hk0 : Hid (Keep Never w (w.alloc (.cells zMsg 25))) := (Keep.refl Never w).alloc _
  clear hb hbl h8 hW hg hB hc hcm
  unfold zMsg at HRd hk0 hres
  go_enter Tryd.func18, Tryd.ntmps18
  go_wp2_with fail
  refine HRd.out.mono ?_
  rintro e w1 ⟨rp, rfl, hrd, hk1⟩
  have hsz0 : (w.alloc (.cells #[.int .i64 0, .int .i64 0, .int .i64 0, .int .i64 0, .slice none 0 0, .slice none 0 0] 25)).heap.size = w.heap.size + 1 := by simp
  rw [hsz0] at hrd
  have hs1 := hk1.size
  rw [hsz0] at hs1
  have hrp : w.heap.size + 1 ≤ rp ∧ rp < w1.heap.size := by
    obtain ⟨_, _, _, _, _, _, _, a1, a2, _⟩ := hrd
    exact ⟨a1, a2⟩
  obtain ⟨RH, hRH⟩ : ∃ x, w1.heap.size = x := ⟨_, rfl⟩
  rw [hRH] at hrd hrp hs1
  have HR2 : Hid (RdrAt (w1.alloc (.cells #[.pointer (some ⟨rp, 0, none⟩), .int .i64 0] 73)) RH rp (w.heap.size + 1) RH b (bitsB b) 0) := by
    refine Lib.hid ⟨by have := Blk.new w1 73 #[.pointer (some ⟨rp, 0, none⟩), .int .i64 0]; rwa [hRH] at this, ⟨0, hrd.keep ((Keep.refl Never w1).alloc _) (fun _ h => h.elim), by simp [leftB]⟩, by omega, by omega, hrp.1, hrp.2, by simp; omega⟩
  have HK2 := Lib.hid ((hk0.out.trans hk1).alloc (.cells #[.pointer (some ⟨rp, 0, none⟩), .int .i64 0] 73))
  have HRes2 := Lib.hid ((hres.out.keep hk1 (fun h => h)).alloc (.cells #[.pointer (some ⟨rp, 0, none⟩), .int .i64 0] 73))
  have Hrp := Lib.hid hrp
  have Hs1 := Lib.hid hs1
  clear hrd hk1 hsz0 hs1 hrp hres hk0 HRd
  go_wp2_with fail
  have HD : Hid (DecodeM b = tailM b (takeB (bitsB b) 0 0).1 (onesM (headM (takeB (bitsB b) 0 0).1 ++ ((formM (takeB (bitsB b) 0 0).1).getD ([], 0, [])).1) (takeB (takeB (bitsB b) 0 0).2.1 (errA (takeB (bitsB b) 0 0).1 (takeB (bitsB b) 0 0).2.2) 1).2.1 (errB b.length (takeB (takeB (bitsB b) 0 0).2.1 (errA (takeB (bitsB b) 0 0).1 (takeB (bitsB b) 0 0).2.2) 1).1 (takeB (takeB (bitsB b) 0 0).2.1 (errA (takeB (bitsB b) 0 0).1 (takeB (bitsB b) 0 0).2.2) 1).2.2))) := Lib.hid rfl
  have HT0 := Lib.hid (mtake_any RH rp (w.heap.size + 1) RH b (bitsB b) 0 0 _ HR2.out (HW.out.keep HK2.out (fun h => h)) ⟨by have := HG.out; have := Hs1.out; omega, by have := HG.out; have := Hrp.out; omega⟩)
  obtain ⟨r0, hr0⟩ : ∃ r, takeB (bitsB b) 0 0 = r := ⟨_, rfl⟩
  rw [hr0] at HD HT0
  have HE0 := Lib.hid hr0
  clear hr0
  obtain ⟨id, l1, e1⟩ := r0
  simp only at HD HT0
  refine HT0.out.mono ?_
  rintro e w3 ⟨rfl, hr3, hk3⟩
  simp only at hr3
  have hs3 : w3.heap.size ≥ RH + 1 := by
    have h1 := hk3.size
    have h2 : (w1.alloc (.cells #[.pointer (some ⟨rp, 0, none⟩), .int .i64 0] 73)).heap.size = w1.heap.size + 1 := by simp
    omega
  have hal := (Keep.refl Never w3).alloc (.cells #[.int .i64 id, .int .i64 0, .int .i64 0, .int .i64 0, .slice none 0 0, .slice none 0 0] 25)
  have HM3 : Hid (Blk (w3.alloc (.cells #[.int .i64 id, .int .i64 0, .int .i64 0, .int .i64 0, .slice none 0 0, .slice none 0 0] 25)) w3.heap.size 25 #[.int .i64 id, .int .i64 0, .int .i64 0, .int .i64 0, .slice none 0 0, .slice none 0 0]) := Blk.new w3 25 _
  have HR3 := Lib.hid (hr3.never hal)
  have HRes3 := Lib.hid ((HRes2.out.keep hk3 (by have := Hs1.out; have := Hrp.out; omega)).keep hal (fun h => h))
  have HK3 := Lib.hid ((HK2.out.then_ hk3 (fun i hi e => by have := Hs1.out; have := Hrp.out; omega)).trans hal)
  have Hs3 := Lib.hid hs3
  clear hr3 hk3 hal hs3 HT0 HR2 HK2 HRes2
  have HO : Hid (∀ W, Calls Tryd.prog 22 #[.int .i64 id] W (OfRet id W)) := fun W => of_any id W
  unfold OfRet at HO
  go_wp2_with fail
  refine (HO.out _).mono ?_
  rintro e w4 ⟨A1, n1, c1, A3, n3, c3, rfl, hk4, hn1, hr1, hc1, hn3, hr3, hc3⟩
  have hs4 : w3.heap.size + 1 ≤ w4.heap.size := by have := hk4.size; simpa using this
  have hal := (Keep.refl Never w4).alloc (.cells #[.slice A1 n1 c1, .int .i64 ((formM id).getD ([], 0, [])).2.1, .slice A3 n3 c3] 42)
  have hk5 := hk4.trans hal
  have hd5 : DSt w (w4.alloc (.cells #[.slice A1 n1 c1, .int .i64 ((formM id).getD ([], 0, [])).2.1, .slice A3 n3 c3] 42)) w.heap.size RH rp w3.heap.size w4.heap.size (w.heap.size + 1) RH b #[.int .i64 id, .int .i64 0, .int .i64 0, .int .i64 0, .slice none 0 0, .slice none 0 0] #[.slice A1 n1 c1, .int .i64 ((formM id).getD ([], 0, [])).2.1, .slice A3 n3 c3] l1 e1 (w4.alloc (.cells #[.slice A1 n1 c1, .int .i64 ((formM id).getD ([], 0, [])).2.1, .slice A3 n3 c3] 42)) := by
    have h1 := Hs1.out
    have h2 := Hrp.out
    have h3 := Hs3.out
    exact ⟨HR3.out.never hk5, HM3.out.keep hk5 (fun h => h), HRes3.out.keep hk5 (fun h => h), Blk.new w4 42 _, HK3.out.trans hk5, by omega, by omega, by omega, Keep.refl _ _⟩
  have HFr : Hid (n1 = ((formM id).getD ([], 0, [])).1.length ∧ Rd (w4.alloc (.cells #[.slice A1 n1 c1, .int .i64 ((formM id).getD ([], 0, [])).2.1, .slice A3 n3 c3] 42)) w4.heap.size 1 A1 n1 (((formM id).getD ([], 0, [])).1.map (.int .i64)) ∧ n3 = ((formM id).getD ([], 0, [])).2.2.length ∧ Rd (w4.alloc (.cells #[.slice A1 n1 c1, .int .i64 ((formM id).getD ([], 0, [])).2.1, .slice A3 n3 c3] 42)) w4.heap.size 1 A3 n3 (((formM id).getD ([], 0, [])).2.2.map (.int .i64)) ∧ (∀ k, InRow A1 k → w3.heap.size < k) ∧ (∀ k, InRow A3 k → w3.heap.size < k)) := Lib.hid ⟨hn1, hr1.alloc _, hn3, hr3.alloc _, fun k h => by have := hc3.2.1 k h; simp at this; omega, fun k h => by have := hc3.2.2 k h; simp at this; omega⟩
  have HD5 := Lib.hid hd5
  clear hk4 hn1 hr1 hc1 hn3 hr3 hc3 HO hs4 hal hk5 hd5 HR3 HM3 HRes3 HK3
  go_upto_region 4 with fail
  generalize w4.alloc (.cells #[.slice A1 n1 c1, .int .i64 ((formM id).getD ([], 0, [])).2.1, .slice A3 n3 c3] 42) = w5 at HD5 HFr ⊢
  generalize w3.heap.size = pm at HD5 HFr Hs3 ⊢
  generalize w4.heap.size = pf at HD5 HFr ⊢
  have hc1 : w5.cell? ⟨RH, 1, none⟩ = some (.int .i64 e1) := HD5.out.1.1.cell 1
  have hf1 : w5.frozen? ⟨RH, 1, none⟩ = false := HD5.out.1.1.frozen 1
  obtain ⟨kn, hkn⟩ : ∃ x, (formM id).isSome = x := ⟨_, rfl⟩
  have HKn := Lib.hid hkn
  rw [hkn]
  clear hkn
  go_cut [37] from 29 (fun s37 wx => s37 = .bool (decide (e1 = 0) && !kn) ∧ w5 = wx)
  case first =>
    by_cases he : e1 = 0
    · subst he
      cases kn
      all_goals
        go_wp2_with fail
        go_meet
        exact ⟨rfl, rfl⟩
    · have e0 : (e1 == 0) = false := by simpa using he
      have e2 : decide (e1 = 0) = false := by simpa using he
      go_wp2_with fail
      go_meet
      exact ⟨by rw [e2]; rfl, rfl⟩
  case rest =>
  obtain ⟨rfl, rfl⟩ := hcut
  go_upto_if 37 with fail
  go_cut [] from 29 (fun wx => Hid (DSt w w5 w.heap.size RH rp pm pf (w.heap.size + 1) RH b #[.int .i64 id, .int .i64 0, .int .i64 0, .int .i64 0, .slice none 0 0, .slice none 0 0] #[.slice A1 n1 c1, .int .i64 ((formM id).getD ([], 0, [])).2.1, .slice A3 n3 c3] l1 (errA id e1) wx))
  case first =>
    by_cases he : e1 = 0 ∧ kn = false
    · have hE : errA id e1 = 4 := by unfold errA; rw [if_pos ⟨he.1, by rw [HKn.out]; exact he.2⟩]
      have hb : (decide (e1 = 0) && !kn) = true := by rw [he.1, he.2]; rfl
      rw [hb]
      have HE := Lib.hid hE
      clear hE hb he
      go_wp2_with fail
      go_meet
      exact Lib.hid (by rw [HE.out]; exact HD5.out.err 4)
    · have hE : errA id e1 = e1 := by unfold errA; rw [if_neg (by rw [HKn.out]; exact he)]
      have hb : (decide (e1 = 0) && !kn) = false := by
        cases kn
        · have : ¬ e1 = 0 := fun h => he ⟨h, rfl⟩
          simp [this]
        · simp
      rw [hb]
      have HE := Lib.hid hE
      clear hE hb he
      go_wp2_with fail
      go_meet
      exact Lib.hid (by rw [HE.out]; exact HD5.out)
  case rest =>
  have HDa : Hid (DSt w w5 w.heap.size RH rp pm pf (w.heap.size + 1) RH b #[.int .i64 id, .int .i64 0, .int .i64 0, .int .i64 0, .slice none 0 0, .slice none 0 0] #[.slice A1 n1 c1, .int .i64 ((formM id).getD ([], 0, [])).2.1, .slice A3 n3 c3] l1 (errA id e1) wc) := hcut
  have HT1 := Lib.hid (mtake_any RH rp (w.heap.size + 1) RH b l1 (errA id e1) 1 wc HDa.out.1 (HW.out.keep HDa.out.2.2.2.2.1 (fun h => h)) ⟨by have := HG.out; have := Hs1.out; omega, by have := HG.out; have := Hrp.out; omega⟩)
  clear hcut hc1 hf1
  obtain ⟨e2, he2⟩ : ∃ r, errA id e1 = r := ⟨_, rfl⟩
  rw [he2] at HD HT1 HDa
  have HE2 := Lib.hid he2
  clear he2
  obtain ⟨r1, hr1⟩ : ∃ r, takeB l1 e2 1 = r := ⟨_, rfl⟩
  rw [hr1] at HD HT1
  have HE3 := Lib.hid hr1
  clear hr1
  obtain ⟨L, l2, e3⟩ := r1
  rw [HBy.out.2.1] at HD
  simp only at HD HT1
  go_wp2_with fail
  refine HT1.out.mono ?_
  rintro e w6 ⟨rfl, hr6, hk6⟩
  have HD6 := Lib.hid (HDa.out.after hr6 hk6)
  clear hr6 hk6 HT1
  have hc1 : w6.cell? ⟨RH, 1, none⟩ = some (.int .i64 e3) := HD6.out.1.1.cell 1
  have hf1 : w6.frozen? ⟨RH, 1, none⟩ = false := HD6.out.1.1.frozen 1
  go_upto_region 7 with fail
  go_cut [53] from 43 (fun s wx => s = .bool (decide (e3 = 0) && !decide (L = n)) ∧ w6 = wx)
  case first =>
    by_cases he : e3 = 0
    · subst he
      by_cases hL : L = n
      · have h1 : (L != (n : Int)) = false := by simp [hL]
        have h2 : decide (L = n) = true := by simpa using hL
        have H2 := Lib.hid h2
        clear h2 hL
        go_wp2_with fail
        go_meet
        exact ⟨by rw [H2.out]; rfl, rfl⟩
      · have h1 : (L != (n : Int)) = true := by simpa using hL
        have h2 : decide (L = n) = false := by simpa using hL
        have H2 := Lib.hid h2
        clear h2 hL
        go_wp2_with fail
        go_meet
        exact ⟨by rw [H2.out]; rfl, rfl⟩
    · have e0 : (e3 == 0) = false := by simpa using he
      have e2 : decide (e3 = 0) = false := by simpa using he
      have E2 := Lib.hid e2
      clear e2 he
      go_wp2_with fail
      go_meet
      exact ⟨by rw [E2.out]; rfl, rfl⟩
  case rest =>
  obtain ⟨rfl, rfl⟩ := hcut
  go_upto_if 53 with fail
  go_cut [] from 43 (fun wx => Hid (DSt w w5 w.heap.size RH rp pm pf (w.heap.size + 1) RH b #[.int .i64 id, .int .i64 0, .int .i64 0, .int .i64 0, .slice none 0 0, .slice none 0 0] #[.slice A1 n1 c1, .int .i64 ((formM id).getD ([], 0, [])).2.1, .slice A3 n3 c3] l2 (errB n L e3) wx))
  case first =>
    by_cases he : e3 = 0 ∧ L ≠ n
    · have hE : errB n L e3 = 8 := by unfold errB; rw [if_pos he]
      have hb : (decide (e3 = 0) && !decide (L = n)) = true := by simp [he.1, he.2]
      rw [hb]
      have HE := Lib.hid hE
      clear hE hb he
      go_wp2_with fail
      go_meet
      exact Lib.hid (by rw [HE.out]; exact HD6.out.err 8)
    · have hE : errB n L e3 = e3 := by unfold errB; rw [if_neg he]
      have hb : (decide (e3 = 0) && !decide (L = n)) = false := by
        by_cases h0 : e3 = 0
        · by_cases h1 : L = n
          · simp [h1]
          · exact absurd ⟨h0, h1⟩ he
        · simp [h0]
      rw [hb]
      have HE := Lib.hid hE
      clear hE hb he
      go_wp2_with fail
      go_meet
      exact Lib.hid (by rw [HE.out]; exact HD6.out)
  case rest =>
  have HDb : Hid (DSt w w5 w.heap.size RH rp pm pf (w.heap.size + 1) RH b #[.int .i64 id, .int .i64 0, .int .i64 0, .int .i64 0, .slice none 0 0, .slice none 0 0] #[.slice A1 n1 c1, .int .i64 ((formM id).getD ([], 0, [])).2.1, .slice A3 n3 c3] l2 (errB n L e3) wc) := hcut
  clear hcut hc1 hf1 HD6 HDa
  obtain ⟨e4, he4⟩ : ∃ r, errB n L e3 = r := ⟨_, rfl⟩
  rw [he4] at HD HDb
  have HE4 := Lib.hid he4
  clear he4
  have hgw : Hid (0 ≠ RH ∧ 0 ≠ rp) := Lib.hid ⟨by have := HG.out; have := Hs1.out; omega, by have := HG.out; have := Hrp.out; omega⟩
  have HOn : Hid (∀ m f l e v W, DSt w w5 w.heap.size RH rp pm pf (w.heap.size + 1) RH b m f l e W → Calls Tryd.prog 44 #[.pointer (some ⟨RH, 0, none⟩), .int .i64 v] W fun en w' => en = .returned (.int .i64 (oneB l e v).1) ∧ DSt w w5 w.heap.size RH rp pm pf (w.heap.size + 1) RH b m f (oneB l e v).2.1 (oneB l e v).2.2 w' ∧ Keep (fun q => q = RH ∨ q = rp) W w') := by
    refine Lib.hid (fun m f l e v W h => (mone_any RH rp (w.heap.size + 1) RH b l e v W h.1 (HW.out.keep h.2.2.2.2.1 (fun h => h)) hgw.out).mono ?_)
    rintro en w' ⟨rfl, h1, h2⟩
    exact ⟨rfl, h.after h1 h2, h2⟩
  go_wp2_with fail
  have HT2 := Lib.hid (HOn.out _ _ l2 e4 2 wc HDb.out)
  have HHu : Hid (upM id = true → onesM (headM id) l2 e4 = ([(oneB l2 e4 2).1, (oneB (oneB l2 e4 2).2.1 (oneB l2 e4 2).2.2 9).1], (oneB (oneB l2 e4 2).2.1 (oneB l2 e4 2).2.2 9).2)) := Lib.hid (fun h => by unfold headM; rw [if_pos h]; rfl)
  have HHd : Hid (upM id = false → onesM (headM id) l2 e4 = ([(oneB l2 e4 2).1, (oneB (oneB l2 e4 2).2.1 (oneB l2 e4 2).2.2 3).1, (oneB (oneB (oneB l2 e4 2).2.1 (oneB l2 e4 2).2.2 3).2.1 (oneB (oneB l2 e4 2).2.1 (oneB l2 e4 2).2.2 3).2.2 4).1], (oneB (oneB (oneB l2 e4 2).2.1 (oneB l2 e4 2).2.2 3).2.1 (oneB (oneB l2 e4 2).2.1 (oneB l2 e4 2).2.2 3).2.2 4).2)) := Lib.hid (fun h => by unfold headM; rw [if_neg (by rw [h]; simp)]; rfl)
  generalize oneB l2 e4 2 = r2 at HT2 HHu HHd
  obtain ⟨t, l3, e5⟩ := r2
  simp only at HT2 HHu HHd
  refine HT2.out.mono ?_
  rintro en w7 ⟨rfl, hd7, -⟩
  have HD7 : Hid (DSt w w5 w.heap.size RH rp pm pf (w.heap.size + 1) RH b #[.int .i64 id, .int .i64 t, .int .i64 0, .int .i64 0, .slice none 0 0, .slice none 0 0] #[.slice A1 n1 c1, .int .i64 ((formM id).getD ([], 0, [])).2.1, .slice A3 n3 c3] l3 e5 (w7.setCell ⟨pm, 1, none⟩ (.int .i64 t))) := Lib.hid (hd7.put 1 (.int .i64 t))
  have hf : w7.frozen? ⟨pm, 1, none⟩ = false := hd7.2.1.frozen 1
  have hq : w7.cell? ⟨pm, 1, none⟩ = some (.int .i64 0) := hd7.2.1.cell 1
  have q0 : (w7.setCell ⟨pm, 1, none⟩ (.int .i64 t)).cell? ⟨pm, 0, none⟩ = some (.int .i64 id) := HD7.out.2.1.cell 0
  clear hd7 HT2
  have HU : Hid (∀ W, Calls Tryd.prog 16 #[.int .i64 id] W fun e w' => e = .returned (.bool (upM id)) ∧ Keep Never W w') := Lib.hid (fun W => mup_any id W)
  go_wp2_with fail
  refine (HU.out _).mono ?_
  rintro en w8 ⟨rfl, hk8⟩
  have HD8 := Lib.hid (HD7.out.never hk8)
  clear hk8 hf hq q0 HU
  go_upto_if 64 with fail
  go_cut [] from 43 (fun wx => Hid (DSt w w5 w.heap.size RH rp pm pf (w.heap.size + 1) RH b #[.int .i64 id, .int .i64 (partsM id (onesM (headM id) l2 e4).1).1, .int .i64 (partsM id (onesM (headM id) l2 e4).1).2.1, .int .i64 (partsM id (onesM (headM id) l2 e4).1).2.2.1, .slice none 0 0, .slice none 0 0] #[.slice A1 n1 c1, .int .i64 ((formM id).getD ([], 0, [])).2.1, .slice A3 n3 c3] (onesM (headM id) l2 e4).2.1 (onesM (headM id) l2 e4).2.2 wx))
  case first =>
    cases hu : upM id with
    | true =>
      have HO2 := Lib.hid (HHu.out hu)
      have HP : Hid (∀ a c : Int, partsM id [a, c] = (a, 0, c, [])) := Lib.hid (fun a c => by unfold partsM; rw [if_pos hu]; rfl)
      have HT9 := Lib.hid (HOn.out _ _ l3 e5 9 w8 HD8.out)
      clear hu
      go_wp2_with fail
      refine HT9.out.mono ?_
      rintro en w9 ⟨rfl, hd9, -⟩
      have HD9 : Hid (DSt w w5 w.heap.size RH rp pm pf (w.heap.size + 1) RH b #[.int .i64 id, .int .i64 t, .int .i64 0, .int .i64 (oneB l3 e5 9).1, .slice none 0 0, .slice none 0 0] #[.slice A1 n1 c1, .int .i64 ((formM id).getD ([], 0, [])).2.1, .slice A3 n3 c3] (oneB l3 e5 9).2.1 (oneB l3 e5 9).2.2 (w9.setCell ⟨pm, 3, none⟩ (.int .i64 (oneB l3 e5 9).1))) := Lib.hid (hd9.put 3 _)
      have hf : w9.frozen? ⟨pm, 3, none⟩ = false := hd9.2.1.frozen 3
      have hq : w9.cell? ⟨pm, 3, none⟩ = some (.int .i64 0) := hd9.2.1.cell 3
      clear hd9
      go_wp2_with fail
      go_meet
      exact Lib.hid (by rw [HO2.out]; simp only [HP.out]; exact HD9.out)
    | false =>
      have HO2 := Lib.hid (HHd.out hu)
      have HP : Hid (∀ a c d : Int, partsM id [a, c, d] = (a, c, d, [])) := Lib.hid (fun a c d => by unfold partsM; rw [if_neg (by rw [hu]; simp)]; rfl)
      have HT9 := Lib.hid (HOn.out _ _ l3 e5 3 w8 HD8.out)
      clear hu
      generalize oneB l3 e5 3 = r3 at HT9 HO2
      obtain ⟨ack, l4, e6⟩ := r3
      simp only at HT9 HO2
      go_wp2_with fail
      refine HT9.out.mono ?_
      rintro en w9 ⟨rfl, hd9, -⟩
      have HD9 : Hid (DSt w w5 w.heap.size RH rp pm pf (w.heap.size + 1) RH b #[.int .i64 id, .int .i64 t, .int .i64 ack, .int .i64 0, .slice none 0 0, .slice none 0 0] #[.slice A1 n1 c1, .int .i64 ((formM id).getD ([], 0, [])).2.1, .slice A3 n3 c3] l4 e6 (w9.setCell ⟨pm, 2, none⟩ (.int .i64 ack))) := Lib.hid (hd9.put 2 _)
      have hf : w9.frozen? ⟨pm, 2, none⟩ = false := hd9.2.1.frozen 2
      have hq : w9.cell? ⟨pm, 2, none⟩ = some (.int .i64 0) := hd9.2.1.cell 2
      clear hd9
      have HT10 := Lib.hid (HOn.out _ _ l4 e6 4 _ HD9.out)
      go_wp2_with fail
      refine HT10.out.mono ?_
      rintro en w10 ⟨rfl, hd10, -⟩
      have HD10 : Hid (DSt w w5 w.heap.size RH rp pm pf (w.heap.size + 1) RH b #[.int .i64 id, .int .i64 t, .int .i64 ack, .int .i64 (oneB l4 e6 4).1, .slice none 0 0, .slice none 0 0] #[.slice A1 n1 c1, .int .i64 ((formM id).getD ([], 0, [])).2.1, .slice A3 n3 c3] (oneB l4 e6 4).2.1 (oneB l4 e6 4).2.2 (w10.setCell ⟨pm, 3, none⟩ (.int .i64 (oneB l4 e6 4).1))) := Lib.hid (hd10.put 3 _)
      have hf3 : w10.frozen? ⟨pm, 3, none⟩ = false := hd10.2.1.frozen 3
      have hq3 : w10.cell? ⟨pm, 3, none⟩ = some (.int .i64 0) := hd10.2.1.cell 3
      clear hd10 hf hq
      go_wp2_with fail
      go_meet
      exact Lib.hid (by rw [HO2.out]; simp only [HP.out]; exact HD10.out)
  case rest =>
  have HDc := hcut
  clear hcut HD7 HD8 HHu HHd HDb
  have HON := Lib.hid (onesM_app (headM id) ((formM id).getD ([], 0, [])).1 l2 e4)
  rw [onesM_app] at HD
  have HHl : Hid ((onesM (headM id) l2 e4).1.length = (headM id).length) := Lib.hid (onesM_len _ _ _)
  generalize onesM (headM id) l2 e4 = rH at HD HDc HHl HON
  obtain ⟨hv, l5, e7⟩ := rH
  simp only at HD HDc HHl HON
  have HPA : Hid (∀ vs, partsM id (hv ++ vs) = ((partsM id hv).1, (partsM id hv).2.1, (partsM id hv).2.2.1, vs)) := Lib.hid (fun vs => partsM_app HHl.out vs)
  generalize (partsM id hv).1 = t' at HDc HPA
  generalize (partsM id hv).2.1 = ack' at HDc HPA
  generalize (partsM id hv).2.2.1 = of' at HDc HPA
  have q0 : wc.cell? ⟨pf, 0, none⟩ = some (.slice A1 n1 c1) := HDc.out.2.2.2.1.cell 0
  go_wp2_with fail
  obtain ⟨own, hown⟩ : ∃ x, ((formM id).getD ([], 0, [])).1 = x := ⟨_, rfl⟩
  rw [hown] at HD HFr
  have HOwn := Lib.hid hown
  have HLt : Hid (pm < w5.heap.size ∧ pf < w5.heap.size ∧ RH < w5.heap.size ∧ rp < w5.heap.size ∧ w.heap.size < w5.heap.size ∧ RH ≤ w5.heap.size ∧ w.heap.size ≤ w5.heap.size) := Lib.hid (by have h1 := HD5.out.2.1.lt; have h2 := HD5.out.2.2.2.1.lt; have h3 := HD5.out.1.1.lt; have h4 := HD5.out.2.2.1.lt; have h5 := Hrp.out; omega)
  clear hown q0
  go_loopw [11, 77] (fun _ i wr => ∃ (j cc : Nat) (A7 : Option Addr), j ≤ n1 ∧ i = .int .i64 j ∧ Hid (DSt w w5 w.heap.size RH rp pm pf (w.heap.size + 1) RH b #[.int .i64 id, .int .i64 t', .int .i64 ack', .int .i64 of', .slice A7 j cc, .slice none 0 0] #[.slice A1 n1 c1, .int .i64 ((formM id).getD ([], 0, [])).2.1, .slice A3 n3 c3] (onesM (own.take j) l5 e7).2.1 (onesM (own.take j) l5 e7).2.2 wr ∧ Own wr w5.heap.size 3 1 A7 j cc ((onesM (own.take j) l5 e7).1.map (.int .i64)))) (fun _ i _ => n1 - (intOf i).toNat)
  case atStart => exact ⟨0, 0, none, by omega, rfl, Lib.hid ⟨HDc.out, Own.nil _ _ _ _⟩⟩
  case round =>
    obtain ⟨j, cc, A7, hj, rfl, HJ⟩ := hrel
    obtain ⟨hd, ho⟩ := HJ.out
    by_cases hjn : j < n1
    · have hrd5 := HFr.out.2.1.keep_far hd.2.2.2.2.2.2.2.2 (fun ad h _ hq => by have h1 := HFr.out.2.2.2.2.1 ad.block ⟨ad, h, rfl⟩; have h2 := Hs3.out; have h3 := Hrp.out; omega)
      obtain ⟨ad, v, hA1, _, hv, hcv⟩ := hrd5.at1 hjn
      subst hA1
      have hji : (j : Int) < (n1 : Int) := by omega
      have hn15 : n1 ≤ 5 := by
        have h1 := HFr.out.1
        have h2 := HOwn.out
        cases hfm : formM id with
        | none => rw [hfm] at h2; simp at h2; (first | rw [h2] at h1 | rw [← h2] at h1); simp at h1; omega
        | some f => obtain ⟨a, bb, cc'⟩ := f; have h3 := form_own hfm; rw [hfm] at h2; simp at h2; (first | rw [h2] at h1 | rw [← h2] at h1); omega
      have q4 : wr.cell? ⟨pm, 4, none⟩ = some (.slice A7 j cc) := hd.2.1.cell 4
      have f4 : wr.frozen? ⟨pm, 4, none⟩ = false := hd.2.1.frozen 4
      have HTk := Lib.hid (onesM_take hv l5 e7)
      have HV := Lib.hid hv
      have HDd := Lib.hid hd
      have HOo := Lib.hid ho
      generalize onesM (own.take j) l5 e7 = rj at HTk HDd HOo
      obtain ⟨vs, lj, ej⟩ := rj
      simp only at HTk HDd HOo
      have HN := Lib.hid (fun W (hk : Keep Never wr W) => HOn.out _ _ lj ej v W (HDd.out.never hk))
      generalize oneB lj ej v = ro at HTk HN
      obtain ⟨x, lx, ex⟩ := ro
      simp only at HTk HN
      clear hd ho hrd5 hv HJ
      go_wp2_with fail
      go_region_law (first
          | (refine step_app _ rfl (.tmp 82) (.tmp 86) _ rfl elemInt w5.heap.size rfl (HO9.out.alloc _) _ rfl (Rd.of_blk (n := 1) (cs := [.int .i64 x]) (Blk.new _ _ _) rfl) (by simp [Value.oneCell']) (by omega) (by unfold maxLen; omega) (by have := hs9.out; simp; omega) ?_; intro A5 c5 w10 hown5 hk5 hrow5; have hd10 := Lib.hid ((HD9.out.never ((Keep.refl Never w9).alloc _)).row hk5 (fun k h => (HO9.out.row h).1) HLt.out); have hc10 := hd10.out.2.1.cell 4; have hf10 := hd10.out.2.1.frozen 4; have HO10 := Lib.hid hown5; have HR10 := Lib.hid hrow5; clear hown5 hk5 hrow5)
          | (go_simp; go_at_call 44; refine (HN.out _ (Keep.refl Never wr).drew).mono ?_; rintro en w9 ⟨rfl, hd9, hk9⟩; have hs9 := Lib.hid hd9.2.2.2.2.2.2.2.2.size; have HO9 := Lib.hid ((HOo.out.drew).keep hk9 (fun q hq e => by have h1 := (HOo.out.less (Nat.le_refl _)).row hq; have h2 := HLt.out; omega)); have HD9 := Lib.hid hd9; have hc9 : w9.cell? ⟨pm, 4, none⟩ = some (.slice A7 j cc) := hd9.2.1.cell 4; have c9a : ∀ o, (w9.alloc o).cell? ⟨pm, 4, none⟩ = some (.slice A7 j cc) := fun o => (hd9.2.1.alloc o).cell 4; have HK9 := Lib.hid hk9; clear hd9 hk9))
      all_goals
        have HF : Hid (DSt w w5 w.heap.size RH rp pm pf (w.heap.size + 1) RH b #[.int .i64 id, .int .i64 t', .int .i64 ack', .int .i64 of', .slice A5 (j + 1) c5, .slice none 0 0] #[.slice (some ad) n1 c1, .int .i64 ((formM id).getD ([], 0, [])).2.1, .slice A3 n3 c3] lx ex (w10.setCell ⟨pm, 4, none⟩ (.slice A5 (j + 1) c5)) ∧
            Own (w10.setCell ⟨pm, 4, none⟩ (.slice A5 (j + 1) c5)) w5.heap.size 3 1 A5 (j + 1) c5 ((vs ++ [x]).map (.int .i64))) :=
          Lib.hid ⟨hd10.out.put 4 _, by have := HO10.out.far (p := ⟨pm, 4, none⟩) (fun q hq e => by have h1 := HO10.out.row hq; have h2 := HLt.out; simp only at e; omega) (.slice A5 (j + 1) c5); simpa using this⟩
        clear hd10 HO10 HR10 hc10 hf10 HN q4 f4
        go_wp2_with fail
        go_roundw
        case rel => exact ⟨j + 1, c5, A5, by omega, by go_num, by rw [HTk.out]; exact HF⟩
        case measure => simp [intOf]; try omega
    · obtain rfl : j = n1 := by omega
      have hji : ¬ (j : Int) < (j : Int) := by omega
      have hte : own.take j = own := List.take_of_length_le (by have := HFr.out.1; omega)
      rw [hte] at hd ho
      obtain ⟨rO, hrO⟩ : ∃ r, onesM own l5 e7 = r := ⟨_, rfl⟩
      rw [hrO] at hd ho HD
      rw [HOwn.out, hrO] at HON
      obtain ⟨vs, l8, e8⟩ := rO
      simp only at hd ho HD HON
      have hvj : vs.length = j := by have := ho.len; simpa using this
      have Hvj := Lib.hid hvj
      have HD8 := Lib.hid hd
      have HO8 := Lib.hid ho
      have q1 : wr.cell? ⟨RH, 1, none⟩ = some (.int .i64 e8) := hd.1.1.cell 1
      have q0 : wr.cell? ⟨RH, 0, none⟩ = some (.pointer (some ⟨rp, 0, none⟩)) := hd.1.1.cell 0
      clear hd ho HJ hrO hte hvj HDc
      by_cases he8 : e8 = 0
      rotate_left
      · have x0 : (e8 == 0) = false := by simpa using he8
        have x1 : (e8 != 0) = true := by simpa using he8
        have HR : Hid (DecodeM b = .error e8) := Lib.hid (by rw [HD.out]; unfold tailM; rw [if_pos he8])
        have hb3 := HD8.out.2.2.1
        have z0 := hb3.frozen 0
        have z1 := hb3.frozen 1
        have z2 := hb3.frozen 2
        have z3 := hb3.frozen 3
        have z4 := hb3.frozen 4
        have z5 := hb3.frozen 5
        have y0 : wr.cell? ⟨w.heap.size, 0, none⟩ = some (.int .i64 0) := hb3.cell 0
        have y1 : wr.cell? ⟨w.heap.size, 1, none⟩ = some (.int .i64 0) := hb3.cell 1
        have y2 : wr.cell? ⟨w.heap.size, 2, none⟩ = some (.int .i64 0) := hb3.cell 2
        have y3 : wr.cell? ⟨w.heap.size, 3, none⟩ = some (.int .i64 0) := hb3.cell 3
        have y4 : wr.cell? ⟨w.heap.size, 4, none⟩ = some (.slice none 0 0) := hb3.cell 4
        have y5 : wr.cell? ⟨w.heap.size, 5, none⟩ = some (.slice none 0 0) := hb3.cell 5
        have hne : RH ≠ w.heap.size := HD8.out.2.2.2.2.2.1.2.2.1.symm
        have hne' : w.heap.size ≠ RH := HD8.out.2.2.2.2.2.1.2.2.1
        have HKz : Hid (DecRet w (DecodeM b) (.returned (.tuple #[.agg #[.int .i64 0, .int .i64 0, .int .i64 0, .int .i64 0, .slice none 0 0, .slice none 0 0], .int .i64 e8])) (put6 wr w.heap.size (.int .i64 0) (.int .i64 0) (.int .i64 0) (.int .i64 0) (.slice none 0 0) (.slice none 0 0)).drew) :=
          Lib.hid ⟨0, 0, 0, 0, none, 0, 0, none, 0, 0, e8, rfl, (HD8.out.2.2.2.2.1.then_ (put6_keep _ _ _ _ _ _ _ _) (fun i hi e => by omega)).drew, .inr ⟨HR.out, he8, rfl, rfl, rfl, rfl, rfl, rfl, rfl, rfl, rfl, rfl⟩⟩
        have HBz := Lib.hid (put6_blk hb3 (.int .i64 0) (.int .i64 0) (.int .i64 0) (.int .i64 0) (.slice none 0 0) (.slice none 0 0)).drew
        have hS0 : wr.drew.cell? ⟨RH, 1, none⟩ = some (.int .i64 e8) ∧ wr.drew.cell? ⟨w.heap.size, 0, none⟩ = some (.int .i64 0) ∧ wr.drew.cell? ⟨w.heap.size, 1, none⟩ = some (.int .i64 0) ∧ wr.drew.cell? ⟨w.heap.size, 2, none⟩ = some (.int .i64 0) ∧ wr.drew.cell? ⟨w.heap.size, 3, none⟩ = some (.int .i64 0) ∧ wr.drew.cell? ⟨w.heap.size, 4, none⟩ = some (.slice none 0 0) ∧ wr.drew.cell? ⟨w.heap.size, 5, none⟩ = some (.slice none 0 0) ∧ wr.drew.frozen? ⟨w.heap.size, 0, none⟩ = false ∧ wr.drew.frozen? ⟨w.heap.size, 1, none⟩ = false ∧ wr.drew.frozen? ⟨w.heap.size, 2, none⟩ = false ∧ wr.drew.frozen? ⟨w.heap.size, 3, none⟩ = false ∧ wr.drew.frozen? ⟨w.heap.size, 4, none⟩ = false ∧ wr.drew.frozen? ⟨w.heap.size, 5, none⟩ = false := ⟨q1, y0, y1, y2, y3, y4, y5, z0, z1, z2, z3, z4, z5⟩
        have hBz := HBz.out
        have hRz : (World.drew (put6 wr w.heap.size (.int .i64 0) (.int .i64 0) (.int .i64 0) (.int .i64 0) (.slice none 0 0) (.slice none 0 0))).cell? ⟨RH, 1, none⟩ = some (.int .i64 e8) := (((put6_keep wr w.heap.size (.int .i64 0) (.int .i64 0) (.int .i64 0) (.int .i64 0) (.slice none 0 0) (.slice none 0 0)).drew).cell (p := ⟨RH, 1, none⟩) (cell_lt q1) hne).trans q1
        have hS1 : (World.drew (put6 wr w.heap.size (.int .i64 0) (.int .i64 0) (.int .i64 0) (.int .i64 0) (.slice none 0 0) (.slice none 0 0))).cell? ⟨RH, 1, none⟩ = some (.int .i64 e8) ∧ (World.drew (put6 wr w.heap.size (.int .i64 0) (.int .i64 0) (.int .i64 0) (.int .i64 0) (.slice none 0 0) (.slice none 0 0))).cell? ⟨w.heap.size, 0, none⟩ = some (.int .i64 0) ∧ (World.drew (put6 wr w.heap.size (.int .i64 0) (.int .i64 0) (.int .i64 0) (.int .i64 0) (.slice none 0 0) (.slice none 0 0))).cell? ⟨w.heap.size, 1, none⟩ = some (.int .i64 0) ∧ (World.drew (put6 wr w.heap.size (.int .i64 0) (.int .i64 0) (.int .i64 0) (.int .i64 0) (.slice none 0 0) (.slice none 0 0))).cell? ⟨w.heap.size, 2, none⟩ = some (.int .i64 0) ∧ (World.drew (put6 wr w.heap.size (.int .i64 0) (.int .i64 0) (.int .i64 0) (.int .i64 0) (.slice none 0 0) (.slice none 0 0))).cell? ⟨w.heap.size, 3, none⟩ = some (.int .i64 0) ∧ (World.drew (put6 wr w.heap.size (.int .i64 0) (.int .i64 0) (.int .i64 0) (.int .i64 0) (.slice none 0 0) (.slice none 0 0))).cell? ⟨w.heap.size, 4, none⟩ = some (.slice none 0 0) ∧ (World.drew (put6 wr w.heap.size (.int .i64 0) (.int .i64 0) (.int .i64 0) (.int .i64 0) (.slice none 0 0) (.slice none 0 0))).cell? ⟨w.heap.size, 5, none⟩ = some (.slice none 0 0) ∧ (World.drew (put6 wr w.heap.size (.int .i64 0) (.int .i64 0) (.int .i64 0) (.int .i64 0) (.slice none 0 0) (.slice none 0 0))).frozen? ⟨w.heap.size, 0, none⟩ = false ∧ (World.drew (put6 wr w.heap.size (.int .i64 0) (.int .i64 0) (.int .i64 0) (.int .i64 0) (.slice none 0 0) (.slice none 0 0))).frozen? ⟨w.heap.size, 1, none⟩ = false ∧ (World.drew (put6 wr w.heap.size (.int .i64 0) (.int .i64 0) (.int .i64 0) (.int .i64 0) (.slice none 0 0) (.slice none 0 0))).frozen? ⟨w.heap.size, 2, none⟩ = false ∧ (World.drew (put6 wr w.heap.size (.int .i64 0) (.int .i64 0) (.int .i64 0) (.int .i64 0) (.slice none 0 0) (.slice none 0 0))).frozen? ⟨w.heap.size, 3, none⟩ = false ∧ (World.drew (put6 wr w.heap.size (.int .i64 0) (.int .i64 0) (.int .i64 0) (.int .i64 0) (.slice none 0 0) (.slice none 0 0))).frozen? ⟨w.heap.size, 4, none⟩ = false ∧ (World.drew (put6 wr w.heap.size (.int .i64 0) (.int .i64 0) (.int .i64 0) (.int .i64 0) (.slice none 0 0) (.slice none 0 0))).frozen? ⟨w.heap.size, 5, none⟩ = false := ⟨hRz, hBz.cell 0, hBz.cell 1, hBz.cell 2, hBz.cell 3, hBz.cell 4, hBz.cell 5, hBz.frozen 0, hBz.frozen 1, hBz.frozen 2, hBz.frozen 3, hBz.frozen 4, hBz.frozen 5⟩
        clear hBz hRz
        unfold put6 at hS1 HBz HKz
        clear hb3 he8
        go_wp2_with fail
        go_region_held3 (fun w' => w'.cell? ⟨RH, 1, none⟩ = some (.int .i64 e8) ∧ w'.cell? ⟨w.heap.size, 0, none⟩ = some (.int .i64 0) ∧ w'.cell? ⟨w.heap.size, 1, none⟩ = some (.int .i64 0) ∧ w'.cell? ⟨w.heap.size, 2, none⟩ = some (.int .i64 0) ∧ w'.cell? ⟨w.heap.size, 3, none⟩ = some (.int .i64 0) ∧ w'.cell? ⟨w.heap.size, 4, none⟩ = some (.slice none 0 0) ∧ w'.cell? ⟨w.heap.size, 5, none⟩ = some (.slice none 0 0) ∧ w'.frozen? ⟨w.heap.size, 0, none⟩ = false ∧ w'.frozen? ⟨w.heap.size, 1, none⟩ = false ∧ w'.frozen? ⟨w.heap.size, 2, none⟩ = false ∧ w'.frozen? ⟨w.heap.size, 3, none⟩ = false ∧ w'.frozen? ⟨w.heap.size, 4, none⟩ = false ∧ w'.frozen? ⟨w.heap.size, 5, none⟩ = false)
          (with_reducible first | exact hS0 | exact hS1 | assumption)
          (fail)
        go_wp2_with fail
        (try simp only [Exit.inBlock, Exit.then])
        refine bodyPost_ret (dec_results HBz.out _ rfl) rfl ?_
        exact HKz.out
      · subst he8
        have hU := decode_used (b := b) (i0 := id) (n1 := L) (l0 := l1) (l1' := l2) (l2' := l8) (e0 := e1) (e1 := e3) (vs := hv ++ vs) HE0.out (by rw [HE2.out, HE3.out]) (by rw [HOwn.out, HBy.out.2.1, HE4.out, HON.out])
        rw [HBy.out.2.1] at hU
        have hn1023 := hU.1
        have HVi : Hid (∀ x ∈ vs, i64 x) := Lib.hid (fun x hx => ones_i64 HON.out x (List.mem_append_right _ hx))
        obtain ⟨k8, hrd8, hl8⟩ := HD8.out.1.2.1
        have hk8 : k8 ≤ 8 * n := by obtain ⟨_, _, _, _, _, h, _⟩ := hrd8; rw [HBy.out.2.1] at h; exact h
        have hk8' : (k8 : Int) = 8 * (n : Int) - (l8.length : Nat) := by rw [hl8, length_leftB, HBy.out.2.1]; omega
        have HT : Hid (DecodeM b = match packsG b (8 * n) (k8 : Int) with
            | .error e => .error e
            | .ok s =>
              if blankM b (usedM id s.1) = false then .error 8
              else if fitsM ((formM id).getD ([], 0, [])).2.1 ((formM id).getD ([], 0, [])).2.2 (s.1.map (·.1)) = false then .error 50
              else .ok (id, t', ack', of', vs, s.1)) := Lib.hid (by
          rw [HD.out]
          unfold tailM
          rw [if_neg (by simp)]
          simp only
          rw [HBy.out.2.1, ← hk8', HPA.out]
          rfl)
        have HU2 : Hid (∀ (Q : List (Int × List Int)) (e : Int), packsG b (8 * n) (k8 : Int) = .ok (Q, e) → usedM id Q = e ∧ 0 ≤ e ∧ e ≤ 8 * (n : Int) ∧ 8 * (n : Int) < e + 8) := Lib.hid (fun Q e => by rw [hk8']; exact hU.2)
        have hAt : Hid (Calls Tryd.prog 45 #[.pointer (some ⟨rp, 0, none⟩)] wr fun e w' => e = .returned (.int .i64 k8) ∧ wr = w') := Lib.hid (at_any _ _ rp b k8 wr hrd8)
        clear hU hrd8 hl8 hk8'
        go_wp2_with fail
        refine hAt.out.mono ?_
        rintro en w' ⟨rfl, rfl⟩
        clear q0 q1
        go_wp2_with fail
        obtain ⟨wo, rfl⟩ : ∃ wo : World, wo = wr := ⟨_, rfl⟩
        go_loopw [12] (fun z wi => ∃ (zz f c8 : Nat) (P : List (Int × List Int)) (A8 : Option Addr) (css : List (List Value)), z = .int .i64 zz ∧ zz ≤ 8 * n ∧ Hid (DSt w w5 w.heap.size RH rp pm pf (w.heap.size + 1) RH b #[.int .i64 id, .int .i64 t', .int .i64 ack', .int .i64 of', .slice A7 j cc, .slice A8 P.length c8] #[.slice A1 j c1, .int .i64 ((formM id).getD ([], 0, [])).2.1, .slice A3 n3 c3] l8 0 wi ∧
            Own wi w5.heap.size 3 1 A7 j cc (vs.map (.int .i64)) ∧ Own wi w5.heap.size 39 2 A8 P.length c8 css.flatten ∧ All2 (PkOk wi A8 w5.heap.size) P css ∧ (∀ p ∈ P, p.2.length ≤ 8200) ∧
            packsG b (8 * n) (k8 : Int) = preG P (packsG b f (zz : Int)) ∧ 8 * (n : Int) - zz ≤ f ∧ 8 * P.length ≤ zz)) (fun z _ => 8 * n - (intOf z).toNat)
        case atStart => exact ⟨k8, 8 * n, 0, [], none, [], rfl, hk8, Lib.hid ⟨HD8.out, HO8.out, Own.nil _ _ _ _, trivial, by simp, by rw [preG_nil], by omega, by simp⟩⟩
        case round =>
          obtain ⟨zz, f, c8, P, A8, css, rfl, hz8, HJ⟩ := hrel
          obtain ⟨hd, ho7, ho8, hall, hP, hpk, hf, hPz⟩ := HJ.out
          have HDr := Lib.hid hd
          have H7 := Lib.hid ho7
          have H8 := Lib.hid ho8
          have Hall := Lib.hid hall
          have HP := Lib.hid hP
          have Hpk := Lib.hid hpk
          have hKr := Lib.hid hd.2.2.2.2.1
          have hP1023 : P.length ≤ 1023 := by omega
          by_cases h8z : 8 ≤ 8 * (n : Int) - (zz : Int)
          · obtain ⟨f', hs1, hs2⟩ := packsG_step (b := b) (f := f) (z := (zz : Int)) (P := P) (by rw [HBy.out.2.1]; exact h8z) (by rw [HBy.out.2.1]; exact hf)
            have HS1 := Lib.hid hs1
            have HS2 := Lib.hid hs2
            have hGet : Hid (Calls Tryd.prog 46 #[.slice A n c, .int .i64 zz] wr (GRet wr (GetM b (zz : Int)))) := Lib.hid (Get_any B b zz A n c wr (HBy.out.1.keep hKr.out (fun _ h => h.elim)) HBy.out.2.1 HBy.out.2.2 HC.out.1 HC.out.2 (by omega) (HW.out.keep hKr.out (fun h => h)) HG.out.1 (Nat.le_trans HG.out.2 hKr.out.size))
            have HZ := Lib.hid (And.intro hz8 (And.intro hf hPz))
            clear hd ho7 ho8 hall hP hpk HJ hs1 hs2 hf hPz
            go_wp2_with fail
            refine hGet.out.mono ?_
            rintro en w7 ⟨pid, A9, n9, c9, d9, x9, rfl, hk7, hpo⟩
            have HK7 := Lib.hid hk7
            clear hk7 hGet
            unfold packCells
            rcases hpo with ⟨V, hg, rfl, hn9, hr9, hnc9, hcm9, hrow9⟩ | ⟨hg, hx9, rfl, rfl, rfl, rfl, rfl⟩
            rotate_left
            · have x0 : (x9 == 0) = false := by simpa using hx9
              have x1 : (x9 != 0) = true := by simpa using hx9
              have HR : Hid (DecodeM b = .error x9) := Lib.hid (by rw [HT.out, Hpk.out, HS2.out _ hg])
              have hb3 : Blk (w7.alloc (.cells #[.int .i64 0, .slice none 0 0] 39)) w.heap.size 25 zMsg := (HDr.out.2.2.1.keep HK7.out (fun h => h)).alloc _
              have z0 := hb3.frozen 0
              have z1 := hb3.frozen 1
              have z2 := hb3.frozen 2
              have z3 := hb3.frozen 3
              have z4 := hb3.frozen 4
              have z5 := hb3.frozen 5
              have y0 : (w7.alloc (.cells #[.int .i64 0, .slice none 0 0] 39)).cell? ⟨w.heap.size, 0, none⟩ = some (.int .i64 0) := hb3.cell 0
              have y1 : (w7.alloc (.cells #[.int .i64 0, .slice none 0 0] 39)).cell? ⟨w.heap.size, 1, none⟩ = some (.int .i64 0) := hb3.cell 1
              have y2 : (w7.alloc (.cells #[.int .i64 0, .slice none 0 0] 39)).cell? ⟨w.heap.size, 2, none⟩ = some (.int .i64 0) := hb3.cell 2
              have y3 : (w7.alloc (.cells #[.int .i64 0, .slice none 0 0] 39)).cell? ⟨w.heap.size, 3, none⟩ = some (.int .i64 0) := hb3.cell 3
              have y4 : (w7.alloc (.cells #[.int .i64 0, .slice none 0 0] 39)).cell? ⟨w.heap.size, 4, none⟩ = some (.slice none 0 0) := hb3.cell 4
              have y5 : (w7.alloc (.cells #[.int .i64 0, .slice none 0 0] 39)).cell? ⟨w.heap.size, 5, none⟩ = some (.slice none 0 0) := hb3.cell 5
              have HKz : Hid (DecRet w (DecodeM b) (.returned (.tuple #[.agg #[.int .i64 0, .int .i64 0, .int .i64 0, .int .i64 0, .slice none 0 0, .slice none 0 0], .int .i64 x9])) (put6 (w7.alloc (.cells #[.int .i64 0, .slice none 0 0] 39)) w.heap.size (.int .i64 0) (.int .i64 0) (.int .i64 0) (.int .i64 0) (.slice none 0 0) (.slice none 0 0))) :=
                Lib.hid ⟨0, 0, 0, 0, none, 0, 0, none, 0, 0, x9, rfl, (((hKr.out.trans HK7.out).alloc _ : Keep Never w (w7.alloc (.cells #[.int .i64 0, .slice none 0 0] 39)))).then_ (put6_keep _ _ _ _ _ _ _ _) (fun i hi e => by omega), .inr ⟨HR.out, hx9, rfl, rfl, rfl, rfl, rfl, rfl, rfl, rfl, rfl, rfl⟩⟩
              have HBz := Lib.hid (put6_blk hb3 (.int .i64 0) (.int .i64 0) (.int .i64 0) (.int .i64 0) (.slice none 0 0) (.slice none 0 0))
              unfold put6 at HBz HKz
              clear hb3
              go_wp2_with fail
              (try simp only [Exit.inBlock, Exit.then])
              refine bodyPost_ret (dec_results HBz.out _ rfl) rfl ?_
              exact HKz.out
            · obtain ⟨g1, g2, g3, g4, g5, g6, g7⟩ := HS1.out pid V d9 hg
              rw [HBy.out.2.1] at g3 g4
              obtain ⟨z', rfl⟩ : ∃ z' : Nat, d9 = z' := ⟨d9.toNat, by omega⟩
              have Hg1 := Lib.hid g1
              have Hz' := Lib.hid (And.intro g2 (And.intro g3 g4))
              have hpk7 : PkOk w7 A8 w5.heap.size (pid, V) [.int .i64 pid, .slice A9 n9 c9] := ⟨A9, n9, c9, rfl, g7, hr9, hn9.symm, hnc9, hcm9, g6, fun h0 k hk => ⟨by
                have h1 := hrow9 k hk; have h2 := HDr.out.2.2.2.2.2.2.2.2.size; omega, fun h => by
                have h1 := hrow9 k hk; have h2 := H8.out.row h; omega, by
                obtain ⟨ad', e', hb', _⟩ := hr9.2 h0
                obtain ⟨ad, e, rfl⟩ := hk
                rw [e'] at e
                injection e with e
                subst e
                exact hb'⟩⟩
              have Hpk7 := Lib.hid hpk7
              have HV8 : Hid (V.length ≤ 8200) := Lib.hid g5
              clear g1 g2 g3 g4 g5 g6 g7 hpk7 hr9 hnc9 hcm9 hrow9 hg hn9
              obtain ⟨W7, hW7⟩ : ∃ W7, (w7.alloc (.cells #[.int .i64 pid, .slice A9 n9 c9] 39)).alloc (.cells #[.int .i64 pid, .slice A9 n9 c9] 39) = W7 := ⟨_, rfl⟩
              have hk77 : Keep Never w7 ((w7.alloc (.cells #[.int .i64 pid, .slice A9 n9 c9] 39)).alloc (.cells #[.int .i64 pid, .slice A9 n9 c9] 39)) := ((Keep.refl Never w7).alloc _).alloc _
              have HD7 := Lib.hid ((HDr.out.never HK7.out).never hk77)
              have HO7 := Lib.hid ((H8.out.keep HK7.out (fun _ _ h => h)).keep hk77 (fun _ _ h => h))
              have HI7 := Lib.hid ((H7.out.keep HK7.out (fun _ _ h => h)).keep hk77 (fun _ _ h => h))
              have HRow : Hid (Rd ((w7.alloc (.cells #[.int .i64 pid, .slice A9 n9 c9] 39)).alloc (.cells #[.int .i64 pid, .slice A9 n9 c9] 39)) ((w7.alloc (.cells #[.int .i64 pid, .slice A9 n9 c9] 39)).alloc (.cells #[.int .i64 pid, .slice A9 n9 c9] 39)).heap.size 2 (some ⟨w7.heap.size + 1, 0, none⟩) 1 [.int .i64 pid, .slice A9 n9 c9]) := Lib.hid (by
                have := Rd.of_blk (size := 2) (n := 1) (cs := [.int .i64 pid, .slice A9 n9 c9]) (Blk.new (w7.alloc (.cells #[.int .i64 pid, .slice A9 n9 c9] 39)) 39 #[.int .i64 pid, .slice A9 n9 c9]) rfl
                simpa using this)
              have HK77 := Lib.hid hk77
              have hbase : w5.heap.size ≤ ((w7.alloc (.cells #[.int .i64 pid, .slice A9 n9 c9] 39)).alloc (.cells #[.int .i64 pid, .slice A9 n9 c9] 39)).heap.size := HD7.out.2.2.2.2.2.2.2.2.size
              have Hbase := Lib.hid hbase
              have q5 : (w7.alloc (.cells #[.int .i64 pid, .slice A9 n9 c9] 39)).cell? ⟨pm, 5, none⟩ = some (.slice A8 P.length c8) := ((HDr.out.never HK7.out).never ((Keep.refl Never w7).alloc _)).2.1.cell 5
              have q5' : w7.cell? ⟨pm, 5, none⟩ = some (.slice A8 P.length c8) := (HDr.out.never HK7.out).2.1.cell 5
              clear hk77 hbase hW7
              go_wp2_with (refine wpList_app _ rfl (.tmp 123) (.tmp 125) _ rfl elemPk w5.heap.size (A := A8) (n := P.length) (c := c8) (by go_simp) HO7.out _ (A' := some ⟨w7.heap.size + 1, 0, none⟩) (m := 1) (c' := 1) (news := [.int .i64 pid, .slice A9 n9 c9]) (by go_simp) HRow.out (by simp [Value.oneCell']) (by omega) (by unfold maxLen; omega) Hbase.out ?_; intro A10 c10 w10 hown10 hk10 hrow10; have hd10 := Lib.hid (HD7.out.row hk10 (fun k h => (HO7.out.row h).1) HLt.out); have q10 := hd10.out.2.1.cell 5; have f10 := hd10.out.2.1.frozen 5; have HO10 := Lib.hid hown10; have HR10 := Lib.hid hrow10; have HK10 := Lib.hid hk10; clear hown10 hk10 hrow10)
              have HF : Hid (DSt w w5 w.heap.size RH rp pm pf (w.heap.size + 1) RH b #[.int .i64 id, .int .i64 t', .int .i64 ack', .int .i64 of', .slice A7 j cc, .slice A10 (P.length + 1) c10] #[.slice A1 j c1, .int .i64 ((formM id).getD ([], 0, [])).2.1, .slice A3 n3 c3] l8 0 (w10.setCell ⟨pm, 5, none⟩ (.slice A10 (P.length + 1) c10)) ∧
                  Own (w10.setCell ⟨pm, 5, none⟩ (.slice A10 (P.length + 1) c10)) w5.heap.size 3 1 A7 j cc (vs.map (.int .i64)) ∧ Own (w10.setCell ⟨pm, 5, none⟩ (.slice A10 (P.length + 1) c10)) w5.heap.size 39 2 A10 (P.length + 1) c10 (css ++ [([.int .i64 pid, .slice A9 n9 c9] : List Value)]).flatten ∧ All2 (PkOk (w10.setCell ⟨pm, 5, none⟩ (.slice A10 (P.length + 1) c10)) A10 w5.heap.size) (P ++ [(pid, V)]) (css ++ [([.int .i64 pid, .slice A9 n9 c9] : List Value)])) := by
                have hset : Keep (fun k => k = pm) w10 (w10.setCell ⟨pm, 5, none⟩ (.slice A10 (P.length + 1) c10)) := (Keep.refl (fun k => k = pm) w10).set_ (p := ⟨pm, 5, none⟩) (.inl rfl) _
                have hlt := HLt.out
                have h8r : ∀ k, InRow A8 k → w5.heap.size ≤ k ∧ k < wr.heap.size := fun k h => H8.out.row h
                have hs7 := HK7.out.size
                have hs77 := HK77.out.size
                have kA : Keep (fun k => InRow A8 k ∨ k = pm) w7 (w10.setCell ⟨pm, 5, none⟩ (.slice A10 (P.length + 1) c10)) := ((HK77.out.mono (fun _ _ h => h.elim)).trans (HK10.out.mono (fun _ _ h => .inl h))).trans (hset.mono (fun _ _ h => .inr h))
                have hA10 : ∀ k, InRow A10 k → InRow A8 k ∨ w7.heap.size ≤ k := fun k h => (HR10.out.out k h).imp (fun h => h) (fun h => by omega)
                refine Lib.hid ⟨hd10.out.put 5 _, ?_, ?_, ?_⟩
                · exact (HI7.out.keep HK10.out (fun k h h' => HI7.out.ne_own HO7.out (by decide) k h h')).keep hset (fun k h e => by have := (HI7.out.row h).1; omega)
                · have := HO10.out.keep hset (fun k h e => by have := (HO10.out.row h).1; omega)
                  rw [List.flatten_append]
                  simpa using this
                · refine All2.app (Hall.out.imp fun p cs h => ?_) ⟨?_, trivial⟩
                  · refine h.step ((HK7.out.mono (fun _ _ h => h.elim)).trans kA) (fun k h => ?_) (fun k h => (hA10 k h).imp (fun h => h) (fun h => by omega))
                    rcases h with h | h
                    · exact .inl h
                    · right; left; omega
                  · refine Hpk7.out.step kA (fun k h => ?_) hA10
                    rcases h with h | h
                    · exact .inl h
                    · right; left; omega
              have hlen : (P ++ [(pid, V)]).length = P.length + 1 := by simp
              have HPn : Hid (∀ p ∈ P ++ [(pid, V)], p.2.length ≤ 8200) := Lib.hid (fun p hp => by
                rcases List.mem_append.1 hp with hp | hp
                · exact HP.out p hp
                · rw [List.mem_singleton.1 hp]; exact HV8.out)
              have HL := Lib.hid hlen
              clear hlen hd10 HO10 HR10 HK10 q10 f10 q5 q5'
              go_roundw
              case rel => exact ⟨z', f', c10, P ++ [(pid, V)], A10, css ++ [([.int .i64 pid, .slice A9 n9 c9] : List Value)], rfl, by have := Hz'.out.2.2; omega, Lib.hid (by rw [HL.out]; exact ⟨HF.out.1, HF.out.2.1, HF.out.2.2.1, HF.out.2.2.2, HPn.out, by rw [Hpk.out, Hg1.out], Hz'.out.2.1, by have h1 := HZ.out.2.2; have h2 := Hz'.out.1; omega⟩)⟩
              case measure => have h1 := Hz'.out.1; have h2 := Hz'.out.2.2; simp [intOf]; omega
          · have hpkz : packsG b (8 * n) (k8 : Int) = .ok (P, (zz : Int)) := by
              rw [Hpk.out, packsG_none (by rw [HBy.out.2.1]; exact h8z)]
              simp [preG]
            obtain ⟨hu0, hu1, hu2, hu3⟩ := HU2.out P zz hpkz
            have Hpz := Lib.hid hpkz
            have hallR : All2 (repPk.cells wr wr.heap.size) P css := hall.imp fun p cs h => h.rep
            have hSl : repPk.Sl wr wr.heap.size A8 P.length c8 P := Rep.Sl.of_own ho8 hallR rfl (Nat.le_refl _)
            have HSl := Lib.hid hSl
            have hBl : Hid (Calls Tryd.prog 47 #[.slice A n c, .agg #[.int .i64 id, .int .i64 t', .int .i64 ack', .int .i64 of', .slice A7 j cc, .slice A8 P.length c8]] wr fun e w' => e = .returned (.bool (blankM b (usedM id P))) ∧ Keep Never wr w') := Lib.hid (by
              have := mblank_any wr.heap.size b A n c id t' ack' of' A7 j cc A8 P.length c8 P wr ((HBy.out.1.keep hKr.out (fun _ h => h.elim)).more (Nat.le_trans HG.out.2 hKr.out.size)) HBy.out.2.1 HBy.out.2.2 hSl hP (by omega) (by omega) (by omega) (by omega) (HW.out.keep hKr.out (fun h => h)) (HW.out.keep hKr.out (fun h => h)).lt (Nat.le_refl _)
              exact this)
            have m0 := hd.2.1.cell 0
            have m1 := hd.2.1.cell 1
            have m2 := hd.2.1.cell 2
            have m3 := hd.2.1.cell 3
            have m4 := hd.2.1.cell 4
            have m5 := hd.2.1.cell 5
            clear hd ho7 ho8 hall hP hpk HJ hpkz hu0 hu1 hu2 hu3 hallR hSl
            have h8z' : 8 * (n : Int) - (zz : Int) < 8 := by omega
            go_wp2_with fail
            refine hBl.out.mono ?_
            rintro en w9 ⟨rfl, hk9⟩
            have HK9 := Lib.hid hk9
            have HD9 := Lib.hid (HDr.out.never hk9)
            clear hk9 m0 m1 m2 m3 m4 m5
            cases hbl : blankM b (usedM id P) with
            | false =>
              have HR : Hid (DecodeM b = .error 8) := Lib.hid (by rw [HT.out, Hpz.out]; simp only; rw [if_pos hbl])
              clear hbl
              have hb3 : Blk (w9) w.heap.size 25 zMsg := HD9.out.2.2.1
              have z0 := hb3.frozen 0
              have z1 := hb3.frozen 1
              have z2 := hb3.frozen 2
              have z3 := hb3.frozen 3
              have z4 := hb3.frozen 4
              have z5 := hb3.frozen 5
              have y0 : (w9).cell? ⟨w.heap.size, 0, none⟩ = some (.int .i64 0) := hb3.cell 0
              have y1 : (w9).cell? ⟨w.heap.size, 1, none⟩ = some (.int .i64 0) := hb3.cell 1
              have y2 : (w9).cell? ⟨w.heap.size, 2, none⟩ = some (.int .i64 0) := hb3.cell 2
              have y3 : (w9).cell? ⟨w.heap.size, 3, none⟩ = some (.int .i64 0) := hb3.cell 3
              have y4 : (w9).cell? ⟨w.heap.size, 4, none⟩ = some (.slice none 0 0) := hb3.cell 4
              have y5 : (w9).cell? ⟨w.heap.size, 5, none⟩ = some (.slice none 0 0) := hb3.cell 5
              have HKz : Hid (DecRet w (DecodeM b) (.returned (.tuple #[.agg #[.int .i64 0, .int .i64 0, .int .i64 0, .int .i64 0, .slice none 0 0, .slice none 0 0], .int .i64 8])) (put6 (w9) w.heap.size (.int .i64 0) (.int .i64 0) (.int .i64 0) (.int .i64 0) (.slice none 0 0) (.slice none 0 0))) :=
                Lib.hid ⟨0, 0, 0, 0, none, 0, 0, none, 0, 0, 8, rfl, ((HD9.out.2.2.2.2.1 : Keep Never w (w9))).then_ (put6_keep _ _ _ _ _ _ _ _) (fun i hi e => by omega), .inr ⟨HR.out, (by decide), rfl, rfl, rfl, rfl, rfl, rfl, rfl, rfl, rfl, rfl⟩⟩
              have HBz := Lib.hid (put6_blk hb3 (.int .i64 0) (.int .i64 0) (.int .i64 0) (.int .i64 0) (.slice none 0 0) (.slice none 0 0))
              unfold put6 at HBz HKz
              clear hb3
              go_wp2_with fail
              (try simp only [Exit.inBlock, Exit.then])
              refine bodyPost_ret (dec_results HBz.out _ rfl) rfl ?_
              exact HKz.out
            | true =>
              have Hbl := Lib.hid hbl
              have hmayR : Rd w9 w9.heap.size 1 A3 n3 (((formM id).getD ([], 0, [])).2.2.map (.int .i64)) := by
                have h9 := HFr.out.2.2.2.1.keep_far HD9.out.2.2.2.2.2.2.2.2 (fun ad h _ hq => by have h1 := HFr.out.2.2.2.2.2 ad.block ⟨ad, h, rfl⟩; have h2 := Hs3.out; have h3 := Hrp.out; omega)
                exact h9.more (by have h1 := HLt.out; have h2 := HD9.out.2.2.2.2.2.2.2.2.size; omega)
              have hn3 : n3 ≤ 7 := by
                have h1 := HFr.out.2.2.1
                cases hfm : formM id with
                | none => rw [hfm] at h1; simp at h1; omega
                | some f => obtain ⟨a, bb, cc'⟩ := f; have h3 := (form_chk hfm).2.1; rw [hfm] at h1; simp at h1; omega
              have hFt : Hid (Calls Tryd.prog 29 #[.agg #[.slice A1 j c1, .int .i64 ((formM id).getD ([], 0, [])).2.1, .slice A3 n3 c3], .slice A8 P.length c8] w9 fun e w' => e = .returned (.bool (fitsM ((formM id).getD ([], 0, [])).2.1 ((formM id).getD ([], 0, [])).2.2 (P.map (·.1)))) ∧ Keep Never w9 w') :=
                Lib.hid (fits_any w9.heap.size A1 j c1 _ A3 n3 c3 _ A8 P.length c8 (P.map (·.1)) w9 hmayR HFr.out.2.2.1.symm (by omega) (IdsAt.of_sl ((HSl.out.keep HK9.out (fun _ h => h.elim)).more HK9.out.size)) (by omega) H8.out.cap_le (Nat.le_refl _))
              have m5 : w9.cell? ⟨pm, 5, none⟩ = some (.slice A8 P.length c8) := HD9.out.2.1.cell 5
              have p0 := HD9.out.2.2.2.1.cell 0
              have p1 := HD9.out.2.2.2.1.cell 1
              have p2 := HD9.out.2.2.2.1.cell 2
              clear hbl hmayR hn3
              go_wp2_with fail
              refine hFt.out.mono ?_
              rintro en w10 ⟨rfl, hk10⟩
              have HK10 := Lib.hid (HK9.out.trans hk10)
              have HD10 := Lib.hid (HD9.out.never hk10)
              clear hk10 m5 p0 p1 p2
              cases hft : fitsM ((formM id).getD ([], 0, [])).2.1 ((formM id).getD ([], 0, [])).2.2 (P.map (·.1)) with
              | false =>
                have HR : Hid (DecodeM b = .error 50) := Lib.hid (by rw [HT.out, Hpz.out]; simp only; rw [if_neg (by rw [Hbl.out]; simp), if_pos hft])
                clear hft
                have hb3 : Blk (w10) w.heap.size 25 zMsg := HD10.out.2.2.1
                have z0 := hb3.frozen 0
                have z1 := hb3.frozen 1
                have z2 := hb3.frozen 2
                have z3 := hb3.frozen 3
                have z4 := hb3.frozen 4
                have z5 := hb3.frozen 5
                have y0 : (w10).cell? ⟨w.heap.size, 0, none⟩ = some (.int .i64 0) := hb3.cell 0
                have y1 : (w10).cell? ⟨w.heap.size, 1, none⟩ = some (.int .i64 0) := hb3.cell 1
                have y2 : (w10).cell? ⟨w.heap.size, 2, none⟩ = some (.int .i64 0) := hb3.cell 2
                have y3 : (w10).cell? ⟨w.heap.size, 3, none⟩ = some (.int .i64 0) := hb3.cell 3
                have y4 : (w10).cell? ⟨w.heap.size, 4, none⟩ = some (.slice none 0 0) := hb3.cell 4
                have y5 : (w10).cell? ⟨w.heap.size, 5, none⟩ = some (.slice none 0 0) := hb3.cell 5
                have HKz : Hid (DecRet w (DecodeM b) (.returned (.tuple #[.agg #[.int .i64 0, .int .i64 0, .int .i64 0, .int .i64 0, .slice none 0 0, .slice none 0 0], .int .i64 50])) (put6 (w10) w.heap.size (.int .i64 0) (.int .i64 0) (.int .i64 0) (.int .i64 0) (.slice none 0 0) (.slice none 0 0))) :=
                  Lib.hid ⟨0, 0, 0, 0, none, 0, 0, none, 0, 0, 50, rfl, ((HD10.out.2.2.2.2.1 : Keep Never w (w10))).then_ (put6_keep _ _ _ _ _ _ _ _) (fun i hi e => by omega), .inr ⟨HR.out, (by decide), rfl, rfl, rfl, rfl, rfl, rfl, rfl, rfl, rfl, rfl⟩⟩
                have HBz := Lib.hid (put6_blk hb3 (.int .i64 0) (.int .i64 0) (.int .i64 0) (.int .i64 0) (.slice none 0 0) (.slice none 0 0))
                unfold put6 at HBz HKz
                clear hb3
                go_wp2_with fail
                (try simp only [Exit.inBlock, Exit.then])
                refine bodyPost_ret (dec_results HBz.out _ rfl) rfl ?_
                exact HKz.out
              | true =>
                have HR : Hid (DecodeM b = .ok (id, t', ack', of', vs, P)) := Lib.hid (by rw [HT.out, Hpz.out]; simp only; rw [if_neg (by rw [Hbl.out]; simp), if_neg (by rw [hft]; simp)])
                clear hft
                have hb3 : Blk w10 w.heap.size 25 zMsg := HD10.out.2.2.1
                have z0 := hb3.frozen 0
                have z1 := hb3.frozen 1
                have z2 := hb3.frozen 2
                have z3 := hb3.frozen 3
                have z4 := hb3.frozen 4
                have z5 := hb3.frozen 5
                have y0 : w10.cell? ⟨w.heap.size, 0, none⟩ = some (.int .i64 0) := hb3.cell 0
                have y1 : w10.cell? ⟨w.heap.size, 1, none⟩ = some (.int .i64 0) := hb3.cell 1
                have y2 : w10.cell? ⟨w.heap.size, 2, none⟩ = some (.int .i64 0) := hb3.cell 2
                have y3 : w10.cell? ⟨w.heap.size, 3, none⟩ = some (.int .i64 0) := hb3.cell 3
                have y4 : w10.cell? ⟨w.heap.size, 4, none⟩ = some (.slice none 0 0) := hb3.cell 4
                have y5 : w10.cell? ⟨w.heap.size, 5, none⟩ = some (.slice none 0 0) := hb3.cell 5
                have m0 := HD10.out.2.1.cell 0
                have m1 := HD10.out.2.1.cell 1
                have m2 := HD10.out.2.1.cell 2
                have m3 := HD10.out.2.1.cell 3
                have m4 := HD10.out.2.1.cell 4
                have m5 := HD10.out.2.1.cell 5
                have hkp := put6_keep w10 w.heap.size (.int .i64 id) (.int .i64 t') (.int .i64 ack') (.int .i64 of') (.slice A7 j cc) (.slice A8 P.length c8)
                have hlt := HLt.out
                have hsl10 : repPk.Sl (put6 w10 w.heap.size (.int .i64 id) (.int .i64 t') (.int .i64 ack') (.int .i64 of') (.slice A7 j cc) (.slice A8 P.length c8)) (put6 w10 w.heap.size (.int .i64 id) (.int .i64 t') (.int .i64 ack') (.int .i64 of') (.slice A7 j cc) (.slice A8 P.length c8)).heap.size A8 P.length c8 P :=
                  Rep.Sl.of_own ((H8.out.keep HK10.out (fun _ _ h => h)).keep hkp (fun k h e => by have := (H8.out.row h).1; omega)) ((Hall.out.imp fun p cs h => (h.step (A8' := A8) ((HK10.out.mono (fun _ _ h => h.elim)).trans hkp) (fun k h => .inr (.inl (by omega))) (fun k h => .inl h)).rep)) rfl (Nat.le_refl _)
                have HKz : Hid (DecRet w (DecodeM b) (.returned (.tuple #[.agg #[.int .i64 id, .int .i64 t', .int .i64 ack', .int .i64 of', .slice A7 j cc, .slice A8 P.length c8], .int .i64 0])) (put6 w10 w.heap.size (.int .i64 id) (.int .i64 t') (.int .i64 ack') (.int .i64 of') (.slice A7 j cc) (.slice A8 P.length c8))) :=
                  Lib.hid ⟨id, t', ack', of', A7, j, cc, A8, P.length, c8, 0, rfl, HD10.out.2.2.2.2.1.then_ hkp (fun i hi e => by omega), .inl ⟨vs, P, HR.out, rfl, ((H7.out.keep HK10.out (fun _ _ h => h)).keep hkp (fun k h e => by have := (H7.out.row h).1; omega)).rd, Hvj.out, H7.out.cap_le, HVi.out, hsl10⟩⟩
                have HBz := Lib.hid (put6_blk hb3 (.int .i64 id) (.int .i64 t') (.int .i64 ack') (.int .i64 of') (.slice A7 j cc) (.slice A8 P.length c8))
                unfold put6 at HBz HKz
                clear hb3 hkp hlt hsl10
                go_wp2_with fail
                (try simp only [Exit.inBlock, Exit.then])
                refine bodyPost_ret (dec_results HBz.out _ rfl) rfl ?_
                exact HKz.out

end Go.Proofs.YtiebjnibmomcjaaDoor
