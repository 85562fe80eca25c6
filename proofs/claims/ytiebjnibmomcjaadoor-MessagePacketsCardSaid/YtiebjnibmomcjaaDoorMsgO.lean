/- Chapter 6: MessagePackets. -/
import Derived.Test.YtiebjnibmomcjaaDoorMsgW
namespace Go.Proofs.YtiebjnibmomcjaaDoor
open Go.RowKit

theorem flatten_set {v0 v1 : Value} : ∀ (css : List (List Value)) (a : Nat), (∀ cs ∈ css, cs.length = 2) → (css.set a [v0, v1]).flatten = (css.flatten.set (a * 2) v0).set (a * 2 + 1) v1
  | [], a, _ => by simp
  | cs :: css, 0, h => by
    have h2 := h cs (by simp)
    rcases cs with _ | ⟨x, _ | ⟨y, _ | ⟨z, cs⟩⟩⟩
    · simp at h2
    · simp at h2
    · simp
    · simp at h2
  | cs :: css, a + 1, h => by
    have h2 := h cs (by simp)
    have ih := flatten_set (v0 := v0) (v1 := v1) css a (fun c hc => h c (by simp [hc]))
    rw [List.set_cons_succ, List.flatten_cons, ih, List.flatten_cons, List.set_append_right _ _ (by omega), List.set_append_right _ _ (by omega), h2]
    congr 2
    · congr 1; omega
    · omega
theorem all2_set {α β : Type} {R : α → β → Prop} {l : List α} {m : List β} (h : All2 R l m) {a : α} {b : β} (hab : R a b) : ∀ (i : Nat), All2 R (l.set i a) (m.set i b) := by
  induction l generalizing m with
  | nil => cases m with
    | nil => intro i; simp only [List.set_nil]; trivial
    | cons b m => exact h.elim
  | cons x l ih => cases m with
    | nil => exact h.elim
    | cons y m =>
      intro i
      cases i with
      | zero => exact ⟨hab, h.2⟩
      | succ i => exact ⟨h.1, ih h.2 i⟩
theorem swap_perm {α : Type} {x : α} {l : List α} {i k : Nat} {a b : α} (hi : 1 ≤ i) (hk : 1 ≤ k) (ha : (x :: l)[i]? = some a) (hb : (x :: l)[k]? = some b) :
    ∃ m, ((x :: l).set i b).set k a = x :: m ∧ l.Perm m := by
  obtain ⟨i, rfl⟩ : ∃ j, i = j + 1 := ⟨i - 1, by omega⟩
  obtain ⟨k, rfl⟩ : ∃ j, k = j + 1 := ⟨k - 1, by omega⟩
  simp only [List.getElem?_cons_succ] at ha hb
  obtain ⟨h1, rfl⟩ := List.getElem?_eq_some_iff.1 ha
  obtain ⟨h2, rfl⟩ := List.getElem?_eq_some_iff.1 hb
  exact ⟨(l.set i l[k]).set k l[i], by simp, (List.set_set_perm h1 h2).symm⟩

theorem all2_len2 {w : World} {B : Nat} {P : List (Int × List Int)} {css : List (List Value)} (h : All2 (repPk.cells w B) P css) : ∀ cs ∈ css, cs.length = 2 := by
  induction P generalizing css with
  | nil => cases css with
    | nil => simp
    | cons c css => exact h.elim
  | cons p P ih => cases css with
    | nil => exact h.elim
    | cons c css =>
      intro cs hcs
      rcases List.mem_cons.1 hcs with rfl | hcs
      · exact repPk.len h.1
      · exact ih h.2 cs hcs
theorem Rep.flat_one {α : Type} {r : Rep α} {w : World} {B : Nat} {l : List α} {css : List (List Value)} (h : All2 (r.cells w B) l css) : ∀ u ∈ css.flatten, u.oneCell' = true := by
  induction l generalizing css with
  | nil => cases css with
    | nil => simp
    | cons c css => exact h.elim
  | cons p P ih => cases css with
    | nil => exact h.elim
    | cons c css =>
      intro u hu
      rw [List.flatten_cons] at hu
      rcases List.mem_append.1 hu with hu | hu
      · exact r.one h.1 u hu
      · exact ih h.2 u hu
theorem flat2_at : ∀ {css : List (List Value)} {a : Nat} {u0 u1 : Value}, (∀ cs ∈ css, cs.length = 2) → css[a]? = some [u0, u1] → css.flatten[a * 2]? = some u0 ∧ css.flatten[a * 2 + 1]? = some u1
  | [], a, _, _, _, h => by simp at h
  | cs :: css, 0, u0, u1, h2, h => by
    simp only [List.getElem?_cons_zero, Option.some.injEq] at h
    subst h
    simp
  | cs :: css, a + 1, u0, u1, h2, h => by
    rw [List.getElem?_cons_succ] at h
    have hl := h2 cs (by simp)
    obtain ⟨i1, i2⟩ := flat2_at (fun c hc => h2 c (by simp [hc])) h
    rw [List.flatten_cons]
    rw [List.getElem?_append_right (by omega), List.getElem?_append_right (by omega), hl]
    exact ⟨by rw [show (a + 1) * 2 - 2 = a * 2 by omega]; exact i1, by rw [show (a + 1) * 2 + 1 - 2 = a * 2 + 1 by omega]; exact i2⟩
/-- an element of two cells in a row of the call's own -/
theorem own2_cell {w : World} {base e k c a : Nat} {ag : Addr} {css : List (List Value)} {u0 u1 : Value} (h : Own w base e 2 (some ag) k c css.flatten) (h2 : ∀ cs ∈ css, cs.length = 2) (ha : css[a]? = some [u0, u1]) :
    w.cell? (ag.add (a * 2)) = some u0 ∧ w.cell? ⟨(ag.add (a * 2)).block, (ag.add (a * 2)).off + 1, none⟩ = some u1 ∧ w.frozen? (ag.add (a * 2)) = false ∧ w.frozen? ⟨(ag.add (a * 2)).block, (ag.add (a * 2)).off + 1, none⟩ = false ∧
      (∀ u, (w.setCell (ag.add (a * 2)) u).cell? ⟨(ag.add (a * 2)).block, (ag.add (a * 2)).off + 1, none⟩ = some u1) ∧ (∀ u, (w.setCell (ag.add (a * 2)) u).frozen? ⟨(ag.add (a * 2)).block, (ag.add (a * 2)).off + 1, none⟩ = false) := by
  obtain ⟨i0, i1⟩ := flat2_at h2 ha
  have hk : 0 < k := by
    have hl := h.len
    have := (List.getElem?_eq_some_iff.1 i0).1
    omega
  obtain ⟨ad, e', _, hc⟩ := h.rd.2 hk
  injection e' with e'
  subst e'
  have h0 := hc _ _ i0
  have h1 := hc _ _ i1
  have f0 := h.frozen rfl (a * 2)
  have f1 := h.frozen rfl (a * 2 + 1)
  rw [fld _ _ (by omega)] at h1 f1
  refine ⟨h0, h1, f0, f1, fun u => ?_, fun u => ?_⟩
  · have g := h.stored rfl (a * 2) u
    obtain ⟨ad, e', _, hc⟩ := g.rd.2 hk
    injection e' with e'
    subst e'
    have := hc (a * 2 + 1) u1 (by rw [List.getElem?_set_ne (by omega)]; exact i1)
    rwa [fld _ _ (by omega)] at this
  · have := (h.stored rfl (a * 2) u).frozen rfl (a * 2 + 1)
    rwa [fld _ _ (by omega)] at this
theorem own2_set {w : World} {base e k c a : Nat} {ag : Addr} {css : List (List Value)} {v0 v1 : Value} (h : Own w base e 2 (some ag) k c css.flatten) (h2 : ∀ cs ∈ css, cs.length = 2) :
    Own ((w.setCell (ag.add (a * 2)) v0).setCell ⟨(ag.add (a * 2)).block, (ag.add (a * 2)).off + 1, none⟩ v1) base e 2 (some ag) k c (css.set a [v0, v1]).flatten ∧
      Keep (InRow (some ag)) w ((w.setCell (ag.add (a * 2)) v0).setCell ⟨(ag.add (a * 2)).block, (ag.add (a * 2)).off + 1, none⟩ v1) := by
  have g0 := h.stored rfl (a * 2) v0
  have g1 := g0.stored rfl (a * 2 + 1) v1
  have k0 := h.stored_keep rfl (a * 2) v0
  have k1 := g0.stored_keep rfl (a * 2 + 1) v1
  rw [fld _ _ (by omega)] at g1 k1
  exact ⟨by rw [flatten_set css a h2]; exact g1, k0.trans k1⟩

theorem rd2_cell {w : World} {B k a : Nat} {ad : Addr} {css : List (List Value)} {u0 u1 : Value} (h : Rd w B 2 (some ad) k css.flatten) (h2 : ∀ cs ∈ css, cs.length = 2) (ha : css[a]? = some [u0, u1]) :
    w.cell? (ad.add (a * 2)) = some u0 ∧ w.cell? ⟨(ad.add (a * 2)).block, (ad.add (a * 2)).off + 1, none⟩ = some u1 := by
  obtain ⟨i0, i1⟩ := flat2_at h2 ha
  have hk : 0 < k := by
    have hl := h.1
    have := (List.getElem?_eq_some_iff.1 i0).1
    omega
  obtain ⟨ad', e', _, hc⟩ := h.2 hk
  injection e' with e'
  subst e'
  have h0 := hc _ _ i0
  have h1 := hc _ _ i1
  rw [fld _ _ (by omega)] at h1
  exact ⟨h0, h1⟩

theorem enc_light {B : Nat} {id t ack of_ : Int} {V : List Int} {P : List (Int × List Int)} {A : Option Addr} {n c : Nat} {A2 : Option Addr} {k d : Nat} {w : World} (hm : MsgAt w B A n c V A2 k d P) (hi : i64 id ∧ i64 t ∧ i64 ack ∧ i64 of_) (hV : V.length ≤ 30) (hP : P.length ≤ 31) (h3 : ∀ p ∈ P, p.2.length ≤ 3000) (hW : Widths w) (hg : 0 < B) (hB : B ≤ w.heap.size) :
    Calls Tryd.prog 12 #[.agg (msgCells id t ack of_ A n c A2 k d)] w (EncRet w (EncodeM id t ack of_ V P)) := by
  have hsum : ∀ (Q : List (Int × List Int)), (∀ p ∈ Q, p.2.length ≤ 3000) → sumL Q ≤ 3002 * Q.length := by
    intro Q
    induction Q with
    | nil => intro _; simp [sumL]
    | cons p Q ih =>
      intro h
      have h1 := ih (fun q hq => h q (by simp [hq]))
      have h2 := h p (by simp)
      simp only [sumL, List.map_cons, List.sum_cons, List.length_cons] at h1 ⊢
      omega
  have hs := hsum P h3
  have h1 := hm.2.1
  have h2 := hm.2.2.2.2.1
  exact mencode_any B id t ack of_ A n c V A2 k d P w hm hi.1 hi.2.1 hi.2.2.1 hi.2.2.2 (by omega) (by omega) (fun p hp => by have := h3 p hp; omega) (by omega) hW hg hB
theorem repPk_imp {w w' : World} {B : Nat} {P : List (Int × List Int)} {css : List (List Value)} (h : All2 (repPk.cells w B) P css) (hk : Keep Never w w') : All2 (repPk.cells w' B) P css := h.imp fun p cs h => repPk.keep h hk (fun _ h => h.elim)


set_option maxHeartbeats 8000000 in
set_option maxRecDepth 100000 in
theorem packets_walk (W : World) (hW : Widths W) (cs : Array Value) (m : MsgT) (hp : repMsg.cells W W.heap.size m cs.toList) (ii : Int) (_ : -9223372036854775808 ≤ ii) (_ : ii ≤ 9223372036854775807) (kk : Int) (_ : -9223372036854775808 ≤ kk) (_ : kk ≤ 9223372036854775807) :
    Calls Tryd.prog 8 #[.agg cs, .int .i64 ii, .int .i64 kk] W fun e w' => e = .returned (.bool true) ∧ Keep Never W w' := by
  obtain ⟨A, n, c, A2, k, d, rfl, hm⟩ := msg_in hp
  have hEn : Hid (lightM m.2.2.2.2.1 m.2.2.2.2.2 = true → ∀ w, Keep Never W w → _) := Lib.hid (fun hl w hk => enc_in hm hl hW hk)
  have hLi : Hid (∀ w, Keep Never W w → _) := Lib.hid (fun w hk => light_any W.heap.size m.1 m.2.1 m.2.2.1 m.2.2.2.1 A n c m.2.2.2.2.1 A2 k d m.2.2.2.2.2 w (hm.1.keep hk (fun _ h => h.elim)) hk.size)
  have hAw : Hid (∀ w, Keep Never W w → _) := Lib.hid (fun w hk => awake6_any w (hW.keep hk (fun h => h)))
  obtain ⟨id, t, ack, of_, V, P⟩ := m
  simp only at hEn hLi ⊢
  have HM : Hid (MsgAt W W.heap.size A n c V A2 k d P) := Lib.hid hm.1
  have hb0 : Hid (Blk (W.alloc (.cells #[.int .i64 id, .int .i64 t, .int .i64 ack, .int .i64 of_, .slice A n c, .slice A2 k d] 25)) W.heap.size 25 #[.int .i64 id, .int .i64 t, .int .i64 ack, .int .i64 of_, .slice A n c, .slice A2 k d]) := Blk.new W 25 _
  have hk0 : Hid (Keep Never W (W.alloc (.cells #[.int .i64 id, .int .i64 t, .int .i64 ack, .int .i64 of_, .slice A n c, .slice A2 k d] 25))) := (Keep.refl Never W).alloc _
  have HWi := Lib.hid hW
  have HI : Hid (i64 id ∧ i64 t ∧ i64 ack ∧ i64 of_) := Lib.hid hm.2.2.2
  have HS : Hid (repPk.Sl W W.heap.size A2 k d P) := Lib.hid hm.1.2.2.2.2
  clear hp hm hW
  unfold msgCells at *
  go_enter Tryd.func8, Tryd.ntmps8
  go_wp2_with fail
  refine (hAw.out _ hk0.out).mono ?_
  rintro e w1 ⟨rfl, hk1⟩
  have HK1 := Lib.hid (hk0.out.trans hk1)
  have HB1 := Lib.hid (hb0.out.keep hk1 (fun h => h))
  have m0 := HB1.out.cell 0
  have m1 := HB1.out.cell 1
  have m2 := HB1.out.cell 2
  have m3 := HB1.out.cell 3
  have m4 := HB1.out.cell 4
  have m5 := HB1.out.cell 5
  clear hk1
  go_wp2_with fail
  refine (hLi.out _ HK1.out).mono ?_
  rintro e w2 ⟨rfl, hk2⟩
  have HK2 := Lib.hid (HK1.out.trans hk2)
  have HB2 := Lib.hid (HB1.out.keep hk2 (fun h => h))
  clear hk2 m0 m1 m2 m3 m4 m5
  have m0 := HB2.out.cell 0
  have m1 := HB2.out.cell 1
  have m2 := HB2.out.cell 2
  have m3 := HB2.out.cell 3
  have m4 := HB2.out.cell 4
  have m5 := HB2.out.cell 5
  clear HB1 hLi hAw
  cases hl : lightM V P with
  | false =>
    go_wp2_with fail
    go_quiet (fail)
    go_wp2_with fail
    go_ret
    exact ⟨rfl, HK2.out.drewN _⟩
  | true =>
  have HL := Lib.hid (light_sum hl)
  have HEn := Lib.hid (hEn.out hl)
  clear hl hEn
  have hk30 : k ≤ 30 := by have h1 := HL.out.2.1; have h2 := HS.out.1; omega
  by_cases h1 : ii < 1
  · have d1 : decide (ii < 1) = true := by simpa using h1
    go_wp2_with fail
    go_quiet (fail)
    go_wp2_with fail
    go_ret
    exact ⟨rfl, HK2.out.drewN _⟩
  have d1 : decide (ii < 1) = false := by simpa using h1
  have h1' : 1 ≤ ii := by omega
  by_cases h2 : kk < 1
  · have d2 : decide (kk < 1) = true := by simpa using h2
    go_wp2_with fail
    go_quiet (fail)
    go_wp2_with fail
    go_ret
    exact ⟨rfl, HK2.out.drewN _⟩
  have d2 : decide (kk < 1) = false := by simpa using h2
  have h2' : 1 ≤ kk := by omega
  by_cases h3 : (k : Int) ≤ ii
  · have d3 : decide ((k : Int) ≤ ii) = true := by simpa using h3
    go_wp2_with fail
    go_quiet (fail)
    go_wp2_with fail
    go_ret
    exact ⟨rfl, HK2.out.drewN _⟩
  have d3 : decide ((k : Int) ≤ ii) = false := by simpa using h3
  have h3' : ii < (k : Int) := by omega
  by_cases h4 : (k : Int) ≤ kk
  · have d4 : decide ((k : Int) ≤ kk) = true := by simpa using h4
    go_wp2_with fail
    go_quiet (fail)
    go_wp2_with fail
    go_ret
    exact ⟨rfl, HK2.out.drewN _⟩
  have d4 : decide ((k : Int) ≤ kk) = false := by simpa using h4
  have h4' : kk < (k : Int) := by omega
  clear h1 h2 h3 h4
  obtain ⟨a, rfl⟩ : ∃ a : Nat, ii = a := ⟨ii.toNat, by omega⟩
  obtain ⟨b, rfl⟩ : ∃ b : Nat, kk = b := ⟨kk.toNat, by omega⟩
  have d3n : decide (k ≤ a) = false := by simp; omega
  have d4n : decide (k ≤ b) = false := by simp; omega
  clear d3 d4
  obtain ⟨ad, p0, V0, B0, N0, C0, hA2, hP0, x00, x01, _, _, _, _, _⟩ := Sl_pack (HS.out.keep HK2.out (fun _ h => h.elim)) (i := 0) (by omega)
  subst hA2
  obtain ⟨ad', pa, Va, Ba, Na, Ca, hA', hPa, xa0, xa1, _, _, _, _, _⟩ := Sl_pack (HS.out.keep HK2.out (fun _ h => h.elim)) (i := a) (by omega)
  obtain rfl : ad = ad' := by injection hA'
  obtain ⟨ad', pb, Vb, Bb, Nb, Cb, hA', hPb, xb0, xb1, _, _, _, _, _⟩ := Sl_pack (HS.out.keep HK2.out (fun _ h => h.elim)) (i := b) (by omega)
  obtain rfl : ad = ad' := by injection hA'
  have hz : ad.add (0 * 2) = ad := by simp [Addr.add]
  rw [hz] at x00 x01
  have HP := Lib.hid (And.intro hP0 (And.intro hPa hPb))
  clear hP0 hPa hPb hz hA'
  by_cases h5 : p0 = pa
  · have d5 : (p0 == pa) = true := by simpa using h5
    clear h5
    go_wp2_with fail
    go_quiet (fail)
    go_wp2_with fail
    go_ret
    exact ⟨rfl, HK2.out.drewN _⟩
  have d5 : (p0 == pa) = false := by simpa using h5
  by_cases h6 : p0 = pb
  · have d6 : (p0 == pb) = true := by simpa using h6
    clear h6 h5
    go_wp2_with fail
    go_quiet (fail)
    go_wp2_with fail
    go_ret
    exact ⟨rfl, HK2.out.drewN _⟩
  have d6 : (p0 == pb) = false := by simpa using h6
  clear h5 h6
  go_wp2_with fail
  go_quiet (fail)
  have HK2d := Lib.hid (HK2.out.drewN nq)
  have H12 : Hid (1 ≤ a ∧ 1 ≤ b) := Lib.hid ⟨by omega, by omega⟩
  clear d1 d2 d3n d4n d5 d6 x00 x01 xa0 xa1 xb0 xb1 h1' h2'
  go_wp2_with fail
  refine (HEn.out _ HK2d.out).mono ?_
  rintro e w3 ⟨A3, n3, c3, x3, rfl, hk3, hpo3⟩
  have HE3 := Lib.hid hpo3
  have HK3 := Lib.hid (HK2d.out.trans hk3)
  have HB3 := Lib.hid ((HB2.out.drewN nq).keep hk3 (fun h => h))
  clear hk3 m0 m1 m2 m3 m4 m5 hpo3
  have m0 := HB3.out.cell 0
  have m1 := HB3.out.cell 1
  have m2 := HB3.out.cell 2
  have m3 := HB3.out.cell 3
  have m4 := HB3.out.cell 4
  have m5 := HB3.out.cell 5
  have m5a : (w3.alloc (.cells #[.int .i64 id, .int .i64 t, .int .i64 ack, .int .i64 of_, .slice A n c, .slice (some ad) k d] 25)).cell? ⟨W.heap.size, 5, none⟩ = some (.slice (some ad) k d) := (HB3.out.alloc (.cells #[.int .i64 id, .int .i64 t, .int .i64 ack, .int .i64 of_, .slice A n c, .slice (some ad) k d] 25)).cell 5
  obtain ⟨css, hrd, hall⟩ := HS.out.rd
  have Hall := Lib.hid hall
  have HRdW := Lib.hid hrd
  have HC2 : Hid (∀ cs ∈ css, cs.length = 2) := Lib.hid (all2_len2 hall)
  have hal3 := (Keep.refl Never w3).alloc (.cells #[.int .i64 id, .int .i64 t, .int .i64 ack, .int .i64 of_, .slice A n c, .slice (some ad) k d] 25)
  have HRd := Lib.hid (hrd.keep (HK3.out.trans hal3) (fun _ h => h.elim))
  have HK3a := Lib.hid (HK3.out.trans hal3)
  have HBn := Lib.hid (Blk.new w3 25 #[.int .i64 id, .int .i64 t, .int .i64 ack, .int .i64 of_, .slice A n c, .slice (some ad) k d])
  have HB3a := Lib.hid (HB3.out.alloc (.cells #[.int .i64 id, .int .i64 t, .int .i64 ack, .int .i64 of_, .slice A n c, .slice (some ad) k d] 25))
  have hsz3 : (w3.alloc (.cells #[.int .i64 id, .int .i64 t, .int .i64 ack, .int .i64 of_, .slice A n c, .slice (some ad) k d] 25)).heap.size = w3.heap.size + 1 := by simp
  have Hsz3 := Lib.hid hsz3
  clear hrd hall hal3 hsz3
  go_wp2_with (refine wpList_app _ rfl _ (.tmp 83) _ rfl elemPk (w3.heap.size + 1) (A := none) (n := 0) (c := 0) (xs := []) (by go_simp) (Own.nil _ _ _ _) W.heap.size (A' := some ad) (m := k) (c' := d) (by go_simp) HRd.out (Rep.flat_one Hall.out) (by omega) (by unfold maxLen; omega) (by rw [Hsz3.out]; exact Nat.le_refl _) ?_; intro A7 c7 w7 hown7 hk7 hrow7; have HK7 := Lib.hid (keep_none6 hk7); have hown7' : Own w7 (w3.heap.size + 1) 39 2 A7 k c7 css.flatten := (by simpa using hown7); have HO7 := Lib.hid hown7'; have hbn7 := HBn.out.keep HK7.out (fun h => h); have q5 := hbn7.cell 5; have f5 := hbn7.frozen 5; have HBn7 := Lib.hid hbn7; clear hown7 hown7' hk7 hrow7 hbn7)
  obtain ⟨W8, hW8⟩ : ∃ W8, w7.setCell ⟨w3.heap.size, 5, none⟩ (.slice A7 k c7) = W8 := ⟨_, rfl⟩
  rw [hW8]
  have hset : Keep (fun q => q = w3.heap.size) w7 W8 := by rw [← hW8]; exact (Keep.refl (fun q => q = w3.heap.size) w7).set_ (p := ⟨w3.heap.size, 5, none⟩) (.inl rfl) _
  have HK8 : Hid (Keep Never W W8) := Lib.hid ((HK3a.out.trans HK7.out).then_ hset (fun i hi e => by have := HK3.out.size; omega))
  have HBm8 : Hid (Blk W8 W.heap.size 25 #[.int .i64 id, .int .i64 t, .int .i64 ack, .int .i64 of_, .slice A n c, .slice (some ad) k d]) := Lib.hid ((HB3a.out.keep HK7.out (fun h => h)).keep hset (fun h => by have := HB3.out.lt; omega))
  have HO8 : Hid (Own W8 (w3.heap.size + 1) 39 2 A7 k c7 css.flatten) := Lib.hid (HO7.out.keep hset (fun q h e => by have := (HO7.out.row h).1; omega))
  have HBn8 : Hid (Blk W8 w3.heap.size 25 #[.int .i64 id, .int .i64 t, .int .i64 ack, .int .i64 of_, .slice A n c, .slice A7 k c7]) := Lib.hid (by rw [← hW8]; have := HBn7.out.set_ 5 (.slice A7 k c7); simpa using this)
  obtain ⟨ag, hag⟩ : ∃ ag, A7 = some ag := by
    rcases HO8.out.form with ⟨_, h0, _⟩ | ⟨g, _, h, _⟩
    · omega
    · exact ⟨_, h⟩
  subst hag
  clear hset hW8 q5 f5 m0 m1 m2 m3 m4 m5 m5a
  obtain ⟨hP0, hPa, hPb⟩ := HP.out
  obtain ⟨_, hca, Ba', Na', Ca', rfl, ca1, ca2, ca3, ca4, ca5, ca6⟩ := Hall.out.at_ hPa
  obtain ⟨_, hcb, Bb', Nb', Cb', rfl, cb1, cb2, cb3, cb4, cb5, cb6⟩ := Hall.out.at_ hPb
  simp only at hca hcb ca1 ca2 ca6 cb1 cb2 cb6
  have Hca := Lib.hid hca
  have Hcb := Lib.hid hcb
  have HCA : Hid (repPk.cells W W.heap.size (pa, Va) [.int .i64 pa, .slice Ba' Na' Ca']) := Lib.hid ⟨Ba', Na', Ca', rfl, ca1, ca2, ca3, ca4, ca5, ca6⟩
  have HCB : Hid (repPk.cells W W.heap.size (pb, Vb) [.int .i64 pb, .slice Bb' Nb' Cb']) := Lib.hid ⟨Bb', Nb', Cb', rfl, cb1, cb2, cb3, cb4, cb5, cb6⟩
  clear ca1 ca2 ca3 ca4 ca5 ca6 cb1 cb2 cb3 cb4 cb5 cb6 hca hcb hP0 hPa hPb
  have HRW : Hid (Rd W W.heap.size 2 (some ad) k css.flatten) := Lib.hid HRdW.out
  have n5 : W8.cell? ⟨w3.heap.size, 5, none⟩ = some (.slice (some ag) k c7) := HBn8.out.cell 5
  have m5 : W8.cell? ⟨W.heap.size, 5, none⟩ = some (.slice (some ad) k d) := HBm8.out.cell 5
  obtain ⟨s0, s1⟩ := rd2_cell (HRW.out.keep HK8.out (fun _ h => h.elim)) HC2.out Hcb.out
  obtain ⟨t0, t1, g0, g1, t2, g2⟩ := own2_cell HO8.out HC2.out Hca.out
  go_still_tail 9, (by kernel_rfl)
  change wpList _ _ _ _ _ W8.drew
  go_wp2_with fail
  obtain ⟨hO9, hK9⟩ := own2_set (v0 := .int .i64 pb) (v1 := .slice Bb' Nb' Cb') (a := a) HO8.out.drew HC2.out
  have hset9 := hK9
  obtain ⟨W9, hW9⟩ : ∃ W9, (W8.drew.setCell (ag.add (a * 2)) (.int .i64 pb)).setCell ⟨(ag.add (a * 2)).block, (ag.add (a * 2)).off + 1, none⟩ (.slice Bb' Nb' Cb') = W9 := ⟨_, rfl⟩
  rw [hW9] at hO9 hK9
  have hnr : ¬ InRow (some ag) w3.heap.size := fun h => by have := (HO8.out.row h).1; omega
  have hnm : ¬ InRow (some ag) W.heap.size := fun h => by have h1 := (HO8.out.row h).1; have h2 := HK3.out.size; omega
  have HBn9 : Hid (Blk W9 w3.heap.size 25 #[.int .i64 id, .int .i64 t, .int .i64 ack, .int .i64 of_, .slice A n c, .slice (some ag) k c7]) := Lib.hid (HBn8.out.drew.keep hK9 hnr)
  have HBm9 : Hid (Blk W9 W.heap.size 25 #[.int .i64 id, .int .i64 t, .int .i64 ack, .int .i64 of_, .slice A n c, .slice (some ad) k d]) := Lib.hid (HBm8.out.drew.keep hK9 hnm)
  have HO9 := Lib.hid hO9
  have HK9 : Hid (Keep Never W W9) := Lib.hid (HK8.out.drew.then_ hK9 (fun i hi e => by have h1 := (HO8.out.row e).1; have h2 := HK3.out.size; omega))
  have HC29 : Hid (∀ cs ∈ css.set a [.int .i64 pb, .slice Bb' Nb' Cb'], cs.length = 2) := Lib.hid (fun cs h => by
    rcases List.mem_or_eq_of_mem_set h with h | h
    · exact HC2.out cs h
    · rw [h]; rfl)
  have Hcb9 : Hid ((css.set a [.int .i64 pb, .slice Bb' Nb' Cb'])[b]? = some [.int .i64 pb, .slice Bb' Nb' Cb']) := Lib.hid (by
    rw [List.getElem?_set]
    by_cases h : a = b
    · rw [if_pos h, if_pos (List.getElem?_eq_some_iff.1 Hca.out).1]
    · rw [if_neg h]; exact Hcb.out)
  have Hnr := Lib.hid (And.intro hnr hnm)
  clear hO9 hK9 hset9 n5 m5 s0 s1 t0 t1 g0 g1 t2 g2 hnr hnm
  have hW9' := hW9
  rw [show (W8.drew.setCell (ag.add (a * 2)) (.int .i64 pb)).setCell ⟨(ag.add (a * 2)).block, (ag.add (a * 2)).off + 1, none⟩ (.slice Bb' Nb' Cb') = ((W8.setCell (ag.add (a * 2)) (.int .i64 pb)).setCell ⟨(ag.add (a * 2)).block, (ag.add (a * 2)).off + 1, none⟩ (.slice Bb' Nb' Cb')).drew from rfl] at hW9'
  rw [hW9']
  clear hW9 hW9'
  have n5 : W9.cell? ⟨w3.heap.size, 5, none⟩ = some (.slice (some ag) k c7) := HBn9.out.cell 5
  have m5 : W9.cell? ⟨W.heap.size, 5, none⟩ = some (.slice (some ad) k d) := HBm9.out.cell 5
  obtain ⟨s0, s1⟩ := rd2_cell (HRW.out.keep HK9.out (fun _ h => h.elim)) HC2.out Hca.out
  obtain ⟨t0, t1, g0, g1, t2, g2⟩ := own2_cell HO9.out HC29.out Hcb9.out
  go_still_tail 9, (by kernel_rfl)
  change wpList _ _ _ _ _ W9.drew
  have hW10e : (W9.drew.setCell (ag.add (b * 2)) (.int .i64 pa)).setCell ⟨(ag.add (b * 2)).block, (ag.add (b * 2)).off + 1, none⟩ (.slice Ba' Na' Ca') = ((W9.setCell (ag.add (b * 2)) (.int .i64 pa)).setCell ⟨(ag.add (b * 2)).block, (ag.add (b * 2)).off + 1, none⟩ (.slice Ba' Na' Ca')).drew := rfl
  obtain ⟨hO10, hK10⟩ := own2_set (v0 := .int .i64 pa) (v1 := .slice Ba' Na' Ca') (a := b) HO9.out.drew HC29.out
  rw [hW10e] at hO10 hK10
  have HBn10 := Lib.hid (HBn9.out.drew.keep hK10 Hnr.out.1)
  have HBm10 := Lib.hid (HBm9.out.drew.keep hK10 Hnr.out.2)
  have HO10 := Lib.hid hO10
  have HK10 := Lib.hid (HK9.out.drew.then_ hK10 (fun i hi e => by have h1 := (HO8.out.row e).1; have h2 := HK3.out.size; omega))
  have v0 := HBn10.out.cell 0
  have v1 := HBn10.out.cell 1
  have v2 := HBn10.out.cell 2
  have v3 := HBn10.out.cell 3
  have v4 := HBn10.out.cell 4
  have v5 := HBn10.out.cell 5
  clear hW10e hO10 hK10
  go_wp2_with fail
  have HAll2 : Hid (All2 (repPk.cells W W.heap.size) ((P.set a (pb, Vb)).set b (pa, Va)) ((css.set a [.int .i64 pb, .slice Bb' Nb' Cb']).set b [.int .i64 pa, .slice Ba' Na' Ca'])) := Lib.hid (all2_set (all2_set Hall.out HCB.out a) HCA.out b)
  have HP3 : Hid (∀ p ∈ (P.set a (pb, Vb)).set b (pa, Va), p.2.length ≤ 3000) := Lib.hid (fun p hp => by
    rcases List.mem_or_eq_of_mem_set hp with hp | rfl
    · rcases List.mem_or_eq_of_mem_set hp with hp | rfl
      · exact HL.out.2.2.1 p hp
      · exact HL.out.2.2.1 _ (List.mem_of_getElem? HP.out.2.2)
    · exact HL.out.2.2.1 _ (List.mem_of_getElem? HP.out.2.1))
  have HPl : Hid (((P.set a (pb, Vb)).set b (pa, Va)).length = k) := Lib.hid (by rw [List.length_set, List.length_set]; exact HS.out.1.symm)
  have hE10 : Hid (Calls Tryd.prog 12 #[.agg #[.int .i64 id, .int .i64 t, .int .i64 ack, .int .i64 of_, .slice A n c, .slice (some ag) k c7]] ((W9.setCell (ag.add (b * 2)) (.int .i64 pa)).setCell ⟨(ag.add (b * 2)).block, (ag.add (b * 2)).off + 1, none⟩ (.slice Ba' Na' Ca')).drew (EncRet ((W9.setCell (ag.add (b * 2)) (.int .i64 pa)).setCell ⟨(ag.add (b * 2)).block, (ag.add (b * 2)).off + 1, none⟩ (.slice Ba' Na' Ca')).drew (EncodeM id t ack of_ V ((P.set a (pb, Vb)).set b (pa, Va))))) := Lib.hid (by
    have hsl := Rep.Sl.of_own HO10.out (repPk_imp HAll2.out HK10.out) HPl.out.symm HK10.out.size
    have h1 := HM.out.1.keep HK10.out (fun _ h => h.elim)
    exact enc_light ⟨h1.more HK10.out.size, HM.out.2.1, HM.out.2.2.1, HM.out.2.2.2.1, hsl⟩ HI.out HL.out.1 (by rw [HPl.out]; omega) HP3.out (HWi.out.keep HK10.out (fun h => h)) (HWi.out.keep HK10.out (fun h => h)).lt (Nat.le_refl _))
  refine hE10.out.mono ?_
  clear hE10 v0 v1 v2 v3 v4 v5 n5 m5 s0 s1 t0 t1 g0 g1 t2 g2
  rintro e w11 ⟨A11, n11, c11, x11, rfl, hk11, hpo11⟩
  have HE11 := Lib.hid hpo11
  have HK11 := Lib.hid (HK10.out.trans hk11)
  have HBn11 := Lib.hid (HBn10.out.keep hk11 (fun h => h))
  have HBm11 := Lib.hid (HBm10.out.keep hk11 (fun h => h))
  have HO11 := Lib.hid (HO10.out.keep hk11 (fun _ _ h => h))
  clear hk11 hpo11
  have n5 : w11.cell? ⟨w3.heap.size, 5, none⟩ = some (.slice (some ag) k c7) := HBn11.out.cell 5
  have n5a : ∀ o, (w11.alloc o).cell? ⟨w3.heap.size, 5, none⟩ = some (.slice (some ag) k c7) := fun o => (HBn11.out.alloc o).cell 5
  have m5 : w11.cell? ⟨W.heap.size, 5, none⟩ = some (.slice (some ad) k d) := HBm11.out.cell 5
  obtain ⟨s0, s1⟩ := rd2_cell (HRW.out.keep HK11.out (fun _ h => h.elim)) HC2.out Hca.out
  have Hs11 : Hid (w3.heap.size + 1 ≤ w11.heap.size) := Lib.hid (by have := HBn11.out.lt; omega)
  go_wp2_with fail
  go_region_law (refine step_app _ rfl (.tmp 110) (.tmp 116) _ rfl elemPk (w3.heap.size + 1) rfl (HO11.out.alloc _) _ rfl (Rd.of_blk (n := 1) (cs := [.int .i64 pa, .slice Ba' Na' Ca']) (Blk.new _ _ _) rfl) (by simp [Value.oneCell']) (by omega) (by unfold maxLen; omega) (by have := Hs11.out; simp; omega) ?_; intro A12 c12 w12 hown12 hk12 hrow12; have hbn12 := Blk.keep (w := World.drew (w11.alloc _)) (HBn11.out.alloc _).drew hk12 Hnr.out.1; have hf12 := hbn12.frozen 5; have hc12 := hbn12.cell 5; have HBn12 := Lib.hid hbn12; have HK12 := Lib.hid hk12; have HO12 := Lib.hid hown12; clear hbn12 hk12 hown12 hrow12)
  all_goals
    have HBn13 : Hid (Blk (w12.setCell ⟨w3.heap.size, 5, none⟩ (.slice A12 (k + 1) c12)) w3.heap.size 25 #[.int .i64 id, .int .i64 t, .int .i64 ack, .int .i64 of_, .slice A n c, .slice A12 (k + 1) c12]) := Lib.hid (by have := HBn12.out.set_ 5 (.slice A12 (k + 1) c12); simpa using this)
    have hO13 := HO12.out.far (p := ⟨w3.heap.size, 5, none⟩) (fun q h e => by have := (HO12.out.row h).1; simp only at e; omega) (.slice A12 (k + 1) c12)
    have hset13 : Keep (fun q => q = w3.heap.size) w12 (w12.setCell ⟨w3.heap.size, 5, none⟩ (.slice A12 (k + 1) c12)) := (Keep.refl (fun q => q = w3.heap.size) w12).set_ (p := ⟨w3.heap.size, 5, none⟩) (.inl rfl) _
    have hK13 : Keep Never W (w12.setCell ⟨w3.heap.size, 5, none⟩ (.slice A12 (k + 1) c12)) := ((HK11.out.alloc _).drew.then_ HK12.out (fun i hi e => by have h1 := (HO11.out.row e).1; have h2 := HK3.out.size; omega)).then_ hset13 (fun i hi e => by have h2 := HK3.out.size; omega)
    have hE13 : Hid (Calls Tryd.prog 12 #[.agg #[.int .i64 id, .int .i64 t, .int .i64 ack, .int .i64 of_, .slice A n c, .slice A12 (k + 1) c12]] (w12.setCell ⟨w3.heap.size, 5, none⟩ (.slice A12 (k + 1) c12)) (EncRet (w12.setCell ⟨w3.heap.size, 5, none⟩ (.slice A12 (k + 1) c12)) (EncodeM id t ack of_ V ((P.set a (pb, Vb)).set b (pa, Va) ++ [(pa, Va)])))) := Lib.hid (by
      have hall : All2 (repPk.cells (w12.setCell ⟨w3.heap.size, 5, none⟩ (.slice A12 (k + 1) c12)) W.heap.size) ((P.set a (pb, Vb)).set b (pa, Va) ++ [(pa, Va)]) (((css.set a [.int .i64 pb, .slice Bb' Nb' Cb']).set b [.int .i64 pa, .slice Ba' Na' Ca']) ++ [([.int .i64 pa, .slice Ba' Na' Ca'] : List Value)]) := repPk_imp (HAll2.out.app ⟨HCA.out, trivial⟩) hK13
      have hlen : k + 1 = ((P.set a (pb, Vb)).set b (pa, Va) ++ [(pa, Va)]).length := by rw [List.length_append, HPl.out]; rfl
      have hz : Own (w12.setCell ⟨w3.heap.size, 5, none⟩ (.slice A12 (k + 1) c12)) (w3.heap.size + 1) 39 2 A12 (k + 1) c12 (((css.set a [.int .i64 pb, .slice Bb' Nb' Cb']).set b [.int .i64 pa, .slice Ba' Na' Ca']) ++ [([.int .i64 pa, .slice Ba' Na' Ca'] : List Value)]).flatten := by
        rw [List.flatten_append]
        simpa using hO13
      have hsl := Rep.Sl.of_own (r := repPk) (w := (w12.setCell ⟨w3.heap.size, 5, none⟩ (.slice A12 (k + 1) c12))) (base := w3.heap.size + 1) (e := 39) (A := A12) (n := k + 1) (c := c12) (css := ((css.set a [.int .i64 pb, .slice Bb' Nb' Cb']).set b [.int .i64 pa, .slice Ba' Na' Ca']) ++ [([.int .i64 pa, .slice Ba' Na' Ca'] : List Value)]) hz hall hlen hK13.size
      have h1 := HM.out.1.keep hK13 (fun _ h => h.elim)
      exact enc_light ⟨h1.more hK13.size, HM.out.2.1, HM.out.2.2.1, HM.out.2.2.2.1, hsl⟩ HI.out HL.out.1 (by rw [← hlen]; omega) (fun p hp => by
        rcases List.mem_append.1 hp with hp | hp
        · exact HP3.out p hp
        · rw [List.mem_singleton.1 hp]; exact HL.out.2.2.1 _ (List.mem_of_getElem? HP.out.2.1)) (HWi.out.keep hK13 (fun h => h)) (HWi.out.keep hK13 (fun h => h)).lt (Nat.le_refl _))
    have HK13 := Lib.hid hK13
    have v0 := HBn13.out.cell 0
    have v1 := HBn13.out.cell 1
    have v2 := HBn13.out.cell 2
    have v3 := HBn13.out.cell 3
    have v4 := HBn13.out.cell 4
    have v5 := HBn13.out.cell 5
    clear hO13 hset13 hK13 n5 n5a m5 s0 s1 hc12 hf12
    go_wp2_with fail
    refine hE13.out.mono ?_
    rintro e w14 ⟨A14, n14, c14, x14, rfl, hk14, hpo14⟩
    have HK14 := Lib.hid (HK13.out.trans hk14)
    have hfin : (x3 == 0) = (x11 == 0) ∧ (x14 == 0) = false ∧ (x14 != 0) = true := by
      obtain ⟨hp0, hpa, hpb⟩ := HP.out
      obtain ⟨l, hPl⟩ : ∃ l, P = (p0, V0) :: l := by
        cases hPP : P with
        | nil => rw [hPP] at hp0; simp at hp0
        | cons q l => rw [hPP] at hp0; simp at hp0; exact ⟨l, by rw [hp0]⟩
      rw [hPl] at hpa hpb
      obtain ⟨mm, hm1, hm2⟩ := swap_perm H12.out.1 H12.out.2 hpa hpb
      have hin : (pa, Va) ∈ mm := by
        obtain ⟨a', ha'⟩ : ∃ j, a = j + 1 := ⟨a - 1, by have := H12.out.1; omega⟩
        rw [ha', List.getElem?_cons_succ] at hpa
        exact hm2.mem_iff.1 (List.mem_of_getElem? hpa)
      have h3 := HE3.out
      have h11 := HE11.out
      rw [hPl] at h3
      rw [hPl, hm1] at h11 hpo14
      obtain ⟨er, her⟩ := encode_twice (id := id) (t := t) (ack := ack) (of_ := of_) (V := V) (p := (p0, V0)) hin
      have hx14 : x14 ≠ 0 := by
        rcases hpo14 with ⟨_, h, _⟩ | ⟨_, h, _⟩
        · rw [List.cons_append, her] at h; cases h
        · exact h
      refine ⟨?_, by simpa using hx14, by simpa using hx14⟩
      rcases h3 with ⟨_, h3, rfl, _⟩ | ⟨h3, hx3, _⟩
      · rcases h11 with ⟨_, h11, rfl, _⟩ | ⟨h11, hx11, _⟩
        · rfl
        · obtain ⟨_, h⟩ := encode_perm hm2 h3
          rw [h] at h11; cases h11
      · rcases h11 with ⟨_, h11, rfl, _⟩ | ⟨h11, hx11, _⟩
        · obtain ⟨_, h⟩ := encode_perm hm2.symm h11
          rw [h] at h3; cases h3
        · rw [show (x3 == 0) = false by simpa using hx3, show (x11 == 0) = false by simpa using hx11]
    obtain ⟨hf1, hf2, hf3⟩ := hfin
    clear hk14 hpo14 v0 v1 v2 v3 v4 v5 hE13
    cases hq : (x11 == 0) with
    | true =>
      rw [hq] at hf1
      go_wp2_with fail
      go_ret
      exact ⟨rfl, HK14.out⟩
    | false =>
      rw [hq] at hf1
      go_wp2_with fail
      go_ret
      exact ⟨rfl, HK14.out⟩

end Go.Proofs.YtiebjnibmomcjaaDoor
