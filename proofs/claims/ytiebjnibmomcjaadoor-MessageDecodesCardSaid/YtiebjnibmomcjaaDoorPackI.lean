/- Package packet: what Items does with a variable. -/
import Derived.Test.YtiebjnibmomcjaaDoorPackV
import Derived.Test.YtiebjnibmomcjaaDoorPackG
import Derived.Test.YtiebjnibmomcjaaDoorVarsL
import Derived.Deep.RegionLaw
namespace Go.Proofs.YtiebjnibmomcjaaDoor
open Go.RowKit

set_option maxRecDepth 100000 in
theorem elemBits : Elem Tryd.prog 48 47 2 16 := ⟨Tryd.underlying48, _, _, rfl, rfl, rfl, rfl, rfl, by omega⟩
/-- the cells of numbers and widths -/
def bitCells (l : List (Int × Int)) : List Value := l.flatMap fun x => [.int .i64 x.1, .int .i64 x.2]
def i64 (n : Int) : Prop := -9223372036854775808 ≤ n ∧ n ≤ 9223372036854775807

/-- where Items stands: l in block bl, rest in block br -/
def InvI (B base bl br : Nat) (s : SI) (Q : Nat → Prop) (w : World) : Prop :=
  ∃ (A : Option Addr) (c : Nat) (A' : Option Addr) (n' c' : Nat), Blk w bl 48 #[.slice A s.out.length c] ∧ Own w base 47 2 A s.out.length c (bitCells (itemsOf s.out)) ∧ (∀ k, Q k ↔ InRow A k) ∧
    Blk w br 22 #[.slice A' n' c'] ∧ s.rest.length = n' ∧ Rd w B 1 A' n' (s.rest.map (.int .i64)) ∧ n' ≤ c' ∧ c' ≤ maxLen ∧ (∀ x ∈ s.rest, i64 x) ∧ Widths w ∧ B ≤ base ∧ True ∧ bl ≠ br ∧ B ≤ bl ∧ B ≤ br ∧ 0 < B

theorem InvI.keep {B base bl br : Nat} {s : SI} {Q : Nat → Prop} {w w' : World} (h : InvI B base bl br s Q w) (hk : Keep Never w w') : InvI B base bl br s Q w' := by
  obtain ⟨A, c, A', n', c', h1, h2, h3, h4, h5, h6, h7, h8, h9, h10, h11⟩ := h
  exact ⟨A, c, A', n', c', h1.keep hk (fun h => h), h2.keep hk (fun _ _ h => h), h3, h4.keep hk (fun h => h), h5, h6.keep hk (fun _ h => h.elim), h7, h8, h9, h10.keep hk (fun h => h), h11⟩
def SI2 (bl br : Nat) : Nat → Prop := fun k => k = bl ∨ k = br
theorem itemsOf_snoc (tr : List (Int × Int)) (v n : Int) : bitCells (itemsOf (tr ++ [(v, n)])) = bitCells (itemsOf tr) ++ [.int .i64 n, .int .i64 (vWidth v)] := by simp [bitCells, itemsOf]

/-- behind the append and the store -/
theorem InvI.push {B base bl br : Nat} {s : SI} {Q : Nat → Prop} {W w5 : World} {A A5 : Option Addr} {n c c5 : Nat} {o : Obj} {v m : Int} (h : InvI B base bl br s Q W) (h1 : Blk W bl 48 #[.slice A n c]) (_hB : base ≤ W.heap.size)
    (ho : Own w5 base 47 2 A5 (n + 1) c5 (bitCells (itemsOf s.out) ++ [.int .i64 m, .int .i64 (vWidth v)])) (hk : Keep (InRow A) (W.alloc o).drew w5) (hr : ∀ k, InRow A5 k → InRow A k ∨ k = (W.alloc o).drew.heap.size) :
    Keep (fun k => SI2 bl br k ∨ Q k) W (w5.setCell ⟨bl, 0, none⟩ (.slice A5 (n + 1) c5)) ∧ ∃ Q', (∀ k, Q' k → Q k ∨ W.heap.size ≤ k) ∧ (∀ k, Q' k → k < (w5.setCell ⟨bl, 0, none⟩ (.slice A5 (n + 1) c5)).heap.size) ∧
      InvI B base bl br ⟨s.rest, s.out ++ [(v, m)]⟩ Q' (w5.setCell ⟨bl, 0, none⟩ (.slice A5 (n + 1) c5)) := by
  obtain ⟨A0, c0, A', n', c', g1, g2, g3, g4, g5, g6, g7, g8, g9, g10, g11, g12, g13, g14, g15, g16⟩ := h
  have e : (Obj.cells #[.slice A0 s.out.length c0] 48 (0, 0)) = .cells #[.slice A n c] 48 (0, 0) := by
    have := g1.symm.trans h1
    injection this
  injection e with e
  have e := congrArg (fun x : Array Value => x.toList) e
  simp only [List.cons.injEq, and_true, Value.slice.injEq] at e
  obtain ⟨rfl, rfl, rfl⟩ := e
  have hrow : ∀ k, InRow A0 k → base ≤ k ∧ k < W.heap.size := fun k hk => g2.row hk
  have ha : Keep Never W (W.alloc o).drew := ((Keep.refl _ _).alloc _).drew
  have hb5 := (g1.keep ha (fun h => h)).keep hk (fun e => g2.ne_blk g1 (by decide) _ e rfl)
  have hr5 := (g4.keep ha (fun h => h)).keep hk (fun e => g2.ne_blk g4 (by decide) _ e rfl)
  have hrow5 : ∀ k, InRow A5 k → base ≤ k ∧ k < w5.heap.size := fun k hk => ho.row hk
  have hS : Keep (fun k => SI2 bl br k ∨ Q k) W (w5.setCell ⟨bl, 0, none⟩ (.slice A5 (s.out.length + 1) c5)) :=
    ((ha.mono (fun _ _ h => h.elim)).trans (hk.mono (fun k _ h => .inr ((g3 k).2 h)))).set_ (.inl (.inl (.inl rfl))) _
  refine ⟨hS, InRow A5, ?_, ?_, A5, c5, A', n', c', ?_, ?_, fun _ => Iff.rfl, ?_, g5, ?_, g7, g8, g9, ?_, g11, g12, g13, g14, g15, g16⟩
  · intro k h
    rcases hr k h with h | h
    · exact .inl ((g3 k).2 h)
    · right
      have : (W.alloc o).drew.heap.size = W.heap.size + 1 := by simp
      omega
  · intro k h
    have := (hrow5 k h).2
    simpa [World.setCell] using this
  · have := hb5.set_ 0 (.slice A5 (s.out.length + 1) c5)
    rw [List.length_append]
    simpa using this
  · rw [itemsOf_snoc, List.length_append]
    exact ho.far (fun k h e => ho.ne_blk hb5 (by decide) k h e) _
  · exact hr5.far (fun e => g13 e.symm) _
  · exact ((g6.keep ha (fun _ h => h.elim)).keep hk (fun k h => by have := (hrow k h).1; omega)).set_ g14 _
  · exact ((g10.keep ha (fun h => h)).keep hk (fun h => by have := (hrow _ h).1; omega)).keep ((Keep.refl (fun k => k = bl) w5).set_ (.inl rfl) _) (fun e => by omega)

set_option maxHeartbeats 4000000 in
set_option maxRecDepth 100000 in
theorem items1_seven (B base bl br : Nat) (s : SI) (Q : Nat → Prop) (w : World) (h : InvI B base bl br s Q w) (hB : base ≤ w.heap.size) (hlen : s.out.length ≤ 1000000) :
    Calls Tryd.prog 78 #[.int .i64 7, .pointer (some ⟨bl, 0, none⟩), .pointer (some ⟨br, 0, none⟩)] w (VPost (InvI B base bl br) (SI2 bl br) Q w (.ok (0, ⟨s.rest, s.out ++ [(7, 0)]⟩))) := by
  have Hinv := Lib.hid h
  obtain ⟨A, c, A', n', c', h1, h2, h3, h4, h5, h6, h7, h8, h9, h10, h11, h12, h13, h14, h15, h16⟩ := h
  obtain ⟨x, hx⟩ : ∃ x, vWidth 7 = x := ⟨_, rfl⟩
  have c1 : w.cell? ⟨bl, 0, none⟩ = some (.slice A s.out.length c) := h1.cell 0
  have f1 : w.frozen? ⟨bl, 0, none⟩ = false := h1.frozen 0
  have H1 := Lib.hid h1
  have H2 := Lib.hid h2
  have H3 := Lib.hid h3
  have H4 := Lib.hid h4
  have H5 := Lib.hid h5
  have H6 := Lib.hid h6
  have H9 := Lib.hid h9
  have H10 := Lib.hid h10
  have HX := Lib.hid hx
  have HF := Lib.hid (And.intro h11 (And.intro h12 (And.intro h13 (And.intro h14 (And.intro h15 h16)))))
  have hrow : Hid (∀ k, InRow A k → base ≤ k ∧ k < w.heap.size) := fun k hk => h2.row hk
  have hW : ∀ W, Keep Never w W → Calls Tryd.prog 23 #[.int .i64 7] W fun e w' => e = .returned (.int .i64 x) ∧ W = w' := by
    intro W hW
    have := vwidth_any 7 W (h10.keep hW (fun h => h))
    rwa [hx] at this
  have HW := Lib.hid hW
  generalize hn : s.out.length = n at *
  have Hn := Lib.hid hn
  clear h1 h2 h3 h4 h5 h6 h9 h10 hx h11 h12 h13 h14 h15 h16 hW hn
  have hnr : Hid (¬ InRow A bl) := fun e => H2.out.ne_blk H1.out (by decide) _ e rfl
  have hbl : Hid (bl < w.heap.size + 1) := by show bl < w.heap.size + 1; have := H1.out.lt; omega
  have c1a : ∀ o, (w.alloc o).cell? ⟨bl, 0, none⟩ = some (.slice A n c) := fun o => (H1.out.alloc o).cell 0
  go_enter Tryd.func78, Tryd.ntmps78
  go_wp2
  go_region_law (first
      | (refine step_app _ rfl (.tmp 8) (.tmp 12) _ rfl elemBits base rfl (H2.out.alloc _) _ rfl (Rd.of_blk (n := 1) (cs := [.int .i64 0, .int .i64 x]) (Blk.new _ _ _) rfl) (by simp [Value.oneCell']) (by omega) (by unfold maxLen; omega) (by simp; omega) ?_; intro A5 c5 w5 hown5 hk5 hrow5; have hb5 := Blk.keep (w := World.drew (w.alloc _)) (H1.out.alloc _).drew hk5 hnr.out; have hf5 := hb5.frozen 0; have hc5 := hb5.cell 0; have Hb5 := Lib.hid hb5; have HK5 := Lib.hid hk5; have HO5 := Lib.hid hown5; clear hb5 hk5 hown5)
      | (go_simp; go_at_call 23; refine (HW.out _ (Keep.refl Never w).drew).mono ?_; rintro e w' ⟨rfl, rfl⟩))
  all_goals
    go_wp2_with fail
    go_ret
    have hp := Hinv.out.push (v := 7) (m := 0) H1.out hB (by rw [HX.out]; exact HO5.out) HK5.out hrow5.out
    obtain ⟨k1, Q', q1, q2, i2⟩ := hp
    exact ⟨k1, Q', q1, q2, .inl ⟨0, _, rfl, rfl, i2, by omega, by omega⟩⟩

theorem may_i64 {v n : Int} (h : vMay v n = true) : -9223372036854775808 ≤ n ∧ n ≤ 9223372036854775807 := by
  have h1 := vMay_range h
  have h2 := pow_le32 (k := (vWidth v).toNat) (by omega)
  omega

set_option maxHeartbeats 4000000 in
set_option maxRecDepth 100000 in
theorem items1_bad (B base bl br : Nat) (s : SI) (Q : Nat → Prop) (w : World) (v : Int) (h7 : ¬ v = 7) (h : InvI B base bl br s Q w) (hv : valI v s = .error 20) :
    Calls Tryd.prog 78 #[.int .i64 v, .pointer (some ⟨bl, 0, none⟩), .pointer (some ⟨br, 0, none⟩)] w (VPost (InvI B base bl br) (SI2 bl br) Q w (.error 20)) := by
  have Hinv := Lib.hid h
  obtain ⟨A, c, A', n', c', h1, h2, h3, h4, h5, h6, h7', h8, h9, h10, h11, h12, h13, h14, h15, h16⟩ := h
  have c2 : w.cell? ⟨br, 0, none⟩ = some (.slice A' n' c') := h4.cell 0
  have e7 : (v == 7) = false := by simpa using h7
  have hend : Hid (∀ w', Keep Never w w' → VPost (InvI B base bl br) (SI2 bl br) Q w (.error 20) (.panicked [faultV 20]) w') := by
    intro w' hk
    refine ⟨hk.mono (fun _ _ h => h.elim), Q, fun _ h => .inl h, fun k h => ?_, .inr ⟨20, s, rfl, rfl, Hinv.out.keep hk⟩⟩
    have := (h2.row ((h3 k).1 h)).2
    have := hk.size
    omega
  have HW := Lib.hid h10
  unfold valI at hv
  rw [if_neg h7] at hv
  cases hr : s.rest with
  | nil =>
    rw [hr] at h5
    simp only [List.length_nil] at h5
    subst h5
    clear h1 h2 h3 h4 h6 h9 h10 hv h7
    go_enter Tryd.func78, Tryd.ntmps78
    go_wp2_with fail
    exact ⟨rfl, hend.out _ (Keep.refl _ _)⟩
  | cons n t =>
    rw [hr] at hv h5 h6
    simp only at hv
    by_cases hm : vMay v n = true
    · rw [if_pos hm] at hv; cases hv
    · have hm' : vMay v n = false := by simpa using hm
      have hn := h9 n (by rw [hr]; simp)
      obtain ⟨hn1, hn2⟩ := hn
      obtain ⟨ad, rfl, _, hc⟩ := h6.2 (by rw [← h5]; simp)
      have hc0 := hc 0 _ rfl
      have hc1 : w.cell? ad = some (.int .i64 n) := by have : ad.add 0 = ad := by unfold Addr.add; simp
                                                       rwa [this] at hc0
      simp only [List.length_cons] at h5
      have hz : ((n' : Int) == 0) = false := by simp; omega
      have hn0 : (0 : Int) < n' := by omega
      have H5 := Lib.hid h5
      have hMay : Hid (∀ W, Keep Never w W → Calls Tryd.prog 27 #[.int .i64 v, .int .i64 n] W fun e w' => e = .returned (.bool false) ∧ W = w') := by
        intro W hW
        have := vmay_any v n hn2 W (HW.out.keep hW (fun h => h))
        rwa [hm'] at this
      clear h1 h2 h3 h4 h6 h9 h10 hv h7 hm hm' hc h5
      go_enter Tryd.func78, Tryd.ntmps78
      go_wp2_with (go_at_call 27; refine (hMay.out _ (Keep.refl Never _)).mono ?_; rintro e w' ⟨rfl, rfl⟩)
      exact ⟨rfl, hend.out _ (Keep.refl _ _)⟩

set_option maxHeartbeats 4000000 in
set_option maxRecDepth 100000 in
theorem items1_good (B base bl br : Nat) (s : SI) (Q : Nat → Prop) (w : World) (v n : Int) (t : List Int) (h7 : ¬ v = 7) (h : InvI B base bl br s Q w) (hB : base ≤ w.heap.size) (hlen : s.out.length ≤ 1000000) (hr : s.rest = n :: t) (hm : vMay v n = true) :
    Calls Tryd.prog 78 #[.int .i64 v, .pointer (some ⟨bl, 0, none⟩), .pointer (some ⟨br, 0, none⟩)] w (VPost (InvI B base bl br) (SI2 bl br) Q w (.ok (n, ⟨t, s.out ++ [(v, n)]⟩))) := by
  obtain ⟨A, c, A', n', c', h1, h2, h3, h4, h5, h6, h7', h8, h9, h10, h11, h12, h13, h14, h15, h16⟩ := h
  have hn := h9 n (by rw [hr]; simp)
  obtain ⟨hn1, hn2⟩ := hn
  have e7 : (v == 7) = false := by simpa using h7
  obtain ⟨x, hx⟩ : ∃ x, vWidth v = x := ⟨_, rfl⟩
  rw [hr] at h5 h6 h9
  simp only [List.length_cons] at h5
  obtain ⟨k', rfl⟩ : ∃ k', n' = k' + 1 := ⟨t.length, h5.symm⟩
  have hcut := h6.cut (k := 1) (cap := c') (by omega) h7'
  simp only [Nat.mul_one, List.map_cons, List.drop_succ_cons, List.drop_zero, Nat.add_sub_cancel] at hcut
  obtain ⟨ad, rfl, _, hc⟩ := h6.2 (by omega)
  have hc0 := hc 0 _ rfl
  have hc1 : w.cell? ad = some (.int .i64 n) := by
    have : ad.add 0 = ad := by unfold Addr.add; simp
    rwa [this] at hc0
  have c1 : w.cell? ⟨bl, 0, none⟩ = some (.slice A s.out.length c) := h1.cell 0
  have c2 : w.cell? ⟨br, 0, none⟩ = some (.slice (some ad) (k' + 1) c') := h4.cell 0
  have f1 : w.frozen? ⟨bl, 0, none⟩ = false := h1.frozen 0
  have f2 : w.frozen? ⟨br, 0, none⟩ = false := h4.frozen 0
  have hz : (((k' + 1 : Nat) : Int) == 0) = false := by simp; omega
  have hn0 : (0 : Int) < ((k' + 1 : Nat) : Int) := by omega
  have hMay : Hid (∀ W, Keep Never w W → Calls Tryd.prog 27 #[.int .i64 v, .int .i64 n] W fun e w' => e = .returned (.bool true) ∧ W = w') := by
    intro W hW
    have := vmay_any v n hn2 W (h10.keep hW (fun h => h))
    rwa [hm] at this
  -- the world behind the reslicing
  obtain ⟨A9, c9, h9s⟩ : ∃ A9 c9, (if c' = 1 then (.slice (some ad) k' 0 : Value) else .slice (some ⟨ad.block, ad.off + 1, none⟩) k' (c' - 1)) = .slice A9 k' c9 := by
    by_cases h : c' = 1
    · rw [if_pos h]; exact ⟨_, _, rfl⟩
    · rw [if_neg h]; exact ⟨_, _, rfl⟩
  have hst : Hid (∀ W, W = w.setCell ⟨br, 0, none⟩ (.slice A9 k' c9) → InvI B base bl br ⟨t, s.out⟩ Q W ∧ Blk W bl 48 #[.slice A s.out.length c] ∧ Own W base 47 2 A s.out.length c (bitCells (itemsOf s.out)) ∧ W.heap.size = w.heap.size ∧ Keep (fun k => SI2 bl br k ∨ Q k) w W) := by
    rintro W rfl
    have g1 := h1.far (p := ⟨br, 0, none⟩) h13 (.slice A9 k' c9)
    have hrow : ∀ k, InRow A k → base ≤ k ∧ k < w.heap.size := fun k hk => h2.row hk
    have g2 := h2.far (p := ⟨br, 0, none⟩) (fun k h e => h2.ne_blk h4 (by decide) k h e) (.slice A9 k' c9)
    have g4 := h4.set_ 0 (.slice A9 k' c9)
    refine ⟨⟨A, c, A9, k', c9, g1, g2, h3, by simpa using g4, by simpa using h5, ?_, ?_, ?_, fun x hx => h9 x (by simp [hx]), ?_, h11, h12, h13, h14, h15, h16⟩, g1, g2, by simp [World.setCell], (Keep.refl _ _).set_ (.inl (.inl (.inr rfl))) _⟩
    · have ea : ad.add 1 = ⟨ad.block, ad.off + 1, none⟩ := by unfold Addr.add; simp
      have e : (if c' = 1 then some ad else some (ad.add 1)) = A9 := by
        by_cases h : c' = 1
        · rw [if_pos h] at h9s ⊢; injection h9s
        · rw [if_neg h] at h9s ⊢; rw [ea]; injection h9s
      have : Rd w B 1 A9 k' (t.map (.int .i64)) := by rw [← e]; simpa using hcut
      exact this.set_ h15 _
    · by_cases h : c' = 1
      · rw [if_pos h] at h9s; injection h9s with _ _ e; omega
      · rw [if_neg h] at h9s; injection h9s with _ _ e; omega
    · by_cases h : c' = 1
      · rw [if_pos h] at h9s; injection h9s with _ _ e; omega
      · rw [if_neg h] at h9s; injection h9s with _ _ e; omega
    · exact h10.keep ((Keep.refl (fun k => k = br) w).set_ (.inl rfl) _) (fun e => by omega)
  have HW : Hid (∀ W, Keep Never (w.setCell ⟨br, 0, none⟩ (.slice A9 k' c9)) W → Calls Tryd.prog 23 #[.int .i64 v] W fun e w' => e = .returned (.int .i64 x) ∧ W = w') := by
    intro W hW
    have h10' := h10.keep ((Keep.refl (fun k => k = br) w).set_ (p := ⟨br, 0, none⟩) (.inl rfl) (.slice A9 k' c9)) (fun e => by omega)
    have := vwidth_any v W (h10'.keep hW (fun h => h))
    rwa [hx] at this
  have HX := Lib.hid hx
  have hsz : s.out.length ≤ 1000000 := hlen
  generalize hn9 : s.out.length = m at *
  have Hn := Lib.hid hn9
  have H1 := Lib.hid h1
  have H2 := Lib.hid h2
  have H9s := Lib.hid h9s
  have hnr : Hid (¬ InRow A bl) := fun e => h2.ne_blk h1 (by decide) _ e rfl
  have hcc : c' = 1 ∨ ¬ c' = 1 := by omega
  have h17 : 1 ≤ c' := by omega
  clear h1 h2 h3 h4 h5 h6 h9 h10 hx h11 h12 h13 h14 h15 h16 hn9 hr hm hcut hc h7
  rcases hcc with rfl | hcc
  · obtain rfl : k' = 0 := by omega
    have h9s := H9s.out
    rw [if_pos rfl] at h9s
    injection h9s with e1 _ e3
    subst e1; subst e3
    go_enter Tryd.func78, Tryd.ntmps78
    go_wp2_with (go_at_call 27; refine (hMay.out _ (Keep.refl Never _)).mono ?_; rintro e w' ⟨rfl, rfl⟩)
    obtain ⟨W, hW⟩ : ∃ W, w.setCell ⟨br, 0, none⟩ (.slice (some ad) 0 0) = W := ⟨_, rfl⟩
    rw [hW]
    rw [hW] at HW
    obtain ⟨hi, g1, g2, gs, gk⟩ := hst.out W hW.symm
    have cW : W.cell? ⟨bl, 0, none⟩ = some (.slice A m c) := g1.cell 0
    have fW : W.frozen? ⟨bl, 0, none⟩ = false := g1.frozen 0
    have cWa : ∀ o, (W.alloc o).cell? ⟨bl, 0, none⟩ = some (.slice A m c) := fun o => (g1.alloc o).cell 0
    have hBW : base ≤ W.heap.size := by omega
    have Hi := Lib.hid hi
    have G1 := Lib.hid g1
    have G2 := Lib.hid g2
    have Gs := Lib.hid gs
    have Gk := Lib.hid gk
    clear hi g1 g2 gs gk hW c2 f2 c1 f1 hc0 hc1 hst
    go_region_law (first
      | (refine step_app _ rfl (.tmp 32) (.tmp 37) _ rfl elemBits base rfl (G2.out.alloc _) _ rfl (Rd.of_blk (n := 1) (cs := [.int .i64 n, .int .i64 x]) (Blk.new _ _ _) rfl) (by simp [Value.oneCell']) (by omega) (by unfold maxLen; omega) (by simp; omega) ?_; intro A5 c5 w5 hown5 hk5 hrow5; have hb5 := Blk.keep (w := World.drew (W.alloc _)) (G1.out.alloc _).drew hk5 hnr.out; have hf5 := hb5.frozen 0; have hc5 := hb5.cell 0; have Hb5 := Lib.hid hb5; have HK5 := Lib.hid hk5; have HO5 := Lib.hid hown5; clear hb5 hk5 hown5)
      | (go_simp; go_at_call 23; refine (HW.out _ (Keep.refl Never W).drew).mono ?_; rintro e w' ⟨rfl, rfl⟩))
    all_goals
      go_wp2_with fail
      go_ret
      have hp := Hi.out.push (v := v) (m := n) G1.out hBW (by rw [HX.out]; exact HO5.out) HK5.out hrow5.out
      obtain ⟨k1, Q', q1, q2, i2⟩ := hp
      exact ⟨keep_next Gk.out (fun k h => .inl h) k1, Q', fun k h => (q1 k h).imp id (fun h => by have := Gs.out; omega), q2, .inl ⟨n, _, rfl, rfl, i2, hn1, hn2⟩⟩
  · have h9s := H9s.out
    rw [if_neg hcc] at h9s
    injection h9s with e1 _ e3
    subst e1; subst e3
    have HCC := Lib.hid hcc
    clear hcc
    go_enter Tryd.func78, Tryd.ntmps78
    go_wp2_with (go_at_call 27; refine (hMay.out _ (Keep.refl Never _)).mono ?_; rintro e w' ⟨rfl, rfl⟩)
    obtain ⟨W, hW⟩ : ∃ W, w.setCell ⟨br, 0, none⟩ (.slice (some ⟨ad.block, ad.off + 1, none⟩) k' (c' - 1)) = W := ⟨_, rfl⟩
    rw [hW]
    rw [hW] at HW
    obtain ⟨hi, g1, g2, gs, gk⟩ := hst.out W hW.symm
    have cW : W.cell? ⟨bl, 0, none⟩ = some (.slice A m c) := g1.cell 0
    have fW : W.frozen? ⟨bl, 0, none⟩ = false := g1.frozen 0
    have cWa : ∀ o, (W.alloc o).cell? ⟨bl, 0, none⟩ = some (.slice A m c) := fun o => (g1.alloc o).cell 0
    have hBW : base ≤ W.heap.size := by omega
    have Hi := Lib.hid hi
    have G1 := Lib.hid g1
    have G2 := Lib.hid g2
    have Gs := Lib.hid gs
    have Gk := Lib.hid gk
    clear hi g1 g2 gs gk hW c2 f2 c1 f1 hc0 hc1 hst
    go_region_law (first
      | (refine step_app _ rfl (.tmp 32) (.tmp 37) _ rfl elemBits base rfl (G2.out.alloc _) _ rfl (Rd.of_blk (n := 1) (cs := [.int .i64 n, .int .i64 x]) (Blk.new _ _ _) rfl) (by simp [Value.oneCell']) (by omega) (by unfold maxLen; omega) (by simp; omega) ?_; intro A5 c5 w5 hown5 hk5 hrow5; have hb5 := Blk.keep (w := World.drew (W.alloc _)) (G1.out.alloc _).drew hk5 hnr.out; have hf5 := hb5.frozen 0; have hc5 := hb5.cell 0; have Hb5 := Lib.hid hb5; have HK5 := Lib.hid hk5; have HO5 := Lib.hid hown5; clear hb5 hk5 hown5)
      | (go_simp; go_at_call 23; refine (HW.out _ (Keep.refl Never W).drew).mono ?_; rintro e w' ⟨rfl, rfl⟩))
    all_goals
      go_wp2_with fail
      go_ret
      have hp := Hi.out.push (v := v) (m := n) G1.out hBW (by rw [HX.out]; exact HO5.out) HK5.out hrow5.out
      obtain ⟨k1, Q', q1, q2, i2⟩ := hp
      exact ⟨keep_next Gk.out (fun k h => .inl h) k1, Q', fun k h => (q1 k h).imp id (fun h => by have := Gs.out; omega), q2, .inl ⟨n, _, rfl, rfl, i2, hn1, hn2⟩⟩

/-- what Items does with a variable is what valI says -/
theorem items1_does (B base bl br : Nat) : Does 78 #[.pointer (some ⟨bl, 0, none⟩), .pointer (some ⟨br, 0, none⟩)] valI9 (fun s Q w => InvI B base bl br s Q w ∧ base ≤ w.heap.size) (SI2 bl br) := by
  rintro v s Q w ⟨h, hB⟩ hok
  have hlen : ¬ 1000000 ≤ s.out.length := by
    intro h
    exact hok (by rw [valI9, if_pos h])
  have e : valI9 v s = valI v s := by rw [valI9, if_neg hlen]
  rw [e]
  have hup : ∀ r e w', VPost (InvI B base bl br) (SI2 bl br) Q w r e w' → VPost (fun s Q w => InvI B base bl br s Q w ∧ base ≤ w.heap.size) (SI2 bl br) Q w r e w' := by
    rintro r e w' ⟨h1, Q', h2, h3, h4⟩
    have := h1.size
    refine ⟨h1, Q', h2, h3, ?_⟩
    rcases h4 with ⟨n, s', a, b, c, d⟩ | ⟨x, s', a, b, c⟩
    · exact .inl ⟨n, s', a, b, ⟨c, by omega⟩, d⟩
    · exact .inr ⟨x, s', a, b, c, by omega⟩
  show Calls Tryd.prog 78 #[.int .i64 v, .pointer (some ⟨bl, 0, none⟩), .pointer (some ⟨br, 0, none⟩)] w _
  by_cases h7 : v = 7
  · subst h7
    have : valI 7 s = .ok (0, ⟨s.rest, s.out ++ [(7, 0)]⟩) := by simp [valI]
    rw [this]
    exact (items1_seven B base bl br s Q w h hB (by omega)).mono fun _ _ => hup _ _ _
  · cases hr : s.rest with
    | nil =>
      have : valI v s = .error 20 := by simp [valI, h7, hr]
      rw [this]
      exact (items1_bad B base bl br s Q w v h7 h this).mono fun _ _ => hup _ _ _
    | cons n t =>
      by_cases hm : vMay v n = true
      · have : valI v s = .ok (n, ⟨t, s.out ++ [(v, n)]⟩) := by simp [valI, h7, hr, hm]
        rw [this]
        exact (items1_good B base bl br s Q w v n t h7 h hB (by omega) hr hm).mono fun _ _ => hup _ _ _
      · have : valI v s = .error 20 := by simp [valI, h7, hr, hm]
        rw [this]
        exact (items1_bad B base bl br s Q w v h7 h this).mono fun _ _ => hup _ _ _

end Go.Proofs.YtiebjnibmomcjaaDoor
