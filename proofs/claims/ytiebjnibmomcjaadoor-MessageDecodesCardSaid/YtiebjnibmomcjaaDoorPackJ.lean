/- Package packet: Up, Items, Size. -/
import Derived.Test.YtiebjnibmomcjaaDoorPackC
namespace Go.Proofs.YtiebjnibmomcjaaDoor
open Go.RowKit

set_option maxHeartbeats 400000 in
theorem up_any (id : Int) (w : World) : Calls Tryd.prog 21 #[.int .i64 id] w fun e w' => e = .returned (.bool (upP id)) ∧ w = w' := by
  by_cases h0 : id = 0
  · subst h0
    go_enter Tryd.func21, Tryd.ntmps21
    go_wp2
    go_ret
    exact ⟨rfl, rfl⟩
  · have e0 : (id == 0) = false := by simpa using h0
    by_cases h1 : id = 1
    · subst h1
      go_enter Tryd.func21, Tryd.ntmps21
      go_wp2
      go_ret
      exact ⟨rfl, rfl⟩
    · have e1 : (id == 1) = false := by simpa using h1
      have hu : upP id = (id == 11) := by
        unfold upP
        rw [Bool.eq_iff_iff, decide_eq_true_iff, beq_iff_eq]
        omega
      have HU := Lib.hid hu
      clear hu h0 h1
      go_enter Tryd.func21, Tryd.ntmps21
      go_wp2
      go_ret
      exact ⟨by rw [HU.out]; rfl, rfl⟩

theorem len_bitCells (l : List (Int × Int)) : (bitCells l).length = l.length * 2 := by
  induction l with
  | nil => rfl
  | cons x l ih => simp only [bitCells, List.flatMap_cons, List.length_append, List.length_cons, List.length_nil] at ih ⊢; omega
theorem bitCells_at : ∀ (l : List (Int × Int)) {i : Nat} {x : Int × Int}, l[i]? = some x → (bitCells l)[i * 2]? = some (.int .i64 x.1) ∧ (bitCells l)[i * 2 + 1]? = some (.int .i64 x.2) := by
  intro l
  induction l with
  | nil => intro i x h; simp at h
  | cons y l ih =>
    intro i x h
    have e : bitCells (y :: l) = .int .i64 y.1 :: .int .i64 y.2 :: bitCells l := rfl
    rw [e]
    cases i with
    | zero => simp only [List.getElem?_cons_zero, Option.some.injEq] at h; subst h; exact ⟨rfl, rfl⟩
    | succ i =>
      simp only [List.getElem?_cons_succ] at h
      rw [show (i + 1) * 2 = i * 2 + 1 + 1 by omega, List.getElem?_cons_succ, List.getElem?_cons_succ, List.getElem?_cons_succ, List.getElem?_cons_succ]
      exact ih h
theorem sumW_take {l : List (Int × Int)} {i : Nat} {x : Int × Int} (h : l[i]? = some x) : sumW (l.take (i + 1)) = sumW (l.take i) + x.2 := by
  obtain ⟨h2, h3⟩ := List.getElem?_eq_some_iff.1 h
  rw [List.take_succ_eq_append_getElem h2, h3, sumW_app]
  simp [sumW]
theorem sumW_take_range (tr : List (Int × Int)) (k : Nat) : 0 ≤ sumW ((itemsOf tr).take k) ∧ sumW ((itemsOf tr).take k) ≤ 32 * tr.length := by
  have := sumW_items (tr.take k)
  have e : (itemsOf tr).take k = itemsOf (tr.take k) := by simp [itemsOf, List.map_take]
  rw [e]
  have : (tr.take k).length ≤ tr.length := by simp; omega
  omega

theorem bitCells_set : ∀ (l : List (Int × Int)) {i : Nat} {a b : Int}, l[i]? = some (a, b) → ∀ m, bitCells (l.set i (m, b)) = (bitCells l).set (i * 2) (.int .i64 m) := by
  intro l
  induction l with
  | nil => intro i a b h; simp at h
  | cons y l ih =>
    intro i a b h m
    have e : ∀ (z : Int × Int) l, bitCells (z :: l) = .int .i64 z.1 :: .int .i64 z.2 :: bitCells l := fun _ _ => rfl
    cases i with
    | zero =>
      simp only [List.getElem?_cons_zero, Option.some.injEq] at h
      subst h
      rfl
    | succ i =>
      simp only [List.getElem?_cons_succ] at h
      rw [List.set_cons_succ, e, e, ih h m, show (i + 1) * 2 = i * 2 + 1 + 1 by omega, List.set_cons_succ, List.set_cons_succ]
theorem sumW_set {l : List (Int × Int)} {i : Nat} {a b : Int} (h : l[i]? = some (a, b)) (m : Int) : sumW (l.set i (m, b)) = sumW l := by
  induction l generalizing i with
  | nil => simp at h
  | cons y l ih =>
    cases i with
    | zero =>
      simp only [List.getElem?_cons_zero, Option.some.injEq] at h
      subst h
      simp [sumW]
    | succ i =>
      simp only [List.getElem?_cons_succ] at h
      have := ih h
      simp only [sumW, List.set_cons_succ, List.map_cons, List.sum_cons] at this ⊢
      omega

/-- what Items leaves -/
def ItRet (w : World) (r : Except Int (List (Int × Int))) (e : Ending) (w' : World) : Prop :=
  ∃ (A : Option Addr) (n c : Nat) (x : Int), e = .returned (.tuple #[.slice A n c, .int .i64 x]) ∧ Keep Never w w' ∧
    ((∃ l, r = .ok l ∧ x = 0 ∧ n = l.length ∧ Own w' w.heap.size 47 2 A n c (bitCells l)) ∨ (r = .error x ∧ x ≠ 0 ∧ A = none ∧ n = 0 ∧ c = 0))

set_option maxHeartbeats 4000000 in
set_option maxRecDepth 100000 in
theorem Items_any (B : Nat) (id : Int) (V : List Int) (A : Option Addr) (n c : Nat) (w : World) (hV : Rd w B 1 A n (V.map (.int .i64))) (hn : V.length = n) (hc : n ≤ c) (hcm : c ≤ maxLen) (hb : ∀ x ∈ V, i64 x) (h3 : V.length ≤ 8200) (hW : Widths w) (hg : 0 < B) (hB : B ≤ w.heap.size) :
    Calls Tryd.prog 28 #[.agg (packCells id A n c)] w (ItRet w (ItemsM id V)) := by
  have hit : Hid (∀ W, Keep Never w W → Calls Tryd.prog 56 #[.agg (packCells id A n c)] W (IRet W (itemsM id V))) := fun W hk =>
    items_any B id V A n c W (hV.keep hk (fun _ h => h.elim)) hn hc hcm hb h3 (hW.keep hk (fun h => h)) hg (Nat.le_trans hB hk.size)
  have h3000 : V.length ≤ 8200 := h3
  unfold packCells at *
  clear hV hn hb h3 hW
  go_enter Tryd.func28, Tryd.ntmps28
  go_wp2_with fail
  refine (hit.out _ ((Keep.refl Never w).alloc _)).mono ?_
  rintro e w1 ⟨A1, n1, c1, x, rfl, hk1, hpo⟩
  have HK1 := Lib.hid hk1
  clear hk1
  rcases hpo with ⟨tr, hr, rfl, hn1, ho⟩ | ⟨hr, hx, _, _⟩
  · have hlen := itemsM_len hr
    have hn1' : n1 ≤ 8300 := by omega
    have Hlen := Lib.hid hlen
    have Hr := Lib.hid hr
    have hb1 : w.heap.size ≤ (w.alloc (.cells #[.int .i64 id, .slice A n c] 39)).heap.size := by simp
    have HO := Lib.hid (ho.less hb1)
    have Hn1 := Lib.hid hn1
    have hp1 : Blk w1 w.heap.size 39 #[.int .i64 id, .slice A n c] := (Blk.new w 39 #[.int .i64 id, .slice A n c]).keep HK1.out (fun h => h)
    have Hp1 := Lib.hid hp1
    obtain ⟨g, cur, hA, hgb, hgblk, hc1, hc2, hc3, hc4⟩ : ∃ g cur, A1 = some ⟨g, 0, none⟩ ∧ w.heap.size ≤ g ∧ Blk w1 g 47 cur ∧ n1 ≤ c1 ∧ c1 ≤ maxLen ∧ cur.size = c1 * 2 ∧ cur.toList.take (n1 * 2) = bitCells (itemsOf tr) := by
      rcases HO.out.form with ⟨_, h0, _⟩ | h
      · exfalso
        have h1 := hlen.2
        split at h1 <;> omega
      · exact h
    subst hA
    have Hgb := Lib.hid hgb
    have Hgblk := Lib.hid hgblk
    have Hc4 := Lib.hid hc4
    have hc1' : n1 ≤ c1 := hc1
    have hc9 : c1 ≤ 9223372036854775807 := by unfold maxLen at hc2; omega
    clear hr ho hn1 hlen hb1 hp1 hgb hgblk hc2 hc4
    go_wp2_with fail
    go_loopw [6, 8, 20] (fun sz _ i wr => ∃ k : Nat, k ≤ n1 ∧ i = .int .i64 k ∧ sz = .int .i64 (sumW ((itemsOf tr).take k)) ∧ Hid (Keep Never w1 wr)) (fun _ _ i _ => n1 - (intOf i).toNat)
    case atStart => exact ⟨0, by omega, rfl, rfl, Keep.refl _ _⟩
    case round =>
      obtain ⟨k, hk, rfl, rfl, HKr⟩ := hrel
      have hs1 := sumW_take_range tr k
      have hs2 : sumW ((itemsOf tr).take k) ≤ 1000000 := by have := Hn1.out; omega
      by_cases h0 : k < n1
      · have hx : (itemsOf tr)[k]? = some ((itemsOf tr)[k]'(by simp [itemsOf]; have := Hn1.out; omega)) := List.getElem?_eq_getElem _
        generalize (itemsOf tr)[k]'(by simp [itemsOf]; have := Hn1.out; omega) = y at hx
        obtain ⟨y1, y2⟩ := y
        have hy2 : 0 ≤ y2 ∧ y2 ≤ 32 := by
          simp only [itemsOf, List.getElem?_map] at hx
          cases ht : tr[k]? with
          | none => rw [ht] at hx; cases hx
          | some z =>
            rw [ht] at hx
            injection hx with hx
            injection hx with _ hx
            have := vWidth_range z.1
            omega
        obtain ⟨hat1, hat2⟩ := bitCells_at _ hx
        have hcells := (HO.out.rd.keep HKr.out (fun _ h => h.elim)).2 (by omega)
        obtain ⟨ad, hA, _, hcc⟩ := hcells
        injection hA with hA
        subst hA
        have d0 := hcc _ _ hat1
        have d1 := hcc _ _ hat2
        have e0 : ∀ j, (⟨g, 0, none⟩ : Addr).add j = ⟨g, j, none⟩ := fun j => by unfold Addr.add; split <;> simp_all
        rw [e0] at d0 d1
        have HS : Hid (sumW ((itemsOf tr).take (k + 1)) = sumW ((itemsOf tr).take k) + y2) := sumW_take hx
        obtain ⟨S, hS⟩ : ∃ S, sumW ((itemsOf tr).take k) = S := ⟨_, rfl⟩
        rw [hS] at hs1 hs2
        rw [hS]
        have HS0 := Lib.hid hS
        clear hx hat1 hat2 hcc e0 hS
        go_wp2_with fail
        go_roundw
        case rel => exact ⟨k + 1, by omega, by go_num, by rw [HS.out, HS0.out], HKr.out.alloc _⟩
        case measure => simp [intOf]; omega
      · obtain rfl : k = n1 := by omega
        have htk : (itemsOf tr).take k = itemsOf tr := List.take_of_length_le (by simp [itemsOf]; have := Hn1.out; omega)
        obtain ⟨S, hS⟩ : ∃ S, sumW (itemsOf tr) = S := ⟨_, rfl⟩
        rw [htk, hS] at hs1 hs2
        rw [htk, hS]
        have HS := Lib.hid hS
        have HKw : Hid (Keep Never w wr) := (((Keep.refl Never w).alloc _).trans HK1.out).trans HKr.out
        clear htk hS
        by_cases h8 : 8184 < S
        · have HF : Hid (ItemsM id V = .error 2) := by show _ = _; unfold ItemsM; rw [Hr.out]; simp only; rw [HS.out, if_pos h8]
          go_wp2_with fail
          go_ret2
          exact ⟨none, 0, 0, 2, rfl, HKw.out, .inr ⟨HF.out, by decide, rfl, rfl, rfl⟩⟩
        · have HF : Hid (ItemsM id V = .ok ((itemsOf tr).set (atP id) (S, 13))) := by show _ = _; unfold ItemsM; rw [Hr.out]; simp only; rw [HS.out, if_neg h8]
          have hpr := Hp1.out.keep HKr.out (fun h => h)
          have q0 : wr.cell? ⟨w.heap.size, 0, none⟩ = some (.int .i64 id) := hpr.cell 0
          have hgr := Hgblk.out.keep HKr.out (fun h => h)
          have hlen := Hlen.out
          have hat := itemsM_at Hr.out
          have hj : atP id < k := by
            have h1 := (List.getElem?_eq_some_iff.1 hat).1
            have := Hn1.out
            omega
          have hcur : cur[atP id * 2]? = some (.int .i64 0) := by
            have h1 : (itemsOf tr)[atP id]? = some (0, 13) := by rw [itemsOf, List.getElem?_map, hat]; rfl
            have h2 := (bitCells_at _ h1).1
            rw [← Hc4.out, List.getElem?_take] at h2
            rw [if_pos (by omega)] at h2
            simpa using h2
          have q1 : wr.cell? ⟨g, atP id * 2, none⟩ = some (.int .i64 0) := by rw [hgr.cell]; exact hcur
          have q2 : wr.frozen? ⟨g, atP id * 2, none⟩ = false := hgr.frozen _
          have HOr : Hid (Own wr w.heap.size 47 2 (some ⟨g, 0, none⟩) k c1 (bitCells (itemsOf tr))) := HO.out.keep HKr.out (fun _ _ h => h)
          have hfin : Hid (∀ wf, wf = wr.setCell ⟨g, atP id * 2, none⟩ (.int .i64 S) → ItRet w (ItemsM id V) (.returned (.tuple #[.slice (some ⟨g, 0, none⟩) k c1, .int .i64 0])) wf) := by
            rintro wf rfl
            have ho := HOr.out.stored rfl (atP id * 2) (.int .i64 S)
            have e0 : (⟨g, 0, none⟩ : Addr).add (atP id * 2) = ⟨g, atP id * 2, none⟩ := by unfold Addr.add; split <;> simp_all
            rw [e0] at ho
            refine ⟨_, _, _, _, rfl, HKw.out.set_ (.inr Hgb.out) _, .inl ⟨_, HF.out, rfl, by simp [itemsOf]; exact Hn1.out, ?_⟩⟩
            have e1 : bitCells ((itemsOf tr).set (atP id) (S, 13)) = (bitCells (itemsOf tr)).set (atP id * 2) (.int .i64 S) := by
              have h1 : (itemsOf tr)[atP id]? = some (0, 13) := by rw [itemsOf, List.getElem?_map, hat]; rfl
              exact bitCells_set _ h1 S
            rw [e1]
            exact ho
          clear hpr hgr hlen hat hcur
          have hju : atP id = if upP id then 1 else 2 := rfl
          cases hu : upP id
          · rw [hu] at hju
            simp only [Bool.false_eq_true, if_false] at hju
            rw [hju] at q1 q2 hfin hj
            have HU : Hid (∀ W, Calls Tryd.prog 21 #[.int .i64 id] W fun e w' => e = .returned (.bool false) ∧ W = w') := fun W => by have := up_any id W; rwa [hu] at this
            clear hju hu
            go_wp2_with (go_at_call 21; refine (HU.out _).mono ?_; rintro e w' ⟨rfl, rfl⟩)
            go_ret2
            exact hfin.out _ rfl
          · rw [hu] at hju
            simp only [if_true] at hju
            rw [hju] at q1 q2 hfin hj
            have HU : Hid (∀ W, Calls Tryd.prog 21 #[.int .i64 id] W fun e w' => e = .returned (.bool true) ∧ W = w') := fun W => by have := up_any id W; rwa [hu] at this
            clear hju hu
            go_wp2_with (go_at_call 21; refine (HU.out _).mono ?_; rintro e w' ⟨rfl, rfl⟩)
            go_ret2
            exact hfin.out _ rfl
  · have hx0 : (x == 0) = false := by simpa using hx
    have HF : Hid (ItemsM id V = .error x) := by show _ = _; unfold ItemsM; rw [hr]
    have Hx := Lib.hid hx
    clear hr hx
    go_wp2_with fail
    go_ret2
    exact ⟨none, 0, 0, x, rfl, ((Keep.refl Never w).alloc _).trans HK1.out, .inr ⟨HF.out, Hx.out, rfl, rfl, rfl⟩⟩

theorem ItemsM_at {id : Int} {V : List Int} {l : List (Int × Int)} (h : ItemsM id V = .ok l) : ∃ out, itemsM id V = .ok out ∧ l = (itemsOf out).set (atP id) (sumW (itemsOf out), 13) ∧ sumW (itemsOf out) ≤ 8184 ∧ sumW l = sumW (itemsOf out) ∧ l.length = V.length + 2 ∧ (itemsOf out)[atP id]? = some (0, 13) := by
  unfold ItemsM at h
  split at h
  · cases h
  · rename_i out ho
    have h1 : (itemsOf out)[atP id]? = some (0, 13) := by rw [itemsOf, List.getElem?_map, itemsM_at ho]; rfl
    split at h
    · cases h
    · injection h with h
      exact ⟨out, ho, h.symm, by omega, by rw [← h]; exact sumW_set h1 _, by rw [← h]; simp [itemsOf, (itemsM_len ho).1], h1⟩
/-- each width of the items has its bounds -/
theorem ItemsM_width {id : Int} {V : List Int} {l : List (Int × Int)} (h : ItemsM id V = .ok l) : ∀ y ∈ l, 0 ≤ y.2 ∧ y.2 ≤ 32 := by
  obtain ⟨out, _, rfl, _⟩ := ItemsM_at h
  intro y hy
  rcases List.mem_or_eq_of_mem_set hy with h | h
  · simp only [itemsOf, List.mem_map] at h
    obtain ⟨x, _, rfl⟩ := h
    have := vWidth_range x.1
    exact this
  · subst h
    exact ⟨(by decide : (0 : Int) ≤ 13), (by decide : (13 : Int) ≤ 32)⟩
theorem sumW_bound {l : List (Int × Int)} (h : ∀ y ∈ l, 0 ≤ y.2 ∧ y.2 ≤ 32) (k : Nat) : 0 ≤ sumW (l.take k) ∧ sumW (l.take k) ≤ 32 * l.length := by
  have : ∀ m : List (Int × Int), (∀ y ∈ m, 0 ≤ y.2 ∧ y.2 ≤ 32) → 0 ≤ sumW m ∧ sumW m ≤ 32 * m.length := by
    intro m
    induction m with
    | nil => intro _; simp [sumW]
    | cons y m ih =>
      intro hm
      have h1 := hm y (by simp)
      have h2 := ih (fun z hz => hm z (by simp [hz]))
      simp only [sumW, List.map_cons, List.sum_cons, List.length_cons] at h2 ⊢
      omega
  have h1 := this (l.take k) (fun y hy => h y (List.mem_of_mem_take hy))
  have : (l.take k).length ≤ l.length := by simp; omega
  omega
def SizeM (id : Int) (V : List Int) : Int := match ItemsM id V with | .ok l => sumW l | .error _ => 0

set_option maxHeartbeats 4000000 in
set_option maxRecDepth 100000 in
theorem Size_any (B : Nat) (id : Int) (V : List Int) (A : Option Addr) (n c : Nat) (w : World) (hV : Rd w B 1 A n (V.map (.int .i64))) (hn : V.length = n) (hc : n ≤ c) (hcm : c ≤ maxLen) (hb : ∀ x ∈ V, i64 x) (h3 : V.length ≤ 8200) (hW : Widths w) (hg : 0 < B) (hB : B ≤ w.heap.size) :
    Calls Tryd.prog 76 #[.agg (packCells id A n c)] w fun e w' => e = .returned (.int .i64 (SizeM id V)) ∧ Keep Never w w' := by
  have hit : Hid (∀ W, Keep Never w W → Calls Tryd.prog 28 #[.agg (packCells id A n c)] W (ItRet W (ItemsM id V))) := fun W hk =>
    Items_any B id V A n c W (hV.keep hk (fun _ h => h.elim)) hn hc hcm hb h3 (hW.keep hk (fun h => h)) hg (Nat.le_trans hB hk.size)
  have h3000 : V.length ≤ 8200 := h3
  unfold packCells at *
  clear hV hn hb h3 hW
  go_enter Tryd.func76, Tryd.ntmps76
  go_wp2_with fail
  refine (hit.out _ ((Keep.refl Never w).alloc _)).mono ?_
  rintro e w1 ⟨A1, n1, c1, x, rfl, hk1, hpo⟩
  have HK1 := Lib.hid hk1
  have hl : Hid (∃ l : List (Int × Int), SizeM id V = sumW l ∧ (∀ y ∈ l, 0 ≤ y.2 ∧ y.2 ≤ 32) ∧ l.length = n1 ∧ n1 ≤ 8300 ∧ Rd w1 w1.heap.size 2 A1 n1 (bitCells l)) := by
    rcases hpo with ⟨l, hr, rfl, hn1, ho⟩ | ⟨hr, hx, rfl, rfl, rfl⟩
    · obtain ⟨_, _, _, _, _, h5, _⟩ := ItemsM_at hr
      exact ⟨l, by simp [SizeM, hr], ItemsM_width hr, hn1.symm, by omega, ho.rd⟩
    · exact ⟨[], by simp [SizeM, hr, sumW], by simp, rfl, by omega, Rd.nil _ _ _ _⟩
  clear hk1 hpo
  obtain ⟨l, hs, hw, hln, hn1, hrd⟩ := hl.out
  have Hs := Lib.hid hs
  have Hw := Lib.hid hw
  have Hln := Lib.hid hln
  have Hrd := Lib.hid hrd
  clear hs hw hln hrd hl
  go_wp2_with fail
  go_loopw [5, 7, 15] (fun sz _ i wr => ∃ k : Nat, k ≤ n1 ∧ i = .int .i64 k ∧ sz = .int .i64 (sumW (l.take k)) ∧ Hid (Keep Never w1 wr)) (fun _ _ i _ => n1 - (intOf i).toNat)
  case atStart => exact ⟨0, by omega, rfl, rfl, Keep.refl _ _⟩
  case round =>
    obtain ⟨k, hk, rfl, rfl, HKr⟩ := hrel
    have hs1 := sumW_bound Hw.out k
    have hs2 : sumW (l.take k) ≤ 1000000 := by have := Hln.out; omega
    by_cases h0 : k < n1
    · have hx : l[k]? = some (l[k]'(by have := Hln.out; omega)) := List.getElem?_eq_getElem _
      have hy2 := Hw.out _ (List.mem_of_getElem? hx)
      generalize l[k]'(by have := Hln.out; omega) = y at hx hy2
      obtain ⟨y1, y2⟩ := y
      simp only at hy2
      obtain ⟨hat1, hat2⟩ := bitCells_at _ hx
      obtain ⟨ad, hA, _, hcc⟩ := (Hrd.out.keep HKr.out (fun _ h => h.elim)).2 (by omega)
      subst hA
      have d0 := hcc _ _ hat1
      have d1 := hcc _ _ hat2
      rw [fld _ _ (by omega)] at d1
      have HS : Hid (sumW (l.take (k + 1)) = sumW (l.take k) + y2) := sumW_take hx
      obtain ⟨S, hS⟩ : ∃ S, sumW (l.take k) = S := ⟨_, rfl⟩
      rw [hS] at hs1 hs2
      rw [hS]
      have HS0 := Lib.hid hS
      clear hx hat1 hat2 hcc hS
      go_wp2_with fail
      go_roundw
      case rel => exact ⟨k + 1, by omega, by go_num, by rw [HS.out, HS0.out], HKr.out.alloc _⟩
      case measure => simp [intOf]; omega
    · obtain rfl : k = n1 := by omega
      have htk : Hid (sumW (l.take k) = SizeM id V) := by show _ = _; rw [Hs.out, List.take_of_length_le (by have := Hln.out; omega)]
      go_wp2_with fail
      go_ret
      exact ⟨by rw [← htk.out]; rfl, (((Keep.refl Never w).alloc _).trans HK1.out).trans HKr.out⟩

end Go.Proofs.YtiebjnibmomcjaaDoor
