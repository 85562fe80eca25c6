/- Chapter 6: laid. -/
import Derived.Test.YtiebjnibmomcjaaDoorBdMsgB
import Derived.Test.YtiebjnibmomcjaaDoorBitsW
import Derived.Test.YtiebjnibmomcjaaDoorPackM
namespace Go.Proofs.YtiebjnibmomcjaaDoor
open Go.RowKit

/-- how many bytes a message's numbers are -/
def bytesN (L : List (Int × Int)) : Int := (sumW L + 7) / 8
/-- what 'laid' leaves -/
def LaidRet (w : World) (A : Option Addr) (L : List (Int × Int)) (e : Ending) (w' : World) : Prop :=
  Keep (InRow A) w w' ∧ ((1023 < bytesN L ∧ e = .returned (.tuple #[.slice none 0 0, .int .i64 2])) ∨
    (bytesN L ≤ 1023 ∧ ∃ A' c', e = .returned (.tuple #[.slice A' (bytesOf (layP (L.set 1 (bytesN L, 10)))).length c', .int .i64 0]) ∧ Own w' w.heap.size 5 1 A' (bytesOf (layP (L.set 1 (bytesN L, 10)))).length c' ((bytesOf (layP (L.set 1 (bytesN L, 10)))).map u8v)))

theorem putL_lay {L : List (Int × Int)} {k : Nat} {x : Int × Int} (h : L[k]? = some x) (hm : mayB x.1 x.2 = true) (hf : (layP (L.take k)).length + x.2.toNat ≤ 8184) :
    putE (layP (L.take k)).length x.1 x.2 = 0 ∧ putL (layP (L.take k)) x.1 x.2 = layP (L.take (k + 1)) := by
  obtain ⟨h1, h2, _, _⟩ := mayB_iff.1 hm
  have e : putE (layP (L.take k)).length x.1 x.2 = 0 := by unfold putE; rw [if_neg (by rw [hm]; simp), if_neg (by omega)]
  exact ⟨e, by unfold putL; rw [if_pos e, layP_take h]⟩

theorem Own.cellg {w : World} {base e size n c g : Nat} {xs : List Value} (h : Own w base e size (some ⟨g, 0, none⟩) n c xs) {j : Nat} {u : Value} (hj : xs[j]? = some u) : w.cell? ⟨g, j, none⟩ = some u := by
  have := World.ownsRow.cells h (g := g) rfl j u hj
  have e0 : (⟨g, 0, none⟩ : Addr).add j = ⟨g, j, none⟩ := by unfold Addr.add; split <;> simp_all
  rwa [e0] at this
theorem Own.frozeng {w : World} {base e size n c g : Nat} {xs : List Value} (h : Own w base e size (some ⟨g, 0, none⟩) n c xs) (j : Nat) : w.frozen? ⟨g, j, none⟩ = false := by
  have := h.frozen rfl j
  have e0 : (⟨g, 0, none⟩ : Addr).add j = ⟨g, j, none⟩ := by unfold Addr.add; split <;> simp_all
  rwa [e0] at this
theorem Own.storedg {w : World} {base e size n c g : Nat} {xs : List Value} (h : Own w base e size (some ⟨g, 0, none⟩) n c xs) (j : Nat) (u : Value) : Own (w.setCell ⟨g, j, none⟩ u) base e size (some ⟨g, 0, none⟩) n c (xs.set j u) := by
  have := h.stored rfl j u
  have e0 : (⟨g, 0, none⟩ : Addr).add j = ⟨g, j, none⟩ := by unfold Addr.add; split <;> simp_all
  rwa [e0] at this

set_option maxHeartbeats 4000000 in
set_option maxRecDepth 100000 in
theorem mlaid_any (base : Nat) (A : Option Addr) (n c : Nat) (L : List (Int × Int)) (z : Int) (w : World) (ho : Own w base 47 2 A n c (bitCells L)) (hl : L.length = n) (h1 : L[1]? = some (z, 10)) (hw : ∀ y ∈ L, 0 ≤ y.2 ∧ y.2 ≤ 32) (hm : ∀ y ∈ L.set 1 (0, 10), mayB y.1 y.2 = true) (hn : n ≤ 1000000) :
    Calls Tryd.prog 30 #[.slice A n c] w (LaidRet w A L) := by
  have hn1 : 1 < n := by have := (List.getElem?_eq_some_iff.1 h1).1; omega
  obtain ⟨g, cur, rfl, hbg, hgb, hnc, hcm, hcs, hct⟩ : ∃ g cur, A = some ⟨g, 0, none⟩ ∧ base ≤ g ∧ Blk w g 47 cur ∧ n ≤ c ∧ c ≤ maxLen ∧ cur.size = c * 2 ∧ cur.toList.take (n * 2) = bitCells L := by
    rcases ho.form with ⟨_, h, _⟩ | h
    · omega
    · exact h
  have HO := Lib.hid ho
  have HL := Lib.hid hl
  have H1 := Lib.hid h1
  have HW := Lib.hid hw
  have HM := Lib.hid hm
  clear ho hl h1 hw hm hgb hcs hct
  go_enter Tryd.func30, Tryd.ntmps30
  go_wp2_with fail
  go_loopw [4, 13] (fun s i wr => ∃ k : Nat, k ≤ n ∧ i = .int .i64 k ∧ s = .int .i64 (sumW (L.take k)) ∧ Hid (Keep Never w wr)) (fun _ i _ => n - (intOf i).toNat)
  case atStart => exact ⟨0, by omega, rfl, rfl, Lib.hid (Keep.refl _ _)⟩
  case round =>
    obtain ⟨k, hk, rfl, rfl, HH⟩ := hrel
    have hs1 := sumW_bound HW.out k
    have hs2 : sumW (L.take k) ≤ 32000000 := by have := HL.out; omega
    by_cases h0 : k < n
    · have hx : L[k]? = some (L[k]'(by have := HL.out; omega)) := List.getElem?_eq_getElem _
      have hy2 := HW.out _ (List.mem_of_getElem? hx)
      generalize L[k]'(by have := HL.out; omega) = y at hx hy2
      obtain ⟨y1, y2⟩ := y
      simp only at hy2
      obtain ⟨hat1, hat2⟩ := bitCells_at _ hx
      have ho := HO.out.keep HH.out (fun _ _ h => h)
      have d0 := ho.cellg hat1
      have d1 := ho.cellg hat2
      have HS : Hid (sumW (L.take (k + 1)) = sumW (L.take k) + y2) := sumW_take hx
      obtain ⟨S, hS⟩ : ∃ S, sumW (L.take k) = S := ⟨_, rfl⟩
      rw [hS] at hs1 hs2
      rw [hS]
      have HS0 := Lib.hid hS
      have HK' := Lib.hid (HH.out.alloc (.cells #[.int .i64 y1, .int .i64 y2] 47))
      have hki : (k : Int) < (n : Int) := by omega
      clear hx hat1 hat2 hS ho
      go_wp2_with fail
      go_roundw
      case rel => exact ⟨k + 1, by omega, by go_num, by rw [HS.out, HS0.out], HK'⟩
      case measure => simp [intOf]; try omega
    · obtain rfl : k = n := by omega
      have htk : Hid (sumW (L.take k) = sumW L) := Lib.hid (by rw [List.take_of_length_le (by have := HL.out; omega)])
      obtain ⟨S, hS⟩ : ∃ S, sumW L = S := ⟨_, rfl⟩
      rw [htk.out, hS] at hs1 hs2 ⊢
      have HS := Lib.hid hS
      have hki : ¬ (k : Int) < (k : Int) := by omega
      have hOr := HO.out.keep HH.out (fun _ _ h => h)
      have q0 : wr.cell? ⟨g, 2, none⟩ = some (.int .i64 z) := hOr.cellg (bitCells_at _ H1.out).1
      have q1 : wr.frozen? ⟨g, 2, none⟩ = false := hOr.frozeng 2
      have HOr := Lib.hid hOr
      have hsq : (S + 7).tdiv 8 = (S + 7) / 8 := Int.tdiv_eq_ediv_of_nonneg (by omega)
      obtain ⟨Bn, hBn⟩ : ∃ b, (S + 7) / 8 = b := ⟨_, rfl⟩
      have hBn0 : 0 ≤ Bn := by omega
      have hbN : Hid (bytesN L = Bn) := Lib.hid (by unfold bytesN; rw [hS, hBn])
      clear hS htk hOr hsq
      have hL2 : bitCells (L.set 1 (Bn, 10)) = (bitCells L).set 2 (.int .i64 Bn) := bitCells_set _ H1.out Bn
      have HOs : Hid (Own (wr.setCell ⟨g, 2, none⟩ (.int .i64 Bn)) base 47 2 (some ⟨g, 0, none⟩) k c (bitCells (L.set 1 (Bn, 10)))) := by
        rw [hL2]; exact HOr.out.storedg 2 _
      have HKs : Hid (Keep (InRow (some ⟨g, 0, none⟩)) w (wr.setCell ⟨g, 2, none⟩ (.int .i64 Bn))) := Lib.hid ((HH.out.mono (fun _ _ h => h.elim)).set_ (p := ⟨g, 2, none⟩) (.inl ⟨_, rfl, rfl⟩) _)
      have q3 : (wr.setCell ⟨g, 2, none⟩ (.int .i64 Bn)).cell? ⟨g, 2, none⟩ = some (.int .i64 Bn) := HOs.out.cellg (by rw [hL2, List.getElem?_set_self]; have := len_bitCells L; have := HL.out; omega)
      clear hL2
      by_cases hbig : 1023 < Bn
      · have HF : Hid (LaidRet w (some ⟨g, 0, none⟩) L (.returned (.tuple #[.slice none 0 0, .int .i64 2])) (wr.setCell ⟨g, 2, none⟩ (.int .i64 Bn))) := ⟨HKs.out, .inl ⟨by rw [hbN.out]; exact hbig, rfl⟩⟩
        go_wp2_with fail
        go_ret2
        exact HF.out
      · have hbig' : Bn ≤ 1023 := by omega
        go_wp2_with fail
        obtain ⟨W1, hW1⟩ : ∃ W1, (wr.setCell ⟨g, 2, none⟩ (.int .i64 Bn)).alloc (.cells #[.slice none 0 0, .int .i64 0] 90) = W1 := ⟨_, rfl⟩
        rw [hW1]
        obtain ⟨p, hp⟩ : ∃ p, wr.heap.size = p := ⟨_, rfl⟩
        have hpg : g < p := by rw [← hp]; have := HH.out.size; have h := HO.out.row ⟨_, rfl, rfl⟩; simp only at h; omega
        have hpw : w.heap.size ≤ p := by rw [← hp]; exact HH.out.size
        obtain ⟨L', hL'⟩ : ∃ L', L.set 1 (Bn, 10) = L' := ⟨_, rfl⟩
        have hlen' : L'.length = k := by rw [← hL', List.length_set]; exact HL.out
        have hsum : sumW L' = S := by
          rw [← hL', ← HS.out]
          have h1 := H1.out
          cases L with
          | nil => simp at h1
          | cons a L => cases L with
            | nil => simp at h1
            | cons b L =>
              simp only [List.getElem?_cons_succ, List.getElem?_cons_zero, Option.some.injEq] at h1
              subst h1
              simp [sumW]
        have hw' : ∀ y ∈ L', 0 ≤ y.2 ∧ y.2 ≤ 32 := by
          intro y hy
          rw [← hL'] at hy
          rcases List.mem_or_eq_of_mem_set hy with h | h
          · exact HW.out y h
          · subst h; simp
        have hmay' : ∀ y ∈ L', mayB y.1 y.2 = true := by
          intro y hy
          obtain ⟨j, hj⟩ := List.mem_iff_getElem?.1 hy
          rw [← hL'] at hj
          by_cases h1j : j = 1
          · subst h1j
            rw [List.getElem?_set_self (by have := HL.out; omega)] at hj
            injection hj with hj
            subst hj
            rw [mayB_iff]
            exact ⟨by simp, by simp, hBn0, by simp; omega⟩
          · rw [List.getElem?_set_ne (Ne.symm h1j)] at hj
            exact HM.out y (List.mem_iff_getElem?.2 ⟨j, by rw [List.getElem?_set_ne (Ne.symm h1j)]; exact hj⟩)
        have hlay : ((layP L').length : Int) = S := by rw [length_layP hw', hsum]
        have HO1 : Hid (Own W1 base 47 2 (some ⟨g, 0, none⟩) k c (bitCells L')) := by
          rw [← hW1, ← hL']; exact Lib.hid (HOs.out.alloc _)
        have HK1 : Hid (Keep (InRow (some ⟨g, 0, none⟩)) w W1) := by rw [← hW1]; exact Lib.hid (HKs.out.alloc _)
        have HWr : Hid (WrAt W1 p p none []) := by
          have hb := Blk.new (wr.setCell ⟨g, 2, none⟩ (.int .i64 Bn)) 90 #[.slice none 0 0, .int .i64 0]
          rw [hW1] at hb
          have e : (wr.setCell ⟨g, 2, none⟩ (.int .i64 Bn)).heap.size = p := by rw [← hp]; simp [World.setCell]
          rw [e] at hb
          exact Lib.hid (wr_mk hb (Own.nil _ _ _ _) rfl rfl rfl (by simp) (Nat.le_refl _))
        have HS1 : Hid (p < W1.heap.size) := by rw [← hW1, ← hp]; exact Lib.hid (by simp [World.setCell])
        have Hlay := Lib.hid hlay
        have Hlen' := Lib.hid hlen'
        have Hw' := Lib.hid hw'
        have Hmay' := Lib.hid hmay'
        have HL' := Lib.hid hL'
        rw [hp]
        have hS8 : S ≤ 8184 := by omega
        clear hW1 hp hL' hlen' hsum hw' hmay' hlay q0 q1 q3 HOs HKs HOr
        obtain ⟨wo, rfl⟩ : ∃ wo : World, wo = wr := ⟨_, rfl⟩
        go_loopw [37] (fun i wr => ∃ j : Nat, j ≤ k ∧ i = .int .i64 j ∧ Hid (∃ A2, WrAt wr p p A2 (layP (L'.take j)) ∧ Own wr base 47 2 (some ⟨g, 0, none⟩) k c (bitCells L') ∧ Keep (InRow (some ⟨g, 0, none⟩)) w wr ∧ p < wr.heap.size)) (fun i _ => k - (intOf i).toNat)
        case atStart => exact ⟨0, by omega, rfl, Lib.hid ⟨none, HWr.out, HO1.out, HK1.out, HS1.out⟩⟩
        case round =>
          obtain ⟨j, hj, rfl, HJ⟩ := hrel
          obtain ⟨A2, hwr2, ho2, hk2, hs2'⟩ := HJ.out
          by_cases h0 : j < k
          · have hx : L'[j]? = some (L'[j]'(by have := Hlen'.out; omega)) := List.getElem?_eq_getElem _
            have hy2 := Hw'.out _ (List.mem_of_getElem? hx)
            have hy3 := Hmay'.out _ (List.mem_of_getElem? hx)
            generalize L'[j]'(by have := Hlen'.out; omega) = y at hx hy2 hy3
            obtain ⟨y1, y2⟩ := y
            simp only at hy2 hy3
            obtain ⟨hat1, hat2⟩ := bitCells_at _ hx
            have d0 := ho2.cellg hat1
            have d1 := ho2.cellg hat2
            have hle : (layP (L'.take j)).length + y2.toNat ≤ 8184 := by
              have e := layP_take hx
              have h1 := congrArg List.length e
              rw [List.length_append, length_bitsOf] at h1
              have h2 := Hlay.out
              have h3 : (layP (L'.take (j + 1))).length ≤ (layP L').length := by
                have := congrArg (fun l => (layP l).length) (List.take_append_drop (j + 1) L')
                simp only [layP, List.flatMap_append, List.length_append] at this ⊢
                omega
              omega
            obtain ⟨hpe, hpl⟩ := putL_lay hx hy3 hle
            have hb1 : y1 ≤ 9223372036854775807 := by
              obtain ⟨h1, h2, h3, h4⟩ := mayB_iff.1 hy3
              have := pow_le32 (k := y2.toNat) (by omega)
              omega
            have HP : Hid (Calls Tryd.prog 58 #[.pointer (some ⟨p, 0, none⟩), .int .i64 y1, .int .i64 y2] (wr.alloc (.cells #[.int .i64 y1, .int .i64 y2] 47)) fun e w' => e = .returned (.int .i64 0) ∧ ∃ A2, WrAt w' p p A2 (layP (L'.take (j + 1))) ∧ Own w' base 47 2 (some ⟨g, 0, none⟩) k c (bitCells L') ∧ Keep (InRow (some ⟨g, 0, none⟩)) w w' ∧ p < w'.heap.size) := by
              obtain ⟨cw, hb, how, hbl, hBp⟩ := hwr2
              refine Lib.hid ((wput_any p p A2 _ y1 y2 hb1 _ ⟨cw, hb.alloc _, how.alloc _, hbl, hBp⟩ (by simp; omega)).mono ?_)
              rintro e w' ⟨A3, rfl, hwr3, hk3, hr3⟩
              rw [hpl] at hwr3
              refine ⟨by rw [hpe], A3, hwr3, (ho2.alloc _).keep hk3 ?_, (hk2.alloc _).then_ hk3 ?_, by have := hk3.size; simp at this; omega⟩
              · rintro q ⟨ad, h1, h2⟩ h
                injection h1 with h1
                subst h1
                simp only at h2
                rcases h with h | h
                · omega
                · have := (how.row h).1; omega
              · intro i hi h
                rcases h with h | h
                · omega
                · have := (how.row h).1; omega
            have hji : (j : Int) < (k : Int) := by omega
            clear hx hat1 hat2 hpe hpl hle hy2 hy3 hwr2 ho2 hk2 HJ hs2'
            go_wp2_with fail
            refine HP.out.mono ?_
            rintro e w5 ⟨rfl, hrest⟩
            have HF := Lib.hid hrest
            clear hrest
            go_wp2_with fail
            go_roundw
            case rel => exact ⟨j + 1, by omega, by go_num, HF⟩
            case measure => simp [intOf]; try omega
          · obtain rfl : j = k := by omega
            rw [List.take_of_length_le (by have := Hlen'.out; omega)] at hwr2
            have HB := Lib.hid (wbytes_any p p A2 _ wr hwr2)
            have HK9 := Lib.hid hk2
            have hji : ¬ (j : Int) < (j : Int) := by omega
            clear hwr2 ho2 hk2 HJ hs2'
            go_wp2_with fail
            refine HB.out.mono ?_
            rintro e w5 ⟨A5, c5, rfl, ho5, hk5⟩
            have HF : Hid (LaidRet w (some ⟨g, 0, none⟩) L (.returned (.tuple #[.slice A5 (bytesOf (layP L')).length c5, .int .i64 0])) w5) := by
              refine Lib.hid ⟨HK9.out.trans (hk5.mono (fun _ _ h => h.elim)), .inr ⟨by rw [hbN.out]; exact hbig', A5, c5, ?_, ?_⟩⟩
              · rw [hbN.out, HL'.out]
              · rw [hbN.out, HL'.out]; exact Own.less ho5 HK9.out.size
            clear ho5 hk5
            go_wp2_with fail
            go_ret2
            exact HF.out

end Go.Proofs.YtiebjnibmomcjaaDoor
