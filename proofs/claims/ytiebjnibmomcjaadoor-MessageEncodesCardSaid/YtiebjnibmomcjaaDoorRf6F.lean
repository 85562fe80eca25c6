/- Chapter 6, the document's: Encode. -/
import Derived.Test.YtiebjnibmomcjaaDoorRf6E
import Derived.Test.YtiebjnibmomcjaaDoorMsgE
namespace Go.Proofs.YtiebjnibmomcjaaDoor
open Go.RowKit

/-- what the document's Encode leaves -/
def REncRet (w : World) (r : Except Int (List Nat)) (e : Ending) (w' : World) : Prop :=
  ∃ (A : Option Addr) (n c : Nat) (x : Int), e = .returned (.tuple #[.slice A n c, .int .i64 x]) ∧ Keep Never w w' ∧
    ((∃ l, r = .ok l ∧ x = 0 ∧ n = l.length ∧ Rd w' w'.heap.size 1 A n (l.map u8v)) ∨ (r = .error x ∧ x ≠ 0 ∧ A = none ∧ n = 0 ∧ c = 0))
theorem namesS_at {l : List Int} {j : Nat} {s : ByteArray} (h : (namesS l)[j]? = some s) : ∃ v, l[j]? = some v ∧ s = vName v.toNat := by
  unfold namesS at h
  rw [List.getElem?_map] at h
  cases hv : l[j]? with
  | none => rw [hv] at h; cases h
  | some v => rw [hv] at h; injection h with h; exact ⟨v, rfl, h.symm⟩
theorem bytes_up {S : Int} (h : 0 ≤ S) : (S % 8 > 0 → S / 8 + 1 = (S + 7) / 8) ∧ (¬ S % 8 > 0 → S / 8 = (S + 7) / 8) := by omega

set_option maxHeartbeats 8000000 in
set_option maxRecDepth 100000 in
theorem rencode_any (B : Nat) (id t ack of_ : Int) (A : Option Addr) (n c : Nat) (V : List Int) (A2 : Option Addr) (k d : Nat) (P : List (Int × List Int)) (w : World) (hm : MsgAt w B A n c V A2 k d P) (hn : n ≤ 10000) (hkk : k ≤ 100000) (hP : ∀ p ∈ P, p.2.length ≤ 8200) (hsl : sumL P ≤ 500000) (hB : B ≤ w.heap.size) :
    Calls Tryd.prog 13 #[.agg (msgCells id t ack of_ A n c A2 k d)] w (REncRet w (EncodeM id t ack of_ V P)) := by
  have HM := Lib.hid hm
  have HP := Lib.hid hP
  have HG := Lib.hid hB
  have hb0 : Hid (Blk (w.alloc (.cells #[.int .i64 id, .int .i64 t, .int .i64 ack, .int .i64 of_, .slice A n c, .slice A2 k d] 25)) w.heap.size 25 #[.int .i64 id, .int .i64 t, .int .i64 ack, .int .i64 of_, .slice A n c, .slice A2 k d]) := Blk.new w 25 _
  have hk0 : Hid (Keep Never w (w.alloc (.cells #[.int .i64 id, .int .i64 t, .int .i64 ack, .int .i64 of_, .slice A n c, .slice A2 k d] 25))) := (Keep.refl Never w).alloc _
  have HVl : Hid (∀ W, Keep Never w W → Calls Tryd.prog 33 #[.agg #[.int .i64 id, .int .i64 t, .int .i64 ack, .int .i64 of_, .slice A n c, .slice A2 k d]] W fun e w' => ∃ A' m c', e = .returned (.slice A' m c') ∧ m = (valuesM id t ack of_ ++ V).length ∧ Own w' W.heap.size 3 1 A' m c' ((valuesM id t ack of_ ++ V).map (.int .i64)) ∧ Keep Never W w') :=
    Lib.hid (fun W hk => values6_any B id t ack of_ A n c V A2 k d W (hm.1.keep hk (fun _ h => h.elim)) hm.2.1 hn)
  have HUp : Hid (∀ W, Calls Tryd.prog 17 #[.int .i64 id] W fun e w' => e = .returned (.bool (upM id)) ∧ Keep Never W w') := Lib.hid (fun W => rup6_any id W)
  have hGt0 : ∀ W, Calls Tryd.prog 31 #[.int .i64 id] W fun e w' => e = .returned (.tuple #[.agg #[.string (rowS id).1, .string (rowS id).2.1, .string (rowS id).2.2], .bool (formM id).isSome]) ∧ Keep Never W w' := fun W => rget6_any id W
  have hnn : V.length = n := hm.2.1
  clear hm hP hB
  unfold msgCells
  cases hF : formM id with
  | none =>
    have HE : Hid (EncodeM id t ack of_ V P = .error 4) := Lib.hid (by unfold EncodeM; rw [hF])
    rw [hF] at hGt0
    have HGt := Lib.hid hGt0
    generalize (rowS id).1 = s1 at *
    generalize (rowS id).2.1 = s2 at *
    generalize (rowS id).2.2 = s3 at *
    simp only [Option.isSome_none] at HGt
    clear hF hGt0 hnn
    go_enter Tryd.func13, Tryd.ntmps13
    go_wp2_with fail
    refine (HGt.out _).mono ?_
    rintro e w1 ⟨rfl, hk1⟩
    have HK1 := Lib.hid ((hk0.out.trans hk1).alloc (.cells #[.string s1, .string s2, .string s3] 58))
    clear hk1
    go_wp2_with fail
    go_ret2
    exact ⟨none, 0, 0, 4, rfl, HK1.out, .inr ⟨HE.out, by decide, rfl, rfl, rfl⟩⟩
  | some f =>
    obtain ⟨own, must, may⟩ := f
    have hEM : EncodeM id t ack of_ V P = if (valuesM id t ack of_ ++ V).length ≠ (headM id ++ own).length ∨ (upM id = true ∧ ack ≠ 0) then .error 20
      else match numsM (headM id ++ own) (valuesM id t ack of_ ++ V) with
      | .error e => .error e
      | .ok l1 => match packsM P with
        | .error e => .error e
        | .ok l2 =>
          if fitsM must may (P.map (·.1)) = false then .error 50
          else if 1023 < bytesN ((id, 8) :: (0, 10) :: (l1 ++ l2)) then .error 2
          else .ok (bytesOf (layP (((id, 8) :: (0, 10) :: (l1 ++ l2)).set 1 (bytesN ((id, 8) :: (0, 10) :: (l1 ++ l2)), 10)))) := by unfold EncodeM; rw [hF]; rfl
    have hro := row_of hF
    have HNc : Hid (∀ W, Calls Tryd.prog 32 #[.int .i64 id, .agg #[.string (rowS id).1, .string (rowS id).2.1, .string (rowS id).2.2]] W (WWords W (namesS (headM id ++ own)))) := Lib.hid (fun W => names6_any id _ _ _ own hro.1 (form_own hF) hro.2.2.2.2.1 W)
    have HFt : Hid (∀ W, IdsAt W B A2 k (P.map (·.1)) → Calls Tryd.prog 38 #[.agg #[.string (rowS id).1, .string (rowS id).2.1, .string (rowS id).2.2], .slice A2 k d] W fun e w' => e = .returned (.bool (fitsM must may (P.map (·.1)))) ∧ Keep Never W w') := Lib.hid (fun W hi => fits6_any B hF A2 k d _ W hi hkk)
    have HFc : Hid (own.length ≤ 5 ∧ may.length ≤ 7 ∧ 0 ≤ id ∧ id < 256) := Lib.hid (form_chk hF)
    have HNr : Hid (∀ v ∈ headM id ++ own, 0 ≤ v ∧ v < 96) := Lib.hid (fun v hv => by
      rcases List.mem_append.1 hv with h | h
      · exact head_names id v h
      · exact hro.2.1 v h)
    have HLa : Hid ((valuesM id t ack of_ ++ V).length ≤ 10003) := Lib.hid (by have := valuesM_len id t ack of_; simp only [List.length_append]; omega)
    have HLn : Hid ((headM id ++ own).length ≤ 10) := Lib.hid (by have := headM_len id; have := form_own hF; simp only [List.length_append]; omega)
    rw [hF] at hGt0
    have HGt := Lib.hid hGt0
    generalize (rowS id).1 = s1 at *
    generalize (rowS id).2.1 = s2 at *
    generalize (rowS id).2.2 = s3 at *
    simp only [Option.isSome_some] at HGt
    have hN2 : namesS (headM id ++ own) = namesS (headM id ++ own) := rfl
    generalize valuesM id t ack of_ ++ V = all at *
    generalize headM id ++ own = names at *
    have HEM := Lib.hid hEM
    clear hF hEM hro hGt0 hN2 hnn
    go_enter Tryd.func13, Tryd.ntmps13
    go_wp2_with fail
    refine (HGt.out _).mono ?_
    rintro e w1 ⟨rfl, hk1⟩
    have HK1 := Lib.hid ((hk0.out.trans hk1).alloc (.cells #[.string s1, .string s2, .string s3] 58))
    have HB1 := Lib.hid ((hb0.out.keep hk1 (fun h => h)).alloc (.cells #[.string s1, .string s2, .string s3] 58))
    have HF1 := Lib.hid (Blk.new w1 58 #[.string s1, .string s2, .string s3])
    have m0 : (w1.alloc (.cells #[.string s1, .string s2, .string s3] 58)).cell? ⟨w.heap.size, 0, none⟩ = some (.int .i64 id) := HB1.out.cell 0
    have HS1 : Hid (w.heap.size < w1.heap.size) := Lib.hid (by have := hk1.size; simp at this; omega)
    clear hk1
    go_wp2_with fail
    refine (HUp.out _).mono ?_
    rintro e w2 ⟨rfl, hk2⟩
    have HK2 := Lib.hid (HK1.out.trans hk2)
    have HB2 := Lib.hid (HB1.out.keep hk2 (fun h => h))
    have HF2 := Lib.hid (HF1.out.keep hk2 (fun h => h))
    obtain ⟨q, hq⟩ : ∃ q, w1.heap.size = q := ⟨_, rfl⟩
    rw [hq] at HF2 HS1
    clear hk2 m0
    have m0 : w2.cell? ⟨w.heap.size, 0, none⟩ = some (.int .i64 id) := HB2.out.cell 0
    have f0 : w2.cell? ⟨q, 0, none⟩ = some (.string s1) := HF2.out.cell 0
    have f1 : w2.cell? ⟨q, 1, none⟩ = some (.string s2) := HF2.out.cell 1
    have f2 : w2.cell? ⟨q, 2, none⟩ = some (.string s3) := HF2.out.cell 2
    rw [hq]
    go_wp2_with fail
    refine (HNc.out _).mono ?_
    rintro e w3 ⟨A3, n3, c3, rfl, hn3, ho3, hk3⟩
    have HK3 := Lib.hid (HK2.out.trans hk3)
    have HB3 := Lib.hid (HB2.out.keep hk3 (fun h => h))
    have HF3 := Lib.hid (HF2.out.keep hk3 (fun h => h))
    have HO3 := Lib.hid (Own.less ho3 HK2.out.size)
    have Hn3 : Hid (n3 = names.length) := Lib.hid (by rw [hn3]; simp [namesS])
    clear hk3 m0 f0 f1 f2 ho3 hn3
    have m0 : w3.cell? ⟨w.heap.size, 0, none⟩ = some (.int .i64 id) := HB3.out.cell 0
    have m1 : w3.cell? ⟨w.heap.size, 1, none⟩ = some (.int .i64 t) := HB3.out.cell 1
    have m2 : w3.cell? ⟨w.heap.size, 2, none⟩ = some (.int .i64 ack) := HB3.out.cell 2
    have m3 : w3.cell? ⟨w.heap.size, 3, none⟩ = some (.int .i64 of_) := HB3.out.cell 3
    have m4 : w3.cell? ⟨w.heap.size, 4, none⟩ = some (.slice A n c) := HB3.out.cell 4
    have m5 : w3.cell? ⟨w.heap.size, 5, none⟩ = some (.slice A2 k d) := HB3.out.cell 5
    go_wp2_with fail
    refine (HVl.out _ HK3.out).mono ?_
    rintro e w4 ⟨A4, n4, c4, rfl, hn4, ho4, hk4⟩
    have HK4 := Lib.hid (HK3.out.trans hk4)
    have HB4 := Lib.hid (HB3.out.keep hk4 (fun h => h))
    have HF4 := Lib.hid (HF3.out.keep hk4 (fun h => h))
    have HO4 := Lib.hid (HO3.out.keep hk4 (fun _ _ h => h))
    have HAll := Lib.hid (Own.less ho4 HK3.out.size)
    have Hn4 := Lib.hid hn4
    clear hk4 m0 m1 m2 m3 m4 m5 ho4 hn4
    have m2 : w4.cell? ⟨w.heap.size, 2, none⟩ = some (.int .i64 ack) := HB4.out.cell 2
    have m0 : w4.cell? ⟨w.heap.size, 0, none⟩ = some (.int .i64 id) := HB4.out.cell 0
    by_cases hne : n3 = n4
    rotate_left 1
    · have hb1 : ((n3 : Int) != (n4 : Int)) = true := by simp; omega
      have hb2 : ((n3 : Int) == (n4 : Int)) = false := by simp; omega
      have HE : Hid (EncodeM id t ack of_ V P = .error 20) := Lib.hid (by rw [HEM.out, if_pos (.inl (by rw [← Hn3.out, ← Hn4.out]; omega))])
      go_wp2_with fail
      go_ret2
      exact ⟨none, 0, 0, 20, rfl, HK4.out, .inr ⟨HE.out, by decide, rfl, rfl, rfl⟩⟩
    subst hne
    have hb1 : ((n3 : Int) != (n3 : Int)) = false := by simp
    have hb2 : ((n3 : Int) == (n3 : Int)) = true := by simp
    by_cases hbad : upM id = true ∧ ack ≠ 0
    · obtain ⟨hu, ha⟩ := hbad
      have HE : Hid (EncodeM id t ack of_ V P = .error 20) := Lib.hid (by rw [HEM.out, if_pos (.inr ⟨hu, ha⟩)])
      have ha1 : (ack != 0) = true := by simpa using ha
      rw [hu]
      clear hu ha
      go_wp2_with fail
      go_ret2
      exact ⟨none, 0, 0, 20, rfl, HK4.out, .inr ⟨HE.out, by decide, rfl, rfl, rfl⟩⟩
    have HEM3 := Lib.hid (HEM.out.trans (if_neg (by rintro (h | h); exact h (Hn4.out.symm.trans Hn3.out); exact hbad h)))
    have hcase : (upM id = true ∧ (ack != 0) = false) ∨ upM id = false := by
      cases hu : upM id
      · exact .inr rfl
      · left; exact ⟨rfl, by simp; apply Classical.byContradiction; intro h; exact hbad ⟨hu, h⟩⟩
    clear hbad HEM
    have hbase : w.heap.size ≤ w4.heap.size := HK4.out.size
    have hn10 : n3 ≤ 10 := by have := Hn3.out; have := HLn.out; omega
    have HAllL : Hid (all.length = n3) := Lib.hid Hn4.out.symm
    have HNmL : Hid (names.length = n3) := Lib.hid Hn3.out.symm
    rcases hcase with ⟨hu, ha⟩ | hu
    all_goals
      rw [hu]
      clear hu
      go_wp2_with fail
      obtain ⟨g3, hg3⟩ : ∃ g3, w4.heap.size = g3 := ⟨_, rfl⟩
      have HL5 : Hid (Own (w4.alloc (.cells #[.int .i64 id, .int .i64 8, .int .i64 0, .int .i64 10] 47)) w.heap.size 47 2 (some ⟨g3, 0, none⟩) 2 2 (bitCells [(id, 8), (0, 10)])) := by
        have hb := Blk.new w4 47 #[.int .i64 id, .int .i64 8, .int .i64 0, .int .i64 10]
        rw [hg3] at hb
        exact Lib.hid (Own.of_blk2 (n := 2) (xs := bitCells [(id, 8), (0, 10)]) hb rfl (by unfold maxLen; omega) (by omega))
      have hk5 : Keep Never w4 (w4.alloc (.cells #[.int .i64 id, .int .i64 8, .int .i64 0, .int .i64 10] 47)) := (Keep.refl Never w4).alloc _
      have HK5 := Lib.hid (HK4.out.trans hk5)
      have HB5 := Lib.hid (HB4.out.keep hk5 (fun h => h))
      have HF5 := Lib.hid (HF4.out.keep hk5 (fun h => h))
      have HO5 := Lib.hid (HO4.out.keep hk5 (fun _ _ h => h))
      have HAll5 := Lib.hid (HAll.out.keep hk5 (fun _ _ h => h))
      generalize w4.alloc (.cells #[.int .i64 id, .int .i64 8, .int .i64 0, .int .i64 10] 47) = w5 at *
      rw [hg3]
      clear hk5 hg3 m0 m2 hbase
      have hbase : w.heap.size ≤ w5.heap.size := HK5.out.size
      go_loopw [9, 10] (fun v i wr => ∃ (j c9 : Nat) (A9 : Option Addr), j ≤ n3 ∧ i = .int .i64 j ∧ v = .slice A9 (2 + j) c9 ∧ Hid (∃ l1, l1.length = j ∧ Own wr w.heap.size 47 2 A9 (2 + j) c9 (bitCells ((id, 8) :: (0, 10) :: l1)) ∧ Keep (InRow (some ⟨g3, 0, none⟩)) w5 wr ∧ (∀ b, InRow A9 b → InRow (some ⟨g3, 0, none⟩) b ∨ w5.heap.size ≤ b) ∧ numsM names all = okPre l1 (numsM (names.drop j) (all.drop j))))
        (fun _ i _ => n3 - (intOf i).toNat)
      case atStart => exact ⟨0, 2, _, by omega, rfl, rfl, Lib.hid ⟨[], rfl, HL5.out, Keep.refl _ _, fun b h => .inl h, by rw [okPre_nil]; rfl⟩⟩
      case round =>
        obtain ⟨j, c9, A9, hj, rfl, rfl, HH9⟩ := hrel
        obtain ⟨l1, hl1, ho9, hk9, hin9, hnm9⟩ := HH9.out
        have hAllr := HAll5.out.keep hk9 (fun b h h' => HAll5.out.ne_own HL5.out (by decide) b h h')
        have hNmr := HO5.out.keep hk9 (fun b h h' => HO5.out.ne_own HL5.out (by decide) b h h')
        by_cases hjn : j < n3
        · have hji : (j : Int) < (n3 : Int) := by omega
          obtain ⟨ad1, sv, hA8, _, hsv, hcv⟩ := hNmr.rd.at1 hjn
          obtain ⟨ad2, x, hA6, _, hx, hcx⟩ := hAllr.rd.at1 hjn
          subst hA8
          subst hA6
          obtain ⟨v, hv, rfl⟩ := namesS_at hsv
          rw [numsM_step hv hx] at hnm9
          have hvr := HNr.out v (List.mem_of_getElem? hv)
          have HFi : Hid (∀ W, Calls Tryd.prog 34 #[.string (vName v.toNat)] W fun e w' => e = .returned (.int .i64 v) ∧ Keep Never W w') := Lib.hid (fun W => find6_any hvr W)
          have HMay : Hid (∀ W, Calls Tryd.prog 35 #[.int .i64 v, .int .i64 x] W fun e w' => e = .returned (.bool (vMay v x)) ∧ Keep Never W w') := Lib.hid (fun W => may6_any v x W)
          have HWi : Hid (∀ W, Calls Tryd.prog 36 #[.int .i64 v] W fun e w' => e = .returned (.int .i64 (vWidth v)) ∧ Keep Never W w') := Lib.hid (fun W => by rw [vWidth_eq]; exact rwidth_any v W)
          generalize vName v.toNat = sn at *
          have HO9 := Lib.hid ho9
          have Hk9 := Lib.hid hk9
          have Hin9 := Lib.hid hin9
          have Hl1 := Lib.hid hl1
          have HX := Lib.hid hcx
          have HXn : Hid (¬ InRow A9 (ad2.add j).block) := Lib.hid (by rw [block_add]; exact hAllr.ne_own ho9 (by decide) _ ⟨ad2, rfl, rfl⟩)
          have hlr : w.heap.size ≤ wr.heap.size := Nat.le_trans hbase hk9.size
          by_cases hmay : vMay v x = true
          · rw [hmay] at HMay
            rw [if_pos hmay, okPre_pre] at hnm9
            have Hnm9 := Lib.hid hnm9
            obtain ⟨wd, hwd⟩ : ∃ z, vWidth v = z := ⟨_, rfl⟩
            rw [hwd] at Hnm9 HWi
            clear hnm9 hv hx hAllr hNmr ho9 hk9 hin9 hl1 HH9 hmay hwd hsv hvr hcx
            go_wp2_with fail
            refine (HFi.out _).mono ?_
            rintro e w6 ⟨rfl, hk6⟩
            have HK6 := Lib.hid hk6
            have hcx : w6.cell? (ad2.add j) = some (.int .i64 x) := (hk6.cell (cell_lt HX.out) (fun h => h)).trans HX.out
            clear hcv hk6
            go_wp2_with fail
            refine (HMay.out _).mono ?_
            rintro e w7 ⟨rfl, hk7⟩
            have HK7 := Lib.hid (HK6.out.trans hk7)
            have hcx : w7.cell? (ad2.add j) = some (.int .i64 x) := (hk7.cell (cell_lt hcx) (fun h => h)).trans hcx
            have HO7 := Lib.hid (HO9.out.keep HK7.out (fun _ _ h => h))
            have hlr7 : w.heap.size ≤ w7.heap.size := Nat.le_trans hlr HK7.out.size
            have hlt2 : (ad2.add j).block < w7.heap.size := cell_lt hcx
            clear hk7
            go_wp2_with fail
            go_region_held3 (fun w' => w'.cell? (ad2.add j) = some (.int .i64 x)) (first | go_keep | (rw [hk8.cell (by simpa using hlt2) (fun h => h)]; go_keep) | (rw [hk9.cell (by have := hk8.size; simp at this ⊢; omega) HXn.out]; go_keep))
              (first
                | (go_at_call 36; refine (HWi.out _).mono ?_; rintro e w8 ⟨rfl, hk8⟩)
                | (refine step_app _ rfl (.tmp 73) (.tmp 81) _ rfl elemBits w.heap.size rfl ((HO7.out.drew.keep hk8 (fun _ _ h => h)).alloc _) _ rfl (Rd.of_blk (n := 1) (cs := [.int .i64 x, .int .i64 wd]) (Blk.new _ _ _) rfl) (by simp [Value.oneCell']) (by omega) (by unfold maxLen; omega) (by have := hk8.size; simp at this ⊢; omega) ?_; intro A5 c5 w9 hown5 hk9 hrow5))
            have HF : Hid (∃ l2, l2.length = j + 1 ∧ Own w9 w.heap.size 47 2 A5 (2 + (j + 1)) c5 (bitCells ((id, 8) :: (0, 10) :: l2)) ∧ Keep (InRow (some ⟨g3, 0, none⟩)) w5 w9 ∧ (∀ b, InRow A5 b → InRow (some ⟨g3, 0, none⟩) b ∨ w5.heap.size ≤ b) ∧ numsM names all = okPre l2 (numsM (names.drop (j + 1)) (all.drop (j + 1)))) := by
              have hk79 : Keep Never wr w8 := HK7.out.trans (Keep.drewL (by simpa using hk8))
              refine Lib.hid ⟨l1 ++ [(x, wd)], by simp [Hl1.out], ?_, ((Hk9.out.trans (hk79.mono (fun _ _ h => h.elim))).alloc _).then_ hk9 (fun b hb h => ?_), fun b h => ?_, Hnm9.out⟩
              · have := (show Own w9 w.heap.size 47 2 A5 (2 + (j + 1)) c5 _ from hown5)
                simpa [bitCells] using this
              · rcases Hin9.out b h with h | h
                · exact h
                · omega
              · rcases hrow5 b h with h | h
                · exact Hin9.out b h
                · right; have := Hk9.out.size; have := hk79.size; simp at h; omega
            clear hown5 hk9 hrow5 hk8
            go_wp2_with fail
            go_roundw
            case rel => exact ⟨j + 1, c5, A5, by omega, by go_num, rfl, HF⟩
            case measure => simp [intOf]; try omega
          · have hmf : vMay v x = false := by simpa using hmay
            rw [hmf] at HMay
            rw [if_neg hmay] at hnm9
            have HE : Hid (EncodeM id t ack of_ V P = .error 20) := Lib.hid (by rw [HEM3.out, hnm9]; rfl)
            have HKf : Hid (Keep Never w wr) := Lib.hid (HK5.out.then_ hk9 (fun b hb h => by have := HL5.out.row h; omega))
            clear hnm9 hv hx hAllr hNmr ho9 hk9 hin9 hl1 HH9 hmay hmf hsv hvr hcx
            go_wp2_with fail
            refine (HFi.out _).mono ?_
            rintro e w6 ⟨rfl, hk6⟩
            have HK6 := Lib.hid hk6
            have hcx : w6.cell? (ad2.add j) = some (.int .i64 x) := (hk6.cell (cell_lt HX.out) (fun h => h)).trans HX.out
            clear hcv hk6
            go_wp2_with fail
            refine (HMay.out _).mono ?_
            rintro e w7 ⟨rfl, hk7⟩
            have HK7 := Lib.hid ((HKf.out.trans HK6.out).trans hk7)
            clear hk7 hcx
            go_wp2_with fail
            go_ret2
            exact ⟨none, 0, 0, 20, rfl, HK7.out, .inr ⟨HE.out, by decide, rfl, rfl, rfl⟩⟩
        · obtain rfl : j = n3 := by omega
          rw [numsM_end HNmL.out HAllL.out] at hnm9
          have hnm : numsM names all = .ok l1 := by rw [hnm9]; simp [okPre]
          have HEM4 : Hid (EncodeM id t ack of_ V P = match packsM P with
            | .error e => .error e
            | .ok l2 =>
              if fitsM must may (P.map (·.1)) = false then .error 50
              else if 1023 < bytesN ((id, 8) :: (0, 10) :: (l1 ++ l2)) then .error 2
              else .ok (bytesOf (layP (((id, 8) :: (0, 10) :: (l1 ++ l2)).set 1 (bytesN ((id, 8) :: (0, 10) :: (l1 ++ l2)), 10))))) := Lib.hid (by rw [HEM3.out, hnm])
          have Hnm := Lib.hid hnm
          have HO9 := Lib.hid ho9
          have Hk9 := Lib.hid hk9
          have Hin9 := Lib.hid hin9
          have Hl1 := Lib.hid hl1
          have hnw : ¬ InRow (some ⟨g3, 0, none⟩) w.heap.size := fun h => HL5.out.ne_blk HB5.out (by decide) _ h rfl
          have hnq : ¬ InRow (some ⟨g3, 0, none⟩) q := fun h => HL5.out.ne_blk HF5.out (by decide) _ h rfl
          have Hnw := Lib.hid hnw
          have Hnq := Lib.hid hnq
          have m5 := (HB5.out.keep hk9 hnw).cell 5
          have hji : ¬ (j : Int) < (j : Int) := by omega
          clear hAllr hNmr ho9 hk9 hin9 hl1 hnm9 hnm HH9 HEM3 hnw hnq
          obtain ⟨m9, hm9⟩ : ∃ m, 2 + j = m := ⟨_, rfl⟩
          rw [hm9] at HO9 ⊢
          have Hm9 : Hid (m9 = 2 + l1.length ∧ l1.length ≤ 10003) := Lib.hid ⟨by have := Hl1.out; omega, by have := Hl1.out; omega⟩
          clear hm9
          go_wp2_with fail
          obtain ⟨wo, rfl⟩ : ∃ wo : World, wo = wr := ⟨_, rfl⟩
          go_loopw [9, 13] (fun v i wi => ∃ (y c7 mm : Nat) (A7 : Option Addr), y ≤ k ∧ i = .int .i64 y ∧ v = .slice A7 mm c7 ∧ Hid (∃ l2, mm = 2 + l1.length + l2.length ∧ l2.length + sumL (P.drop y) ≤ sumL P ∧ Own wi w.heap.size 47 2 A7 mm c7 (bitCells ((id, 8) :: (0, 10) :: (l1 ++ l2))) ∧ Keep (InRow (some ⟨g3, 0, none⟩)) w5 wi ∧ (∀ b, InRow A7 b → InRow (some ⟨g3, 0, none⟩) b ∨ w5.heap.size ≤ b) ∧ packsM P = okPre l2 (packsM (P.drop y))))
            (fun _ i _ => k - (intOf i).toNat)
          case atStart => exact ⟨0, c9, m9, A9, by omega, rfl, rfl, Lib.hid ⟨[], by have := Hm9.out.1; simpa using this, by simp, by simpa using HO9.out, Hk9.out, Hin9.out, by rw [okPre_nil]; rfl⟩⟩
          case round =>
            obtain ⟨y, c7, mm, A7, hy, rfl, rfl, HJ⟩ := hrel
            obtain ⟨l2, hmm, hsl2, ho, hk, hin, hpm⟩ := HJ.out
            have hmsg := (HM.out.keep HK5.out (fun _ h => h.elim)).keep hk (fun b h => by have := (HL5.out.row h).1; have := HG.out; omega)
            have hlr : w.heap.size ≤ wr.heap.size := Nat.le_trans hbase hk.size
            have m5 := (HB5.out.keep hk Hnw.out).cell 5
            by_cases hyk : y < k
            · have hyi : (y : Int) < (k : Int) := by omega
              obtain ⟨ad, pid, PV, A', n', c', hA2, hPy, d0, d1, r1, r2, r3, r4, r5⟩ := Sl_pack hmsg.2.2.2.2 hyk
              subst hA2
              rw [packsM_step hPy] at hpm
              simp only at hpm
              rw [sumL_step hPy] at hsl2
              simp only at hsl2
              have hPV := HP.out _ (List.mem_of_getElem? hPy)
              simp only at hPV
              have HIt : Hid (Calls Tryd.prog 37 #[.agg #[.int .i64 pid, .slice A' n' c']] wr (ItRet wr (ItemsM pid PV))) :=
                Lib.hid (ritems_any B pid PV A' n' c' wr r1 r2 r3 r5 (by omega) (by have := HG.out; omega))
              have HO := Lib.hid ho
              have Hk := Lib.hid hk
              have Hin := Lib.hid hin
              have Hsl2 := Lib.hid hsl2
              have Hmm := Lib.hid hmm
              have HKf : Hid (Keep Never w wr) := Lib.hid (HK5.out.then_ hk (fun b hb h => by have := HL5.out.row h; omega))
              cases hI : ItemsM pid PV with
              | error er =>
                rw [hI] at hpm HIt
                simp only at hpm
                have HE : Hid (EncodeM id t ack of_ V P = .error er) := Lib.hid (by rw [HEM4.out, hpm]; rfl)
                clear hpm hPy r1 r2 r3 r4 r5 hI ho hk hin hsl2 hmm hmsg HJ hPV
                go_wp2_with fail
                refine HIt.out.mono ?_
                rintro e w6 ⟨A8, n8, c8', x8, rfl, hk6, hpo⟩
                rcases hpo with ⟨_, h, _⟩ | ⟨h, hx, rfl, rfl, rfl⟩
                · cases h
                injection h with h
                subst h
                have e0 : (er == 0) = false := by simpa using hx
                have e1 : (er != 0) = true := by simpa using hx
                have HK6 := Lib.hid (HKf.out.trans hk6)
                have Hx := Lib.hid hx
                clear hx hk6
                go_wp2_with fail
                go_ret2
                exact ⟨none, 0, 0, er, rfl, HK6.out, .inr ⟨HE.out, Hx.out, rfl, rfl, rfl⟩⟩
              | ok l =>
                rw [hI] at hpm HIt
                simp only at hpm
                rw [okPre_pre] at hpm
                have hlen : l.length = PV.length + 2 := by
                  obtain ⟨_, _, _, _, _, h, _⟩ := ItemsM_at hI
                  exact h
                have Hpm := Lib.hid hpm
                have Hlen := Lib.hid hlen
                clear hpm hPy r1 r2 r3 r4 r5 hI ho hk hin hsl2 hmm hmsg HJ hPV hlen
                go_wp2_with fail
                refine HIt.out.mono ?_
                rintro e w6 ⟨A8, n8, c8', x8, rfl, hk6, hpo⟩
                rcases hpo with ⟨l', h, rfl, hn8, ho8⟩ | ⟨h, _⟩
                rotate_left
                · cases h
                injection h with h
                subst h
                have HO6 := Lib.hid (HO.out.keep hk6 (fun _ _ h => h))
                have HK6 := Lib.hid hk6
                have HR8 := Lib.hid ho8.rd
                have Hn8 := Lib.hid hn8
                have hb8 : mm ≤ 600000 ∧ n8 ≤ 600000 := by
                  have h1 := Hmm.out
                  have h2 := Hsl2.out
                  have h3 := Hm9.out.2
                  have h4 := Hlen.out
                  have h5 := Hn8.out
                  omega
                obtain ⟨hb8a, hb8b⟩ := hb8
                have hbs6 : w.heap.size ≤ w6.heap.size := Nat.le_trans hlr hk6.size
                clear hn8 ho8 hk6
                go_wp2_with (at_builtin; refine wpList_app _ rfl (.tmp 102) (.tmp 103) _ rfl elemBits w.heap.size rfl HO6.out w6.heap.size rfl HR8.out (bitCells_one _) (by omega) (by unfold maxLen; omega) hbs6 ?_; intro A9' c9' w7 hown hk7 hrow)
                have HF : Hid (∃ l2, mm + n8 = 2 + l1.length + l2.length ∧ l2.length + sumL (P.drop (y + 1)) ≤ sumL P ∧ Own w7 w.heap.size 47 2 A9' (mm + n8) c9' (bitCells ((id, 8) :: (0, 10) :: (l1 ++ l2))) ∧ Keep (InRow (some ⟨g3, 0, none⟩)) w5 w7 ∧ (∀ b, InRow A9' b → InRow (some ⟨g3, 0, none⟩) b ∨ w5.heap.size ≤ b) ∧ packsM P = okPre l2 (packsM (P.drop (y + 1)))) := by
                  refine Lib.hid ⟨l2 ++ l, ?_, ?_, ?_, (Hk.out.trans (HK6.out.mono (fun _ _ h => h.elim))).then_ hk7 (fun b hb h => ?_), fun b h => ?_, Hpm.out⟩
                  · have h1 := Hmm.out; have h2 := Hn8.out; simp only [List.length_append]; omega
                  · have h1 := Hsl2.out; have h2 := Hlen.out; simp only [List.length_append]; omega
                  · simpa [bitCells] using hown
                  · rcases Hin.out b h with h | h
                    · exact h
                    · omega
                  · rcases hrow b h with h | h
                    · exact Hin.out b h
                    · right; have := Hk.out.size; have := HK6.out.size; omega
                clear hown hk7 hrow
                go_wp2_with fail
                go_roundw
                case rel => exact ⟨y + 1, c9', mm + n8, A9', by omega, by go_num, rfl, HF⟩
                case measure => simp [intOf]; try omega
            · obtain rfl : y = k := by omega
              have hPe : P.drop y = [] := List.drop_eq_nil_of_le (by have := HM.out.2.2.2.2.1; omega)
              rw [hPe] at hpm
              have hpk : packsM P = .ok l2 := by rw [hpm]; simp [okPre, packsM]
              have HEM5 : Hid (EncodeM id t ack of_ V P = if fitsM must may (P.map (·.1)) = false then .error 50
                  else if 1023 < bytesN ((id, 8) :: (0, 10) :: (l1 ++ l2)) then .error 2
                  else .ok (bytesOf (layP (((id, 8) :: (0, 10) :: (l1 ++ l2)).set 1 (bytesN ((id, 8) :: (0, 10) :: (l1 ++ l2)), 10))))) := Lib.hid (by rw [HEM4.out, hpk])
              have hfm := HF5.out.keep hk Hnq.out
              have p0 : wr.cell? ⟨q, 0, none⟩ = some (.string s1) := hfm.cell 0
              have p1 : wr.cell? ⟨q, 1, none⟩ = some (.string s2) := hfm.cell 1
              have p2 : wr.cell? ⟨q, 2, none⟩ = some (.string s3) := hfm.cell 2
              have HFt2 := Lib.hid (HFt.out wr (IdsAt.of_sl hmsg.2.2.2.2))
              have HKf : Hid (Keep Never w wr) := Lib.hid (HK5.out.then_ hk (fun b hb h => by have := HL5.out.row h; omega))
              have HO := Lib.hid ho
              have Hmm := Lib.hid hmm
              have Hsz : Hid (mm ≤ 600000) := Lib.hid (by have h1 := hmm; have h2 := hsl2; have h3 := Hm9.out.2; omega)
              have Hpk := Lib.hid hpk
              have hyi : ¬ (y : Int) < (y : Int) := by omega
              clear hpm hpk hfm ho hin hmm hsl2 hk hmsg HJ hPe
              go_wp2_with fail
              refine HFt2.out.mono ?_
              rintro e w6 ⟨rfl, hk6⟩
              have HK6' := Lib.hid (HKf.out.trans hk6)
              have HO6 := Lib.hid (HO.out.keep hk6 (fun _ _ h => h))
              clear hk6 p0 p1 p2 m5
              cases hfit : fitsM must may (P.map (·.1)) with
              | false =>
                have HE : Hid (EncodeM id t ack of_ V P = .error 50) := Lib.hid (by rw [HEM5.out, if_pos hfit])
                clear hfit
                go_wp2_with fail
                go_ret2
                exact ⟨none, 0, 0, 50, rfl, HK6'.out, .inr ⟨HE.out, by decide, rfl, rfl, rfl⟩⟩
              | true =>
                have HE : Hid (EncodeM id t ack of_ V P = if 1023 < bytesN ((id, 8) :: (0, 10) :: (l1 ++ l2)) then .error 2
                  else .ok (bytesOf (layP (((id, 8) :: (0, 10) :: (l1 ++ l2)).set 1 (bytesN ((id, 8) :: (0, 10) :: (l1 ++ l2)), 10))))) := Lib.hid (by rw [HEM5.out, if_neg (by rw [hfit]; simp)])
                have hmay2 : ∀ z ∈ l1 ++ l2, mayB z.1 z.2 = true := by
                  intro z hz
                  rcases List.mem_append.1 hz with hz | hz
                  · exact numsM_may Hnm.out z hz
                  · exact packsM_may Hpk.out z hz
                have hid8 : mayB id 8 = true := by rw [mayB_iff]; have := HFc.out.2.2; simp; omega
                have hmayL : ∀ z ∈ (id, 8) :: (0, 10) :: (l1 ++ l2), mayB z.1 z.2 = true := by
                  intro z hz
                  rcases List.mem_cons.1 hz with rfl | hz
                  · exact hid8
                  rcases List.mem_cons.1 hz with rfl | hz
                  · decide
                  · exact hmay2 z hz
                have HL1 : Hid (((id, (8 : Int)) :: (0, 10) :: (l1 ++ l2))[1]? = some (0, 10)) := rfl
                have HMl : Hid (((id, (8 : Int)) :: (0, 10) :: (l1 ++ l2)).length = mm) := Lib.hid (by have := Hmm.out; simp; omega)
                generalize (id, (8 : Int)) :: (0, (10 : Int)) :: (l1 ++ l2) = L at *
                have HmL := Lib.hid hmayL
                have HwL : Hid (∀ z ∈ L, 0 ≤ z.2 ∧ z.2 ≤ 32) := Lib.hid (fun z hz => by have := mayB_iff.1 (hmayL z hz); omega)
                have HTot := Lib.hid (fun W (h : Rd W w6.heap.size 2 A7 mm (bitCells L)) => total_big L HwL.out A7 mm c7 w6.heap.size W HMl.out (by have := Hsz.out; omega) h)
                have HT6 := Lib.hid (HTot.out w6 HO6.out.rd)
                have hS0 : 0 ≤ sumW L ∧ sumW L ≤ 32000000 := by
                  have h1 := sumW_bound HwL.out L.length
                  rw [List.take_length] at h1
                  have h2 := HMl.out
                  have h3 := Hsz.out
                  omega
                clear hmay2 hid8 hfit hmayL
                go_wp2_with fail
                refine HT6.out.mono ?_
                rintro e w7 ⟨rfl, rfl⟩
                obtain ⟨g, cur, rfl, hbg, hgb, hnc, hcm, hcs, hct⟩ : ∃ g cur, A7 = some ⟨g, 0, none⟩ ∧ w.heap.size ≤ g ∧ Blk w6 g 47 cur ∧ mm ≤ c7 ∧ c7 ≤ maxLen ∧ cur.size = c7 * 2 ∧ cur.toList.take (mm * 2) = bitCells L := by
                  rcases HO6.out.form with ⟨_, h, _⟩ | h
                  · have := Hmm.out; omega
                  · exact h
                clear hgb hcs hct
                have h1mm : 1 < mm := by have := Hmm.out; omega
                have q0 : w6.cell? ⟨g, 2, none⟩ = some (.int .i64 0) := HO6.out.cellg (bitCells_at _ HL1.out).1
                have q1 : w6.frozen? ⟨g, 2, none⟩ = false := HO6.out.frozeng 2
                obtain ⟨S, hS⟩ : ∃ S, sumW L = S := ⟨_, rfl⟩
                rw [hS] at hS0 ⊢
                have HS := Lib.hid hS
                have hsq : S.tdiv 8 = S / 8 := Int.tdiv_eq_ediv_of_nonneg (by omega)
                have hsr : S.tmod 8 = S % 8 := Int.tmod_eq_emod_of_nonneg (by omega)
                obtain ⟨Bn, hBn⟩ : ∃ b, (S + 7) / 8 = b := ⟨_, rfl⟩
                have hBn0 : 0 ≤ Bn := by omega
                have hbN : Hid (bytesN L = Bn) := Lib.hid (by unfold bytesN; rw [hS, hBn])
                have hcs2 : (S % 8 > 0 ∧ S / 8 + 1 = Bn) ∨ (¬ S % 8 > 0 ∧ S / 8 = Bn) := by omega
                have hS1 := hS0.1
                have hS2 := hS0.2
                have HSb : Hid (S ≤ 8 * Bn) := Lib.hid (by omega)
                clear hS hBn hS0
                obtain ⟨d8, hd8⟩ : ∃ x, S / 8 = x := ⟨_, rfl⟩
                obtain ⟨r8, hr8⟩ : ∃ x, S % 8 = x := ⟨_, rfl⟩
                have hd0 : 0 ≤ d8 ∧ d8 ≤ 4000000 := by omega
                obtain ⟨hd0, hd1⟩ := hd0
                rw [hd8] at hsq hcs2
                rw [hr8] at hsr hcs2
                clear hd8 hr8
                have HBf : Hid (∀ W, Own W w.heap.size 47 2 (some ⟨g, 0, none⟩) mm c7 (bitCells (L.set 1 (Bn, 10))) → Bn ≤ 1023 → Calls Tryd.prog 41 #[.slice (some ⟨g, 0, none⟩) mm c7] W (LRet W (L.set 1 (Bn, 10)))) := Lib.hid (fun W ho hb => by
                  have hmem : ∀ z ∈ L.set 1 (Bn, 10), (z ∈ L ∨ z = (Bn, 10)) := fun z hz => List.mem_or_eq_of_mem_set hz
                  have hlen : ((L.set 1 (Bn, 10)).length : Int) ≤ 8184 := by
                    rw [List.length_set]
                    have h1 := nums_pos HmL.out
                    rw [HS.out] at h1
                    have := HSb.out
                    omega
                  refine laid_any _ ?_ ?_ (some ⟨g, 0, none⟩) mm c7 W.heap.size W (by rw [List.length_set]; exact HMl.out) (by have := HMl.out; rw [List.length_set] at hlen; omega) ho.rd (Nat.le_refl _)
                  · intro z hz
                    rcases hmem z hz with h | rfl
                    · exact HwL.out z h
                    · show (0 : Int) ≤ 10 ∧ (10 : Int) ≤ 32; decide
                  · intro z hz
                    rcases hmem z hz with h | rfl
                    · have h3 := mayB_iff.1 (HmL.out z h)
                      have h4 : ((2 : Nat) ^ z.2.toNat : Nat) ≤ 2 ^ 32 := Nat.pow_le_pow_right (by decide) (by omega)
                      omega
                    · show 0 ≤ Bn ∧ Bn ≤ 9223372036854775807; omega)
                have HL2 : Hid (bitCells (L.set 1 (Bn, 10)) = (bitCells L).set 2 (.int .i64 Bn)) := Lib.hid (bitCells_set _ HL1.out Bn)
                have HOs : Hid (Own (w6.setCell ⟨g, 2, none⟩ (.int .i64 Bn)) w.heap.size 47 2 (some ⟨g, 0, none⟩) mm c7 (bitCells (L.set 1 (Bn, 10)))) := Lib.hid (by rw [HL2.out]; exact HO6.out.storedg 2 _)
                have HKs : Hid (Keep Never w (w6.setCell ⟨g, 2, none⟩ (.int .i64 Bn))) := Lib.hid (HK6'.out.set_ (p := ⟨g, 2, none⟩) (.inr hbg) _)
                have HLy : Hid (Bn ≤ 1023 → ∀ z : Int, (layP (L.set 1 (z, 10))).length ≤ 1000000) := Lib.hid (fun hb z => by
                  have h1 := length_layP (l := L.set 1 (z, 10)) (fun y hy => by
                    rcases List.mem_or_eq_of_mem_set hy with h | rfl
                    · exact HwL.out y h
                    · simp only; omega)
                  rw [sumW_set HL1.out, HS.out] at h1
                  have := HSb.out
                  omega)
                by_cases hbig : 1023 < Bn
                · have HE2 : Hid (EncodeM id t ack of_ V P = .error 2) := Lib.hid (by rw [HE.out, hbN.out, if_pos hbig])
                  rcases hcs2 with ⟨h1, h2⟩ | ⟨h1, h2⟩
                  all_goals
                    subst h2
                    go_wp2_with fail
                    go_ret2
                    exact ⟨none, 0, 0, 2, rfl, HK6'.out, .inr ⟨HE2.out, by decide, rfl, rfl, rfl⟩⟩
                · have hbig' : Bn ≤ 1023 := by omega
                  have HE2 := Lib.hid (HE.out.trans (by rw [hbN.out, if_neg hbig]))
                  have HLd := Lib.hid (HBf.out _ HOs.out hbig')
                  rcases hcs2 with ⟨h1, h2⟩ | ⟨h1, h2⟩
                  all_goals
                    subst h2
                    go_wp2_with fail
                    refine HLd.out.mono ?_
                    rintro e w7 ⟨A8, n8, c8, rfl, hn8, ho8, hk8⟩
                    have HK8 := Lib.hid (HKs.out.trans hk8)
                    have HBy := Lib.hid (rbytes_any A8 n8 c8 w7.heap.size _ hn8.symm w7 ho8.rd (Nat.le_refl _) (by rw [hn8]; exact HLy.out hbig' _))
                    clear hk8 ho8 hn8
                    go_wp2_with fail
                    refine HBy.out.mono ?_
                    rintro e w8 ⟨A9, n9, c9, rfl, hn9, hr9, hk9, _, _⟩
                    have HK9 := Lib.hid (HK8.out.trans hk9)
                    have HR9 := Lib.hid hr9
                    have Hn9 := Lib.hid hn9
                    clear hk9 hr9 hn9
                    go_wp2_with fail
                    go_ret2
                    exact ⟨A9, n9, c9, 0, rfl, HK9.out, .inl ⟨_, HE2.out, rfl, Hn9.out, HR9.out⟩⟩

end Go.Proofs.YtiebjnibmomcjaaDoor
