/- Layer 5: PacketCut. -/
import Derived.Test.YtehloljfjpcniaaDoorPackO
namespace Go.Proofs.YtehloljfjpcniaaDoor
open Go.RowKit

theorem bitsB_take_ (b : List Nat) (q : Nat) : bitsB (b.take q) = (bitsB b).take (8 * q) := by
  induction q generalizing b with
  | zero => simp [bitsB]
  | succ q ih =>
    cases b with
    | nil => simp [bitsB]
    | cons x b =>
      rw [List.take_succ_cons]
      have e : ∀ c, bitsB (x :: c) = bitsOf x 8 ++ bitsB c := fun _ => rfl
      rw [e, e, ih, show 8 * (q + 1) = 8 + 8 * q by omega, List.take_append, length_bitsOf, List.take_of_length_le (l := bitsOf x 8) (by rw [length_bitsOf]; omega), show 8 + 8 * q - 8 = 8 * q by omega]

set_option maxHeartbeats 4000000 in
set_option maxRecDepth 100000 in
theorem cut_walk (W : World) (hW : Widths W) (cs : Array Value) (p : Int × List Int) (hp : repPack.cells W W.heap.size p cs.toList) (cut : Int) (hc1 : -9223372036854775808 ≤ cut) (hc2 : cut ≤ 9223372036854775807) :
    Calls Tryd.prog 8 #[.agg cs, .int .i64 cut] W fun e w' => e = .returned (.bool true) ∧ Keep Never W w' := by
  obtain ⟨A, n, c, rfl, hrd, hn, hnc, hcm, h64⟩ := pack_in hp
  obtain ⟨id, V⟩ := p
  simp only at hrd hn h64 ⊢
  have Hrd := Lib.hid hrd
  have Hn := Lib.hid hn
  have Hnc := Lib.hid (And.intro hnc hcm)
  have H64 := Lib.hid h64
  have HW := Lib.hid hW
  have Hg : Hid (0 < W.heap.size) := hW.lt
  have hk0 : Hid (Keep Never W (W.alloc (.cells #[.int .i64 id, .slice A n c] 26))) := (Keep.refl Never W).alloc _
  have hb0 : Hid (Blk (W.alloc (.cells #[.int .i64 id, .slice A n c] 26)) W.heap.size 26 #[.int .i64 id, .slice A n c]) := Blk.new W 26 _
  clear hp hrd hn hnc hcm h64 hW
  unfold packCells
  by_cases h3 : n ≤ 3000
  rotate_left
  · have h3' : (3000 : Int) < (n : Int) := by omega
    go_enter Tryd.func8, Tryd.ntmps8
    go_wp2_with fail
    refine (awake5_any _ (HW.out.keep hk0.out (fun h => h))).mono ?_
    rintro e w1 ⟨rfl, hk1⟩
    have HK1 := Lib.hid (hk0.out.trans hk1)
    have f1 : w1.cell? ⟨W.heap.size, 1, none⟩ = some (.slice A n c) := (hb0.out.keep hk1 (fun h => h)).cell 1
    clear hk1
    go_wp2_with fail
    go_ret
    exact ⟨rfl, HK1.out⟩
  have h3' : (n : Int) ≤ 3000 := by omega
  go_enter Tryd.func8, Tryd.ntmps8
  go_wp2_with fail
  refine (awake5_any _ (HW.out.keep hk0.out (fun h => h))).mono ?_
  rintro e w1 ⟨rfl, hk1⟩
  have HK1 := Lib.hid (hk0.out.trans hk1)
  have HB1 := Lib.hid (hb0.out.keep hk1 (fun h => h))
  have f0 : w1.cell? ⟨W.heap.size, 0, none⟩ = some (.int .i64 id) := HB1.out.cell 0
  have f1 : w1.cell? ⟨W.heap.size, 1, none⟩ = some (.slice A n c) := HB1.out.cell 1
  clear hk1
  go_wp2_with fail
  refine (Items_any W.heap.size id V A n c w1 (Hrd.out.keep HK1.out (fun _ h => h.elim)) Hn.out Hnc.out.1 Hnc.out.2 H64.out (by have := Hn.out; omega) (HW.out.keep HK1.out (fun h => h)) Hg.out HK1.out.size).mono ?_
  rintro e w2 ⟨A2, n2, c2, x2, rfl, hk2, hpo⟩
  have HK2 := Lib.hid (HK1.out.trans hk2)
  have HB2 := Lib.hid (HB1.out.keep hk2 (fun h => h))
  have g0 : w2.cell? ⟨W.heap.size, 0, none⟩ = some (.int .i64 id) := HB2.out.cell 0
  have g1 : w2.cell? ⟨W.heap.size, 1, none⟩ = some (.slice A n c) := HB2.out.cell 1
  clear hk2 f0 f1
  rcases hpo with ⟨l, hI, rfl, hn2, ho2⟩ | ⟨_, hx, rfl, rfl, rfl⟩
  rotate_left
  · have hx0 : (x2 == 0) = false := by simpa using hx
    have hx1 : (x2 != 0) = true := by simpa using hx
    go_wp2_with fail
    go_ret
    exact ⟨rfl, HK2.out⟩
  by_cases h0 : cut < 0
  · go_wp2_with fail
    go_ret
    exact ⟨rfl, HK2.out⟩
  obtain ⟨k, rfl⟩ : ∃ k : Nat, cut = k := ⟨cut.toNat, by omega⟩
  obtain ⟨q1, q2, q3, q4, q5⟩ := ItemsM_short hI
  have hlay := length_layP (ItemsM_width hI)
  have hS : SizeM id V = sumW l := by simp [SizeM, hI]
  obtain ⟨s, hsl⟩ : ∃ s : Nat, sumW l = s := ⟨(sumW l).toNat, by omega⟩
  rw [hsl] at hlay q4 q5 hS
  have HI := Lib.hid hI
  have Hq := Lib.hid (And.intro q1 (And.intro q2 q3))
  have Hlay := Lib.hid hlay
  have Hsl := Lib.hid hsl
  have HS := Lib.hid hS
  have Hn2 := Lib.hid hn2
  have Ho2 := Lib.hid ho2
  clear hI q1 q2 q3 hlay hsl hS hn2 ho2 h0
  have hk0 : (0 : Int) ≤ (k : Int) := by omega
  go_wp2_with fail
  refine (Size_any W.heap.size id V A n c w2 (Hrd.out.keep HK2.out (fun _ h => h.elim)) Hn.out Hnc.out.1 Hnc.out.2 H64.out (by have := Hn.out; omega) (HW.out.keep HK2.out (fun h => h)) Hg.out HK2.out.size).mono ?_
  rintro e w3 ⟨rfl, hk3⟩
  rw [HS.out]
  have HK3 := Lib.hid (HK2.out.trans hk3)
  have Ho3 := Lib.hid (Ho2.out.keep hk3 (fun _ _ h => h))
  clear hk3 Ho2 g0 g1
  by_cases hks : 8 * k + 8 ≤ s
  rotate_left
  · have hks' : (s : Int) / 8 ≤ (k : Int) := by omega
    go_wp2_with fail
    go_ret
    exact ⟨rfl, HK3.out⟩
  have hks' : (k : Int) < (s : Int) / 8 := by omega
  have hks8 : 8 * (k : Int) < sumW l := by rw [Hsl.out]; omega
  have Hks8 := Lib.hid hks8
  clear hks8
  go_wp2_with fail
  refine (bytes5_any l (ItemsM_width HI.out) (ItemsM_nums HI.out) A2 n2 c2 w3.heap.size w3 Hn2.out.symm (by have := Hn2.out; have := Hq.out.2.1; omega) Ho3.out.rd (Nat.le_refl _)).mono ?_
  rintro e w4 ⟨A4, n4, c4, rfl, hn4, hr4, hk4, hc4, hcm4⟩
  have hL : (bytesOf (layP l)).length = (s + 7) / 8 := by rw [length_bytesOf]; have := Hlay.out; omega
  rw [hL] at hn4
  have HK4 := Lib.hid (HK3.out.trans hk4)
  have hszu : Hid (∀ w, (sizeOf 5).run Tryd.prog w = .ok 1 w) := fun w => by kernel_rfl
  have Hj4 : Hid (k ≤ n4) := by show k ≤ n4; omega
  have Hc4 := Lib.hid (And.intro hc4 hcm4)
  have Hr4 := Lib.hid hr4
  have HL := Lib.hid hL
  clear hk4 hc4 hr4 hn4 hcm4 hL
  go_wp2_with (refine wpList_upto rfl (.tmp 41) (.tmp 42) _ rfl Tryd.underlying22 hszu.out A4 n4 c4 k (by go_simp) (k : Int) (by go_simp) rfl Hj4.out Hc4.out.1 ?_; intro A5 c5 HS5)
  have hr5 := HS5.out.1 _ _ _ Hr4.out
  rw [Nat.mul_one, ← List.map_take] at hr5
  have hlay := Hlay.out
  have hcut : GetM ((bytesOf (layP l)).take k) 0 = .error 10 := get_cut HI.out (k := k) Hks8.out (by
    rw [bitsB_take_, bitsB_bytesOf, List.take_append_of_le_length (by omega)])
  refine (Get_any w4.heap.size _ 0 A5 k c5 w4 hr5 (by rw [List.length_take, HL.out]; omega) (fun x hx => bytesTo_lt _ _ x (List.mem_of_mem_take hx)) HS5.out.2.1 (by have := HS5.out.2.2.1; have := Hc4.out.2; omega) (by omega) (HW.out.keep HK4.out (fun h => h)) (Nat.lt_of_lt_of_le Hg.out HK4.out.size) (Nat.le_refl _)).mono ?_
  rintro e w5 ⟨id5, A6, n6, c6, d6, x6, rfl, hk5, hpo⟩
  rw [hcut] at hpo
  rcases hpo with ⟨_, h, _⟩ | ⟨h, _, rfl, rfl, rfl, rfl, rfl⟩
  · cases h
  injection h with h
  subst h
  have HK5 := Lib.hid (HK4.out.trans hk5)
  clear hcut hk5 hr5 hlay HS5
  unfold packCells
  have HK6 : Hid (Keep Never W (w5.alloc (.cells #[.int .i64 0, .slice none 0 0] 26))) := HK5.out.alloc _
  go_wp2_with fail
  go_ret
  exact ⟨rfl, HK6.out⟩

end Go.Proofs.YtehloljfjpcniaaDoor
