/- Layer 5: PacketOnly. -/
import Derived.Test.YtehloljfjpcniaaDoorPackS
import Derived.Test.YtehloljfjpcniaaDoorSld
import Derived.Test.YtehloljfjpcniaaDoorBitsY
namespace Go.Proofs.YtehloljfjpcniaaDoor
open Go.RowKit

theorem sumW_ge : ∀ (tr : List (Int × Int)), mayAll tr → (tr.length : Int) ≤ sumW (itemsOf tr)
  | [], _ => by simp [sumW, itemsOf]
  | x :: t, h => by
    have h1 := sumW_ge t (fun y hy => h y (by simp [hy]))
    have h2 := (vMay_range (h x (by simp))).1
    simp only [itemsOf, sumW, List.map_cons, List.sum_cons, List.length_cons] at h1 ⊢
    omega
theorem nums_le : ∀ (tr : List (Int × Int)), (nums tr).length ≤ tr.length
  | [] => Nat.le_refl _
  | (v, n) :: t => by
    have := nums_le t
    simp only [nums]
    split <;> simp <;> omega
theorem nums_mem : ∀ (tr : List (Int × Int)) (x : Int), x ∈ nums tr → ∃ v, (v, x) ∈ tr
  | [], x, h => by simp [nums] at h
  | (v, n) :: t, x, h => by
    simp only [nums] at h
    split at h
    · obtain ⟨v', hv⟩ := nums_mem t x h; exact ⟨v', by simp [hv]⟩
    · rcases List.mem_cons.1 h with rfl | h
      · exact ⟨v, by simp⟩
      · obtain ⟨v', hv⟩ := nums_mem t x h; exact ⟨v', by simp [hv]⟩
theorem ItemsM_short {id : Int} {V : List Int} {l : List (Int × Int)} (h : ItemsM id V = .ok l) : V.length ≤ 8190 ∧ l.length ≤ 8190 ∧ (∀ x ∈ V, i64 x) ∧ 0 ≤ sumW l ∧ sumW l ≤ 8184 := by
  obtain ⟨T, tr, hT, _, hm, rfl, rfl, _, hs⟩ := ItemsM_trace h
  have h1 := sumW_ge tr hm
  have h2 := nums_le tr
  have h3 : sumW (itemsOf ((5, id) :: tr)) = vWidth 5 + sumW (itemsOf tr) := by simp [sumW, itemsOf]
  have h4 := vWidth_range 5
  have h5 := (sumW_items ((5, id) :: tr)).1
  refine ⟨by omega, by simp [itemsOf]; omega, fun x hx => ?_, h5, hs⟩
  obtain ⟨v, hv⟩ := nums_mem tr x hx
  have := vMay_range (v := v) (n := x) (hm _ hv)
  have := pow_le32 (k := (vWidth v).toNat) (by omega)
  unfold i64
  omega

set_option maxHeartbeats 4000000 in
set_option maxRecDepth 100000 in
theorem only_walk (W : World) (hW : Widths W) (A : Option Addr) (n c : Nat) (b : List Nat) (hs : Rep.byte.Sl W W.heap.size A n c b) (at_ : Int) (ha1 : -9223372036854775808 ≤ at_) (ha2 : at_ ≤ 9223372036854775807) :
    Calls Tryd.prog 4 #[.slice A n c, .int .i64 at_] W fun e w' => e = .returned (.bool true) ∧ Keep Never W w' := by
  obtain ⟨hrd, hlen, h8⟩ := bytes_rd hs
  have hnc : n ≤ c ∧ c ≤ maxLen := ⟨hs.2.1, hs.2.2.1⟩
  have Hlen := Lib.hid hlen
  have Hnc := Lib.hid hnc
  have Hrd := Lib.hid hrd
  have H8 := Lib.hid h8
  have HW := Lib.hid hW
  have Hg : Hid (0 < W.heap.size) := hW.lt
  clear hs hrd hlen h8 hnc hW
  by_cases hn : n ≤ 1500
  rotate_left
  · have hn' : (1500 : Int) < (n : Int) := by omega
    go_enter Tryd.func4, Tryd.ntmps4
    go_wp2_with fail
    refine (awake5_any _ HW.out).mono ?_
    rintro e w1 ⟨rfl, hk1⟩
    have HK1 := Lib.hid hk1
    clear hk1
    go_wp2_with fail
    go_ret
    exact ⟨rfl, HK1.out⟩
  have hn' : (n : Int) ≤ 1500 := by omega
  go_enter Tryd.func4, Tryd.ntmps4
  go_wp2_with fail
  refine (awake5_any _ HW.out).mono ?_
  rintro e w1 ⟨rfl, hk1⟩
  have HK1 := Lib.hid hk1
  clear hk1
  go_wp2_with fail
  refine (Get_any W.heap.size b at_ A n c w1 (Hrd.out.keep HK1.out (fun _ h => h.elim)) Hlen.out H8.out Hnc.out.1 Hnc.out.2 (by omega) (HW.out.keep HK1.out (fun h => h)) Hg.out HK1.out.size).mono ?_
  rintro e w2 ⟨id, A2, n2, c2, d2, x2, rfl, hk2, hpo⟩
  have HK2 := Lib.hid (HK1.out.trans hk2)
  have hk3 : Keep Never W (w2.alloc (.cells #[.int .i64 id, .slice A2 n2 c2] 26)) := HK2.out.alloc _
  have HK3 := Lib.hid hk3
  have hnew := Blk.new w2 26 #[.int .i64 id, .slice A2 n2 c2]
  have Hnew := Lib.hid hnew
  clear hk2 hk3 hnew
  unfold packCells
  rcases hpo with ⟨V, hg, rfl, hn2, hr2, hc2, hcm2, hin2⟩ | ⟨hg, hx, rfl, rfl, rfl, rfl, rfl⟩
  rotate_left
  · have hx0 : (x2 == 0) = false := by simpa using hx
    clear hx hg
    go_wp2_with fail
    go_ret
    exact ⟨rfl, HK3.out⟩
  obtain ⟨ha0, ha3, l, rest, hI, hleft, rfl⟩ := get_only hg
  obtain ⟨q1, q2, q3, q4, q5⟩ := ItemsM_short hI
  have hlay := length_layP (ItemsM_width hI)
  have hfit : at_ + sumW l ≤ 8 * (n : Int) := by
    have h1 := congrArg List.length hleft
    rw [length_leftB, List.length_append, Hlen.out] at h1
    rw [Hlen.out] at ha3
    omega
  obtain ⟨a, rfl⟩ : ∃ a : Nat, at_ = a := ⟨at_.toNat, by omega⟩
  obtain ⟨s, hsl⟩ : ∃ s : Nat, sumW l = s := ⟨(sumW l).toNat, by omega⟩
  rw [hsl] at hfit hlay q4 q5 ⊢
  have HI := Lib.hid hI
  have Hleft := Lib.hid hleft
  have Hq := Lib.hid (And.intro q1 (And.intro q2 q3))
  have Hlay := Lib.hid hlay
  have Hr2 := Lib.hid hr2
  have Hn2 := Lib.hid hn2
  have Hc2 := Lib.hid (And.intro hc2 hcm2)
  have Hsl := Lib.hid hsl
  clear hg hI hleft q1 q2 q3 hlay hr2 hn2 hc2 hcm2 hin2 ha3 hsl
  go_wp2_with fail
  refine (Items_at (B := w2.heap.size) HI.out (Hr2.out.alloc _) Hn2.out.symm Hc2.out.1 Hc2.out.2 Hq.out.2.2 (by have := Hq.out.1; omega) (HW.out.keep HK3.out (fun h => h)) (Nat.lt_of_lt_of_le Hg.out HK2.out.size) (by simp)).mono ?_
  rintro e w4 ⟨A4, n4, c4, x4, rfl, hk4, hpo⟩
  rcases hpo with ⟨l', h, rfl, hn4, ho4⟩ | ⟨h, _⟩
  rotate_left
  · cases h
  injection h with h
  subst h
  have HK4 := Lib.hid (HK3.out.trans hk4)
  have Ho4 := Lib.hid ho4
  have Hn4 := Lib.hid hn4
  have hf1 : ¬ ((a : Int) + (s : Int) < (a : Int)) := by omega
  have hf2 : ¬ ((8 : Int) * (n : Int) < (a : Int) + (s : Int)) := by omega
  clear hk4 ho4 hn4
  go_wp2_with fail
  refine (rbits_any A n c W.heap.size b Hlen.out w4 (Hrd.out.keep HK4.out (fun _ h => h.elim)) HK4.out.size H8.out (by omega)).mono ?_
  rintro e w5 ⟨A5, n5, c5, rfl, hn5, hc5, hr5, hk5, _⟩
  rw [Hlen.out] at hn5
  have HK5 := Lib.hid (HK4.out.trans hk5)
  have Hr5 := Lib.hid hr5
  have Ho5 := Lib.hid (Ho4.out.keep hk5 (fun _ _ h => h))
  have hszb : Hid (∀ w, (sizeOf 4).run Tryd.prog w = .ok 1 w) := fun w => by kernel_rfl
  have hj5 : a + s ≤ n5 := by omega
  have Hc5 := Lib.hid hc5
  clear hr5 hk5 Ho4 hc5 hf1 hf2
  go_wp2_with (refine wpList_cut rfl (.tmp 65) (.tmp 66) (.tmp 67) _ rfl Tryd.underlying35 hszb.out A5 n5 c5 a (a + s) s (by go_simp) (a : Int) ((a : Int) + (s : Int)) (by go_simp) (by go_simp) rfl (by omega) rfl hj5 Hc5.out ?_; intro A6 c6 HS)
  have hr6 := HS.out.1 _ _ _ Hr5.out
  rw [Nat.mul_one, Nat.mul_one, ← List.map_take, ← List.map_drop] at hr6
  have he6 : ((bitsB b).take (a + s)).drop a = layP l := by
    have h1 := Hleft.out
    rw [leftB, Int.toNat_natCast] at h1
    rw [List.drop_take, h1, show a + s - a = s by omega]
    exact List.take_left' (by have := Hlay.out; omega)
  rw [he6] at hr6
  have Hr6 := Lib.hid hr6
  clear hr6 he6 HS Hc5 hj5 Hr5
  go_wp2_with fail
  refine (laid_any l (ItemsM_width HI.out) (ItemsM_nums HI.out) A4 n4 c4 w5.heap.size w5 Hn4.out.symm (by have := Hn4.out; have := Hq.out.2.1; omega) Ho5.out.rd (Nat.le_refl _)).mono ?_
  rintro e w7 ⟨A7, n7, c7, rfl, hn7, ho7, hk7⟩
  have h7 : n7 = s := by have := Hlay.out; omega
  subst h7
  have HK7 := Lib.hid (HK5.out.trans hk7)
  have Hr7 := Lib.hid ho7.rd
  have Hr6' := Lib.hid (Hr6.out.keep hk7 (fun _ h => h.elim))
  clear hk7 ho7 hn7 Hr6
  go_wp2_with fail
  go_loopw [13] (fun i wr => ∃ k : Nat, k ≤ n7 ∧ i = .int .i64 k ∧ Hid (Keep Never w7 wr)) (fun i _ => n7 - (intOf i).toNat)
  case atStart => exact ⟨0, by omega, rfl, Keep.refl _ _⟩
  case round =>
    obtain ⟨k, hk, rfl, HH⟩ := hrel
    by_cases h0 : k < n7
    · obtain ⟨ad, x, hA, _, hx, hcx⟩ := (Hr7.out.keep HH.out (fun _ h => h.elim)).at1 h0
      obtain ⟨ad', y, hA', _, hy, hcy⟩ := (Hr6'.out.keep HH.out (fun _ h => h.elim)).at1 h0
      subst hA
      subst hA'
      obtain rfl : x = y := by rw [hx] at hy; injection hy
      have hki : (k : Int) < (n7 : Int) := by omega
      have hk00 : (0 : Int) ≤ (k : Int) := by omega
      clear hx hy
      go_wp2_with fail
      go_quiet (fail)
      go_wp2_with fail
      go_roundw
      case rel => exact ⟨k + 1, by omega, by go_num, HH.out.drewN _⟩
      case measure => simp [intOf]; omega
    · obtain rfl : k = n7 := by omega
      go_wp2_with fail
      go_ret
      exact ⟨rfl, HK7.out.trans HH.out⟩

end Go.Proofs.YtehloljfjpcniaaDoor
