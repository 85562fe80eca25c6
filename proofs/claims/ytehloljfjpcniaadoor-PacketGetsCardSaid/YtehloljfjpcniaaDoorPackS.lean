/- Layer 5: the law's Bytes, awake. -/
import Derived.Test.YtehloljfjpcniaaDoorPackN
namespace Go.Proofs.YtehloljfjpcniaaDoor
open Go.RowKit

set_option maxHeartbeats 1000000 in
theorem bytes5_any (l : List (Int × Int)) (hw : ∀ y ∈ l, 0 ≤ y.2 ∧ y.2 ≤ 32) (hN : ∀ y ∈ l, 0 ≤ y.1 ∧ y.1 ≤ 9223372036854775807) (A : Option Addr) (n c B : Nat) (w : World) (hn : l.length = n) (h5 : n ≤ 10000) (hr : Rd w B 2 A n (bitCells l)) (hB : B ≤ w.heap.size) :
    Calls Tryd.prog 26 #[.slice A n c] w (RBytes w (layP l)) := by
  have hL := laid_any l hw hN A n c B w hn h5 hr hB
  have hle : (layP l).length ≤ 1000000 := by
    have := layP_take_len hw l.length
    rw [List.take_length] at this
    omega
  have HL := Lib.hid hL
  have Hle := Lib.hid hle
  clear hw hN hn hr hL hle
  go_enter Tryd.func26, Tryd.ntmps26
  go_wp2_with fail
  refine HL.out.mono ?_
  rintro e w1 ⟨A1, n1, c1, rfl, hn1, ho, hk⟩
  have hb := rbytes_any A1 n1 c1 w1.heap.size (layP l) hn1.symm w1 ho.rd (Nat.le_refl _) (by have := Hle.out; omega)
  have Hb := Lib.hid hb
  have Hk := Lib.hid hk
  clear hn1 ho hk hb
  go_wp2_with fail
  refine Hb.out.mono ?_
  rintro e w2 ⟨A2, n2, c2, rfl, h1, h2, h3, h4, h5⟩
  have HF : Hid (RBytes w (layP l) (.returned (.slice A2 n2 c2)) w2) := ⟨A2, n2, c2, rfl, h1, h2, Hk.out.trans h3, h4, h5⟩
  clear h1 h2 h3 h4 h5
  go_wp2_with fail
  go_ret
  exact HF.out

theorem ItemsM_nums {id : Int} {V : List Int} {l : List (Int × Int)} (h : ItemsM id V = .ok l) : ∀ y ∈ l, 0 ≤ y.1 ∧ y.1 ≤ 9223372036854775807 := by
  obtain ⟨T, tr, hT, _, hm, _, rfl, _, _⟩ := ItemsM_trace h
  intro y hy
  simp only [itemsOf, List.map_cons, List.mem_cons, List.mem_map] at hy
  rcases hy with rfl | ⟨x, hx, rfl⟩
  · have := (ptree_chk hT).2.2.2; simp only; omega
  · have h1 := vMay_range (hm x hx)
    have h2 := pow_le32 (k := (vWidth x.1).toNat) (by omega)
    simp only
    omega

theorem get_bytes {id : Int} {V : List Int} {l : List (Int × Int)} (h : ItemsM id V = .ok l) : GetM (bytesOf (layP l)) 0 = .ok (id, V, sumW l) := by
  obtain ⟨z, h1, h2⟩ := leftB_bytesOf (layP l) 0 (Nat.zero_le _)
  rw [List.drop_zero] at h1
  have := get_of h h2 h1
  simpa using this

/-- Get, at any bytes and any place -/
theorem Get_any (B : Nat) (b : List Nat) (at_ : Int) (A : Option Addr) (n c : Nat) (w : World) (hr : Rd w B 1 A n (b.map u8v)) (hl : b.length = n) (h8 : ∀ x ∈ b, x < 256) (hc : n ≤ c) (hcm : c ≤ maxLen) (hn : n ≤ 1500) (hW : Widths w) (hg : 0 < B) (hB : B ≤ w.heap.size) :
    Calls Tryd.prog 10 #[.slice A n c, .int .i64 at_] w (GRet w (GetM b at_)) := by
  by_cases h : at_ < 0 ∨ 8 * (n : Int) < at_
  · exact Get_far b at_ A n c w hl hn h
  · obtain ⟨a, rfl⟩ : ∃ a : Nat, at_ = a := ⟨at_.toNat, by omega⟩
    exact Get_near B b a A n c w hr hl h8 hc hcm hn (by omega) hW hg hB

theorem items57 : ItemsM 57 [1, 5, 100, 7] = .ok [(57, 8), (1, 2), (49, 13), (5, 8), (100, 10), (7, 8)] := by kernel_rfl
theorem items57bad : ItemsM 57 [3, 5, 100, 7] = .error 20 := by kernel_rfl
theorem items99 : ItemsM 99 [] = .error 50 := by kernel_rfl
theorem len57 : (bytesOf (layP [(57, 8), (1, 2), (49, 13), (5, 8), (100, 10), (7, 8)])).length = 7 := by kernel_rfl

/-- Items at a packet that lies in memory -/
theorem Items_at {B : Nat} {id : Int} {V : List Int} {r : Except Int (List (Int × Int))} (hres : ItemsM id V = r) {A : Option Addr} {n c : Nat} {w : World} (hV : Rd w B 1 A n (V.map (.int .i64))) (hn : V.length = n) (hc : n ≤ c) (hcm : c ≤ maxLen) (hb : ∀ x ∈ V, i64 x) (h3 : V.length ≤ 8200) (hW : Widths w) (hg : 0 < B) (hB : B ≤ w.heap.size) :
    Calls Tryd.prog 13 #[.agg #[.int .i64 id, .slice A n c]] w (ItRet w r) := by subst hres; exact Items_any B id V A n c w hV hn hc hcm hb h3 hW hg hB
theorem known_at {id : Int} {b : Bool} (h : (ptree id).isSome = b) (w : World) :
    Calls Tryd.prog 20 #[.int .i64 id] w fun e w' => e = .returned (.bool b) ∧ Keep Never w w' := by subst h; exact known_any id w

theorem k57 : (ptree 57).isSome = true := by kernel_rfl
theorem k2 : (ptree 2).isSome = false := by kernel_rfl
theorem u11 : upP 11 = true := by kernel_rfl
theorem up_at {id : Int} {b : Bool} (h : upP id = b) (w : World) :
    Calls Tryd.prog 22 #[.int .i64 id] w fun e w' => e = .returned (.bool b) ∧ w = w' := by subst h; exact up_any id w

set_option maxHeartbeats 4000000 in
set_option maxRecDepth 100000 in
theorem awake5_any (w : World) (hW : Widths w) : Calls Tryd.prog 9 #[] w fun e w' => e = .returned (.bool true) ∧ Keep Never w w' := by
  have HW := Lib.hid hW
  have Hg : Hid (0 < w.heap.size) := hW.lt
  clear hW
  go_enter Tryd.func9, Tryd.ntmps9
  go_wp2_with fail
  have hk0 : Keep Never w (w.alloc (.cells #[.int .i64 1, .int .i64 5, .int .i64 100, .int .i64 7] 3)) := (Keep.refl Never w).alloc _
  refine (Items_at (B := w.heap.size + 1) items57 (by have := Rd.of_blk (size := 1) (n := 4) (Blk.new w 3 #[.int .i64 1, .int .i64 5, .int .i64 100, .int .i64 7]) rfl; simpa using this) rfl (by decide) (by unfold maxLen; omega) (by unfold i64; decide) (by decide) (HW.out.keep hk0 (fun h => h)) (by have := Hg.out; omega) (by simp)).mono ?_
  rintro e w1 ⟨A1, n1, c1, x1, rfl, hk1, hpo⟩
  rcases hpo with ⟨l, h, rfl, rfl, ho⟩ | ⟨h, _⟩
  rotate_left
  · cases h
  injection h with h
  subst h
  have hkw1 := hk0.trans hk1
  obtain ⟨g, cur, hA, _, hgb, _, _, _, hct⟩ : ∃ g cur, A1 = some ⟨g, 0, none⟩ ∧ _ ≤ g ∧ Blk w1 g 49 cur ∧ _ := by
    rcases ho.form with ⟨_, h0, _⟩ | h
    · cases h0
    · exact h
  subst hA
  have Hkw1 := Lib.hid hkw1
  have Ho := Lib.hid ho
  clear hk0 hk1 ho hkw1 hgb hct
  go_wp2_with fail
  have hk2 : Keep Never w (w1.alloc (.cells #[.int .i64 3, .int .i64 5, .int .i64 100, .int .i64 7] 3)) := Hkw1.out.alloc _
  refine (Items_at (B := w1.heap.size + 1) items57bad (by have := Rd.of_blk (size := 1) (n := 4) (Blk.new w1 3 #[.int .i64 3, .int .i64 5, .int .i64 100, .int .i64 7]) rfl; simpa using this) rfl (by decide) (by unfold maxLen; omega) (by unfold i64; decide) (by decide) (HW.out.keep hk2 (fun h => h)) (by have := Hg.out; have := Hkw1.out.size; omega) (by simp)).mono ?_
  rintro e w2 ⟨A2, n2, c2, x2, rfl, hk3, hpo⟩
  rcases hpo with ⟨l, h, _⟩ | ⟨h, _, rfl, rfl, rfl⟩
  · cases h
  injection h with h
  subst h
  have hk12 : Keep Never w1 w2 := ((Keep.refl Never w1).alloc _).trans hk3
  have Hk12 := Lib.hid hk12
  clear hk12 hk3 hk2
  go_wp2_with fail
  refine (Items_at (B := w2.heap.size) items99 (Rd.nil _ _ _ _) rfl (by decide) (by unfold maxLen; omega) (by simp) (by decide) (HW.out.keep (Hkw1.out.trans Hk12.out) (fun h => h)) (by have := Hg.out; have := Hkw1.out.size; have := Hk12.out.size; omega) (Nat.le_refl _)).mono ?_
  rintro e w3 ⟨A3, n3, c3, x3, rfl, hk3, hpo⟩
  rcases hpo with ⟨l, h, _⟩ | ⟨h, _, rfl, rfl, rfl⟩
  · cases h
  injection h with h
  subst h
  have hk13 : Keep Never w1 w3 := Hk12.out.trans hk3
  have ho3 := Ho.out.keep hk13 (fun _ _ h => h)
  have hcell : w3.cell? ⟨g, 4, none⟩ = some (.int .i64 49) := by
    obtain ⟨ad, had, _, hcc⟩ := ho3.rd.2 (by decide)
    injection had with had
    subst had
    exact hcc 4 _ rfl
  have Hk3 := Lib.hid (Hkw1.out.trans hk13)
  have Ho3 := Lib.hid ho3
  clear Ho Hk12 Hkw1 hk13 ho3 hk3
  go_wp2_with fail
  refine (bytes5_any [(57, 8), (1, 2), (49, 13), (5, 8), (100, 10), (7, 8)] (by decide) (by decide) (some ⟨g, 0, none⟩) 6 c1 w3.heap.size w3 rfl (by decide) Ho3.out.rd (Nat.le_refl _)).mono ?_
  rintro e w4 ⟨A4, n4, c4, rfl, hn4, hr4, hk4, hc4, hcm4⟩
  have hkw4 := Hk3.out.trans hk4
  have h4 : n4 = 7 := hn4.trans len57
  have HW4 := Lib.hid (HW.out.keep hkw4 (fun h => h))
  have Hg4 : Hid (0 < w4.heap.size) := Lib.hid (Nat.lt_of_lt_of_le Hg.out hkw4.size)
  have Hr4 := Lib.hid hr4
  have Hc4 := Lib.hid (And.intro hc4 hcm4)
  have Hn4 := Lib.hid hn4
  have H4 := Lib.hid h4
  have Hk4 := Lib.hid hkw4
  clear Ho3 Hk3 HW Hg hr4 hc4 hcm4 hn4 hkw4 hcell hk4 h4
  go_wp2_with fail
  refine (Get_any w4.heap.size _ 0 A4 n4 c4 w4 Hr4.out Hn4.out.symm (bytesTo_lt _ _) Hc4.out.1 Hc4.out.2 (by have := H4.out; omega) HW4.out Hg4.out (Nat.le_refl _)).mono ?_
  rintro e w5 ⟨id5, A5, n5, c5, d5, x5, rfl, hk5, hpo⟩
  rw [get_bytes items57] at hpo
  rcases hpo with ⟨V, h, rfl, hn5, hr5, _, _, _⟩ | ⟨h, _⟩
  rotate_left
  · cases h
  injection h with h
  injection h with h h'
  injection h' with h' h''
  subst h h' h''
  have h5 : n5 = 4 := hn5
  subst h5
  obtain ⟨ad, rfl, had, hcc⟩ := hr5.2 (by decide)
  have hcell : w5.cell? ⟨ad.block, ad.off + 2, none⟩ = some (.int .i64 100) := hcc 2 _ rfl
  have Hk5 := Lib.hid (Hk4.out.trans hk5)
  clear hcc hr5 hk5 Hk4 Hr4 HW4 Hg4 Hc4 Hn4 H4 hn5
  unfold packCells
  go_wp2_with fail
  refine (known_at (b := true) k57 _).mono ?_
  rintro e w6 ⟨rfl, hk6⟩
  go_wp2_with fail
  refine (known_at (b := false) k2 _).mono ?_
  rintro e w7 ⟨rfl, hk7⟩
  go_wp2_with fail
  refine (up_at (b := true) u11 _).mono ?_
  rintro e w8 ⟨rfl, rfl⟩
  have HK : Hid (Keep Never w w7) := Lib.hid (((Hk5.out.alloc _).trans hk6).trans hk7)
  clear hk6 hk7 hcell
  go_wp2_with fail
  go_ret
  exact ⟨rfl, HK.out⟩

end Go.Proofs.YtehloljfjpcniaaDoor
