/- Layer 5: PacketItems. -/
import Derived.Test.YtehloljfjpcniaaDoorRefE
import Derived.Test.YtehloljfjpcniaaDoorPackO
namespace Go.Proofs.YtehloljfjpcniaaDoor
open Go.RowKit

def okL (r : Except Int (List (Int × Int))) : List (Int × Int) := match r with | .ok l => l | .error _ => []
def erx (r : Except Int (List (Int × Int))) : Int := match r with | .ok _ => 0 | .error e => e
/-- what Items leaves is a list, whatever it is -/
theorem ItRet.rd {w w' : World} {r : Except Int (List (Int × Int))} {A : Option Addr} {n c : Nat} {x : Int} (h : (∃ l, r = .ok l ∧ x = 0 ∧ n = l.length ∧ Own w' w.heap.size 49 2 A n c (bitCells l)) ∨ (r = .error x ∧ x ≠ 0 ∧ A = none ∧ n = 0 ∧ c = 0)) :
    Rd w' w'.heap.size 2 A n (bitCells (okL r)) ∧ n = (okL r).length ∧ x = erx r := by
  rcases h with ⟨l, rfl, rfl, rfl, ho⟩ | ⟨rfl, _, rfl, rfl, rfl⟩
  · exact ⟨ho.rd, rfl, rfl⟩
  · exact ⟨Rd.nil _ _ _ _, rfl, rfl⟩

set_option maxHeartbeats 8000000 in
set_option maxRecDepth 100000 in
theorem items_walk (W : World) (hW : Widths W) (cs : Array Value) (p : Int × List Int) (hp : repPack.cells W W.heap.size p cs.toList) :
    Calls Tryd.prog 6 #[.agg cs] W fun e w' => e = .returned (.bool true) ∧ Keep Never W w' := by
  obtain ⟨A, n, c, rfl, hrd, hn, hnc, hcm, h64⟩ := pack_in hp
  obtain ⟨id, V⟩ := p
  simp only at hrd hn h64 ⊢
  have Hrd := Lib.hid hrd
  have Hn := Lib.hid hn
  have Hnc := Lib.hid (And.intro hnc hcm)
  have H64 := Lib.hid h64
  have HW := Lib.hid hW
  have Hg : Hid (0 < W.heap.size) := hW.lt
  have hk0 : Hid (Keep Never W (W.alloc (.cells #[.int .i64 id, .slice A n c] 26))) := (Keep.refl Never W).alloc _
  have hb0 : Hid (Blk (W.alloc (.cells #[.int .i64 id, .slice A n c] 26)) W.heap.size 26 #[.int .i64 id, .slice A n c]) := Blk.new W 26 _
  clear hp hrd hn hnc hcm h64 hW
  unfold packCells
  by_cases h3 : n ≤ 3000
  rotate_left
  · have h3' : (3000 : Int) < (n : Int) := by omega
    go_enter Tryd.func6, Tryd.ntmps6
    go_wp2_with fail
    refine (awake5_any _ (HW.out.keep hk0.out (fun h => h))).mono ?_
    rintro e w1 ⟨rfl, hk1⟩
    have HK1 := Lib.hid (hk0.out.trans hk1)
    have f1 : w1.cell? ⟨W.heap.size, 1, none⟩ = some (.slice A n c) := (hb0.out.keep hk1 (fun h => h)).cell 1
    clear hk1
    go_wp2_with fail
    go_ret
    exact ⟨rfl, HK1.out⟩
  have h3' : (n : Int) ≤ 3000 := by omega
  go_enter Tryd.func6, Tryd.ntmps6
  go_wp2_with fail
  refine (awake5_any _ (HW.out.keep hk0.out (fun h => h))).mono ?_
  rintro e w1 ⟨rfl, hk1⟩
  have HK1 := Lib.hid (hk0.out.trans hk1)
  have HB1 := Lib.hid (hb0.out.keep hk1 (fun h => h))
  have f0 : w1.cell? ⟨W.heap.size, 0, none⟩ = some (.int .i64 id) := HB1.out.cell 0
  have f1 : w1.cell? ⟨W.heap.size, 1, none⟩ = some (.slice A n c) := HB1.out.cell 1
  clear hk1
  go_wp2_with fail
  refine (Items_any W.heap.size id V A n c w1 (Hrd.out.keep HK1.out (fun _ h => h.elim)) Hn.out Hnc.out.1 Hnc.out.2 H64.out (by have := Hn.out; omega) (HW.out.keep HK1.out (fun h => h)) Hg.out HK1.out.size).mono ?_
  rintro e w2 ⟨A2, n2, c2, x2, rfl, hk2, hpo⟩
  have HK2 := Lib.hid (HK1.out.trans hk2)
  have HB2 := Lib.hid (HB1.out.keep hk2 (fun h => h))
  have g0 : w2.cell? ⟨W.heap.size, 0, none⟩ = some (.int .i64 id) := HB2.out.cell 0
  have g1 : w2.cell? ⟨W.heap.size, 1, none⟩ = some (.slice A n c) := HB2.out.cell 1
  obtain ⟨r2, n2e, x2e⟩ := ItRet.rd hpo
  have R2 := Lib.hid r2
  have N2 := Lib.hid n2e
  have X2 := Lib.hid x2e
  have L2 : Hid ((okL (ItemsM id V)).length ≤ 8200) := by
    cases h : ItemsM id V with
    | ok l => have := (ItemsM_short h).2.1; show (okL (.ok l)).length ≤ 8200; simp only [okL]; omega
    | error e => show 0 ≤ 8200; omega
  clear hk2 f0 f1 hpo r2 n2e x2e
  go_wp2_with fail
  refine (ritems_any W.heap.size id V A n c w2 (Hrd.out.keep HK2.out (fun _ h => h.elim)) Hn.out Hnc.out.1 H64.out (by omega) HK2.out.size).mono ?_
  rintro e w3 ⟨A3, n3, c3, x3, rfl, hk3, hpo⟩
  have HK3 := Lib.hid (HK2.out.trans hk3)
  have HB3 := Lib.hid (HB2.out.keep hk3 (fun h => h))
  obtain ⟨r3, n3e, x3e⟩ := ItRet.rd hpo
  have R2' := Lib.hid (R2.out.keep hk3 (fun _ h => h.elim))
  have R3 := Lib.hid (r3)
  have N3 := Lib.hid n3e
  obtain rfl : x2 = x3 := by rw [X2.out, x3e]
  have HS3 := Lib.hid hk3.size
  clear hk3 g0 g1 hpo r3 n3e x3e X2
  go_wp2_with fail
  refine (lists_any _ _ A2 A3 n2 n3 c2 c3 w3.heap.size w3 N2.out.symm N3.out.symm (by have := N2.out; have := L2.out; omega) (by have := N3.out; have := L2.out; omega) (R2'.out.more HS3.out) R3.out).mono ?_
  rintro e w4 ⟨rfl, hk4⟩
  have HK4 := Lib.hid (HK3.out.trans hk4)
  have HB4 := Lib.hid (HB3.out.keep hk4 (fun h => h))
  have hdt : decide ((okL (ItemsM id V)) = (okL (ItemsM id V))) = true := by simp
  rw [hdt]
  clear hk4 R2 R2' R3 N2 N3 L2 hdt
  have f0 : w4.cell? ⟨W.heap.size, 0, none⟩ = some (.int .i64 id) := HB4.out.cell 0
  have f1 : w4.cell? ⟨W.heap.size, 1, none⟩ = some (.slice A n c) := HB4.out.cell 1
  obtain ⟨S, hS⟩ : ∃ S, SizeM id V = S := ⟨_, rfl⟩
  have HSz : Hid (∀ w, Keep Never w4 w → Calls Tryd.prog 18 #[.agg #[.int .i64 id, .slice A n c]] w fun e w' => e = .returned (.int .i64 S) ∧ Keep Never w w') := by
    intro w hk
    have hk' := HK4.out.trans hk
    have := Size_any W.heap.size id V A n c w (Hrd.out.keep hk' (fun _ h => h.elim)) Hn.out Hnc.out.1 Hnc.out.2 H64.out (by have := Hn.out; omega) (HW.out.keep hk' (fun h => h)) Hg.out hk'.size
    rwa [hS] at this
  have HSr : Hid (∀ w, Keep Never w4 w → Calls Tryd.prog 19 #[.agg #[.int .i64 id, .slice A n c]] w fun e w' => e = .returned (.int .i64 S) ∧ Keep Never w w') := by
    intro w hk
    have hk' := HK4.out.trans hk
    have := rsize_any W.heap.size id V A n c w (Hrd.out.keep hk' (fun _ h => h.elim)) Hn.out Hnc.out.1 H64.out (by omega) hk'.size
    rwa [hS] at this
  obtain ⟨kb, hkb⟩ : ∃ b, (ptree id).isSome = b := ⟨_, rfl⟩
  obtain ⟨ub, hub⟩ : ∃ b, upP id = b := ⟨_, rfl⟩
  have HKn : Hid (∀ w, Calls Tryd.prog 20 #[.int .i64 id] w fun e w' => e = .returned (.bool kb) ∧ Keep Never w w') := by intro w; have := known_any id w; rwa [hkb] at this
  have HKr : Hid (∀ w, Calls Tryd.prog 21 #[.int .i64 id] w fun e w' => e = .returned (.bool kb) ∧ w = w') := by intro w; have := rknown_any id w; rwa [hkb] at this
  have HUp : Hid (∀ w, Calls Tryd.prog 22 #[.int .i64 id] w fun e w' => e = .returned (.bool ub) ∧ w = w') := by intro w; have := up_any id w; rwa [hub] at this
  have HUr : Hid (∀ w, Calls Tryd.prog 23 #[.int .i64 id] w fun e w' => e = .returned (.bool ub) ∧ w = w') := by intro w; have := rup_any id w; rwa [hub] at this
  have hlt : W.heap.size < w4.heap.size := HB4.out.lt
  clear hS hkb hub
  go_wp2_with fail
  go_region_held3 (fun w' => w'.cell? ⟨W.heap.size, 0, none⟩ = some (.int .i64 id) ∧ w'.cell? ⟨W.heap.size, 1, none⟩ = some (.slice A n c))
    (refine ⟨?_, ?_⟩ <;> first | go_keep | (rw [hk5.cell (by simp; omega) (fun h => h)]; go_keep) | (rw [hk6.cell (by have := hk5.size; simp at this ⊢; omega) (fun h => h)]; go_keep) | (rw [hk7.cell (by have := hk5.size; have := hk6.size; simp at *; omega) (fun h => h)]; go_keep))
    (first
      | (go_at_call 18; refine (HSz.out _ (Keep.refl Never w4).drew).mono ?_; rintro e w5 ⟨rfl, hk5⟩)
      | (go_at_call 19; refine (HSr.out _ ((Keep.refl Never w4).drew.trans hk5)).mono ?_; rintro e w6 ⟨rfl, hk6⟩)
      | (go_at_call 20; refine (HKn.out _).mono ?_; rintro e w7 ⟨rfl, hk7⟩)
      | (go_at_call 21; refine (HKr.out _).mono ?_; rintro e w8 ⟨rfl, rfl⟩)
      | (go_at_call 22; refine (HUp.out _).mono ?_; rintro e w8 ⟨rfl, rfl⟩)
      | (go_at_call 23; refine (HUr.out _).mono ?_; rintro e w8 ⟨rfl, rfl⟩))
  have HF := Lib.hid (HK4.out.trans ((((Keep.refl Never w4).drew.trans hk5).trans hk6).trans hk7))
  clear hk5 hk6 hk7 f0 f1
  go_wp2_with fail
  go_ret
  exact ⟨rfl, HF.out⟩

end Go.Proofs.YtehloljfjpcniaaDoor
