/- Chapter 5, plain laws: what is laid down comes up again, and nothing else. -/
import Derived.Test.YtiebjnibmomcjaaDoorPackM
import Derived.Test.YtiebjnibmomcjaaDoorSld
import Derived.Test.YtiebjnibmomcjaaDoorBitsY
namespace Go.Proofs.YtiebjnibmomcjaaDoor
open Go.RowKit

theorem pids_may : ∀ id ∈ pids, vMay 5 id = true := by decide +kernel
theorem may7 {S : Int} (h0 : 0 ≤ S) (h1 : S ≤ 8184) : vMay 7 S = true := by
  have e1 : vWidth 7 = 13 := rfl
  have e2 : vMost 7 = 8191 := by decide
  simp only [vMay, e1, e2, decide_eq_true_eq]
  refine ⟨by decide, h0, ?_, .inl (by omega)⟩
  have : (((2 ^ (13 : Int).toNat : Nat) : Int)) = 8192 := by decide
  omega
/-- one L_PACKET -/
theorem one7 {id : Int} {T : Parts} (hl : lead id T = true) {tr : List (Int × Int)} (h : Mat T 0 tr) (S : Int) :
    (itemsOf ((5, id) :: tr)).set (atP id) (S, 13) = itemsOf ((5, id) :: put7 S tr) ∧ last7 0 (put7 S tr) = S ∧ put7 (last7 0 tr) (put7 0 tr) = tr := by
  have hno : ∀ (t : List (Int × Int)) (m : Int), (∀ x ∈ t, x.1 ≠ 7) → put7 m t = t := by
    intro t m h7
    unfold put7
    rw [List.map_congr_left (g := fun x => x) (fun x hx => if_neg (h7 x hx))]
    simp
  have hla : ∀ (t : List (Int × Int)) (m : Int), (∀ x ∈ t, x.1 ≠ 7) → last7 m t = m := by
    intro t
    induction t with
    | nil => intro m _; rfl
    | cons x t ih =>
      intro m h7
      obtain ⟨v, n⟩ := x
      simp only [last7, if_neg (h7 (v, n) (by simp))]
      exact ih m (fun y hy => h7 y (by simp [hy]))
  have e7 : ∀ (m n : Int) (t : List (Int × Int)), put7 m ((7, n) :: t) = (7, m) :: put7 m t := fun m n t => by simp [put7]
  have e6 : ∀ (m n : Int) (t : List (Int × Int)), put7 m ((6, n) :: t) = (6, n) :: put7 m t := fun m n t => by simp [put7]
  have l7 : ∀ (m n : Int) (t : List (Int × Int)), last7 m ((7, n) :: t) = last7 n t := fun m n t => by simp [last7]
  have l6 : ∀ (m n : Int) (t : List (Int × Int)), last7 m ((6, n) :: t) = last7 m t := fun m n t => by simp [last7]
  rcases trace_lead hl h with ⟨hu, m, t, rfl, h7⟩ | ⟨hu, a, m, t, rfl, h7⟩
  · have ea : atP id = 1 := by simp [atP, hu]
    refine ⟨?_, ?_, ?_⟩
    · rw [ea, e7, hno t S h7]; rfl
    · rw [e7, hno t S h7, l7, hla t S h7]
    · rw [l7, hla t m h7, e7, hno t 0 h7, e7, hno t m h7]
  · have ea : atP id = 2 := by simp [atP, hu]
    refine ⟨?_, ?_, ?_⟩
    · rw [ea, e6, e7, hno t S h7]; rfl
    · rw [e6, e7, hno t S h7, l6, l7, hla t S h7]
    · rw [l6, l7, hla t m h7, e6, e7, hno t 0 h7, e6, e7, hno t m h7]
theorem ItemsM_trace {id : Int} {V : List Int} {l : List (Int × Int)} (h : ItemsM id V = .ok l) :
    ∃ T tr, ptree id = some T ∧ Mat T 0 tr ∧ mayAll tr ∧ nums tr = V ∧ l = itemsOf ((5, id) :: tr) ∧ last7 0 tr = sumW l ∧ sumW l ≤ 8184 := by
  obtain ⟨out, ho, hl, hS, hsum, _, _⟩ := ItemsM_at h
  obtain ⟨T, tr, hT, rfl, hM, hV, h7⟩ := itemsM_ok ho
  have hlead := (ptree_chk hT).2.2.1
  obtain ⟨h1, h2, _⟩ := one7 hlead hM (sumW (itemsOf ((5, id) :: tr)))
  have h0 := (sumW_items ((5, id) :: tr)).1
  refine ⟨T, put7 (sumW (itemsOf ((5, id) :: tr))) tr, hT, hM.put7 _, ?_, by rw [nums_put7, hV], by rw [hl, h1], by rw [h2, hsum], by omega⟩
  intro x hx
  simp only [put7, List.mem_map] at hx
  obtain ⟨y, hy, rfl⟩ := hx
  rcases h7 y hy with ⟨e, _⟩ | ⟨e, hm⟩
  · rw [if_pos e]; exact may7 h0 hS
  · rw [if_neg e]; exact hm
theorem layT_cons (x : Int × Int) (tr : List (Int × Int)) : layT (x :: tr) = bitsOf x.2.toNat (vWidth x.1).toNat ++ layT tr := by simp [layT]
/-- what is laid down comes up -/
theorem get_of {b : List Nat} {a : Nat} {id : Int} {V : List Int} {l : List (Int × Int)} {rest : List Bool} (h : ItemsM id V = .ok l) (ha : a ≤ 8 * b.length) (hb : leftB b a = layP l ++ rest) : GetM b a = .ok (id, V, (a : Int) + sumW l) := by
  obtain ⟨T, tr, hT, hM, hm, hV, rfl, h7, hS⟩ := ItemsM_trace h
  have hc := (ptree_chk hT).2.1
  have hlen : ((layP (itemsOf ((5, id) :: tr))).length : Int) = sumW (itemsOf ((5, id) :: tr)) := length_layP (ItemsM_width h)
  rw [layP_items, layT_cons] at hb hlen
  have h5 := valG_lay (v := 5) (x := id) (pids_may id (ptree_id hT)) (layT tr ++ rest) 0 []
  rw [if_neg (by decide)] at h5
  have hg := G_of hc hM hm rest 0 []
  unfold GetM
  rw [if_neg (by omega), Int.toNat_natCast, hb, List.append_assoc, h5]
  simp only [hT]
  rw [hg]
  simp only [h7]
  have hused : ((bitsOf id.toNat (vWidth 5).toNat ++ (layT tr ++ rest)).length : Int) - rest.length = sumW (itemsOf ((5, id) :: tr)) := by
    rw [← hlen]
    simp only [List.length_append]
    omega
  rw [hused, if_neg (by simp), if_neg (by omega), List.nil_append, hV]
theorem sumW_put7 (id m : Int) (tr : List (Int × Int)) : sumW (itemsOf ((5, id) :: put7 m tr)) = sumW (itemsOf ((5, id) :: tr)) := by
  have : (itemsOf (put7 m tr)).map (·.2) = (itemsOf tr).map (·.2) := by
    simp only [itemsOf, put7, List.map_map]
    apply List.map_congr_left
    intro x _
    simp only [Function.comp]
    by_cases h : x.1 = 7
    · rw [if_pos h, h]
    · rw [if_neg h]
  simp only [sumW, itemsOf, List.map_cons, List.sum_cons] at this ⊢
  rw [this]
/-- what comes up was laid down -/
theorem get_only {b : List Nat} {a : Int} {id : Int} {V : List Int} {e : Int} (h : GetM b a = .ok (id, V, e)) :
    0 ≤ a ∧ a ≤ 8 * (b.length : Int) ∧ ∃ l rest, ItemsM id V = .ok l ∧ leftB b a.toNat = layP l ++ rest ∧ e = a + sumW l := by
  unfold GetM at h
  by_cases hr : a < 0 ∨ 8 * (b.length : Int) < a
  · rw [if_pos hr] at h; cases h
  rw [if_neg hr] at h
  refine ⟨by omega, by omega, ?_⟩
  rcases h5 : valG 5 ⟨leftB b a.toNat, 0, []⟩ with e5 | ⟨id', s1⟩
  · rw [h5] at h; cases h
  rw [h5] at h
  simp only at h
  cases hT : ptree id' with
  | none => rw [hT] at h; cases h
  | some T =>
    rw [hT] at h
    simp only at h
    rcases hw : walkL valG T 0 ⟨s1.bits, 0, []⟩ with ew | s2
    · rw [hw] at h; cases h
    rw [hw] at h
    simp only at h
    by_cases hs : s2.size ≠ ((leftB b a.toNat).length : Int) - s2.bits.length
    · rw [if_pos hs] at h; cases h
    rw [if_neg hs] at h
    by_cases hb : 8184 < ((leftB b a.toNat).length : Int) - s2.bits.length
    · rw [if_pos hb] at h; cases h
    rw [if_neg hb] at h
    simp only [Except.ok.injEq, Prod.mk.injEq] at h
    obtain ⟨rfl, rfl, rfl⟩ := h
    obtain ⟨tr, ⟨g1, g2, g3, g4⟩, hM⟩ := G_trace (ptree_chk hT).2.1 hw
    simp only [List.nil_append] at g1 g2 g3
    have hh : leftB b a.toNat = layT [(5, id')] ++ s1.bits := by
      unfold valG at h5
      by_cases he : getE (leftB b a.toNat).length (vWidth 5) ≠ 0
      · rw [if_pos he] at h5; cases h5
      · rw [if_neg he] at h5
        have he' : getE (leftB b a.toNat).length (vWidth 5) = 0 := by simpa using he
        split at h5
        · simp only [Except.ok.injEq, Prod.mk.injEq] at h5
          obtain ⟨e1, e2⟩ := h5
          have := valG_one he'
          rw [e1] at this
          rw [← e2]
          exact this
        · cases h5
    rw [g1, ← List.append_assoc, ← layT_app] at hh
    have hi := itemsM_of hT hM g4
    rw [← g2] at hi
    obtain ⟨o1, o2, o3⟩ := one7 (ptree_chk hT).2.2.1 (hM.put7 0) (last7 0 tr)
    have o3' := (one7 (ptree_chk hT).2.2.1 hM 0).2.2
    have hsum : sumW (itemsOf ((5, id') :: put7 0 tr)) = sumW (itemsOf ((5, id') :: tr)) := by
      exact sumW_put7 _ _ _
    have hlen : ((layP (itemsOf ((5, id') :: tr))).length : Int) = sumW (itemsOf ((5, id') :: tr)) := length_layP (fun y hy => by
      simp only [itemsOf, List.mem_map] at hy
      obtain ⟨x, _, rfl⟩ := hy
      exact vWidth_range x.1)
    rw [layP_items] at hlen
    have hused : ((leftB b a.toNat).length : Int) - s2.bits.length = sumW (itemsOf ((5, id') :: tr)) := by
      rw [hh, List.length_append, ← hlen]
      simp only [List.singleton_append]
      omega
    rw [hused] at hs hb ⊢
    have hsz : last7 0 tr = sumW (itemsOf ((5, id') :: tr)) := by rw [← g3]; simpa using hs
    refine ⟨itemsOf ((5, id') :: tr), s2.bits, ?_, by rw [layP_items]; exact hh, rfl⟩
    unfold ItemsM
    rw [hi]
    simp only
    rw [hsum, if_neg hb, ← hsz, o1, o3']

/-- a packet that is cut off falls short -/
theorem get_cut {id : Int} {V : List Int} {l : List (Int × Int)} (h : ItemsM id V = .ok l) {b : List Nat} {k : Nat} (hk : 8 * k < sumW l) (hb : bitsB b = (layP l).take (8 * k)) : GetM b 0 = .error 10 := by
  obtain ⟨T, tr, hT, hM, hm, hV, rfl, h7, hS⟩ := ItemsM_trace h
  have hc := (ptree_chk hT).2.1
  have hlen : ((layP (itemsOf ((5, id) :: tr))).length : Int) = sumW (itemsOf ((5, id) :: tr)) := length_layP (ItemsM_width h)
  rw [layP_items, layT_cons] at hb hlen
  have hl0 : leftB b (0 : Int).toNat = (bitsOf id.toNat (vWidth 5).toNat ++ layT tr).take (8 * k) := by unfold leftB; simpa using hb
  unfold GetM
  rw [if_neg (by omega), hl0]
  have e8 : (vWidth 5).toNat = 8 := rfl
  cases k with
  | zero =>
    have : valG 5 ⟨([] : List Bool), 0, []⟩ = .error 10 := rfl
    simp only [Nat.mul_zero, List.take_zero]
    rw [this]
  | succ k =>
    have ht : (bitsOf id.toNat (vWidth 5).toNat ++ layT tr).take (8 * (k + 1)) = bitsOf id.toNat (vWidth 5).toNat ++ (layT tr).take (8 * k) := by
      rw [List.take_append, List.take_of_length_le (by rw [length_bitsOf, e8]; omega), length_bitsOf, e8, show 8 * (k + 1) - 8 = 8 * k by omega]
    rw [ht]
    have h5 := valG_lay (v := 5) (x := id) (pids_may id (ptree_id hT)) ((layT tr).take (8 * k)) 0 []
    rw [if_neg (by decide)] at h5
    rw [h5]
    simp only [hT]
    rw [List.length_append, length_bitsOf, e8] at hlen
    rw [G_cut hc hM hm (8 * k) (by omega) 0 []]
theorem leftB_bytesOf (L : List Bool) (a : Nat) (ha : a ≤ L.length) : ∃ z, leftB (bytesOf L) a = L.drop a ++ z ∧ a ≤ 8 * (bytesOf L).length := by
  unfold leftB
  rw [bitsB_bytesOf, List.drop_append_of_le_length ha]
  exact ⟨_, rfl, by rw [length_bytesOf]; omega⟩
/-- no two packets have the same bits -/
theorem get_one {id : Int} {V V' : List Int} {l m : List (Int × Int)} (h : ItemsM id V = .ok l) (h' : ItemsM id V' = .ok m) (e : layP l = layP m) : V = V' := by
  obtain ⟨z, h1, h2⟩ := leftB_bytesOf (layP l) 0 (Nat.zero_le _)
  rw [List.drop_zero] at h1
  have g1 := get_of h h2 h1
  rw [e] at h1 h2 g1
  have g2 := get_of h' h2 h1
  rw [g1] at g2
  simp only [Except.ok.injEq, Prod.mk.injEq, true_and] at g2
  exact g2.1
theorem back_of {id : Int} {V : List Int} {l : List (Int × Int)} (h : ItemsM id V = .ok l) (ahead : List Bool) (behind : List Nat) :
    GetM (bytesOf (ahead ++ layP l ++ bitsB behind)) (ahead.length : Nat) = .ok (id, V, (ahead.length : Int) + sumW l) := by
  obtain ⟨z, h1, h2⟩ := leftB_bytesOf (ahead ++ layP l ++ bitsB behind) ahead.length (by simp)
  rw [List.append_assoc ahead, List.drop_left' rfl] at h1
  rw [List.append_assoc] at h1
  rw [List.append_assoc] at h2 ⊢
  exact get_of h h2 h1

end Go.Proofs.YtiebjnibmomcjaaDoor

namespace Go.Proofs.YtiebjnibmomcjaaDoor
open Go.RowKit

theorem ItemsM_nums {id : Int} {V : List Int} {l : List (Int × Int)} (h : ItemsM id V = .ok l) : ∀ y ∈ l, 0 ≤ y.1 ∧ y.1 ≤ 9223372036854775807 := by
  obtain ⟨T, tr, hT, _, hm, _, rfl, _, _⟩ := ItemsM_trace h
  intro y hy
  simp only [itemsOf, List.map_cons, List.mem_cons, List.mem_map] at hy
  rcases hy with rfl | ⟨x, hx, rfl⟩
  · have := (ptree_chk hT).2.2.2; simp only; omega
  · have h1 := vMay_range (hm x hx)
    have h2 := pow_le32 (k := (vWidth x.1).toNat) (by omega)
    simp only
    omega

theorem get_bytes {id : Int} {V : List Int} {l : List (Int × Int)} (h : ItemsM id V = .ok l) : GetM (bytesOf (layP l)) 0 = .ok (id, V, sumW l) := by
  obtain ⟨z, h1, h2⟩ := leftB_bytesOf (layP l) 0 (Nat.zero_le _)
  rw [List.drop_zero] at h1
  have := get_of h h2 h1
  simpa using this

/-- Get, at any bytes and any place -/
theorem Get_any (B : Nat) (b : List Nat) (at_ : Int) (A : Option Addr) (n c : Nat) (w : World) (hr : Rd w B 1 A n (b.map u8v)) (hl : b.length = n) (h8 : ∀ x ∈ b, x < 256) (hc : n ≤ c) (hcm : c ≤ maxLen) (hn : n ≤ 1500) (hW : Widths w) (hg : 0 < B) (hB : B ≤ w.heap.size) :
    Calls Tryd.prog 46 #[.slice A n c, .int .i64 at_] w (GRet w (GetM b at_)) := by
  by_cases h : at_ < 0 ∨ 8 * (n : Int) < at_
  · exact Get_far b at_ A n c w hl hn h
  · obtain ⟨a, rfl⟩ : ∃ a : Nat, at_ = a := ⟨at_.toNat, by omega⟩
    exact Get_near B b a A n c w hr hl h8 hc hcm hn (by omega) hW hg hB

theorem items57 : ItemsM 57 [1, 5, 100, 7] = .ok [(57, 8), (1, 2), (49, 13), (5, 8), (100, 10), (7, 8)] := by kernel_rfl
theorem items57bad : ItemsM 57 [3, 5, 100, 7] = .error 20 := by kernel_rfl
theorem items99 : ItemsM 99 [] = .error 50 := by kernel_rfl
theorem len57 : (bytesOf (layP [(57, 8), (1, 2), (49, 13), (5, 8), (100, 10), (7, 8)])).length = 7 := by kernel_rfl

/-- Items at a packet that lies in memory -/
theorem Items_at {B : Nat} {id : Int} {V : List Int} {r : Except Int (List (Int × Int))} (hres : ItemsM id V = r) {A : Option Addr} {n c : Nat} {w : World} (hV : Rd w B 1 A n (V.map (.int .i64))) (hn : V.length = n) (hc : n ≤ c) (hcm : c ≤ maxLen) (hb : ∀ x ∈ V, i64 x) (h3 : V.length ≤ 8200) (hW : Widths w) (hg : 0 < B) (hB : B ≤ w.heap.size) :
    Calls Tryd.prog 28 #[.agg #[.int .i64 id, .slice A n c]] w (ItRet w r) := by subst hres; exact Items_any B id V A n c w hV hn hc hcm hb h3 hW hg hB
theorem known_at {id : Int} {b : Bool} (h : (ptree id).isSome = b) (w : World) :
    Calls Tryd.prog 72 #[.int .i64 id] w fun e w' => e = .returned (.bool b) ∧ Keep Never w w' := by subst h; exact known_any id w

theorem k57 : (ptree 57).isSome = true := by kernel_rfl
theorem k2 : (ptree 2).isSome = false := by kernel_rfl
theorem u11 : upP 11 = true := by kernel_rfl
theorem up_at {id : Int} {b : Bool} (h : upP id = b) (w : World) :
    Calls Tryd.prog 21 #[.int .i64 id] w fun e w' => e = .returned (.bool b) ∧ w = w' := by subst h; exact up_any id w

end Go.Proofs.YtiebjnibmomcjaaDoor

namespace Go.Proofs.YtiebjnibmomcjaaDoor
open Go.RowKit

theorem sumW_ge : ∀ (tr : List (Int × Int)), mayAll tr → (tr.length : Int) ≤ sumW (itemsOf tr)
  | [], _ => by simp [sumW, itemsOf]
  | x :: t, h => by
    have h1 := sumW_ge t (fun y hy => h y (by simp [hy]))
    have h2 := (vMay_range (h x (by simp))).1
    simp only [itemsOf, sumW, List.map_cons, List.sum_cons, List.length_cons] at h1 ⊢
    omega
theorem nums_le : ∀ (tr : List (Int × Int)), (nums tr).length ≤ tr.length
  | [] => Nat.le_refl _
  | (v, n) :: t => by
    have := nums_le t
    simp only [nums]
    split <;> simp <;> omega
theorem nums_mem : ∀ (tr : List (Int × Int)) (x : Int), x ∈ nums tr → ∃ v, (v, x) ∈ tr
  | [], x, h => by simp [nums] at h
  | (v, n) :: t, x, h => by
    simp only [nums] at h
    split at h
    · obtain ⟨v', hv⟩ := nums_mem t x h; exact ⟨v', by simp [hv]⟩
    · rcases List.mem_cons.1 h with rfl | h
      · exact ⟨v, by simp⟩
      · obtain ⟨v', hv⟩ := nums_mem t x h; exact ⟨v', by simp [hv]⟩
theorem ItemsM_short {id : Int} {V : List Int} {l : List (Int × Int)} (h : ItemsM id V = .ok l) : V.length ≤ 8190 ∧ l.length ≤ 8190 ∧ (∀ x ∈ V, i64 x) ∧ 0 ≤ sumW l ∧ sumW l ≤ 8184 := by
  obtain ⟨T, tr, hT, _, hm, rfl, rfl, _, hs⟩ := ItemsM_trace h
  have h1 := sumW_ge tr hm
  have h2 := nums_le tr
  have h3 : sumW (itemsOf ((5, id) :: tr)) = vWidth 5 + sumW (itemsOf tr) := by simp [sumW, itemsOf]
  have h4 := vWidth_range 5
  have h5 := (sumW_items ((5, id) :: tr)).1
  refine ⟨by omega, by simp [itemsOf]; omega, fun x hx => ?_, h5, hs⟩
  obtain ⟨v, hv⟩ := nums_mem tr x hx
  have := vMay_range (v := v) (n := x) (hm _ hv)
  have := pow_le32 (k := (vWidth v).toNat) (by omega)
  unfold i64
  omega

end Go.Proofs.YtiebjnibmomcjaaDoor

namespace Go.Proofs.YtiebjnibmomcjaaDoor
open Go.RowKit

def repPack : Rep (Int × List Int) := Rep.int.pair Rep.int.list
theorem opens_pack : Rep.Opens Tryd.prog 39 repPack :=
  Rep.opens_struct Tryd.underlying39 (by kernel_rfl)
    (Rep.fopens_cons rfl (by kernel_rfl) (Rep.opens_int Tryd.underlying3) (Rep.fopens_last rfl (by kernel_rfl)
      (Rep.opens_list Tryd.underlying22 (by kernel_rfl) (by decide) (Rep.opens_int Tryd.underlying3))))
theorem ints_rd {w : World} {B n c : Nat} {A : Option Addr} {l : List Int} (h : Rep.int.Sl w B A n c l) : Rd w B 1 A n (l.map (.int .i64)) ∧ l.length = n ∧ ∀ x ∈ l, i64 x := by
  obtain ⟨h1, _, _, _, css, h5, h6⟩ := h
  have hf : css.flatten = l.map (.int .i64) ∧ ∀ x ∈ l, i64 x := by
    clear h5 h1
    induction l generalizing css with
    | nil => cases css with
      | nil => simp
      | cons b m => exact h6.elim
    | cons a l ih => cases css with
      | nil => exact h6.elim
      | cons b m =>
        obtain ⟨⟨rfl, ha⟩, ht⟩ := h6
        obtain ⟨i1, i2⟩ := ih m ht
        refine ⟨by simp [i1], fun x hx => ?_⟩
        rcases List.mem_cons.1 hx with rfl | hx
        · exact ha
        · exact i2 x hx
  rw [hf.1] at h5
  exact ⟨h5, h1.symm, hf.2⟩
theorem bools_rd {w : World} {B n c : Nat} {A : Option Addr} {l : List Bool} (h : Rep.bool.Sl w B A n c l) : Rd w B 1 A n (l.map .bool) ∧ l.length = n := by
  obtain ⟨h1, _, _, _, css, h5, h6⟩ := h
  have hf : css.flatten = l.map .bool := by
    clear h5 h1
    induction l generalizing css with
    | nil => cases css with
      | nil => simp
      | cons b m => exact h6.elim
    | cons a l ih => cases css with
      | nil => exact h6.elim
      | cons b m =>
        obtain ⟨rfl, ht⟩ := h6
        have i1 := ih m ht
        simp [i1]
  rw [hf] at h5
  exact ⟨h5, h1.symm⟩
theorem opens_bools : Rep.Opens Tryd.prog 67 Rep.bool.list := Rep.opens_list Tryd.underlying67 (by kernel_rfl) (by decide) (Rep.opens_bool Tryd.underlying4)
/-- a packet that comes in -/
def PackIn (W : World) (_id : Int) (V : List Int) (A : Option Addr) (n c : Nat) : Prop :=
  Rd W W.heap.size 1 A n (V.map (.int .i64)) ∧ V.length = n ∧ n ≤ c ∧ c ≤ maxLen ∧ ∀ x ∈ V, i64 x
theorem pack_in {W : World} {a : Int × List Int} {cs : Array Value} (h : repPack.cells W W.heap.size a cs.toList) : ∃ A n c, cs = packCells a.1 A n c ∧ PackIn W a.1 a.2 A n c := by
  obtain ⟨c1, c2, he, ⟨rfl, _⟩, A, n, c, rfl, hs⟩ := h
  obtain ⟨h1, h2, h3⟩ := ints_rd hs
  exact ⟨A, n, c, by cases cs; simp_all [packCells], h1, h2, hs.2.1, hs.2.2.1, h3⟩

end Go.Proofs.YtiebjnibmomcjaaDoor
