/- Layer 5: the law's Bytes, awake. -/
import Derived.Test.YtiebjnibmomcjaaDoorPackN
namespace Go.Proofs.YtiebjnibmomcjaaDoor
open Go.RowKit

theorem ItemsM_nums {id : Int} {V : List Int} {l : List (Int × Int)} (h : ItemsM id V = .ok l) : ∀ y ∈ l, 0 ≤ y.1 ∧ y.1 ≤ 9223372036854775807 := by
  obtain ⟨T, tr, hT, _, hm, _, rfl, _, _⟩ := ItemsM_trace h
  intro y hy
  simp only [itemsOf, List.map_cons, List.mem_cons, List.mem_map] at hy
  rcases hy with rfl | ⟨x, hx, rfl⟩
  · have := (ptree_chk hT).2.2.2; simp only; omega
  · have h1 := vMay_range (hm x hx)
    have h2 := pow_le32 (k := (vWidth x.1).toNat) (by omega)
    simp only
    omega

theorem get_bytes {id : Int} {V : List Int} {l : List (Int × Int)} (h : ItemsM id V = .ok l) : GetM (bytesOf (layP l)) 0 = .ok (id, V, sumW l) := by
  obtain ⟨z, h1, h2⟩ := leftB_bytesOf (layP l) 0 (Nat.zero_le _)
  rw [List.drop_zero] at h1
  have := get_of h h2 h1
  simpa using this

/-- Get, at any bytes and any place -/
theorem Get_any (B : Nat) (b : List Nat) (at_ : Int) (A : Option Addr) (n c : Nat) (w : World) (hr : Rd w B 1 A n (b.map u8v)) (hl : b.length = n) (h8 : ∀ x ∈ b, x < 256) (hc : n ≤ c) (hcm : c ≤ maxLen) (hn : n ≤ 1500) (hW : Widths w) (hg : 0 < B) (hB : B ≤ w.heap.size) :
    Calls Tryd.prog 46 #[.slice A n c, .int .i64 at_] w (GRet w (GetM b at_)) := by
  by_cases h : at_ < 0 ∨ 8 * (n : Int) < at_
  · exact Get_far b at_ A n c w hl hn h
  · obtain ⟨a, rfl⟩ : ∃ a : Nat, at_ = a := ⟨at_.toNat, by omega⟩
    exact Get_near B b a A n c w hr hl h8 hc hcm hn (by omega) hW hg hB

theorem items57 : ItemsM 57 [1, 5, 100, 7] = .ok [(57, 8), (1, 2), (49, 13), (5, 8), (100, 10), (7, 8)] := by kernel_rfl
theorem items57bad : ItemsM 57 [3, 5, 100, 7] = .error 20 := by kernel_rfl
theorem items99 : ItemsM 99 [] = .error 50 := by kernel_rfl
theorem len57 : (bytesOf (layP [(57, 8), (1, 2), (49, 13), (5, 8), (100, 10), (7, 8)])).length = 7 := by kernel_rfl

/-- Items at a packet that lies in memory -/
theorem Items_at {B : Nat} {id : Int} {V : List Int} {r : Except Int (List (Int × Int))} (hres : ItemsM id V = r) {A : Option Addr} {n c : Nat} {w : World} (hV : Rd w B 1 A n (V.map (.int .i64))) (hn : V.length = n) (hc : n ≤ c) (hcm : c ≤ maxLen) (hb : ∀ x ∈ V, i64 x) (h3 : V.length ≤ 8200) (hW : Widths w) (hg : 0 < B) (hB : B ≤ w.heap.size) :
    Calls Tryd.prog 28 #[.agg #[.int .i64 id, .slice A n c]] w (ItRet w r) := by subst hres; exact Items_any B id V A n c w hV hn hc hcm hb h3 hW hg hB
theorem known_at {id : Int} {b : Bool} (h : (ptree id).isSome = b) (w : World) :
    Calls Tryd.prog 72 #[.int .i64 id] w fun e w' => e = .returned (.bool b) ∧ Keep Never w w' := by subst h; exact known_any id w

theorem k57 : (ptree 57).isSome = true := by kernel_rfl
theorem k2 : (ptree 2).isSome = false := by kernel_rfl
theorem u11 : upP 11 = true := by kernel_rfl
theorem up_at {id : Int} {b : Bool} (h : upP id = b) (w : World) :
    Calls Tryd.prog 21 #[.int .i64 id] w fun e w' => e = .returned (.bool b) ∧ w = w' := by subst h; exact up_any id w

end Go.Proofs.YtiebjnibmomcjaaDoor
