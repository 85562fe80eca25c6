/- Chapter 5, plain: what a packet's trace looks like; Items and Get as plain functions. -/
import Derived.Test.YtiebjnibmomcjaaDoorPackF
namespace Go.Proofs.YtiebjnibmomcjaaDoor
open Go.RowKit

theorem trace_no7 {T : Parts} (hT : no7 T = true) {last : Int} {tr t' : List (Int × Int)} (h : walkL valT T last tr = .ok t') : ∃ a, tr = a ++ t' ∧ ∀ x ∈ a, x.1 ≠ 7 := by
  let valN : Val (List (Int × Int)) := fun v tr => if v = 7 then .error 0 else valT v tr
  have h1 := (walk_cond (P := fun _ => True) (val := valN) (val' := valT) (fun v s h7 _ => by show (if v = 7 then _ else _) = _; rw [if_neg h7]) (fun _ _ _ _ _ _ _ => trivial) T hT last tr trivial).1
  rw [h] at h1
  refine walk_inv (I := fun s s' => ∃ a, s = a ++ s' ∧ ∀ x ∈ a, x.1 ≠ 7) (fun s => ⟨[], rfl, by simp⟩) ?_ (val := valN) ?_ T last tr t' h1
  · rintro a b c ⟨x, rfl, hx⟩ ⟨y, rfl, hy⟩
    refine ⟨x ++ y, by simp, fun z hz => ?_⟩
    rcases List.mem_append.1 hz with hz | hz
    · exact hx z hz
    · exact hy z hz
  · intro v s n s' hv
    by_cases h7 : v = 7
    · simp [valN, h7] at hv
    · simp only [valN, if_neg h7] at hv
      obtain ⟨m, rfl, _⟩ := valT_ok hv
      exact ⟨[(v, m)], rfl, by simpa using h7⟩
/-- where L_PACKET stands -/
theorem trace_lead {id : Int} {T : Parts} (hl : lead id T = true) {tr : List (Int × Int)} (h : Mat T 0 tr) :
    (upP id = true ∧ ∃ m t, tr = (7, m) :: t ∧ ∀ x ∈ t, x.1 ≠ 7) ∨ (upP id = false ∧ ∃ a m t, tr = (6, a) :: (7, m) :: t ∧ ∀ x ∈ t, x.1 ≠ 7) := by
  have g := h []
  rw [List.append_nil] at g
  clear h
  cases T with
  | nil => simp [lead] at hl
  | cons v wh l r =>
    cases l with
    | cons _ _ _ _ => simp [lead] at hl
    | nil =>
      simp only [lead] at hl
      by_cases hu : upP id = true
      · rw [if_pos hu] at hl
        simp only [Bool.and_eq_true, decide_eq_true_eq] at hl
        obtain ⟨⟨rfl, rfl⟩, hr⟩ := hl
        simp only [walkL, if_true] at g
        rcases hf : valT 7 tr with e | ⟨n, s1⟩
        · rw [hf] at g; cases g
        · rw [hf] at g
          obtain ⟨m, rfl, _⟩ := valT_ok hf
          obtain ⟨a, ha, ha7⟩ := trace_no7 hr g
          rw [List.append_nil] at ha
          subst ha
          exact .inl ⟨hu, m, s1, rfl, ha7⟩
      · rw [if_neg hu] at hl
        cases r with
        | nil => simp at hl
        | cons v' wh' l' r' =>
          cases l' with
          | cons _ _ _ _ => simp at hl
          | nil =>
            simp only [Bool.and_eq_true, decide_eq_true_eq] at hl
            obtain ⟨⟨rfl, rfl, rfl, rfl⟩, hr⟩ := hl
            simp only [walkL, if_true] at g
            rcases hf : valT 6 tr with e | ⟨n, s1⟩
            · rw [hf] at g; cases g
            · rw [hf] at g
              obtain ⟨a, rfl, _⟩ := valT_ok hf
              simp only at g
              rcases hf2 : valT 7 s1 with e | ⟨n2, s2⟩
              · rw [hf2] at g; cases g
              · rw [hf2] at g
                obtain ⟨m, rfl, _⟩ := valT_ok hf2
                obtain ⟨b, hb, hb7⟩ := trace_no7 hr g
                rw [List.append_nil] at hb
                subst hb
                exact .inr ⟨by simpa using hu, a, m, s2, rfl, hb7⟩
theorem nums_len {t : List (Int × Int)} (h : ∀ x ∈ t, x.1 ≠ 7) : (nums t).length = t.length := by
  induction t with
  | nil => rfl
  | cons x t ih =>
    obtain ⟨v, n⟩ := x
    have h1 := h (v, n) (by simp)
    simp only [nums, if_neg h1, List.length_cons]
    rw [ih (fun y hy => h y (by simp [hy]))]
theorem nums_lead {id : Int} {T : Parts} (hl : lead id T = true) {tr : List (Int × Int)} (h : Mat T 0 tr) : tr.length = (nums tr).length + 1 := by
  rcases trace_lead hl h with ⟨_, m, t, rfl, h7⟩ | ⟨_, a, m, t, rfl, h7⟩
  · simp [nums, nums_len h7]
  · simp [nums, nums_len h7]
/-- numbers and widths, or what is wrong -/
def itemsM (id : Int) (V : List Int) : Except Int (List (Int × Int)) := match ptree id with
  | none => .error 50
  | some T => match walkL valI T 0 ⟨V, [(5, id)]⟩ with
    | .error e => .error e
    | .ok s => if s.rest = [] then .ok s.out else .error 20
/-- what a packet's items are, just if they are -/
theorem itemsM_ok {id : Int} {V : List Int} {out : List (Int × Int)} (h : itemsM id V = .ok out) :
    ∃ T tr, ptree id = some T ∧ out = (5, id) :: tr ∧ Mat T 0 tr ∧ nums tr = V ∧ ∀ x ∈ tr, (x.1 = 7 ∧ x.2 = 0) ∨ (x.1 ≠ 7 ∧ vMay x.1 x.2 = true) := by
  unfold itemsM at h
  split at h
  · cases h
  · rename_i T hT
    split at h
    · cases h
    · rename_i s hs
      split at h
      · rename_i hz
        injection h with h
        obtain ⟨tr, ⟨h1, h2, h3⟩, h4⟩ := I_trace hs
        simp only at h1 h2
        rw [hz, List.append_nil] at h2
        exact ⟨T, tr, hT, by rw [← h, h1]; rfl, h4, h2, h3⟩
      · cases h
theorem itemsM_of {id : Int} {T : Parts} (hT : ptree id = some T) {tr : List (Int × Int)} (h : Mat T 0 tr) (hm : mayAll tr) : itemsM id (nums tr) = .ok ((5, id) :: put7 0 tr) := by
  have h1 := I_of h hm [] [(5, id)]
  rw [List.append_nil] at h1
  simp only [itemsM, hT, h1, if_true]
  rfl
theorem itemsM_len {id : Int} {V : List Int} {out : List (Int × Int)} (h : itemsM id V = .ok out) : out.length = V.length + 2 ∧ 3 ≤ out.length + (if upP id then 1 else 0) := by
  obtain ⟨T, tr, hT, rfl, hM, hV, _⟩ := itemsM_ok h
  have hl := (ptree_chk hT).2.2.1
  have h1 := nums_lead hl hM
  rw [hV] at h1
  refine ⟨by simp [h1], ?_⟩
  rcases trace_lead hl hM with ⟨hu, m, t, rfl, h7⟩ | ⟨hu, a, m, t, rfl, h7⟩
  · simp [hu]; 
  · simp [hu]

def itemsOf (tr : List (Int × Int)) : List (Int × Int) := tr.map fun x => (x.2, vWidth x.1)
def sumW (l : List (Int × Int)) : Int := (l.map (·.2)).sum
theorem sumW_app (a b : List (Int × Int)) : sumW (a ++ b) = sumW a + sumW b := by simp [sumW]
theorem sumW_items (tr : List (Int × Int)) : 0 ≤ sumW (itemsOf tr) ∧ sumW (itemsOf tr) ≤ 32 * tr.length := by
  induction tr with
  | nil => simp [sumW, itemsOf]
  | cons x t ih =>
    have := vWidth_range x.1
    simp only [itemsOf, sumW, List.map_cons, List.sum_cons, List.length_cons] at ih ⊢
    omega
/-- L_PACKET's place among the items -/
def atP (id : Int) : Nat := if upP id then 1 else 2
/-- Items, plainly: numbers and widths, or what is wrong -/
def ItemsM (id : Int) (V : List Int) : Except Int (List (Int × Int)) := match itemsM id V with
  | .error e => .error e
  | .ok out => if 8184 < sumW (itemsOf out) then .error 2 else .ok ((itemsOf out).set (atP id) (sumW (itemsOf out), 13))
theorem itemsM_at {id : Int} {V : List Int} {out : List (Int × Int)} (h : itemsM id V = .ok out) : out[atP id]? = some (7, 0) := by
  obtain ⟨T, tr, hT, rfl, hM, hV, h7⟩ := itemsM_ok h
  rcases trace_lead (ptree_chk hT).2.2.1 hM with ⟨hu, m, t, rfl, _⟩ | ⟨hu, a, m, t, rfl, _⟩
  · have := h7 (7, m) (by simp)
    simp at this
    simp [atP, hu, this]
  · have := h7 (7, m) (by simp)
    simp at this
    simp [atP, hu, this]

end Go.Proofs.YtiebjnibmomcjaaDoor
