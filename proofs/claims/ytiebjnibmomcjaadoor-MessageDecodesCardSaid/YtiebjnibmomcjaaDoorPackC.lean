/- Package packet: 'caught' as a deferred call; items. -/
import Derived.Test.YtiebjnibmomcjaaDoorPackI
import Derived.Defers
import Derived.Recover
import Derived.StillTailTactics
namespace Go.Proofs.YtiebjnibmomcjaaDoor
open Go.RowKit

/-- behind 'recover' a deferred body goes on as any -/
theorem wpS_body {P : Program} {fn : Func} {c₀ : Frame} {cs cs1 : List Frame} {R : Ending → FrameMode → World → Prop} {R0 : Ending → World → Prop} {c : Code} {a : Act} {w : World} {u1 : FrameMode} (hcs : cs1 = { c₀ with mode := u1 } :: cs)
    (h : c.wp P (bodyPost P fn R0) a w) (hR : ∀ e w, R0 e w → R e u1 w) : c.wpS P (bodyPostS P fn c₀ cs R) a cs1 w := by
  refine wpS_of_wp (Code.wp_mono ?_ h)
  intro e a w hq
  cases e with
  | normal => obtain ⟨h1, v, h2, h3⟩ := hq; exact ⟨h1, u1, hcs, v, h2, hR _ _ h3⟩
  | ret => obtain ⟨h1, v, h2, h3⟩ := hq; exact ⟨h1, u1, hcs, v, h2, hR _ _ h3⟩
  | panic ch => obtain ⟨h1, h2⟩ := hq; exact ⟨h1, u1, hcs, hR _ _ h2⟩
  | outgrown => exact ⟨u1, hR _ _ hq⟩
  | exit id => exact hq.elim
  | goto l => exact hq.elim

/-- the fault, caught -/
def faultR (x : Int) : PanicEntry := ⟨.iface 114 (.agg #[.int .i64 x]), true, false⟩
set_option maxHeartbeats 1000000 in
set_option maxRecDepth 100000 in
theorem caught_panicking (p : Nat) (x y : Int) (w : World) (hb : Blk w p 29 #[.int .i64 y]) :
    CallsD Tryd.prog 70 #[.pointer (some ⟨p, 0, none⟩)] (.panicking [faultV x]) w fun e u' w' =>
      e = .returned (.tuple #[]) ∧ u' = .panicking [faultR x] ∧ Blk w' p 29 #[.int .i64 x] ∧ Keep (fun k => k = p) w w' := by
  have hca : ∀ o, (w.alloc o).cell? ⟨p, 0, none⟩ = some (.int .i64 y) := fun o => (hb.alloc o).cell 0
  have hfa : ∀ o, (w.alloc o).frozen? ⟨p, 0, none⟩ = false := fun o => (hb.alloc o).frozen 0
  have HB := Lib.hid hb
  clear hb
  have hta : ∀ w, (Instr.typeAssert (.iface 114 (.agg #[.int .i64 x])) 20 114 true).run Tryd.prog w = .ok (.tuple #[.agg #[.int .i64 x], .bool true]) w := fun w => by
    simp [Instr.typeAssert, run_underlying Tryd.underlying114, go_sem, Result.andThen]
  have hne : ∀ w, (Op.equal 20 (.iface 114 (.agg #[.int .i64 x])) .nilIface).run Tryd.prog w = .ok false w := fun w => by kernel_rfl
  refine callsD_of_wpS Tryd.func70 rfl fun c₀ cs hu => ?_
  apply wpS_seq
  apply wpS_region
  simp [wpOpsS, go_sem, recoverD, hu, Tryd.ntmps70, Exit.thenS, faultV]
  refine wpS_body (u1 := .panicking [faultR x]) (R0 := fun e w' => e = .returned (.tuple #[]) ∧ w' = (w.alloc (.cells #[.int .i64 x] 114)).setCell ⟨p, 0, none⟩ (.int .i64 x)) rfl ?_ (fun e w' h => ⟨h.1, rfl, by rw [h.2]; simpa using (HB.out.alloc _).set_ 0 (.int .i64 x), by rw [h.2]; exact ((Keep.refl (fun k => k = p) w).alloc _).set_ (p := ⟨p, 0, none⟩) (.inl rfl) _⟩)
  simp only [Array.replicate_succ, Array.replicate_zero, List.push_toArray, List.nil_append, List.cons_append, List.setIfInBounds_toArray, List.set_cons_succ, List.set_cons_zero, List.append_toArray]
  clear hu
  go_wp2
  go_end0
  exact ⟨rfl, rfl⟩

set_option maxHeartbeats 1000000 in
theorem caught_idle (p : Addr) (w : World) :
    CallsD Tryd.prog 70 #[.pointer (some p)] .returning w fun e u' w' => e = .returned (.tuple #[]) ∧ u' = .returning ∧ w' = w := by
  refine callsD_of_wpS Tryd.func70 rfl fun c₀ cs hu => ?_
  apply wpS_seq
  apply wpS_region
  simp [wpOpsS, go_sem, recoverD, hu, Tryd.ntmps70, Exit.thenS]
  refine wpS_body (u1 := .returning) (R0 := fun e w' => e = .returned (.tuple #[]) ∧ w' = w) (by cases c₀; simp_all) ?_ (fun e w' h => ⟨h.1, rfl, h.2⟩)
  simp only [Array.replicate_succ, Array.replicate_zero, List.push_toArray, List.nil_append, List.cons_append, List.setIfInBounds_toArray, List.set_cons_succ, List.set_cons_zero, List.append_toArray]
  go_wp2
  go_end0
  exact ⟨rfl, rfl⟩

/-- a packet's cells -/
def packCells (id : Int) (A : Option Addr) (n c : Nat) : Array Value := #[.int .i64 id, .slice A n c]

set_option maxHeartbeats 2000000 in
theorem known_any (id : Int) (w : World) :
    Calls Tryd.prog 72 #[.int .i64 id] w fun e w' => e = .returned (.bool (ptree id).isSome) ∧ Keep Never w w' := by
  cases h : ptree id with
  | none =>
    have H := Lib.hid h
    clear h
    go_enter Tryd.func72, Tryd.ntmps72
    go_wp2_with (go_at_call 74; refine (parts_none id H.out w).mono ?_; rintro e w' ⟨rfl, rfl⟩)
    go_ret
    exact ⟨rfl, Keep.refl _ _⟩
  | some T =>
    have H := Lib.hid h
    clear h
    have hlen : T.len ≠ 0 := (ptree_chk H.out).1
    have HL := Lib.hid hlen
    clear hlen
    go_enter Tryd.func72, Tryd.ntmps72
    go_wp2_with fail
    refine (parts_some id T H.out w).mono ?_
    rintro e w' ⟨A, n, c, rfl, h1, h2⟩
    obtain ⟨ad, rfl⟩ : ∃ ad, A = some ad := by
      cases A with
      | none => exact absurd rfl (h1.some_ HL.out)
      | some ad => exact ⟨ad, rfl⟩
    have H2 := Lib.hid h2
    clear h1 h2
    go_wp2_with fail
    go_ret
    exact ⟨rfl, H2.out⟩

/-- what items leaves -/
def IRet (w : World) (r : Except Int (List (Int × Int))) (e : Ending) (w' : World) : Prop :=
  ∃ (A : Option Addr) (n c : Nat) (x : Int), e = .returned (.tuple #[.slice A n c, .int .i64 x]) ∧ Keep Never w w' ∧
    ((∃ tr, r = .ok tr ∧ x = 0 ∧ n = tr.length ∧ Own w' w.heap.size 47 2 A n c (bitCells (itemsOf tr))) ∨ (r = .error x ∧ x ≠ 0 ∧ -9223372036854775808 ≤ x ∧ x ≤ 9223372036854775807))

set_option maxHeartbeats 4000000 in
set_option maxRecDepth 100000 in
theorem items_none (id : Int) (V : List Int) (A : Option Addr) (n c : Nat) (w : World) (hT : ptree id = none) :
    Calls Tryd.prog 56 #[.agg (packCells id A n c)] w (IRet w (itemsM id V)) := by
  have hres : itemsM id V = .error 50 := by simp [itemsM, hT]
  rw [hres]
  have hk : Hid (∀ w, Calls Tryd.prog 72 #[.int .i64 id] w fun e w' => e = .returned (.bool false) ∧ Keep Never w w') := by
    intro w
    have := known_any id w
    rwa [hT] at this
  unfold packCells
  clear hT hres
  go_enter_defers Tryd.func56, Tryd.ntmps56
  go_wp2_with (go_at_call 72; refine (hk.out _).mono ?_; rintro e w1 ⟨rfl, hk1⟩; have HK1 := Lib.hid hk1; clear hk1)
  have hb : Blk w1 (w.heap.size + 1 + 1) 29 #[.int .i64 0] := Blk.keep (w := ((w.alloc _).alloc _).alloc _) (by simpa using Blk.new ((w.alloc (.cells #[.int .i64 id, .slice A n c] 39)).alloc (.cells #[.slice none 0 0] 48)) 29 #[.int .i64 0]) HK1.out (fun h => h)
  have hl : Blk w1 (w.heap.size + 1) 48 #[.slice none 0 0] := Blk.keep (w := ((w.alloc _).alloc _).alloc _) ((by simpa using Blk.new (w.alloc (.cells #[.int .i64 id, .slice A n c] 39)) 48 #[.slice none 0 0] : Blk ((w.alloc (.cells #[.int .i64 id, .slice A n c] 39)).alloc (.cells #[.slice none 0 0] 48)) (w.heap.size + 1) 48 #[.slice none 0 0]).alloc _) HK1.out (fun h => h)
  refine leaves_cons (f := 70) (args := #[.pointer (some ⟨w.heap.size + 1 + 1, 0, none⟩)]) (by simp) (by simp [go_sem]) ?_
  refine (caught_panicking (w.heap.size + 1 + 1) 50 0 _ hb).mono ?_
  rintro e u' w2 ⟨rfl, rfl, hb2, hk2⟩
  have hl2 := hl.keep hk2 (by omega)
  have q1 : w2.cell? ⟨w.heap.size + 1 + 1, 0, none⟩ = some (.int .i64 50) := hb2.cell 0
  have q2 : w2.cell? ⟨w.heap.size + 1, 0, none⟩ = some (.slice none 0 0) := hl2.cell 0
  simp [Leaves, settle, results, Tryd.results56, go_sem, faultR, q1, q2]
  exact ⟨_, _, _, _, rfl, (((((Keep.refl Never w).alloc _).alloc _).alloc _).trans HK1.out).then_ hk2 (fun i hi h => by omega), .inr ⟨rfl, by decide, by decide, by decide⟩⟩

/-- the world behind a literal, a store, two variables -/
theorem world3 {w1 : World} {b t1 t2 t3 tb : Nat} {cs1 cs2 cs3 cb : Array Value} (hl : Blk w1 b tb cb) (v : Value) :
    Blk ((((w1.alloc (.cells cs1 t1)).setCell ⟨b, 0, none⟩ v).alloc (.cells cs2 t2)).alloc (.cells cs3 t3)).drew b tb (cb.setIfInBounds 0 v) ∧
    Blk ((((w1.alloc (.cells cs1 t1)).setCell ⟨b, 0, none⟩ v).alloc (.cells cs2 t2)).alloc (.cells cs3 t3)).drew w1.heap.size t1 cs1 ∧
    Blk ((((w1.alloc (.cells cs1 t1)).setCell ⟨b, 0, none⟩ v).alloc (.cells cs2 t2)).alloc (.cells cs3 t3)).drew (w1.heap.size + 1) t2 cs2 ∧
    Blk ((((w1.alloc (.cells cs1 t1)).setCell ⟨b, 0, none⟩ v).alloc (.cells cs2 t2)).alloc (.cells cs3 t3)).drew (w1.heap.size + 1 + 1) t3 cs3 ∧
    Keep (fun k => k = b) w1 ((((w1.alloc (.cells cs1 t1)).setCell ⟨b, 0, none⟩ v).alloc (.cells cs2 t2)).alloc (.cells cs3 t3)).drew ∧
    ((((w1.alloc (.cells cs1 t1)).setCell ⟨b, 0, none⟩ v).alloc (.cells cs2 t2)).alloc (.cells cs3 t3)).drew.heap.size = w1.heap.size + 1 + 1 + 1 := by
  have hlt := hl.lt
  have s1 : ((w1.alloc (.cells cs1 t1)).setCell ⟨b, 0, none⟩ v).heap.size = w1.heap.size + 1 := by simp [World.setCell]
  have n2 : Blk (((w1.alloc (.cells cs1 t1)).setCell ⟨b, 0, none⟩ v).alloc (.cells cs2 t2)) (w1.heap.size + 1) t2 cs2 := by rw [← s1]; exact Blk.new _ _ _
  have s2 : (((w1.alloc (.cells cs1 t1)).setCell ⟨b, 0, none⟩ v).alloc (.cells cs2 t2)).heap.size = w1.heap.size + 1 + 1 := by rw [World.size_alloc, s1]
  have n3 : Blk ((((w1.alloc (.cells cs1 t1)).setCell ⟨b, 0, none⟩ v).alloc (.cells cs2 t2)).alloc (.cells cs3 t3)) (w1.heap.size + 1 + 1) t3 cs3 := by rw [← s2]; exact Blk.new _ _ _
  refine ⟨((((hl.alloc _).set_ 0 v).alloc _).alloc _).drew, ((((Blk.new w1 t1 cs1).far (p := ⟨b, 0, none⟩) (by simp; omega) v).alloc _).alloc _).drew, (n2.alloc _).drew, n3.drew, ((((((Keep.refl (fun k => k = b) w1).alloc _).set_ (p := ⟨b, 0, none⟩) (.inl rfl) v).alloc _).alloc _).drew), ?_⟩
  show (World.alloc _ _).heap.size = _
  rw [World.size_alloc, s2]

theorem Own.of_blk2 {w : World} {g e n B size : Nat} {xs : List Value} (h : Blk w g e xs.toArray) (hl : xs.length = n * size) (hm : n ≤ maxLen) (hB : B ≤ g) : Own w B e size (some ⟨g, 0, none⟩) n n xs :=
  ⟨hl, .inr ⟨g, n, xs.toArray, rfl, hB, h, Nat.le_refl _, hm, by simp [hl], by rw [List.take_of_length_le (by simp [hl])]⟩⟩

set_option maxHeartbeats 4000000 in
set_option maxRecDepth 100000 in
theorem items_some (B : Nat) (id : Int) (V : List Int) (T : Parts) (A : Option Addr) (n c : Nat) (w : World) (hT : ptree id = some T) (hV : Rd w B 1 A n (V.map (.int .i64))) (hn : V.length = n) (hc : n ≤ c) (hcm : c ≤ maxLen) (hb : ∀ x ∈ V, i64 x) (h3 : V.length ≤ 8200) (hW : Widths w) (hg : 0 < B) (hB : B ≤ w.heap.size) :
    Calls Tryd.prog 56 #[.agg (packCells id A n c)] w (IRet w (itemsM id V)) := by
  have hk : Hid (∀ w, Calls Tryd.prog 72 #[.int .i64 id] w fun e w' => e = .returned (.bool true) ∧ Keep Never w w') := by
    intro w
    have := known_any id w
    rwa [hT] at this
  have hmf : ∀ (fn : Fn) (first cap : Array Value) (w : World), (Instr.makeFunc fn first cap).run Tryd.prog w = .ok (.func fn first cap) w := fun _ _ _ _ => rfl
  have HT := Lib.hid hT
  have HV := Lib.hid hV
  have Hn := Lib.hid hn
  have Hb := Lib.hid hb
  have HW := Lib.hid hW
  unfold packCells
  clear hT hV hn hb hW
  go_enter_defers Tryd.func56, Tryd.ntmps56
  go_wp2_with (go_at_call 72; refine (hk.out _).mono ?_; rintro e w1 ⟨rfl, hk1⟩; have HK1 := Lib.hid hk1; clear hk1)
  have hk0 : Keep Never w w1 := (((Keep.refl Never w).alloc _).alloc _).alloc _ |>.trans HK1.out
  have hp : Blk w1 w.heap.size 39 #[.int .i64 id, .slice A n c] := Blk.keep (w := ((w.alloc _).alloc _).alloc _) (((Blk.new w 39 #[.int .i64 id, .slice A n c]).alloc _).alloc _) HK1.out (fun h => h)
  have hl : Blk w1 (w.heap.size + 1) 48 #[.slice none 0 0] := Blk.keep (w := ((w.alloc _).alloc _).alloc _) ((by simpa using Blk.new (w.alloc (.cells #[.int .i64 id, .slice A n c] 39)) 48 #[.slice none 0 0] : Blk ((w.alloc (.cells #[.int .i64 id, .slice A n c] 39)).alloc (.cells #[.slice none 0 0] 48)) (w.heap.size + 1) 48 #[.slice none 0 0]).alloc _) HK1.out (fun h => h)
  have he : Blk w1 (w.heap.size + 1 + 1) 29 #[.int .i64 0] := Blk.keep (w := ((w.alloc _).alloc _).alloc _) (by simpa using Blk.new ((w.alloc (.cells #[.int .i64 id, .slice A n c] 39)).alloc (.cells #[.slice none 0 0] 48)) 29 #[.int .i64 0]) HK1.out (fun h => h)
  have c1 : w1.cell? ⟨w.heap.size, 0, none⟩ = some (.int .i64 id) := hp.cell 0
  have c2 : w1.cell? ⟨w.heap.size, 1, none⟩ = some (.slice A n c) := hp.cell 1
  have c3 : w1.cell? ⟨w.heap.size + 1, 0, none⟩ = some (.slice none 0 0) := hl.cell 0
  have f3 : w1.frozen? ⟨w.heap.size + 1, 0, none⟩ = false := hl.frozen 0
  have c3a : ∀ o, (w1.alloc o).cell? ⟨w.heap.size + 1, 0, none⟩ = some (.slice none 0 0) := fun o => (hl.alloc o).cell 0
  have f3a : ∀ o, (w1.alloc o).frozen? ⟨w.heap.size + 1, 0, none⟩ = false := fun o => (hl.alloc o).frozen 0
  have c1a : ∀ o, (w1.alloc o).cell? ⟨w.heap.size, 0, none⟩ = some (.int .i64 id) := fun o => (hp.alloc o).cell 0
  have c2a : ∀ o, (w1.alloc o).cell? ⟨w.heap.size, 1, none⟩ = some (.slice A n c) := fun o => (hp.alloc o).cell 1
  have hps : ∀ o1 v, Blk ((w1.alloc o1).setCell ⟨w.heap.size + 1, 0, none⟩ v) w.heap.size 39 #[.int .i64 id, .slice A n c] := fun o1 v => (hp.alloc o1).far (p := ⟨w.heap.size + 1, 0, none⟩) (by simp) v
  have c2b : ∀ o1 v, ((w1.alloc o1).setCell ⟨w.heap.size + 1, 0, none⟩ v).cell? ⟨w.heap.size, 1, none⟩ = some (.slice A n c) := fun o1 v => (hps o1 v).cell 1
  have c1d : ∀ o1 v o2 o3, ((((w1.alloc o1).setCell ⟨w.heap.size + 1, 0, none⟩ v).alloc o2).alloc o3).cell? ⟨w.heap.size, 0, none⟩ = some (.int .i64 id) := fun o1 v o2 o3 => (((hps o1 v).alloc o2).alloc o3).cell 0
  have Hps := Lib.hid hps
  clear hps
  have Hk0 := Lib.hid hk0
  have Hp := Lib.hid hp
  have Hl := Lib.hid hl
  have He := Lib.hid he
  have hWid : Calls Tryd.prog 23 #[.int .i64 5] w1.drew fun e w' => e = .returned (.int .i64 8) ∧ w' = w1.drew :=
    (vwidth_any 5 w1.drew ((HW.out.keep hk0 (fun h => h)).keep ((Keep.refl Never w1).drew) (fun h => h))).mono fun _ _ h => ⟨h.1, h.2.symm⟩
  have HWid := Lib.hid hWid
  clear hk0 hp hl he hWid
  refine wp_region_still_tail 4 (by kernel_rfl) (by kernel_rfl) ?_
  simp only [List.take_succ_cons, List.take_zero, List.drop_succ_cons, List.drop_zero]
  still_step
  still_step
  still_call HWid.out
  still_step
  refine wpStill_nil ?_
  change wpList _ _ _ _ _ (World.drew _)
  go_wp2_with fail
  refine (parts_some id T HT.out _).mono ?_
  rintro e w2 ⟨A2, n2, C2, rfl, h1, h2⟩
  obtain ⟨b1, b2, b3, b4, k5, hs5⟩ := world3 (cs1 := #[.int .i64 id, .int .i64 8]) (t1 := 47) (cs2 := #[.slice A n c]) (t2 := 22) (cs3 := #[.func (.func 78) #[] #[.pointer (some ⟨w.heap.size + 1, 0, none⟩), .pointer (some ⟨w1.heap.size + 1, 0, none⟩)]]) (t3 := 116) Hl.out (.slice (some ⟨w1.heap.size, 0, none⟩) 1 1)
  have g1 := b1.keep h2 (fun h => h)
  have g2 := b2.keep h2 (fun h => h)
  have g3 := b3.keep h2 (fun h => h)
  have g4 := b4.keep h2 (fun h => h)
  have he2 := (He.out.keep k5 (by omega)).keep h2 (fun h => h)
  have hsz2 := h2.size
  rw [hs5] at hsz2
  have hw1 := Hk0.out.size
  have hlt := He.out.lt
  have hk2 : Keep Never w w2 := (Hk0.out.then_ k5 (fun i hi h => by omega)).trans h2
  have hW2 : Widths w2 := HW.out.keep hk2 (fun h => h)
  have hrow : ∀ k, InRow (some ⟨w1.heap.size, 0, none⟩ : Option Addr) k ↔ k = w1.heap.size := fun k => ⟨by rintro ⟨ad, h, rfl⟩; injection h with h; subst h; rfl, by rintro rfl; exact ⟨_, rfl, rfl⟩⟩
  have hinv : InvI B w1.heap.size (w.heap.size + 1) (w1.heap.size + 1) ⟨V, [(5, id)]⟩ (fun k => k = w1.heap.size) w2 := by
    refine ⟨some ⟨w1.heap.size, 0, none⟩, 1, A, n, c, by simpa using g1, ?_, fun k => (hrow k).symm, g3, Hn.out, ?_, hc, hcm, Hb.out, hW2, by omega, trivial, by omega, by omega, by omega, hg⟩
    · exact Own.of_blk2 (n := 1) (by simpa [bitCells, itemsOf, show vWidth 5 = 8 from rfl] using g2) rfl (by unfold maxLen; omega) (Nat.le_refl _)
    · exact HV.out.keep hk2 (fun _ h => h.elim)
  have hlead := (ptree_chk HT.out).2.2.1
  have hne9 := walkI9_ok hlead 0 ⟨V, [(5, id)]⟩ (by simp; omega)
  have heq9 := walkI9 hlead 0 ⟨V, [(5, id)]⟩ (by simp; omega)
  have hwalk := walk_any valI9 (fun s Q W => InvI B w1.heap.size (w.heap.size + 1) (w1.heap.size + 1) s Q W ∧ w1.heap.size ≤ W.heap.size) (SI2 (w.heap.size + 1) (w1.heap.size + 1)) 78 #[.pointer (some ⟨w.heap.size + 1, 0, none⟩), .pointer (some ⟨w1.heap.size + 1, 0, none⟩)]
    (fun args w => by kernel_rfl) (items1_does B w1.heap.size (w.heap.size + 1) (w1.heap.size + 1)) (fun s Q W W' h hk => ⟨h.1.keep hk, Nat.le_trans h.2 hk.size⟩)
    (w1.heap.size + 1 + 1) w2.heap.size (Frw (w1.heap.size + 1 + 1 + 1) w2) (fun k hk => ⟨fun h => by have := hk.1; rcases h with h | h <;> omega, hk.2⟩) ⟨fun h => by rcases h with h | h <;> omega, by omega⟩ (fun k h => by rcases h with h | h <;> omega)
    T.sz T (Nat.le_refl _) A2 n2 C2 ⟨V, [(5, id)]⟩ (fun k => k = w1.heap.size) w2 (by rw [hs5] at h1; exact h1.keep (Keep.refl Never w2) (fun k hk h => ⟨fun h => h.elim, h, hk⟩)) g4 (Nat.le_refl _) ⟨hinv, by omega⟩
    (fun k hk h => by have := hk.1; omega) (by omega) (fun k h => by omega) hne9
  rw [heq9] at hwalk
  have hres : itemsM id V = (match walkL valI T 0 ⟨V, [(5, id)]⟩ with | .error e => .error e | .ok s => if s.rest = [] then .ok s.out else .error 20) := by unfold itemsM; simp only [HT.out]; rfl
  have hE2 := Lib.hid he2
  have hlt2 : Hid (w.heap.size + 1 + 1 < w1.heap.size) := hlt
  have Hwalk := Lib.hid hwalk
  have HK2 := Lib.hid hk2
  have Hsz2 : Hid (w1.heap.size + 1 + 1 + 1 ≤ w2.heap.size) := hsz2
  have Hw1 : Hid (w.heap.size ≤ w1.heap.size) := hw1
  rcases hr : walkL valI T 0 ⟨V, [(5, id)]⟩ with x | s'
  · rw [hr] at hres
    have HR := Lib.hid hres
    have Hr := Lib.hid hr
    have hx : x = 20 := walk_err (E := fun e => e = 20) valI_err T 0 _ x hr
    subst hx
    clear b1 b2 b3 b4 k5 hs5 g1 g2 g3 g4 he2 hsz2 hw1 hlt hk2 hW2 hrow hinv hlead hne9 heq9 hwalk h1 h2 hres hr c1 c2 c3 f3 c3a f3a c1a c2a c2b c1d
    go_wp2_with fail
    refine Hwalk.out.mono ?_
    rintro e w3 ⟨hk5, Q', hq1, hq2, hpo⟩
    rw [Hr.out] at hpo
    rcases hpo with ⟨_, h, _⟩ | ⟨y, s4, h, rfl, hi4⟩
    · cases h
    injection h with h
    subst h
    obtain ⟨⟨A5, c5, A6, n6, c6, i1, i2, i3, i4, _⟩, hi5⟩ := hi4
    have he3 := hE2.out.keep hk5 (fun h => by have := hlt2.out; rcases h with (h | h) | h <;> omega)
    have HKw : Hid (Keep Never w w3) := HK2.out.then_ hk5 (fun i hi h => by have := Hw1.out; rcases h with (h | h) | h <;> omega)
    clear hk5 hq1 hq2 hi5 i2 i3 i4
    go_wp2_with fail
    refine leaves_cons (f := 70) (args := #[.pointer (some ⟨w.heap.size + 1 + 1, 0, none⟩)]) (by simp) (by simp [go_sem]) ?_
    refine (caught_panicking (w.heap.size + 1 + 1) 20 0 _ he3).mono ?_
    rintro e u' w4 ⟨rfl, rfl, hb4, hk4⟩
    have q1 : w4.cell? ⟨w.heap.size + 1 + 1, 0, none⟩ = some (.int .i64 20) := hb4.cell 0
    have q2 : w4.cell? ⟨w.heap.size + 1, 0, none⟩ = some (.slice A5 s4.out.length c5) := (Blk.keep i1 hk4 (by omega)).cell 0
    have HF : Hid (Keep Never w w4) := HKw.out.then_ hk4 (fun i hi h => by omega)
    clear hb4 hk4
    simp [Leaves, settle, results, Tryd.results56, go_sem, faultR, q1, q2]
    rw [HR.out]
    exact ⟨_, _, _, _, rfl, HF.out, .inr ⟨rfl, by decide, by decide, by decide⟩⟩
  · rw [hr] at hres
    have HR := Lib.hid hres
    have Hr := Lib.hid hr
    clear b1 b2 b3 b4 k5 hs5 g1 g2 g3 g4 he2 hsz2 hw1 hlt hk2 hW2 hrow hinv hlead hne9 heq9 hwalk h1 h2 hres hr c1 c2 c3 f3 c3a f3a c1a c2a c2b c1d
    go_wp2_with fail
    refine Hwalk.out.mono ?_
    rintro e w3 ⟨hk5, Q', hq1, hq2, hpo⟩
    rw [Hr.out] at hpo
    rcases hpo with ⟨s4, h, rfl, hi4⟩ | ⟨_, _, h, _⟩
    rotate_left
    · cases h
    injection h with h
    subst h
    obtain ⟨⟨A5, c5, A6, n6, c6, i1, i2, i3, i4, i5, _⟩, hi5⟩ := hi4
    have he3 := hE2.out.keep hk5 (fun h => by have := hlt2.out; rcases h with (h | h) | h <;> omega)
    have HKw : Hid (Keep Never w w3) := HK2.out.then_ hk5 (fun i hi h => by have := Hw1.out; rcases h with (h | h) | h <;> omega)
    have d1 : w3.cell? ⟨w1.heap.size + 1, 0, none⟩ = some (.slice A6 n6 c6) := i4.cell 0
    have d2 : w3.cell? ⟨w.heap.size + 1, 0, none⟩ = some (.slice A5 s'.out.length c5) := i1.cell 0
    have d3 : w3.cell? ⟨w.heap.size + 1 + 1, 0, none⟩ = some (.int .i64 0) := he3.cell 0
    have d4 : w3.frozen? ⟨w.heap.size + 1, 0, none⟩ = false := i1.frozen 0
    have d5 : w3.frozen? ⟨w.heap.size + 1 + 1, 0, none⟩ = false := he3.frozen 0
    have hset : w3.setCell ⟨w.heap.size + 1, 0, none⟩ (.slice A5 s'.out.length c5) = w3.setCell ⟨w.heap.size + 1, 0, none⟩ (.slice A5 s'.out.length c5) := rfl
    have I1 := Lib.hid i1
    have I2 := Lib.hid i2
    have He3 := Lib.hid he3
    have Hbase : Hid (w.heap.size ≤ w1.heap.size) := Hw1.out
    clear hset hk5 hq1 hq2 hi5 i1 i2 i3 i4 he3
    by_cases hz : s'.rest = []
    · have HR := (Lib.hid (HR.out.trans (if_pos hz)) : Hid (itemsM id V = .ok s'.out))
      rw [hz] at i5
      simp only [List.length_nil] at i5
      subst i5
      clear hz
      go_wp2_with fail
      refine leaves_cons (f := 70) (args := #[.pointer (some ⟨w.heap.size + 1 + 1, 0, none⟩)]) (by simp) (by simp [go_sem]) ?_
      refine (caught_idle _ _).mono ?_
      rintro e u' w4 ⟨rfl, rfl, rfl⟩
      have hl4 := ((I1.out.set_ 0 (.slice A5 s'.out.length c5)).far (p := ⟨w.heap.size + 1 + 1, 0, none⟩) (by simp) (.int .i64 0))
      have he4 := ((He3.out.far (p := ⟨w.heap.size + 1, 0, none⟩) (by simp) (.slice A5 s'.out.length c5)).set_ 0 (.int .i64 0))
      have q1 := he4.cell 0
      have q2 := hl4.cell 0
      simp at q1 q2
      simp [Leaves, settle, results, Tryd.results56, go_sem, q1, q2]
      rw [HR.out]
      have hk4 : Keep Never w ((w3.setCell ⟨w.heap.size + 1, 0, none⟩ (.slice A5 s'.out.length c5)).setCell ⟨w.heap.size + 1 + 1, 0, none⟩ (.int .i64 0)) :=
        (HKw.out.set_ (p := ⟨w.heap.size + 1, 0, none⟩) (.inr (by simp)) _).set_ (p := ⟨w.heap.size + 1 + 1, 0, none⟩) (.inr (by simp; omega)) _
      have ho4 := ((I2.out.far (p := ⟨w.heap.size + 1, 0, none⟩) (fun k h e => I2.out.ne_blk I1.out (by decide) k h e) (.slice A5 s'.out.length c5)).far (p := ⟨w.heap.size + 1 + 1, 0, none⟩) (fun k h e => I2.out.ne_blk He3.out (by decide) k h e) (.int .i64 0)).less Hbase.out
      exact ⟨_, _, _, _, rfl, hk4, .inl ⟨_, rfl, rfl, rfl, ho4⟩⟩
    · have HR := (Lib.hid (HR.out.trans (if_neg hz)) : Hid (itemsM id V = .error 20))
      have hn6 : (0 : Int) < n6 := by
        have : s'.rest.length ≠ 0 := fun h => hz (List.length_eq_zero_iff.1 h)
        omega
      clear hz
      go_wp2_with fail
      refine leaves_cons (f := 70) (args := #[.pointer (some ⟨w.heap.size + 1 + 1, 0, none⟩)]) (by simp) (by simp [go_sem]) ?_
      refine (caught_panicking (w.heap.size + 1 + 1) 20 0 _ He3.out).mono ?_
      rintro e u' w4 ⟨rfl, rfl, hb4, hk4⟩
      have q1 : w4.cell? ⟨w.heap.size + 1 + 1, 0, none⟩ = some (.int .i64 20) := hb4.cell 0
      have q2 : w4.cell? ⟨w.heap.size + 1, 0, none⟩ = some (.slice A5 s'.out.length c5) := (Blk.keep I1.out hk4 (by omega)).cell 0
      have HF : Hid (Keep Never w w4) := HKw.out.then_ hk4 (fun i hi h => by omega)
      clear hb4 hk4
      simp [Leaves, settle, results, Tryd.results56, go_sem, faultR, q1, q2]
      rw [HR.out]
      exact ⟨_, _, _, _, rfl, HF.out, .inr ⟨rfl, by decide, by decide, by decide⟩⟩

theorem items_any (B : Nat) (id : Int) (V : List Int) (A : Option Addr) (n c : Nat) (w : World) (hV : Rd w B 1 A n (V.map (.int .i64))) (hn : V.length = n) (hc : n ≤ c) (hcm : c ≤ maxLen) (hb : ∀ x ∈ V, i64 x) (h3 : V.length ≤ 8200) (hW : Widths w) (hg : 0 < B) (hB : B ≤ w.heap.size) :
    Calls Tryd.prog 56 #[.agg (packCells id A n c)] w (IRet w (itemsM id V)) := by
  cases hT : ptree id with
  | none => exact items_none id V A n c w hT
  | some T => exact items_some B id V T A n c w hT hV hn hc hcm hb h3 hW hg hB

end Go.Proofs.YtiebjnibmomcjaaDoor
