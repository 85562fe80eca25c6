/- Texts of this claim, together: PackC, PlnT, PmJ. -/
import Derived.Test.YtpapiojicbbheaaGreatDoorSh09
import Derived.Defers
import Derived.Recover
import Derived.StillTailTactics
import Derived.Test.YtpapiojicbbheaaGreatDoorSh06
import Derived.Test.YtpapiojicbbheaaGreatDoorSh08
import Derived.Test.YtpapiojicbbheaaGreatDoorSh07
import Derived.WalkMore
namespace Go.Proofs.YtpapiojicbbheaaGreatDoor
open Go.RowKit
theorem wpS_body {P : Program} {fn : Func} {c₀ : Frame} {cs cs1 : List Frame} {R : Ending → FrameMode → World → Prop} {R0 : Ending → World → Prop} {c : Code} {a : Act} {w : World} {u1 : FrameMode} (hcs : cs1 = { c₀ with mode := u1 } :: cs)
  (h : c.wp P (bodyPost P fn R0) a w) (hR : ∀ e w, R0 e w → R e u1 w) : c.wpS P (bodyPostS P fn c₀ cs R) a cs1 w := by
 refine wpS_of_wp (Code.wp_mono ?_ h)
 intro e a w hq
 cases e with
 | normal => obtain ⟨h1, v, h2, h3⟩ := hq; exact ⟨h1, u1, hcs, v, h2, hR _ _ h3⟩
 | ret => obtain ⟨h1, v, h2, h3⟩ := hq; exact ⟨h1, u1, hcs, v, h2, hR _ _ h3⟩
 | panic ch => obtain ⟨h1, h2⟩ := hq; exact ⟨h1, u1, hcs, hR _ _ h2⟩
 | outgrown => exact ⟨u1, hR _ _ hq⟩
 | exit id => exact hq.elim
 | goto l => exact hq.elim
def faultR (x : Int) : PanicEntry := ⟨.iface 198 (.agg #[.int .i64 x]), true, false⟩
set_option maxHeartbeats 1000000 in
set_option maxRecDepth 100000 in
theorem caught_panicking (p : Nat) (x y : Int) (w : World) (hb : Blk w p 39 #[.int .i64 y]) :
  CallsD Tryz.prog 158 #[.pointer (some ⟨p, 0, none⟩)] (.panicking [faultV x]) w fun e u' w' =>
   e = .returned (.tuple #[]) ∧ u' = .panicking [faultR x] ∧ Blk w' p 39 #[.int .i64 x] ∧ Keep (fun k => k = p) w w' := by
 have hca : ∀ o, (w.alloc o).cell? ⟨p, 0, none⟩ = some (.int .i64 y) := fun o => (hb.alloc o).cell 0
 have hfa : ∀ o, (w.alloc o).frozen? ⟨p, 0, none⟩ = false := fun o => (hb.alloc o).frozen 0
 have HB := Lib.hid hb
 clear hb
 have hta : ∀ w, (Instr.typeAssert (.iface 198 (.agg #[.int .i64 x])) 20 198 true).run Tryz.prog w = .ok (.tuple #[.agg #[.int .i64 x], .bool true]) w := fun w => by
  simp [Instr.typeAssert, run_underlying Tryz.underlying198, go_sem, Result.andThen]
 have hne : ∀ w, (Op.equal 20 (.iface 198 (.agg #[.int .i64 x])) .nilIface).run Tryz.prog w = .ok false w := fun w => by kernel_rfl
 refine callsD_of_wpS Tryz.func158 rfl fun c₀ cs hu => ?_
 apply wpS_seq
 apply wpS_region
 simp [wpOpsS, go_sem, recoverD, hu, Tryz.ntmps158, Exit.thenS, faultV]
 refine wpS_body (u1 := .panicking [faultR x]) (R0 := fun e w' => e = .returned (.tuple #[]) ∧ w' = (w.alloc (.cells #[.int .i64 x] 198)).setCell ⟨p, 0, none⟩ (.int .i64 x)) rfl ?_ (fun e w' h => ⟨h.1, rfl, by rw [h.2]; simpa using (HB.out.alloc _).set_ 0 (.int .i64 x), by rw [h.2]; exact ((Keep.refl (fun k => k = p) w).alloc _).set_ (p := ⟨p, 0, none⟩) (.inl rfl) _⟩)
 simp only [Array.replicate_succ, Array.replicate_zero, List.push_toArray, List.nil_append, List.cons_append, List.setIfInBounds_toArray, List.set_cons_succ, List.set_cons_zero, List.append_toArray]
 clear hu
 go_wp2
 go_end0
 exact ⟨rfl, rfl⟩
set_option maxHeartbeats 1000000 in
theorem caught_idle (p : Addr) (w : World) :
  CallsD Tryz.prog 158 #[.pointer (some p)] .returning w fun e u' w' => e = .returned (.tuple #[]) ∧ u' = .returning ∧ w' = w := by
 refine callsD_of_wpS Tryz.func158 rfl fun c₀ cs hu => ?_
 apply wpS_seq
 apply wpS_region
 simp [wpOpsS, go_sem, recoverD, hu, Tryz.ntmps158, Exit.thenS]
 refine wpS_body (u1 := .returning) (R0 := fun e w' => e = .returned (.tuple #[]) ∧ w' = w) (by cases c₀; simp_all) ?_ (fun e w' h => ⟨h.1, rfl, h.2⟩)
 simp only [Array.replicate_succ, Array.replicate_zero, List.push_toArray, List.nil_append, List.cons_append, List.setIfInBounds_toArray, List.set_cons_succ, List.set_cons_zero, List.append_toArray]
 go_wp2
 go_end0
 exact ⟨rfl, rfl⟩
def packCells (id : Int) (A : Option Addr) (n c : Nat) : Array Value := #[.int .i64 id, .slice A n c]
set_option maxHeartbeats 2000000 in
theorem known_any (id : Int) (w : World) :
  Calls Tryz.prog 159 #[.int .i64 id] w fun e w' => e = .returned (.bool (ptree id).isSome) ∧ Keep Never w w' := by
 cases h : ptree id with
 | none =>
  have H := Lib.hid h
  clear h
  go_enter Tryz.func159, Tryz.ntmps159
  go_wp2_with (go_at_call 164; refine (parts_none id H.out w).mono ?_; rintro e w' ⟨rfl, rfl⟩)
  go_ret
  exact ⟨rfl, Keep.refl _ _⟩
 | some T =>
  have H := Lib.hid h
  clear h
  have hlen : T.len ≠ 0 := (ptree_chk H.out).1
  have HL := Lib.hid hlen
  clear hlen
  go_enter Tryz.func159, Tryz.ntmps159
  go_wp2_with fail
  refine (parts_some id T H.out w).mono ?_
  rintro e w' ⟨A, n, c, rfl, h1, h2⟩
  obtain ⟨ad, rfl⟩ : ∃ ad, A = some ad := by
   cases A with
   | none => exact absurd rfl (h1.some_ HL.out)
   | some ad => exact ⟨ad, rfl⟩
  have H2 := Lib.hid h2
  clear h1 h2
  go_wp2_with fail
  go_ret
  exact ⟨rfl, H2.out⟩
def IRet (w : World) (r : Except Int (List (Int × Int))) (e : Ending) (w' : World) : Prop :=
 ∃ (A : Option Addr) (n c : Nat) (x : Int), e = .returned (.tuple #[.slice A n c, .int .i64 x]) ∧ Keep Never w w' ∧
  ((∃ tr, r = .ok tr ∧ x = 0 ∧ n = tr.length ∧ Own w' w.heap.size 162 2 A n c (bitCells (itemsOf tr))) ∨ (r = .error x ∧ x ≠ 0 ∧ -9223372036854775808 ≤ x ∧ x ≤ 9223372036854775807))
set_option maxHeartbeats 4000000 in
set_option maxRecDepth 100000 in
theorem items_none (id : Int) (V : List Int) (A : Option Addr) (n c : Nat) (w : World) (hT : ptree id = none) :
  Calls Tryz.prog 118 #[.agg (packCells id A n c)] w (IRet w (itemsM id V)) := by
 have hres : itemsM id V = .error 50 := by simp [itemsM, hT]
 rw [hres]
 have hk : Hid (∀ w, Calls Tryz.prog 159 #[.int .i64 id] w fun e w' => e = .returned (.bool false) ∧ Keep Never w w') := by
  intro w
  have := known_any id w
  rwa [hT] at this
 unfold packCells
 clear hT hres
 go_enter_defers Tryz.func118, Tryz.ntmps118
 go_wp2_with (go_at_call 159; refine (hk.out _).mono ?_; rintro e w1 ⟨rfl, hk1⟩; have HK1 := Lib.hid hk1; clear hk1)
 have hb : Blk w1 (w.heap.size + 1 + 1) 39 #[.int .i64 0] := Blk.keep (w := ((w.alloc _).alloc _).alloc _) (by simpa using Blk.new ((w.alloc (.cells #[.int .i64 id, .slice A n c] 105)).alloc (.cells #[.slice none 0 0] 106)) 39 #[.int .i64 0]) HK1.out (fun h => h)
 have hl : Blk w1 (w.heap.size + 1) 106 #[.slice none 0 0] := Blk.keep (w := ((w.alloc _).alloc _).alloc _) ((by simpa using Blk.new (w.alloc (.cells #[.int .i64 id, .slice A n c] 105)) 106 #[.slice none 0 0] : Blk ((w.alloc (.cells #[.int .i64 id, .slice A n c] 105)).alloc (.cells #[.slice none 0 0] 106)) (w.heap.size + 1) 106 #[.slice none 0 0]).alloc _) HK1.out (fun h => h)
 refine leaves_cons (f := 158) (args := #[.pointer (some ⟨w.heap.size + 1 + 1, 0, none⟩)]) (by simp) (by simp [go_sem]) ?_
 refine (caught_panicking (w.heap.size + 1 + 1) 50 0 _ hb).mono ?_
 rintro e u' w2 ⟨rfl, rfl, hb2, hk2⟩
 have hl2 := hl.keep hk2 (by omega)
 have q1 : w2.cell? ⟨w.heap.size + 1 + 1, 0, none⟩ = some (.int .i64 50) := hb2.cell 0
 have q2 : w2.cell? ⟨w.heap.size + 1, 0, none⟩ = some (.slice none 0 0) := hl2.cell 0
 simp [Leaves, settle, results, Tryz.results118, go_sem, faultR, q1, q2]
 exact ⟨_, _, _, _, rfl, (((((Keep.refl Never w).alloc _).alloc _).alloc _).trans HK1.out).then_ hk2 (fun i hi h => by omega), .inr ⟨rfl, by decide, by decide, by decide⟩⟩
theorem world3 {w1 : World} {b t1 t2 t3 tb : Nat} {cs1 cs2 cs3 cb : Array Value} (hl : Blk w1 b tb cb) (v : Value) :
  Blk ((((w1.alloc (.cells cs1 t1)).setCell ⟨b, 0, none⟩ v).alloc (.cells cs2 t2)).alloc (.cells cs3 t3)).drew b tb (cb.setIfInBounds 0 v) ∧
  Blk ((((w1.alloc (.cells cs1 t1)).setCell ⟨b, 0, none⟩ v).alloc (.cells cs2 t2)).alloc (.cells cs3 t3)).drew w1.heap.size t1 cs1 ∧
  Blk ((((w1.alloc (.cells cs1 t1)).setCell ⟨b, 0, none⟩ v).alloc (.cells cs2 t2)).alloc (.cells cs3 t3)).drew (w1.heap.size + 1) t2 cs2 ∧
  Blk ((((w1.alloc (.cells cs1 t1)).setCell ⟨b, 0, none⟩ v).alloc (.cells cs2 t2)).alloc (.cells cs3 t3)).drew (w1.heap.size + 1 + 1) t3 cs3 ∧
  Keep (fun k => k = b) w1 ((((w1.alloc (.cells cs1 t1)).setCell ⟨b, 0, none⟩ v).alloc (.cells cs2 t2)).alloc (.cells cs3 t3)).drew ∧
  ((((w1.alloc (.cells cs1 t1)).setCell ⟨b, 0, none⟩ v).alloc (.cells cs2 t2)).alloc (.cells cs3 t3)).drew.heap.size = w1.heap.size + 1 + 1 + 1 := by
 have hlt := hl.lt
 have s1 : ((w1.alloc (.cells cs1 t1)).setCell ⟨b, 0, none⟩ v).heap.size = w1.heap.size + 1 := by simp [World.setCell]
 have n2 : Blk (((w1.alloc (.cells cs1 t1)).setCell ⟨b, 0, none⟩ v).alloc (.cells cs2 t2)) (w1.heap.size + 1) t2 cs2 := by rw [← s1]; exact Blk.new _ _ _
 have s2 : (((w1.alloc (.cells cs1 t1)).setCell ⟨b, 0, none⟩ v).alloc (.cells cs2 t2)).heap.size = w1.heap.size + 1 + 1 := by rw [World.size_alloc, s1]
 have n3 : Blk ((((w1.alloc (.cells cs1 t1)).setCell ⟨b, 0, none⟩ v).alloc (.cells cs2 t2)).alloc (.cells cs3 t3)) (w1.heap.size + 1 + 1) t3 cs3 := by rw [← s2]; exact Blk.new _ _ _
 refine ⟨((((hl.alloc _).set_ 0 v).alloc _).alloc _).drew, ((((Blk.new w1 t1 cs1).far (p := ⟨b, 0, none⟩) (by simp; omega) v).alloc _).alloc _).drew, (n2.alloc _).drew, n3.drew, ((((((Keep.refl (fun k => k = b) w1).alloc _).set_ (p := ⟨b, 0, none⟩) (.inl rfl) v).alloc _).alloc _).drew), ?_⟩
 show (World.alloc _ _).heap.size = _
 rw [World.size_alloc, s2]
theorem Own.of_blk2 {w : World} {g e n B size : Nat} {xs : List Value} (h : Blk w g e xs.toArray) (hl : xs.length = n * size) (hm : n ≤ maxLen) (hB : B ≤ g) : Own w B e size (some ⟨g, 0, none⟩) n n xs :=
 ⟨hl, .inr ⟨g, n, xs.toArray, rfl, hB, h, Nat.le_refl _, hm, by simp [hl], by rw [List.take_of_length_le (by simp [hl])]⟩⟩
set_option maxHeartbeats 4000000 in
set_option maxRecDepth 100000 in
theorem items_some (B : Nat) (id : Int) (V : List Int) (T : Parts) (A : Option Addr) (n c : Nat) (w : World) (hT : ptree id = some T) (hV : Rd w B 1 A n (V.map (.int .i64))) (hn : V.length = n) (hc : n ≤ c) (hcm : c ≤ maxLen) (hb : ∀ x ∈ V, i64 x) (h3 : V.length ≤ 8200) (hW : Widths w) (hg : 0 < B) (hB : B ≤ w.heap.size) :
  Calls Tryz.prog 118 #[.agg (packCells id A n c)] w (IRet w (itemsM id V)) := by
 have hk : Hid (∀ w, Calls Tryz.prog 159 #[.int .i64 id] w fun e w' => e = .returned (.bool true) ∧ Keep Never w w') := by
  intro w
  have := known_any id w
  rwa [hT] at this
 have hmf : ∀ (fn : Fn) (first cap : Array Value) (w : World), (Instr.makeFunc fn first cap).run Tryz.prog w = .ok (.func fn first cap) w := fun _ _ _ _ => rfl
 have HT := Lib.hid hT
 have HV := Lib.hid hV
 have Hn := Lib.hid hn
 have Hb := Lib.hid hb
 have HW := Lib.hid hW
 unfold packCells
 clear hT hV hn hb hW
 go_enter_defers Tryz.func118, Tryz.ntmps118
 go_wp2_with (go_at_call 159; refine (hk.out _).mono ?_; rintro e w1 ⟨rfl, hk1⟩; have HK1 := Lib.hid hk1; clear hk1)
 have hk0 : Keep Never w w1 := (((Keep.refl Never w).alloc _).alloc _).alloc _ |>.trans HK1.out
 have hp : Blk w1 w.heap.size 105 #[.int .i64 id, .slice A n c] := Blk.keep (w := ((w.alloc _).alloc _).alloc _) (((Blk.new w 105 #[.int .i64 id, .slice A n c]).alloc _).alloc _) HK1.out (fun h => h)
 have hl : Blk w1 (w.heap.size + 1) 106 #[.slice none 0 0] := Blk.keep (w := ((w.alloc _).alloc _).alloc _) ((by simpa using Blk.new (w.alloc (.cells #[.int .i64 id, .slice A n c] 105)) 106 #[.slice none 0 0] : Blk ((w.alloc (.cells #[.int .i64 id, .slice A n c] 105)).alloc (.cells #[.slice none 0 0] 106)) (w.heap.size + 1) 106 #[.slice none 0 0]).alloc _) HK1.out (fun h => h)
 have he : Blk w1 (w.heap.size + 1 + 1) 39 #[.int .i64 0] := Blk.keep (w := ((w.alloc _).alloc _).alloc _) (by simpa using Blk.new ((w.alloc (.cells #[.int .i64 id, .slice A n c] 105)).alloc (.cells #[.slice none 0 0] 106)) 39 #[.int .i64 0]) HK1.out (fun h => h)
 have c1 : w1.cell? ⟨w.heap.size, 0, none⟩ = some (.int .i64 id) := hp.cell 0
 have c2 : w1.cell? ⟨w.heap.size, 1, none⟩ = some (.slice A n c) := hp.cell 1
 have c3 : w1.cell? ⟨w.heap.size + 1, 0, none⟩ = some (.slice none 0 0) := hl.cell 0
 have f3 : w1.frozen? ⟨w.heap.size + 1, 0, none⟩ = false := hl.frozen 0
 have c3a : ∀ o, (w1.alloc o).cell? ⟨w.heap.size + 1, 0, none⟩ = some (.slice none 0 0) := fun o => (hl.alloc o).cell 0
 have f3a : ∀ o, (w1.alloc o).frozen? ⟨w.heap.size + 1, 0, none⟩ = false := fun o => (hl.alloc o).frozen 0
 have c1a : ∀ o, (w1.alloc o).cell? ⟨w.heap.size, 0, none⟩ = some (.int .i64 id) := fun o => (hp.alloc o).cell 0
 have c2a : ∀ o, (w1.alloc o).cell? ⟨w.heap.size, 1, none⟩ = some (.slice A n c) := fun o => (hp.alloc o).cell 1
 have hps : ∀ o1 v, Blk ((w1.alloc o1).setCell ⟨w.heap.size + 1, 0, none⟩ v) w.heap.size 105 #[.int .i64 id, .slice A n c] := fun o1 v => (hp.alloc o1).far (p := ⟨w.heap.size + 1, 0, none⟩) (by simp) v
 have c2b : ∀ o1 v, ((w1.alloc o1).setCell ⟨w.heap.size + 1, 0, none⟩ v).cell? ⟨w.heap.size, 1, none⟩ = some (.slice A n c) := fun o1 v => (hps o1 v).cell 1
 have c1d : ∀ o1 v o2 o3, ((((w1.alloc o1).setCell ⟨w.heap.size + 1, 0, none⟩ v).alloc o2).alloc o3).cell? ⟨w.heap.size, 0, none⟩ = some (.int .i64 id) := fun o1 v o2 o3 => (((hps o1 v).alloc o2).alloc o3).cell 0
 have Hps := Lib.hid hps
 clear hps
 have Hk0 := Lib.hid hk0
 have Hp := Lib.hid hp
 have Hl := Lib.hid hl
 have He := Lib.hid he
 have hWid : Calls Tryz.prog 160 #[.int .i64 5] w1.drew fun e w' => e = .returned (.int .i64 8) ∧ w' = w1.drew :=
  (vwidth_any 5 w1.drew ((HW.out.keep hk0 (fun h => h)).keep ((Keep.refl Never w1).drew) (fun h => h))).mono fun _ _ h => ⟨h.1, h.2.symm⟩
 have HWid := Lib.hid hWid
 clear hk0 hp hl he hWid
 refine wp_region_still_tail 4 (by kernel_rfl) (by kernel_rfl) ?_
 simp only [List.take_succ_cons, List.take_zero, List.drop_succ_cons, List.drop_zero]
 still_step
 still_step
 still_call HWid.out
 still_step
 refine wpStill_nil ?_
 change wpList _ _ _ _ _ (World.drew _)
 go_wp2_with fail
 refine (parts_some id T HT.out _).mono ?_
 rintro e w2 ⟨A2, n2, C2, rfl, h1, h2⟩
 obtain ⟨b1, b2, b3, b4, k5, hs5⟩ := world3 (cs1 := #[.int .i64 id, .int .i64 8]) (t1 := 162) (cs2 := #[.slice A n c]) (t2 := 22) (cs3 := #[.func (.func 161) #[] #[.pointer (some ⟨w.heap.size + 1, 0, none⟩), .pointer (some ⟨w1.heap.size + 1, 0, none⟩)]]) (t3 := 202) Hl.out (.slice (some ⟨w1.heap.size, 0, none⟩) 1 1)
 have g1 := b1.keep h2 (fun h => h)
 have g2 := b2.keep h2 (fun h => h)
 have g3 := b3.keep h2 (fun h => h)
 have g4 := b4.keep h2 (fun h => h)
 have he2 := (He.out.keep k5 (by omega)).keep h2 (fun h => h)
 have hsz2 := h2.size
 rw [hs5] at hsz2
 have hw1 := Hk0.out.size
 have hlt := He.out.lt
 have hk2 : Keep Never w w2 := (Hk0.out.then_ k5 (fun i hi h => by omega)).trans h2
 have hW2 : Widths w2 := HW.out.keep hk2 (fun h => h)
 have hrow : ∀ k, InRow (some ⟨w1.heap.size, 0, none⟩ : Option Addr) k ↔ k = w1.heap.size := fun k => ⟨by rintro ⟨ad, h, rfl⟩; injection h with h; subst h; rfl, by rintro rfl; exact ⟨_, rfl, rfl⟩⟩
 have hinv : InvI B w1.heap.size (w.heap.size + 1) (w1.heap.size + 1) ⟨V, [(5, id)]⟩ (fun k => k = w1.heap.size) w2 := by
  refine ⟨some ⟨w1.heap.size, 0, none⟩, 1, A, n, c, by simpa using g1, ?_, fun k => (hrow k).symm, g3, Hn.out, ?_, hc, hcm, Hb.out, hW2, by omega, trivial, by omega, by omega, by omega, hg⟩
  ·exact Own.of_blk2 (n := 1) (by simpa [bitCells, itemsOf, show vWidth 5 = 8 from rfl] using g2) rfl (by unfold maxLen; omega) (Nat.le_refl _)
  ·exact HV.out.keep hk2 (fun _ h => h.elim)
 have hlead := (ptree_chk HT.out).2.2.1
 have hne9 := walkI9_ok hlead 0 ⟨V, [(5, id)]⟩ (by simp; omega)
 have heq9 := walkI9 hlead 0 ⟨V, [(5, id)]⟩ (by simp; omega)
 have hwalk := walk_any valI9 (fun s Q W => InvI B w1.heap.size (w.heap.size + 1) (w1.heap.size + 1) s Q W ∧ w1.heap.size ≤ W.heap.size) (SI2 (w.heap.size + 1) (w1.heap.size + 1)) 161 #[.pointer (some ⟨w.heap.size + 1, 0, none⟩), .pointer (some ⟨w1.heap.size + 1, 0, none⟩)]
  (fun args w => by kernel_rfl) (items1_does B w1.heap.size (w.heap.size + 1) (w1.heap.size + 1)) (fun s Q W W' h hk => ⟨h.1.keep hk, Nat.le_trans h.2 hk.size⟩)
  (w1.heap.size + 1 + 1) w2.heap.size (Frw (w1.heap.size + 1 + 1 + 1) w2) (fun k hk => ⟨fun h => by have := hk.1; rcases h with h | h <;> omega, hk.2⟩) ⟨fun h => by rcases h with h | h <;> omega, by omega⟩ (fun k h => by rcases h with h | h <;> omega)
  T.sz T (Nat.le_refl _) A2 n2 C2 ⟨V, [(5, id)]⟩ (fun k => k = w1.heap.size) w2 (by rw [hs5] at h1; exact h1.keep (Keep.refl Never w2) (fun k hk h => ⟨fun h => h.elim, h, hk⟩)) g4 (Nat.le_refl _) ⟨hinv, by omega⟩
  (fun k hk h => by have := hk.1; omega) (by omega) (fun k h => by omega) hne9
 rw [heq9] at hwalk
 have hres : itemsM id V = (match walkL valI T 0 ⟨V, [(5, id)]⟩ with | .error e => .error e | .ok s => if s.rest = [] then .ok s.out else .error 20) := by unfold itemsM; simp only [HT.out]; rfl
 have hE2 := Lib.hid he2
 have hlt2 : Hid (w.heap.size + 1 + 1 < w1.heap.size) := hlt
 have Hwalk := Lib.hid hwalk
 have HK2 := Lib.hid hk2
 have Hsz2 : Hid (w1.heap.size + 1 + 1 + 1 ≤ w2.heap.size) := hsz2
 have Hw1 : Hid (w.heap.size ≤ w1.heap.size) := hw1
 rcases hr : walkL valI T 0 ⟨V, [(5, id)]⟩ with x | s'
 ·rw [hr] at hres
  have HR := Lib.hid hres
  have Hr := Lib.hid hr
  have hx : x = 20 := walk_err (E := fun e => e = 20) valI_err T 0 _ x hr
  subst hx
  clear b1 b2 b3 b4 k5 hs5 g1 g2 g3 g4 he2 hsz2 hw1 hlt hk2 hW2 hrow hinv hlead hne9 heq9 hwalk h1 h2 hres hr c1 c2 c3 f3 c3a f3a c1a c2a c2b c1d
  go_wp2_with fail
  refine Hwalk.out.mono ?_
  rintro e w3 ⟨hk5, Q', hq1, hq2, hpo⟩
  rw [Hr.out] at hpo
  rcases hpo with ⟨_, h, _⟩ | ⟨y, s4, h, rfl, hi4⟩
  ·cases h
  injection h with h
  subst h
  obtain ⟨⟨A5, c5, A6, n6, c6, i1, i2, i3, i4, _⟩, hi5⟩ := hi4
  have he3 := hE2.out.keep hk5 (fun h => by have := hlt2.out; rcases h with (h | h) | h <;> omega)
  have HKw : Hid (Keep Never w w3) := HK2.out.then_ hk5 (fun i hi h => by have := Hw1.out; rcases h with (h | h) | h <;> omega)
  clear hk5 hq1 hq2 hi5 i2 i3 i4
  go_wp2_with fail
  refine leaves_cons (f := 158) (args := #[.pointer (some ⟨w.heap.size + 1 + 1, 0, none⟩)]) (by simp) (by simp [go_sem]) ?_
  refine (caught_panicking (w.heap.size + 1 + 1) 20 0 _ he3).mono ?_
  rintro e u' w4 ⟨rfl, rfl, hb4, hk4⟩
  have q1 : w4.cell? ⟨w.heap.size + 1 + 1, 0, none⟩ = some (.int .i64 20) := hb4.cell 0
  have q2 : w4.cell? ⟨w.heap.size + 1, 0, none⟩ = some (.slice A5 s4.out.length c5) := (Blk.keep i1 hk4 (by omega)).cell 0
  have HF : Hid (Keep Never w w4) := HKw.out.then_ hk4 (fun i hi h => by omega)
  clear hb4 hk4
  simp [Leaves, settle, results, Tryz.results118, go_sem, faultR, q1, q2]
  rw [HR.out]
  exact ⟨_, _, _, _, rfl, HF.out, .inr ⟨rfl, by decide, by decide, by decide⟩⟩
 ·rw [hr] at hres
  have HR := Lib.hid hres
  have Hr := Lib.hid hr
  clear b1 b2 b3 b4 k5 hs5 g1 g2 g3 g4 he2 hsz2 hw1 hlt hk2 hW2 hrow hinv hlead hne9 heq9 hwalk h1 h2 hres hr c1 c2 c3 f3 c3a f3a c1a c2a c2b c1d
  go_wp2_with fail
  refine Hwalk.out.mono ?_
  rintro e w3 ⟨hk5, Q', hq1, hq2, hpo⟩
  rw [Hr.out] at hpo
  rcases hpo with ⟨s4, h, rfl, hi4⟩ | ⟨_, _, h, _⟩
  rotate_left
  ·cases h
  injection h with h
  subst h
  obtain ⟨⟨A5, c5, A6, n6, c6, i1, i2, i3, i4, i5, _⟩, hi5⟩ := hi4
  have he3 := hE2.out.keep hk5 (fun h => by have := hlt2.out; rcases h with (h | h) | h <;> omega)
  have HKw : Hid (Keep Never w w3) := HK2.out.then_ hk5 (fun i hi h => by have := Hw1.out; rcases h with (h | h) | h <;> omega)
  have d1 : w3.cell? ⟨w1.heap.size + 1, 0, none⟩ = some (.slice A6 n6 c6) := i4.cell 0
  have d2 : w3.cell? ⟨w.heap.size + 1, 0, none⟩ = some (.slice A5 s'.out.length c5) := i1.cell 0
  have d3 : w3.cell? ⟨w.heap.size + 1 + 1, 0, none⟩ = some (.int .i64 0) := he3.cell 0
  have d4 : w3.frozen? ⟨w.heap.size + 1, 0, none⟩ = false := i1.frozen 0
  have d5 : w3.frozen? ⟨w.heap.size + 1 + 1, 0, none⟩ = false := he3.frozen 0
  have hset : w3.setCell ⟨w.heap.size + 1, 0, none⟩ (.slice A5 s'.out.length c5) = w3.setCell ⟨w.heap.size + 1, 0, none⟩ (.slice A5 s'.out.length c5) := rfl
  have I1 := Lib.hid i1
  have I2 := Lib.hid i2
  have He3 := Lib.hid he3
  have Hbase : Hid (w.heap.size ≤ w1.heap.size) := Hw1.out
  clear hset hk5 hq1 hq2 hi5 i1 i2 i3 i4 he3
  by_cases hz : s'.rest = []
  ·have HR := (Lib.hid (HR.out.trans (if_pos hz)) : Hid (itemsM id V = .ok s'.out))
   rw [hz] at i5
   simp only [List.length_nil] at i5
   subst i5
   clear hz
   go_wp2_with fail
   refine leaves_cons (f := 158) (args := #[.pointer (some ⟨w.heap.size + 1 + 1, 0, none⟩)]) (by simp) (by simp [go_sem]) ?_
   refine (caught_idle _ _).mono ?_
   rintro e u' w4 ⟨rfl, rfl, rfl⟩
   have hl4 := ((I1.out.set_ 0 (.slice A5 s'.out.length c5)).far (p := ⟨w.heap.size + 1 + 1, 0, none⟩) (by simp) (.int .i64 0))
   have he4 := ((He3.out.far (p := ⟨w.heap.size + 1, 0, none⟩) (by simp) (.slice A5 s'.out.length c5)).set_ 0 (.int .i64 0))
   have q1 := he4.cell 0
   have q2 := hl4.cell 0
   simp at q1 q2
   simp [Leaves, settle, results, Tryz.results118, go_sem, q1, q2]
   rw [HR.out]
   have hk4 : Keep Never w ((w3.setCell ⟨w.heap.size + 1, 0, none⟩ (.slice A5 s'.out.length c5)).setCell ⟨w.heap.size + 1 + 1, 0, none⟩ (.int .i64 0)) :=
    (HKw.out.set_ (p := ⟨w.heap.size + 1, 0, none⟩) (.inr (by simp)) _).set_ (p := ⟨w.heap.size + 1 + 1, 0, none⟩) (.inr (by simp; omega)) _
   have ho4 := ((I2.out.far (p := ⟨w.heap.size + 1, 0, none⟩) (fun k h e => I2.out.ne_blk I1.out (by decide) k h e) (.slice A5 s'.out.length c5)).far (p := ⟨w.heap.size + 1 + 1, 0, none⟩) (fun k h e => I2.out.ne_blk He3.out (by decide) k h e) (.int .i64 0)).less Hbase.out
   exact ⟨_, _, _, _, rfl, hk4, .inl ⟨_, rfl, rfl, rfl, ho4⟩⟩
  ·have HR := (Lib.hid (HR.out.trans (if_neg hz)) : Hid (itemsM id V = .error 20))
   have hn6 : (0 : Int) < n6 := by
    have : s'.rest.length ≠ 0 := fun h => hz (List.length_eq_zero_iff.1 h)
    omega
   clear hz
   go_wp2_with fail
   refine leaves_cons (f := 158) (args := #[.pointer (some ⟨w.heap.size + 1 + 1, 0, none⟩)]) (by simp) (by simp [go_sem]) ?_
   refine (caught_panicking (w.heap.size + 1 + 1) 20 0 _ He3.out).mono ?_
   rintro e u' w4 ⟨rfl, rfl, hb4, hk4⟩
   have q1 : w4.cell? ⟨w.heap.size + 1 + 1, 0, none⟩ = some (.int .i64 20) := hb4.cell 0
   have q2 : w4.cell? ⟨w.heap.size + 1, 0, none⟩ = some (.slice A5 s'.out.length c5) := (Blk.keep I1.out hk4 (by omega)).cell 0
   have HF : Hid (Keep Never w w4) := HKw.out.then_ hk4 (fun i hi h => by omega)
   clear hb4 hk4
   simp [Leaves, settle, results, Tryz.results118, go_sem, faultR, q1, q2]
   rw [HR.out]
   exact ⟨_, _, _, _, rfl, HF.out, .inr ⟨rfl, by decide, by decide, by decide⟩⟩
theorem items_any (B : Nat) (id : Int) (V : List Int) (A : Option Addr) (n c : Nat) (w : World) (hV : Rd w B 1 A n (V.map (.int .i64))) (hn : V.length = n) (hc : n ≤ c) (hcm : c ≤ maxLen) (hb : ∀ x ∈ V, i64 x) (h3 : V.length ≤ 8200) (hW : Widths w) (hg : 0 < B) (hB : B ≤ w.heap.size) :
  Calls Tryz.prog 118 #[.agg (packCells id A n c)] w (IRet w (itemsM id V)) := by
 cases hT : ptree id with
 | none => exact items_none id V A n c w hT
 | some T => exact items_some B id V T A n c w hT hV hn hc hcm hb h3 hW hg hB
end Go.Proofs.YtpapiojicbbheaaGreatDoor

namespace Go.Proofs.YtpapiojicbbheaaGreatDoor
open Go.RowKit
theorem nom_dir (r : Bool) : decide (nomI r = 0) = r := by cases r <;> rfl
def dnI (u x : Int) : Int := x / unitM u * unitM u
def dnS (u : Int) (l : List Sc) : List Sc := l.map fun s => (dnI u s.1, s.2)
theorem dn_le {u x : Int} (hu : 0 < unitM u) : dnI u x ≤ x ∧ x - dnI u x < unitM u := by
 unfold dnI
 have h1 := Int.mul_ediv_add_emod x (unitM u)
 have h2 := Int.emod_lt_of_pos x hu
 have h3 := Int.emod_nonneg x (show unitM u ≠ 0 by omega)
 rw [Int.mul_comm] at h1
 omega
theorem dn_nonneg {u x : Int} (hu : 0 < unitM u) (h : 0 ≤ x) : 0 ≤ dnI u x := Int.mul_nonneg (Int.ediv_nonneg h (by omega)) (by omega)
theorem dn_lt {u x y : Int} (hu : 0 < unitM u) (h : x / unitM u < y / unitM u) : dnI u x < dnI u y := Int.mul_lt_mul_of_pos_right h hu
theorem dm_ok {n u : Int} (hu : 0 < unitM u) (h0 : 0 ≤ n) (h1 : n ≤ 32766) : dmM n u = (n * unitM u, 0) := by
 unfold dmM
 rw [if_neg (by omega), if_neg (by omega)]
theorem scaled_dn {d u : Int} (h : (scaledM d u false).2 = 0) : 0 < unitM u ∧ 0 ≤ d ∧ (scaledM d u false).1 = d / unitM u ∧ 0 ≤ d / unitM u ∧ d / unitM u ≤ 32766 := by
 obtain ⟨h1, h2, _, h4, h5, h6⟩ := scaled_ok h
 have : raiseM d u false = d := rfl
 rw [this] at h4
 rw [h4] at h5 h6
 exact ⟨h1, h2, h4, h6, h5⟩
theorem endS_dn (u : Int) (l : List Sc) (hu : 0 < unitM u) : endS (dnS u l) = dnI u (endS l) := by
 unfold endS dnS
 rw [List.getLast?_map]
 cases l.getLast? with
 | none => simp [dnI]
 | some x => rfl
theorem secN_cons {u last : Int} {s : Sc} {l : List Sc} {v : List Int} (h : secN u last (s :: l) = some v) : (scaledM s.1 u false).2 = 0 ∧ last < s.1 / unitM u ∧ ∃ w, secN u (s.1 / unitM u) l = some w ∧ v = (s.1 / unitM u - last) :: 1 :: s.2 :: 0 :: w := by
 unfold secN at h
 split at h
 ·cases h
 rename_i hc
 have h0 : (scaledM s.1 u false).2 = 0 := by omega
 obtain ⟨a1, a2, a3, a4, a5⟩ := scaled_dn h0
 rw [a3] at h hc
 rw [Option.map_eq_some_iff] at h
 obtain ⟨w, hw, rfl⟩ := h
 exact ⟨h0, by omega, w, hw, rfl⟩
theorem secs_back {u : Int} : ∀ (l : List Sc) (last : Int) (v rest : List Int), secN u last l = some v → 0 ≤ last → (∀ s ∈ l, 1 ≤ s.2 ∧ s.2 ≤ 1000) → sectsR u l.length (last * unitM u) (v ++ rest) = .ok (dnS u l, rest)
 | [], last, v, rest, h, _, _ => by
  unfold secN at h
  injection h with h
  subst h
  rfl
 | s :: l, last, v, rest, h, h0, ht => by
  obtain ⟨e0, h1, w, hw, rfl⟩ := secN_cons h
  obtain ⟨a1, a2, a3, a4, a5⟩ := scaled_dn e0
  have hts := ht s (by simp)
  have hd := dm_ok (n := s.1 / unitM u - last) a1 (by omega) (by omega)
  have hs : sectR u (last * unitM u) ((s.1 / unitM u - last) :: 1 :: s.2 :: 0 :: w ++ rest) 0 = ⟨(s.1 / unitM u * unitM u, s.2), w ++ rest, 0⟩ := by
   unfold sectR
   simp only [List.cons_append, List.headD_cons, List.tail_cons, decide_true, if_true, hd]
   rw [if_neg (by omega)]
   have : last * unitM u + (s.1 / unitM u - last) * unitM u = s.1 / unitM u * unitM u := by rw [Int.sub_mul]; omega
   rw [this]
   simp
   intro h
   exact absurd h (by omega)
  simp only [List.length_cons]
  unfold sectsR
  rw [hs]
  simp only [ne_eq, not_true_eq_false, if_false]
  rw [secs_back l (s.1 / unitM u) w rest hw a4 (fun x hx => ht x (by simp [hx]))]
  rfl
theorem secN_up {u : Int} : ∀ (l : List Sc) (last : Int) (v : List Int), secN u last l = some v → ∀ k s, l[k]? = some s → (match (l.take k).getLast? with | none => last | some x => x.1 / unitM u) < s.1 / unitM u
 | [], last, v, h, k, s, hk => by simp at hk
 | x :: l, last, v, h, k, s, hk => by
  obtain ⟨e0, h1, w, hw, rfl⟩ := secN_cons h
  cases k with
  | zero => simp at hk; subst hk; simpa using h1
  | succ k =>
   simp only [List.getElem?_cons_succ] at hk
   have := secN_up l (x.1 / unitM u) w hw k s hk
   rw [List.take_succ_cons, List.getLast?_cons]
   cases hg : (l.take k).getLast? with
   | none => rw [hg] at this; simpa using this
   | some y => rw [hg] at this; simpa using this
theorem sects_dn {u : Int} {l : List Sc} {v : List Int} (h : secN u 0 l = some v) (hs : SectsI l) (hu : 0 < unitM u) : SectsI (dnS u l) := by
 refine ⟨fun k x hx => ?_, fun x hx => ?_, fun x hx => ?_⟩
 ·unfold dnS at hx
  rw [List.getElem?_map, Option.map_eq_some_iff] at hx
  obtain ⟨s, hk, rfl⟩ := hx
  have h1 := secN_up l 0 v h k s hk
  have h2 : (dnS u l).take k = dnS u (l.take k) := by unfold dnS; rw [List.map_take]
  rw [h2, endS_dn u _ hu]
  refine dn_lt hu ?_
  unfold endS
  cases hg : (l.take k).getLast? with
  | none => rw [hg] at h1; simpa using h1
  | some y => rw [hg] at h1; simpa using h1
 ·unfold dnS at hx
  obtain ⟨s, hs2, rfl⟩ := List.mem_map.1 hx
  have := hs.big s hs2
  have := (dn_le (x := s.1) hu).1
  simp only; omega
 ·unfold dnS at hx
  obtain ⟨s, hs2, rfl⟩ := List.mem_map.1 hx
  exact hs.time s hs2
theorem or14 (a b : Int) (ha : 0 ≤ a) (ha2 : a < 4398046511104) (hb : 0 ≤ b) (hb2 : b < 16384) : orV (a * 16384) b = a * 16384 + b := by
 obtain ⟨m, rfl⟩ : ∃ m : Nat, a = m := ⟨a.toNat, by omega⟩
 obtain ⟨n, rfl⟩ : ∃ n : Nat, b = n := ⟨b.toNat, by omega⟩
 have a1 : m * 16384 < 9223372036854775808 := by omega
 have a2 : n < 9223372036854775808 := by omega
 have h := (bits_nat .i64 63 (by decide) wraps_i64 (m * 16384) n (by rw [show (2 : Nat) ^ 63 = 9223372036854775808 from rfl]; exact a1) (by rw [show (2 : Nat) ^ 63 = 9223372036854775808 from rfl]; exact a2)).2
 have e : m * 16384 ||| n = m * 16384 + n := by
  have h1 := Nat.shiftLeft_add_eq_or_of_lt (i := 14) (b := n) (by omega) m
  rw [Nat.shiftLeft_eq] at h1
  exact h1.symm
 rw [e] at h
 have e2 : ((m * 16384 : Nat) : Int) = (m : Int) * 16384 := by omega
 have e3 : ((m * 16384 + n : Nat) : Int) = (m : Int) * 16384 + (n : Int) := by rw [Int.natCast_add, e2]
 rw [e2, e3] at h
 exact h
theorem or_id {b : Int} (h0 : 0 ≤ b) (h1 : b ≤ 16777214) : orV (b / 16384 * 16384) (b % 16384) = b := by
 rw [or14 _ _ (by omega) (by omega) (by omega) (by omega)]
 omega
theorem bal_first {l : List Bl} (h : ∀ i b, l[i]? = some b → (balM (l.take i) b.1).isSome = false) {b : Bl} (hb : b ∈ l) : balM l b.1 = some b := by
 obtain ⟨i, hi⟩ := List.mem_iff_getElem?.1 hb
 have h1 := h i b hi
 refine find_idx hi (by simp) (fun x hx => ?_)
 unfold balM at h1
 rw [Option.isSome_eq_false_iff, Option.isNone_iff_eq_none, List.find?_eq_none] at h1
 simpa using h1 x hx
theorem check_ids {t : Tp} (h : checkM t = 0) {b : Bl} (hb : b ∈ t.2.2.1) : balM t.2.2.1 b.1 = some b := by
 have h0 : firstE (bErr t) t.2.2.1.length = 0 := by
  unfold checkM at h
  split at h
  ·exact absurd h (by decide)
  split at h
  ·exact absurd h (by decide)
  split at h
  ·rename_i h3; exact absurd h h3
  split at h
  ·rename_i h3; exact absurd h h3
  rename_i h3
  simpa using h3
 refine bal_first (fun i b hi => ?_) hb
 have h1 := firstE_all h0 i (List.getElem?_eq_some_iff.1 hi).1
 unfold bErr at h1
 rw [hi] at h1
 simp only at h1
 split at h1
 ·exact absurd h1 (by decide)
 split at h1
 ·exact absurd h1 (by decide)
 rename_i h2
 simpa using h2
theorem firstB_some {t : Tp} {e : Int} {b : Bl} (h : firstB t e = some b) : b ∈ t.2.2.1 ∧ b.2.1 = e := by
 unfold firstB at h
 exact ⟨List.mem_of_find?_eq_some h, by simpa using List.find?_some h⟩
structure OnW (t : Tp) (path l : List Stp) : Prop where
 some_ : path ≠ []
 few : (path ++ l).length ≤ 24
 once : onceM (path ++ l)
 aft : ∀ k a b, (path ++ l)[k]? = some a → (path ++ l)[k + 1]? = some b → b ∈ afterM t a
theorem step_back {t : Tp} (hc : checkM t = 0) {path l : List Stp} {s : Stp} (h : OnW t path (s :: l)) {b : Bl} (hb : firstB t s.1 = some b) (x : Int) (rest : List Int) :
  stepL t path ([x, 1, b.1 / 16384, b.1 % 16384, nomI s.2, 2, 12] ++ rest) = .ok (path ++ [s]) := by
 obtain ⟨h1, h2⟩ := firstB_some hb
 obtain ⟨c1, c2, _⟩ := check_bal hc h1
 have hid : idL ([x, 1, b.1 / 16384, b.1 % 16384, nomI s.2, 2, 12] ++ rest) = b.1 := by
  unfold idL
  simp only [List.cons_append, List.getD_cons_succ, List.getD_cons_zero]
  exact or_id c1 c2
 obtain ⟨last, hl⟩ : ∃ last, path.getLast? = some last := by
  cases hp : path.getLast? with
  | none => exact absurd (List.getLast?_eq_none_iff.1 hp) h.some_
  | some z => exact ⟨z, rfl⟩
 have hpl : 0 < path.length := List.length_pos_iff.2 h.some_
 have hla : (path ++ s :: l)[path.length - 1]? = some last := by
  rw [List.getElem?_append_left (by omega), ← List.getLast?_eq_getElem?]; exact hl
 have hsa : (path ++ s :: l)[path.length]? = some s := by rw [List.getElem?_append_right (Nat.le_refl _)]; simp
 have ha := h.aft (path.length - 1) last s hla (by rw [show path.length - 1 + 1 = path.length by omega]; exact hsa)
 have hne : s.1 ≠ last.1 := fun e => by
  have := h.once _ _ _ _ hsa hla e
  omega
 have hov : overB path s.1 = false := by
  cases ho : overB path s.1 with
  | false => rfl
  | true =>
   obtain ⟨u, hu, he⟩ := over_iff.1 ho
   obtain ⟨i, hi⟩ := List.mem_iff_getElem?.1 hu
   have hil := (List.getElem?_eq_some_iff.1 hi).1
   have := h.once i path.length u s (by rw [List.getElem?_append_left hil]; exact hi) hsa he
   omega
 have hlen : path.length ≠ 24 := by
  have := h.few
  simp at this
  omega
 unfold stepL
 rw [hid, check_ids hc h1, hl]
 have hd : ([x, 1, b.1 / 16384, b.1 % 16384, nomI s.2, 2, 12] ++ rest).getD 4 0 = nomI s.2 := rfl
 simp only [hd, nom_dir, h2]
 have hs : ((s.1, s.2) : Stp) = s := rfl
 rw [if_neg hne, hs, if_neg (by simp [ha]), if_neg (by rw [hov]; simp [hlen])]
theorem OnW.next {t : Tp} {path l : List Stp} {s : Stp} (h : OnW t path (s :: l)) : OnW t (path ++ [s]) l := by
 have e : path ++ [s] ++ l = path ++ s :: l := by simp
 exact ⟨by simp, by rw [e]; exact h.few, by rw [e]; exact h.once, by rw [e]; exact h.aft⟩
theorem linkN_cons {t : Tp} {u : Int} {n i : Nat} {begin_ at_ : Int} {s : Stp} {l : List Stp} {w : List Int} (h : linkN t u n i begin_ at_ (s :: l) = .ok w) : ∃ b v, firstB t s.1 = some b ∧ (scaledM (begin_ + alongP t (b.2.1, b.2.2, s.2) - at_) u false).2 = 0 ∧
  linkN t u n (i + 1) (begin_ + edgeM t s.1) (begin_ + alongP t (b.2.1, b.2.2, s.2)) l = .ok v ∧
  w = (if i = 2 then [(n : Int) - 2] else []) ++ [(scaledM (begin_ + alongP t (b.2.1, b.2.2, s.2) - at_) u false).1, 1, b.1 / 16384, b.1 % 16384, nomI s.2, 2, 12] ++ v := by
 unfold linkN at h
 cases hb : firstB t s.1 with
 | none => rw [hb] at h; cases h
 | some b =>
  rw [hb] at h
  simp only at h
  split at h
  ·cases h
  rename_i hz
  cases hv : linkN t u n (i + 1) (begin_ + edgeM t s.1) (begin_ + alongP t (b.2.1, b.2.2, s.2)) l with
  | error e => rw [hv] at h; cases h
  | ok v =>
   rw [hv] at h
   injection h with h
   exact ⟨b, v, rfl, by simpa using hz, hv, h.symm⟩
theorem links_back {t : Tp} (hc : checkM t = 0) {u : Int} {n : Nat} : ∀ (l : List Stp) (i : Nat) (begin_ at_ : Int) (path : List Stp) (w : List Int), 2 ≤ i → OnW t path l → linkN t u n i begin_ at_ l = .ok w → ∃ w', w = (if i = 2 ∧ l ≠ [] then [(n : Int) - 2] else []) ++ w' ∧ linksR t l.length path w' = .ok (path ++ l)
 | [], i, begin_, at_, path, w, hi, h, hw => by
  unfold linkN at hw
  injection hw with hw
  subst hw
  exact ⟨[], by simp, by simp [linksR]⟩
 | s :: l, i, begin_, at_, path, w, hi, h, hw => by
  obtain ⟨b, v, hb, hz, hv, rfl⟩ := linkN_cons hw
  obtain ⟨v', e, hr⟩ := links_back hc l (i + 1) _ _ (path ++ [s]) v (by omega) h.next hv
  rw [if_neg (by omega)] at e
  simp only [List.nil_append] at e
  subst e
  refine ⟨_, by rw [List.append_assoc]; congr 1; by_cases h2 : i = 2 <;> simp [h2], ?_⟩
  simp only [List.length_cons]
  unfold linksR
  rw [if_neg (by simp), step_back hc h hb]
  simp only
  rw [show (List.drop 7 ([(scaledM (begin_ + alongP t (b.2.1, b.2.2, s.2) - at_) u false).1, 1, b.1 / 16384, b.1 % 16384, nomI s.2, 2, 12] ++ v)) = v from rfl, hr]
  simp
theorem linked_back {t : Tp} (hc : checkM t = 0) {u d : Int} {s0 s1 : Stp} {l : List Stp} {begin_ at_ : Int} {w : List Int} (h : OnW t [s0] (s1 :: l)) (hw : linkN t u (s0 :: s1 :: l).length 1 begin_ at_ (s1 :: l) = .ok w) :
  linkedR t [s0] ([d, u] ++ w ++ (if l = [] then [0] else [])) = .ok (s0 :: s1 :: l) := by
 obtain ⟨b, v, hb, hz, hv, rfl⟩ := linkN_cons hw
 obtain ⟨v', e, hr⟩ := links_back hc l 2 _ _ ([s0] ++ [s1]) v (Nat.le_refl _) h.next hv
 subst e
 generalize (scaledM (begin_ + alongP t (b.2.1, b.2.2, s1.2) - at_) u false).1 = x
 unfold linkedR
 have e0 : List.drop 2 ([d, u] ++ ((if 1 = 2 then [((s0 :: s1 :: l).length : Int) - 2] else []) ++ [x, 1, b.1 / 16384, b.1 % 16384, nomI s1.2, 2, 12] ++ ((if 2 = 2 ∧ l ≠ [] then [((s0 :: s1 :: l).length : Int) - 2] else []) ++ v')) ++ (if l = [] then [0] else [])) = [x, 1, b.1 / 16384, b.1 % 16384, nomI s1.2, 2, 12] ++ ((if 2 = 2 ∧ l ≠ [] then [((s0 :: s1 :: l).length : Int) - 2] else []) ++ v' ++ (if l = [] then [0] else [])) := by simp
 rw [e0, if_neg (by simp), step_back hc h hb]
 simp only
 cases l with
 | nil =>
  have : v' = [] := by
   unfold linkN at hv
   injection hv with hv
   simpa using hv.symm
  subst this
  rfl
 | cons s2 l =>
  simp only [ne_eq, reduceCtorEq, not_false_eq_true, and_self, if_true, if_false, List.append_nil]
  have e1 : ([x, 1, b.1 / 16384, b.1 % 16384, nomI s1.2, 2, 12] ++ ([((s0 :: s1 :: s2 :: l).length : Int) - 2] ++ v')).getD 7 0 = (((s2 :: l).length : Nat) : Int) := by
   simp; omega
  have e2 : List.drop 8 ([x, 1, b.1 / 16384, b.1 % 16384, nomI s1.2, 2, 12] ++ ([((s0 :: s1 :: s2 :: l).length : Int) - 2] ++ v')) = v' := rfl
  rw [e1, e2]
  exact hr
theorem may_on {t : Tp} {m : Ma} {z : Int × Int} (h : MayA t m z) {s0 : Stp} {l : List Stp} (hp : m.2.2.1 = s0 :: l) : OnW t [s0] l := by
 obtain ⟨b, h1, h2, h3, h4⟩ := left_some h.left
 have hf := h.few
 have ho := h.once
 rw [hp] at hf ho h3
 refine ⟨by simp, hf, ho, fun k a b ha hb => ?_⟩
 have e : [s0] ++ l = s0 :: l := rfl
 rw [e] at ha hb
 exact way_after h3 ha hb
theorem reach_dn {u : Int} (hu : 0 < unitM u) (l : List Sc) (age : Int) : reachM (dnS u l) age ≤ reachM l age := by
 unfold reachM
 have : (dnS u l).takeWhile (fun s => decide (age < s.2)) = dnS u (l.takeWhile fun s => decide (age < s.2)) := by
  unfold dnS
  rw [List.takeWhile_map]
  rfl
 rw [this, endS_dn u _ hu]
 exact (dn_le hu).1
theorem packs_ok {t : Tp} {m : Ma} {l : List Pk} (h : packsM17 t m = .ok l) : ∃ z v, MayA t m z ∧ 0 ≤ bestM (endS m.2.2.2.1 + m.2.2.2.2) ∧ secN (bestM (endS m.2.2.2.1 + m.2.2.2.2)) 0 m.2.2.2.1 = some v ∧
   ((∃ s0, m.2.2.1 = [s0] ∧ l = [(15, [nomI m.2.1, bestM (endS m.2.2.2.1 + m.2.2.2.2), 0, 0, (m.2.2.2.1.length : Int) - 1] ++ v ++ [0] ++ gapN (bestM (endS m.2.2.2.1 + m.2.2.2.2)) m.2.2.2.2)]) ∨
    ∃ (s0 s1 : Stp) (r : List Stp) (b : Bl) (w : List Int), m.2.2.1 = s0 :: s1 :: r ∧ linkN t (bestM (endS m.2.2.2.1 + m.2.2.2.2)) m.2.2.1.length 1 (edgeM t s0.1) (alongP t (b.2.1, b.2.2, m.2.1)) (s1 :: r) = .ok w ∧
     l = [(15, [nomI m.2.1, bestM (endS m.2.2.2.1 + m.2.2.2.2), 0, 0, (m.2.2.2.1.length : Int) - 1] ++ v ++ [0] ++ gapN (bestM (endS m.2.2.2.1 + m.2.2.2.2)) m.2.2.2.2), (5, [nomI m.2.1, bestM (endS m.2.2.2.1 + m.2.2.2.2)] ++ w ++ (if r = [] then [0] else []))]) := by
 unfold packsM17 at h
 by_cases hm : mayMA t m = false
 · rw [if_pos hm] at h; cases h
 rw [if_neg hm] at h
 obtain ⟨z, hz⟩ := may_iff.1 (by simpa using hm)
 dsimp only at h
 by_cases hu : bestM (endS m.2.2.2.1 + m.2.2.2.2) < 0
 · rw [if_pos hu] at h; cases h
 rw [if_neg hu] at h
 cases hv : secN (bestM (endS m.2.2.2.1 + m.2.2.2.2)) 0 m.2.2.2.1 with
 | none => simp only [hv] at h; cases h
 | some v =>
   simp only [hv] at h
   refine ⟨z, v, hz, by omega, rfl, ?_⟩
   obtain ⟨b, h1, h2, h3, h4⟩ := left_some hz.left
   rw [h1] at h
   cases hp : m.2.2.1 with
   | nil => rw [hp] at h2; cases h2
   | cons s0 p =>
     cases p with
     | nil =>
       rw [hp] at h
       injection h with h
       exact .inl ⟨s0, rfl, h.symm⟩
     | cons s1 r =>
       rw [hp] at h
       simp only at h
       cases hw : linkN t (bestM (endS m.2.2.2.1 + m.2.2.2.2)) (s0 :: s1 :: r).length 1 (edgeM t s0.1) (alongP t (b.2.1, b.2.2, m.2.1)) (s1 :: r) with
       | error e => rw [hw] at h; cases h
       | ok w =>
         rw [hw] at h
         injection h with h
         exact .inr ⟨s0, s1, r, b, w, rfl, hw, h.symm⟩
theorem scaled_err (d s : Int) (up : Bool) : (scaledM d s up).2 = 0 ∨ (scaledM d s up).2 = 1 ∨ (scaledM d s up).2 = 7 := by
 unfold scaledM
 split
 ·exact .inr (.inl rfl)
 split
 ·exact .inr (.inr rfl)
 split
 ·exact .inr (.inr rfl)
 ·exact .inl rfl
theorem packs_err {t : Tp} {m : Ma} {e : Int} (h : packsM17 t m = .error e) : e = 1 ∨ e = 7 := by
 have hl : ∀ (l : List Stp) (u : Int) (n i : Nat) (a b : Int) (e : Int), linkN t u n i a b l = .error e → e = 1 ∨ e = 7 := by
  intro l
  induction l with
  | nil => intro u n i a b e h; unfold linkN at h; cases h
  | cons s l ih =>
   intro u n i a b e h
   unfold linkN at h
   cases hb : firstB t s.1 with
   | none => rw [hb] at h; injection h with h; exact .inl h.symm
   | some x =>
    rw [hb] at h
    simp only at h
    split at h
    ·injection h with h
     rw [← h]
     rename_i q1
     rcases scaled_err (a + alongP t (x.2.1, x.2.2, s.2) - b) u false with q | q | q
     ·exact absurd q q1
     ·exact .inl q
     ·exact .inr q
    ·split at h
     ·rename_i e' he
      injection h with h
      exact h ▸ ih _ _ _ _ _ _ he
     ·cases h
 unfold packsM17 at h
 by_cases hm : mayMA t m = false
 ·rw [if_pos hm] at h; injection h with h; exact .inl h.symm
 rw [if_neg hm] at h
 dsimp only at h
 by_cases hu : bestM (endS m.2.2.2.1 + m.2.2.2.2) < 0
 ·rw [if_pos hu] at h; injection h with h; exact .inr h.symm
 rw [if_neg hu] at h
 cases hv : secN (bestM (endS m.2.2.2.1 + m.2.2.2.2)) 0 m.2.2.2.1 with
 | none => rw [hv] at h; injection h with h; exact .inr h.symm
 | some v =>
 rw [hv] at h
 dsimp only at h
 split at h
 ·split at h
  ·rename_i he
   injection h with h
   exact h ▸ hl _ _ _ _ _ _ _ he
  ·cases h
 ·cases h
theorem gap_back {u g : Int} (hu : 0 < unitM u) (h0 : 0 ≤ g) (h1 : (scaledM g u false).2 = 0) : gapR u ([0] ++ gapN u g) = (dnI u g, 0) := by
 obtain ⟨a1, a2, a3, a4, a5⟩ := scaled_dn h1
 unfold gapN
 rw [a3]
 by_cases h : 0 < g / unitM u
 ·rw [if_pos h]
  unfold gapR
  simp [dm_ok hu a4 a5, dnI]
 ·rw [if_neg h]
  have : g / unitM u = 0 := by omega
  unfold gapR
  simp [dnI, this]
theorem back17 {bad : Pk → Bool} {t : Tp} {m : Ma} {l : List Pk} (h : packsM17 t m = .ok l) (hb : l.any bad = false) :
  0 < unitM (bestM (endS m.2.2.2.1 + m.2.2.2.2)) ∧ readM bad t m.1 m.2.1 l = ((m.1, m.2.1, m.2.2.1, dnS (bestM (endS m.2.2.2.1 + m.2.2.2.2)) m.2.2.2.1, dnI (bestM (endS m.2.2.2.1 + m.2.2.2.2)) m.2.2.2.2), 0) := by
 obtain ⟨z, v, hz, hu0, hv, hl⟩ := packs_ok h
 obtain ⟨b0, p1, p2, p3, p4⟩ := left_some hz.left
 have hbest := best_ok hu0
 generalize hU : bestM (endS m.2.2.2.1 + m.2.2.2.2) = u at *
 have hu : 0 < unitM u := (scaled_ok hbest.1).1
 refine ⟨hu, ?_⟩
 have hend : 0 ≤ endS m.2.2.2.1 := by have := hz.sects.pos (j := m.2.2.2.1.length) (Nat.le_refl _); rwa [List.take_length] at this
 have hg0 := hz.gap0
 have hgs := scaled_less (e := m.2.2.2.2) hbest.1 hg0 (by omega)
 have hsec : secsM m.2.1 ([nomI m.2.1, u, 0, 0, (m.2.2.2.1.length : Int) - 1] ++ v ++ [0] ++ gapN u m.2.2.2.2) = .ok (dnS u m.2.2.2.1, dnI u m.2.2.2.2) := by
  have h8 := hz.eight
  have h1 := hz.some_
  unfold secsM
  simp only [List.cons_append, List.nil_append, List.append_assoc, List.headD_cons, List.tail_cons]
  rw [if_neg (by simp)]
  unfold secs2
  rw [if_neg (by omega)]
  have e1 : ((m.2.2.2.1.length : Int) - 1 + 1).toNat = m.2.2.2.1.length := by omega
  have e2 := secs_back m.2.2.2.1 0 v ([0] ++ gapN u m.2.2.2.2) hv (Int.le_refl _) hz.sects.time
  rw [Int.zero_mul] at e2
  simp only [List.cons_append, List.nil_append] at e2
  rw [e1, e2]
  have e3 := gap_back hu hg0 hgs.1
  simp only [List.cons_append, List.nil_append] at e3
  unfold secs4
  simp only
  unfold secs3
  simp only [e3]
  simp
 have hmay : mayMA t (m.1, m.2.1, m.2.2.1, dnS u m.2.2.2.1, dnI u m.2.2.2.2) = true := by
  refine may_iff.2 ⟨z, hz.chk, hz.few, hz.once, ?_, ?_, dn_nonneg hu hg0, ?_, sects_dn hv hz.sects hu, ?_, ?_⟩
  ·simp only [dnS, List.length_map]; exact hz.some_
  ·simp only [dnS, List.length_map]; exact hz.eight
  ·have := (dn_le (x := m.2.2.2.2) hu).1; have := hz.gap1; simp only; omega
  ·have := hz.left; unfold leftA at this ⊢; exact this
  ·simp only [endS_dn u _ hu]
   have := (dn_le (x := m.2.2.2.2) hu).1; have := (dn_le (x := endS m.2.2.2.1) hu).1; have := hz.fits; omega
 have hread : ∀ P, wayR t (b0.2.1, m.2.1) l = .ok P → headId l = 15 → headV l = [nomI m.2.1, u, 0, 0, (m.2.2.2.1.length : Int) - 1] ++ v ++ [0] ++ gapN u m.2.2.2.2 → P = m.2.2.1 →
   readM bad t m.1 m.2.1 l = ((m.1, m.2.1, m.2.2.1, dnS u m.2.2.2.1, dnI u m.2.2.2.2), 0) := by
  intro P hw hi hV hP
  subst hP
  unfold readM
  rw [if_neg (by rw [hz.chk]; simp), p1]
  simp only
  rw [if_neg (by rw [hb]; simp [hi]), hV, hsec]
  simp only
  rw [hw]
  simp only
  rw [if_pos hmay]
 rcases hl with ⟨s0, e1, rfl⟩ | ⟨s0, s1, r, b, w, e1, hw, rfl⟩
 ·refine hread [(b0.2.1, m.2.1)] ?_ rfl rfl ?_
  ·rfl
  ·rw [e1] at p2 ⊢
   simp at p2
   rw [p2]
 ·have hs0 : s0 = (b0.2.1, m.2.1) := by rw [e1] at p2; simpa using p2
  refine hread (s0 :: s1 :: r) ?_ rfl rfl e1.symm
  unfold wayR
  rw [← hs0]
  have : List.find? (fun p : Pk => p.1 == 5) [(15, [nomI m.2.1, u, 0, 0, (m.2.2.2.1.length : Int) - 1] ++ v ++ [0] ++ gapN u m.2.2.2.2), (5, [nomI m.2.1, u] ++ w ++ (if r = [] then [0] else []))] = some (5, [nomI m.2.1, u] ++ w ++ (if r = [] then [0] else [])) := rfl
  rw [this]
  simp only
  rw [e1] at hw
  exact linked_back hz.chk (may_on hz e1) hw
end Go.Proofs.YtpapiojicbbheaaGreatDoor

namespace Go.Proofs.YtpapiojicbbheaaGreatDoor
open Go.RowKit
set_option maxRecDepth 100000 in
theorem elemInt17 : Elem Tryz.prog 22 3 1 8 := ⟨Tryz.underlying22, _, _, rfl, rfl, rfl, rfl, rfl, by omega⟩
def intCells (v : List Int) : List Value := v.map (.int .i64)
theorem intCells_app (v w : List Int) : intCells (v ++ w) = intCells v ++ intCells w := by unfold intCells; simp
theorem and14 (x : Int) (h0 : 0 ≤ x) (h1 : x ≤ 9223372036854775807) : bits .and .i64 x 16383 = x % 16384 := by
 have := bits_mask .i64 63 (by decide) wraps_i64 14 (by decide) x h0 (by omega)
 simpa using this
def linkV (t : Tp) (u : Int) (n k : Nat) (begin at_ : Int) (l : List Stp) (v : List Int) : Except Int (List Int) := match linkN t u n k begin at_ l with
 | .error e => .error e
 | .ok w => .ok (v ++ w)
def midN (k : Nat) (n : Nat) : List Int := if k = 2 then [(n : Int) - 2] else []
def grpN (q : Int) (b1 : Int) (r : Bool) : List Int := [q, 1, b1 / 16384, b1 % 16384, nomI r, 2, 12]
theorem linkV_none {t : Tp} {u : Int} {n k : Nat} {begin at_ : Int} {s : Stp} {l : List Stp} {v : List Int} (h : firstB t s.1 = none) : linkV t u n k begin at_ (s :: l) v = .error 1 := by
 unfold linkV linkN; rw [h]
theorem linkV_bad {t : Tp} {u : Int} {n k : Nat} {begin at_ : Int} {s : Stp} {l : List Stp} {v : List Int} {b : Bl} (h : firstB t s.1 = some b) (he : (scaledM (begin + alongP t (b.2.1, b.2.2, s.2) - at_) u false).2 ≠ 0) : linkV t u n k begin at_ (s :: l) v = .error (scaledM (begin + alongP t (b.2.1, b.2.2, s.2) - at_) u false).2 := by
 unfold linkV linkN; rw [h]; simp only; rw [if_pos he]
theorem linkV_cons {t : Tp} {u : Int} {n k : Nat} {begin at_ : Int} {s : Stp} {l : List Stp} {v : List Int} {b : Bl} (h : firstB t s.1 = some b) (he : (scaledM (begin + alongP t (b.2.1, b.2.2, s.2) - at_) u false).2 = 0) : linkV t u n k begin at_ (s :: l) v = linkV t u n (k + 1) (begin + edgeM t s.1) (begin + alongP t (b.2.1, b.2.2, s.2)) l (v ++ midN k n ++ grpN (scaledM (begin + alongP t (b.2.1, b.2.2, s.2) - at_) u false).1 b.1 s.2) := by
 conv => lhs; unfold linkV linkN
 rw [h]; simp only; rw [if_neg (by rw [he]; simp)]
 unfold linkV midN grpN
 cases linkN t u n (k + 1) (begin + edgeM t s.1) (begin + alongP t (b.2.1, b.2.2, s.2)) l with
 | error e => rfl
 | ok w => simp only [List.append_assoc]
structure LkJ (t : Tp) (u : Int) (path : List Stp) (at0 : Int) (v0 : List Int) (res : Except Int (List Int)) (k : Nat) (begin at_ : Int) (v : List Int) : Prop where
 fst : k = 0 → begin = 0 ∧ at_ = at0 ∧ v = v0
 nxt : 1 ≤ k → res = linkV t u path.length k begin at_ (path.drop k) v
 bnd : 0 ≤ begin ∧ begin ≤ k * 1000000 ∧ 0 ≤ at_ ∧ at_ ≤ k * 1000000 + 1000000
 len : v.length ≤ 2 + 8 * k
theorem LkJ.step0 {t : Tp} {u : Int} {path : List Stp} {at0 : Int} {v0 : List Int} {begin at_ : Int} {v : List Int} {s : Stp} (h : LkJ t u path at0 v0 (linkV t u path.length 1 (edgeM t (path.headD (0, false)).1) at0 (path.drop 1) v0) 0 begin at_ v) (hs : path[0]? = some s) (he : 0 ≤ edgeM t s.1 ∧ edgeM t s.1 ≤ 1000000) :
  LkJ t u path at0 v0 (linkV t u path.length 1 (edgeM t (path.headD (0, false)).1) at0 (path.drop 1) v0) 1 (begin + edgeM t s.1) at_ v := by
 obtain ⟨rfl, rfl, rfl⟩ := h.fst rfl
 have hh : path.headD (0, false) = s := by cases path with | nil => cases hs | cons x l => simpa using hs
 have hb := h.bnd
 have hl := h.len
 exact ⟨fun h => by omega, fun _ => by rw [hh]; simp, by omega, by omega⟩
theorem LkJ.step {t : Tp} {u : Int} {path : List Stp} {at0 : Int} {v0 : List Int} {res : Except Int (List Int)} {k : Nat} {begin at_ : Int} {v : List Int} {s : Stp} {b : Bl} (h : LkJ t u path at0 v0 res k begin at_ v) (h1 : 1 ≤ k) (hs : path[k]? = some s) (he : 0 ≤ edgeM t s.1 ∧ edgeM t s.1 ≤ 1000000) (hb : firstB t s.1 = some b) (ha : 0 ≤ alongP t (b.2.1, b.2.2, s.2) ∧ alongP t (b.2.1, b.2.2, s.2) ≤ 1000000)
  (h0 : (scaledM (begin + alongP t (b.2.1, b.2.2, s.2) - at_) u false).2 = 0) :
  LkJ t u path at0 v0 res (k + 1) (begin + edgeM t s.1) (begin + alongP t (b.2.1, b.2.2, s.2)) (v ++ midN k path.length ++ grpN (scaledM (begin + alongP t (b.2.1, b.2.2, s.2) - at_) u false).1 b.1 s.2) := by
 obtain ⟨q1, q2⟩ := List.getElem?_eq_some_iff.1 hs
 have hd : path.drop k = s :: path.drop (k + 1) := by rw [List.drop_eq_getElem_cons q1, q2]
 have hbd := h.bnd
 have hl := h.len
 refine ⟨fun h => by omega, fun _ => by rw [h.nxt h1, hd, linkV_cons hb h0], by omega, ?_⟩
 have : (midN k path.length).length ≤ 1 := by unfold midN; split <;> simp
 simp only [List.length_append, grpN, List.length_cons, List.length_nil]; omega
theorem LkJ.none {t : Tp} {u : Int} {path : List Stp} {at0 : Int} {v0 : List Int} {res : Except Int (List Int)} {k : Nat} {begin at_ : Int} {v : List Int} {s : Stp} (h : LkJ t u path at0 v0 res k begin at_ v) (h1 : 1 ≤ k) (hs : path[k]? = some s) (hb : firstB t s.1 = none) : res = .error 1 := by
 obtain ⟨q1, q2⟩ := List.getElem?_eq_some_iff.1 hs
 have hd : path.drop k = s :: path.drop (k + 1) := by rw [List.drop_eq_getElem_cons q1, q2]
 rw [h.nxt h1, hd, linkV_none hb]
theorem LkJ.bad {t : Tp} {u : Int} {path : List Stp} {at0 : Int} {v0 : List Int} {res : Except Int (List Int)} {k : Nat} {begin at_ : Int} {v : List Int} {s : Stp} {b : Bl} (h : LkJ t u path at0 v0 res k begin at_ v) (h1 : 1 ≤ k) (hs : path[k]? = some s) (hb : firstB t s.1 = some b) (h0 : (scaledM (begin + alongP t (b.2.1, b.2.2, s.2) - at_) u false).2 ≠ 0) : res = .error (scaledM (begin + alongP t (b.2.1, b.2.2, s.2) - at_) u false).2 := by
 obtain ⟨q1, q2⟩ := List.getElem?_eq_some_iff.1 hs
 have hd : path.drop k = s :: path.drop (k + 1) := by rw [List.drop_eq_getElem_cons q1, q2]
 rw [h.nxt h1, hd, linkV_bad hb h0]
theorem LkJ.fin {t : Tp} {u : Int} {path : List Stp} {at0 : Int} {v0 : List Int} {res : Except Int (List Int)} {begin at_ : Int} {v : List Int} (h : LkJ t u path at0 v0 res path.length begin at_ v) (hp : 1 ≤ path.length) : res = .ok v := by
 rw [h.nxt hp, List.drop_length]
 unfold linkV linkN; simp
def farP17 (t : Tp) (ref : Int) (rv : Bool) : Int := match balM t.2.2.1 ref with
 | none => 0
 | some b => alongP t (b.2.1, b.2.2, rv)
def linkP (path : List Stp) (rv : Bool) (u : Int) (res : Except Int (List Int)) : Except Int Pk := match res with
 | .error e => .error e
 | .ok v => .ok (5, v ++ (if path.length = 2 then [0] else []))
def linksM (t : Tp) (ref : Int) (rv : Bool) (path : List Stp) (u : Int) : Except Int Pk := linkP path rv u (linkV t u path.length 1 (edgeM t (path.headD (0, false)).1) (farP17 t ref rv) (path.drop 1) [nomI rv, u])
def PkRet (r : Except Int Pk) (w : World) (e : Ending) (w' : World) : Prop :=
 Keep Never w w' ∧ match r with
  | .ok q => ∃ A n c, e = .returned (.tuple #[.agg #[.int .i64 q.1, .slice A n c], .int .i64 0]) ∧ n = q.2.length ∧ Own w' w.heap.size 3 1 A n c (intCells q.2)
  | .error x => x ≠ 0 ∧ e = .returned (.tuple #[.agg #[.int .i64 0, .slice none 0 0], .int .i64 x])
set_option maxRecDepth 100000 in
theorem pk_results {w : World} {b : Nat} {v0 v1 : Value} (hb : Blk w b 105 #[v0, v1]) (tmps : Array Value) (ht : tmps.getD 6 undef = .pointer (some ⟨b, 0, none⟩)) :
  (results Tryz.f79 tmps).run Tryz.prog w = .ok (.tuple #[.agg #[v0, v1], tmps.getD 7 undef]) w := by
 have q0 : w.cell? ⟨b, 0, none⟩ = some v0 := hb.cell 0
 have q1 : w.cell? ⟨b, 1, none⟩ = some v1 := hb.cell 1
 have ht' : tmps[6]?.getD undef = .pointer (some ⟨b, 0, none⟩) := by rw [← Array.getD_eq_getD_getElem?]; exact ht
 simp [results, ht', go_sem, q0, q1]
abbrev put2 (w : World) (b : Nat) (v0 v1 : Value) : World := (w.setCell ⟨b, 0, none⟩ v0).setCell ⟨b, 1, none⟩ v1
theorem put2_blk17 {w : World} {b t : Nat} {u0 u1 : Value} (h : Blk w b t #[u0, u1]) (v0 v1 : Value) : Blk (put2 w b v0 v1) b t #[v0, v1] := by
 have := (h.set_ 0 v0).set_ 1 v1
 simpa using this
theorem put2_own17 {S : Nat → Prop} {w0 w : World} {b : Nat} (h : Keep S w0 w) (hb : S b ∨ w0.heap.size ≤ b) (v0 v1 : Value) : Keep S w0 (put2 w b v0 v1) :=
 (h.set_ (p := ⟨b, 0, none⟩) hb v0).set_ (p := ⟨b, 1, none⟩) hb v1
theorem there_edge {t : Tp} (h : checkM t = 0) {e : Int} (ht : thereB t.1.length e = true) : 0 ≤ e ∧ e < (t.1.length : Int) ∧ 1 ≤ edgeM t e ∧ edgeM t e ≤ 1000000 := by
 unfold thereB at ht
 rw [Bool.and_eq_true, decide_eq_true_eq, decide_eq_true_eq] at ht
 refine ⟨ht.1, ht.2, ?_⟩
 unfold edgeM
 have h1 : e.toNat < t.1.length := by omega
 have h2 := check_edges h (t.1.getD e.toNat 0) (by rw [List.getD_eq_getElem?_getD, List.getElem?_eq_getElem h1]; exact List.getElem_mem h1)
 exact h2
set_option maxHeartbeats 8000000 in
set_option maxRecDepth 100000 in
theorem links_any (x : TA) (t : Tp) (B : Nat) (ref : Int) (rv : Bool) (path : List Stp) (S : List Sc) (g u : Int) (z : Int × Int) (Ap : Option Addr) (np cp : Nat) (As : Option Addr) (ns cs : Nat) (w : World) (h : TpAt w B x t) (hs : TpSmall x t) (hB : B ≤ w.heap.size) (hp : repStp.Sl w B Ap np cp path) (hm : MayA t (ref, rv, path, S, g) z) :
  Calls Tryz.prog 79 #[.agg x.cs, .agg #[.int .i64 ref, .bool rv, .slice Ap np cp, .slice As ns cs, .int .i64 g], .int .i64 u] w (PkRet (linksM t ref rv path u) w) := by
 have HBa := Lib.hid (fun (W : World) (hk : Keep Never w W) => bal_any x t B ref W (h.keep hk) hs.b)
 have HFi := Lib.hid (fun (W : World) (hk : Keep Never w W) (e : Int) => first_any x t B e W (h.keep hk) hs.b)
 have HBh := Lib.hid (fun (W : World) (hk : Keep Never w W) (bb : Bl) (r : Bool) (hb : bb ∈ t.2.2.1) => (show Calls Tryz.prog 57 #[.agg x.cs, .agg #[.int .i64 bb.2.1, .int .i64 bb.2.2, .bool r]] W fun en w' => en = .returned (.int .i64 (alongP t (bb.2.1, bb.2.2, r))) ∧ Keep Never W w' by
  obtain ⟨_, _, c3, c4, c5⟩ := check_bal hm.chk hb
  have h1 := check_edges hm.chk
  obtain ⟨d1, d2, d3⟩ := there_edge hm.chk c3
  exact behind_any x t B bb.2.1 bb.2.2 r W (h.keep hk) d1 (by have := h.e.len; omega) (by omega) (by omega) c4 (by omega)))
 have HAl := Lib.hid (fun (bb : Bl) (r : Bool) (hb : bb ∈ t.2.2.1) => (show 0 ≤ alongP t (bb.2.1, bb.2.2, r) ∧ alongP t (bb.2.1, bb.2.2, r) ≤ 1000000 by
  obtain ⟨_, _, c3, c4, c5⟩ := check_bal hm.chk hb
  obtain ⟨d1, d2, d3⟩ := there_edge hm.chk c3
  have := along_in (t := t) (p := (bb.2.1, bb.2.2, r)) c4 c5
  simp only at this; omega))
 have HEd := Lib.hid (fun (W : World) (hk : Keep Never w W) (s : Stp) (hsm : s ∈ path) => (show ∃ ad k v, x.Ae = some ad ∧ s.1 = ((k : Nat) : Int) ∧ k < x.ne ∧ W.cell? (ad.add k) = some (.int .i64 v) ∧ edgeM t s.1 = v ∧ 0 ≤ v ∧ v ≤ 1000000 by
  obtain ⟨b0, _, _, _, hg, _⟩ := hm.place
  obtain ⟨d1, d2, d3⟩ := there_edge hm.chk (hg.2.1 s hsm)
  obtain ⟨ad, k, v, e1, e2, e3, e4, e5⟩ := edge_at (h.keep hk) d1 (by have := h.e.len; omega)
  exact ⟨ad, k, v, e1, e2, e3, e4, e5, by omega, by omega⟩))
 have HSl := Lib.hid hp
 have HBw := Lib.hid hB
 have H24 : Hid (path.length ≤ 24) := Lib.hid hm.few
 have HCB := Lib.hid (fun (bb : Bl) (hb : bb ∈ t.2.2.1) => (check_bal hm.chk hb).1)
 have HCB2 := Lib.hid (fun (bb : Bl) (hb : bb ∈ t.2.2.1) => (check_bal hm.chk hb).2.1)
 obtain ⟨b0, hb0, _⟩ := left_some hm.left
 have HB0 := Lib.hid hb0
 have HP1 : Hid (1 ≤ path.length) := Lib.hid (by
  obtain ⟨b1, _, h2, _⟩ := left_some hm.left
  cases path with
  | nil => cases h2
  | cons a l => simp)
 have hnp0 : np = path.length := (stps_rd hp).2.1
 have HNp := Lib.hid hnp0
 have hnp24 : np ≤ 24 := by rw [hnp0]; exact hm.few
 clear hnp0 hb0
 obtain ⟨Ae, ne, ce, Aj, nj, cj, Ab, nb, cb, Ar, nr, cr⟩ := x
 simp only [TA.cs] at HBa HFi HBh HEd ⊢
 clear h hs hp hB hm
 obtain ⟨w1, hw1⟩ : ∃ V : World, w.alloc (.cells #[.slice Ae ne ce, .slice Aj nj cj, .slice Ab nb cb, .slice Ar nr cr] 27) = V := ⟨_, rfl⟩
 have zw1 : w1.heap.size = w.heap.size + 1 := by rw [← hw1]; simp
 have kw1 : Keep Never w w1 := by rw [← hw1]; exact (Keep.refl _ _).alloc _
 have bw1 := Blk.new w 27 #[.slice Ae ne ce, .slice Aj nj cj, .slice Ab nb cb, .slice Ar nr cr]
 rw [hw1] at bw1
 obtain ⟨w2, hw2⟩ : ∃ V : World, w1.alloc (.cells #[.int .i64 ref, .bool rv, .slice Ap np cp, .slice As ns cs, .int .i64 g] 38) = V := ⟨_, rfl⟩
 have zw2 : w2.heap.size = w.heap.size + 1 + 1 := by rw [← hw2]; simp [zw1]
 have kw2 : Keep Never w1 w2 := by rw [← hw2]; exact (Keep.refl _ _).alloc _
 have bw2 := Blk.new w1 38 #[.int .i64 ref, .bool rv, .slice Ap np cp, .slice As ns cs, .int .i64 g]
 rw [hw2, zw1] at bw2
 obtain ⟨w3, hw3⟩ : ∃ V : World, w2.alloc (.cells #[.int .i64 0, .slice none 0 0] 105) = V := ⟨_, rfl⟩
 have kw3 : Keep Never w2 w3 := by rw [← hw3]; exact (Keep.refl _ _).alloc _
 have bw3 := Blk.new w2 105 #[.int .i64 0, .slice none 0 0]
 rw [hw3, zw2] at bw3
 have HB1 := Lib.hid ((bw1.keep kw2 (fun h => h)).keep kw3 (fun h => h))
 have HB2 := Lib.hid (bw2.keep kw3 (fun h => h))
 have HB3 := Lib.hid bw3
 have HK := Lib.hid ((kw1.trans kw2).trans kw3)
 clear kw1 kw2 kw3 bw1 bw2 bw3
 have HT3 := HB1
 have HM3 := HB2
 have HR3 := HB3
 have HK3 := HK
 obtain ⟨b1, b2, b3⟩ := b0
 have hw := HBa.out w3 HK.out
 unfold BalRet at hw
 rw [HB0.out] at hw
 simp only [Option.getD, Option.isSome] at hw
 have HC := Lib.hid hw
 clear hw HBa HB1 HB2 HB3 HK
 have y0 : w3.cell? ⟨w.heap.size, 0, none⟩ = some (.slice Ae ne ce) := HT3.out.cell 0
 have y1 : w3.cell? ⟨w.heap.size, 1, none⟩ = some (.slice Aj nj cj) := HT3.out.cell 1
 have y2 : w3.cell? ⟨w.heap.size, 2, none⟩ = some (.slice Ab nb cb) := HT3.out.cell 2
 have y3 : w3.cell? ⟨w.heap.size, 3, none⟩ = some (.slice Ar nr cr) := HT3.out.cell 3
 have m0 : w3.cell? ⟨w.heap.size + 1, 0, none⟩ = some (.int .i64 ref) := HM3.out.cell 0
 have m1 : w3.cell? ⟨w.heap.size + 1, 1, none⟩ = some (.bool rv) := HM3.out.cell 1
 have m2 : w3.cell? ⟨w.heap.size + 1, 2, none⟩ = some (.slice Ap np cp) := HM3.out.cell 2
 have m3 : w3.cell? ⟨w.heap.size + 1, 3, none⟩ = some (.slice As ns cs) := HM3.out.cell 3
 have m4 : w3.cell? ⟨w.heap.size + 1, 4, none⟩ = some (.int .i64 g) := HM3.out.cell 4
 go_enter Tryz.func79, Tryz.ntmps79
 go_wp2_with fail
 refine HC.out.mono ?_
 rintro en w4 ⟨rfl, hk⟩
 have HK4 := Lib.hid (HK3.out.trans hk)
 have HT4 := Lib.hid (HT3.out.keep hk (fun h => h))
 have HM4 := Lib.hid (HM3.out.keep hk (fun h => h))
 have HR4 := Lib.hid (HR3.out.keep hk (fun h => h))
 clear hk HC HT3 HM3 HR3 HK3 y0 y1 y2 y3 m0 m1 m2 m3 m4 hw1 hw2 hw3 zw1 zw2
 obtain ⟨w5, hw5⟩ : ∃ V : World, w4.alloc (.cells #[.int .i64 b1, .int .i64 b2, .int .i64 b3] 94) = V := ⟨_, rfl⟩
 have hk : Keep Never w4 w5 := by rw [← hw5]; exact (Keep.refl _ _).alloc _
 have B5 := Blk.new w4 94 #[.int .i64 b1, .int .i64 b2, .int .i64 b3]
 rw [hw5] at B5
 obtain ⟨bb, hbb⟩ : ∃ q, w4.heap.size = q := ⟨_, rfl⟩
 rw [hbb] at B5
 have HK5 := Lib.hid (HK4.out.trans hk)
 have HT5 := Lib.hid (HT4.out.keep hk (fun h => h))
 have HM5 := Lib.hid (HM4.out.keep hk (fun h => h))
 have HR5 := Lib.hid (HR4.out.keep hk (fun h => h))
 have d1 : w5.cell? ⟨bb, 1, none⟩ = some (.int .i64 b2) := B5.cell 1
 have d2 : w5.cell? ⟨bb, 2, none⟩ = some (.int .i64 b3) := B5.cell 2
 clear hk B5 HT4 HM4 HR4 HK4
 obtain ⟨at0, hat0⟩ : ∃ z, alongP t (b2, b3, rv) = z := ⟨_, rfl⟩
 have hw := HBh.out w5 HK5.out (b1, b2, b3) rv (bal_mem HB0.out).1
 have hwa := HAl.out (b1, b2, b3) rv (bal_mem HB0.out).1
 simp only at hw hwa
 rw [hat0] at hw hwa
 have HA0 := Lib.hid hwa
 have HC := Lib.hid hw
 have HAt := Lib.hid hat0
 clear hw hwa hat0
 have y0 : w5.cell? ⟨w.heap.size, 0, none⟩ = some (.slice Ae ne ce) := HT5.out.cell 0
 have y1 : w5.cell? ⟨w.heap.size, 1, none⟩ = some (.slice Aj nj cj) := HT5.out.cell 1
 have y2 : w5.cell? ⟨w.heap.size, 2, none⟩ = some (.slice Ab nb cb) := HT5.out.cell 2
 have y3 : w5.cell? ⟨w.heap.size, 3, none⟩ = some (.slice Ar nr cr) := HT5.out.cell 3
 have m0 : w5.cell? ⟨w.heap.size + 1, 0, none⟩ = some (.int .i64 ref) := HM5.out.cell 0
 have m1 : w5.cell? ⟨w.heap.size + 1, 1, none⟩ = some (.bool rv) := HM5.out.cell 1
 have m2 : w5.cell? ⟨w.heap.size + 1, 2, none⟩ = some (.slice Ap np cp) := HM5.out.cell 2
 have m3 : w5.cell? ⟨w.heap.size + 1, 3, none⟩ = some (.slice As ns cs) := HM5.out.cell 3
 have m4 : w5.cell? ⟨w.heap.size + 1, 4, none⟩ = some (.int .i64 g) := HM5.out.cell 4
 go_wp2_with fail
 refine HC.out.mono ?_
 rintro en w6 ⟨rfl, hk⟩
 have HK6 := Lib.hid (HK5.out.trans hk)
 have HT6 := Lib.hid (HT5.out.keep hk (fun h => h))
 have HM6 := Lib.hid (HM5.out.keep hk (fun h => h))
 have HR6 := Lib.hid (HR5.out.keep hk (fun h => h))
 clear hk HC HT5 HM5 HR5 HK5 y0 y1 y2 y3 m0 m1 m2 m3 m4 d1 d2 hw5 hbb
 have m0 : w6.cell? ⟨w.heap.size + 1, 0, none⟩ = some (.int .i64 ref) := HM6.out.cell 0
 have m1 : w6.cell? ⟨w.heap.size + 1, 1, none⟩ = some (.bool rv) := HM6.out.cell 1
 have m2 : w6.cell? ⟨w.heap.size + 1, 2, none⟩ = some (.slice Ap np cp) := HM6.out.cell 2
 have m3 : w6.cell? ⟨w.heap.size + 1, 3, none⟩ = some (.slice As ns cs) := HM6.out.cell 3
 have m4 : w6.cell? ⟨w.heap.size + 1, 4, none⟩ = some (.int .i64 g) := HM6.out.cell 4
 have HC := Lib.hid (nom_any rv w6)
 go_wp2_with fail
 refine HC.out.mono ?_
 rintro en w7 ⟨rfl, hk⟩
 have HK7 := Lib.hid (HK6.out.trans hk)
 have HT7 := Lib.hid (HT6.out.keep hk (fun h => h))
 have HM7 := Lib.hid (HM6.out.keep hk (fun h => h))
 have HR7 := Lib.hid (HR6.out.keep hk (fun h => h))
 clear hk HC HT6 HM6 HR6 HK6 m0 m1 m2 m3 m4
 have m0 : w7.cell? ⟨w.heap.size + 1, 0, none⟩ = some (.int .i64 ref) := HM7.out.cell 0
 have m1 : w7.cell? ⟨w.heap.size + 1, 1, none⟩ = some (.bool rv) := HM7.out.cell 1
 have m2 : w7.cell? ⟨w.heap.size + 1, 2, none⟩ = some (.slice Ap np cp) := HM7.out.cell 2
 have m3 : w7.cell? ⟨w.heap.size + 1, 3, none⟩ = some (.slice As ns cs) := HM7.out.cell 3
 have m4 : w7.cell? ⟨w.heap.size + 1, 4, none⟩ = some (.int .i64 g) := HM7.out.cell 4
 go_upto_region 5 with (fail)
 obtain ⟨nm, hnm⟩ : ∃ z, nomI rv = z := ⟨_, rfl⟩
 rw [hnm]
 have HNm := Lib.hid hnm
 clear hnm
 obtain ⟨w8, hw8⟩ : ∃ V : World, w7.alloc (.cells #[.int .i64 nm, .int .i64 u] 3) = V := ⟨_, rfl⟩
 have hk : Keep Never w7 w8 := by rw [← hw8]; exact (Keep.refl _ _).alloc _
 have B8 := Blk.new w7 3 #[.int .i64 nm, .int .i64 u]
 rw [hw8] at B8
 obtain ⟨br, hbr⟩ : ∃ q, w7.heap.size = q := ⟨_, rfl⟩
 rw [hbr] at B8
 rw [hw8]
 rw [hbr]
 have HK8 := Lib.hid (HK7.out.trans hk)
 have HT8 := Lib.hid (HT7.out.keep hk (fun h => h))
 have HM8 := Lib.hid (HM7.out.keep hk (fun h => h))
 have HR8 := Lib.hid (HR7.out.keep hk (fun h => h))
 have HO8 : Hid (Own w8 w.heap.size 3 1 (some ⟨br, 0, none⟩) 2 2 (intCells [nm, u])) := Lib.hid (Own.of_blk2 (xs := [.int .i64 nm, .int .i64 u]) B8 rfl (by unfold maxLen; omega) (by rw [← hbr]; exact HK7.out.size))
 clear hk B8 HT7 HM7 HR7 HK7 hw8 hbr m0 m1 m2 m3 m4
 have m0 : w8.cell? ⟨w.heap.size + 1, 0, none⟩ = some (.int .i64 ref) := HM8.out.cell 0
 have m1 : w8.cell? ⟨w.heap.size + 1, 1, none⟩ = some (.bool rv) := HM8.out.cell 1
 have m2 : w8.cell? ⟨w.heap.size + 1, 2, none⟩ = some (.slice Ap np cp) := HM8.out.cell 2
 have m3 : w8.cell? ⟨w.heap.size + 1, 3, none⟩ = some (.slice As ns cs) := HM8.out.cell 3
 have m4 : w8.cell? ⟨w.heap.size + 1, 4, none⟩ = some (.int .i64 g) := HM8.out.cell 4
 obtain ⟨res, hres⟩ : ∃ z, linkV t u path.length 1 (edgeM t (path.headD (0, false)).1) at0 (path.drop 1) [nm, u] = z := ⟨_, rfl⟩
 have HRe : Hid (linksM t ref rv path u = linkP path rv u res) := Lib.hid (by unfold linksM farP17; rw [HB0.out]; simp only; rw [HAt.out, HNm.out, hres])
 have HJ0 : Hid (LkJ t u path at0 [nm, u] res 0 0 at0 [nm, u]) := Lib.hid ⟨fun _ => ⟨rfl, rfl, rfl⟩, fun h => by omega, by have := HA0.out; omega, by simp⟩
 have HRs := Lib.hid hres
 clear hres
 go_wp2_with fail
 clear m0 m1 m2 m3 m4
 go_loopw [10, 11, 12, 44] (fun s10 s11 s12 s44 wr => ∃ (k : Nat) (be at_ : Int) (v : List Int) (Ao : Option Addr) (no co : Nat), s10 = .int .i64 at_ ∧ s11 = .int .i64 be ∧ s12 = .slice Ao no co ∧ s44 = .int .i64 k ∧ k ≤ np ∧ Hid (LkJ t u path at0 [nm, u] res k be at_ v ∧ no = v.length ∧ Own wr w.heap.size 3 1 Ao no co (intCells v) ∧ Blk wr w.heap.size 27 #[.slice Ae ne ce, .slice Aj nj cj, .slice Ab nb cb, .slice Ar nr cr] ∧ Blk wr (w.heap.size + 1) 38 #[.int .i64 ref, .bool rv, .slice Ap np cp, .slice As ns cs, .int .i64 g] ∧ Blk wr (w.heap.size + 1 + 1) 105 #[.int .i64 0, .slice none 0 0] ∧ Keep Never w wr)) (fun _ _ _ s44 _ => np - (intOf s44).toNat)
 case atStart => exact ⟨0, 0, at0, [nm, u], _, 2, 2, rfl, rfl, rfl, rfl, by omega, Lib.hid ⟨HJ0.out, rfl, HO8.out, HT8.out, HM8.out, HR8.out, HK8.out⟩⟩
 case round =>
  clear HO8 HT8 HM8 HR8 HK8 HJ0
  obtain ⟨k, be, at_, v, Ao, no, co, rfl, rfl, rfl, rfl, hk, HH⟩ := hrel
  have HJ := Lib.hid HH.out.1
  have HNo := Lib.hid HH.out.2.1
  have HOr := Lib.hid HH.out.2.2.1
  have HTr := Lib.hid HH.out.2.2.2.1
  have HMr := Lib.hid HH.out.2.2.2.2.1
  have HRr := Lib.hid HH.out.2.2.2.2.2.1
  have HKr := Lib.hid HH.out.2.2.2.2.2.2
  have hno : no ≤ 300 := by have h1 := HNo.out; have h2 := HJ.out.len; omega
  clear HH
  by_cases h0 : k < np
  case neg =>
   obtain rfl : k = np := by omega
   have hki : ¬ (k : Int) < (k : Int) := by omega
   have HF : Hid (res = .ok v) := Lib.hid (by have h1 := HJ.out; rw [HNp.out] at h1; exact h1.fin HP1.out)
   have hsz := HKr.out.size
   have m2 : wr.cell? ⟨w.heap.size + 1, 2, none⟩ = some (.slice Ap k cp) := HMr.out.cell 2
   by_cases g2 : k = 2
   ·have t2 : ((k : Int) == 2) = true := by simp; omega
    have HIf : Hid (v ++ (if path.length = 2 then [0] else []) = v ++ [0]) := Lib.hid (by rw [if_pos (by rw [← HNp.out]; exact g2)])
    clear g2
    go_upto_region 24 with (at_builtin; refine wpList_app _ rfl (.tmp 120) (.tmp 121) _ rfl elemInt17 w.heap.size rfl (HOr.out.alloc _) _ rfl (Rd.of_blk (n := 1) (cs := [.int .i64 0]) (Blk.new _ _ _) rfl) (by simp [Value.oneCell']) (by omega) (by unfold maxLen; omega) (by simp; omega) ?_; intro A14 c14 w14 hown hk hrow; have hk14 : Keep (InRow Ao) wr w14 := ((Keep.refl _ wr).alloc _).trans hk; have HO14 := Lib.hid hown; clear hown hk hrow; have HR14 := Lib.hid (HRr.out.keep hk14 (fun h => HOr.out.ne_blk HRr.out (by decide) _ h rfl)); have HK14 := Lib.hid (HKr.out.then_ hk14 (fun i hi h => by have := (HOr.out.row h).1; omega)); have r0 : w14.cell? ⟨w.heap.size + 1 + 1, 0, none⟩ = some (.int .i64 0) := HR14.out.cell 0; have rf0 := HR14.out.frozen 0; have r1 : w14.cell? ⟨w.heap.size + 1 + 1, 1, none⟩ = some (.slice none 0 0) := HR14.out.cell 1; have rf1 := HR14.out.frozen 1)
    go_wp2_with fail
    (try simp only [Exit.inBlock, Exit.then])
    refine bodyPost_ret (pk_results (put2_blk17 HR14.out (.int .i64 5) (.slice A14 (no + 1) c14)) _ rfl) rfl ?_
    refine ⟨put2_own17 HK14.out (.inr (by omega)) _ _, ?_⟩
    rw [HRe.out, HF.out]
    exact ⟨A14, no + 1, c14, rfl, by rw [HIf.out, HNo.out]; simp, by rw [HIf.out, intCells_app]; exact HO14.out.keep (put2_own17 (Keep.refl (fun q => q = w.heap.size + 1 + 1) w14) (.inl rfl) _ _) (HO14.out.ne_blk HR14.out (by decide))⟩
   ·have t2 : ((k : Int) == 2) = false := by simp; omega
    have HIf : Hid (v ++ (if path.length = 2 then [0] else []) = v) := Lib.hid (by rw [if_neg (by rw [← HNp.out]; exact g2)]; simp)
    clear g2
    have r0 : wr.cell? ⟨w.heap.size + 1 + 1, 0, none⟩ = some (.int .i64 0) := HRr.out.cell 0
    have rf0 := HRr.out.frozen 0
    have r1 : wr.cell? ⟨w.heap.size + 1 + 1, 1, none⟩ = some (.slice none 0 0) := HRr.out.cell 1
    have rf1 := HRr.out.frozen 1
    go_wp2_with fail
    (try simp only [Exit.inBlock, Exit.then])
    refine bodyPost_ret (pk_results (put2_blk17 HRr.out (.int .i64 5) (.slice Ao no co)) _ rfl) rfl ?_
    refine ⟨put2_own17 HKr.out (.inr (by omega)) _ _, ?_⟩
    rw [HRe.out, HF.out]
    exact ⟨Ao, no, co, rfl, by rw [HIf.out, HNo.out], by rw [HIf.out]; exact HOr.out.keep (put2_own17 (Keep.refl (fun q => q = w.heap.size + 1 + 1) wr) (.inl rfl) _ _) (HOr.out.ne_blk HRr.out (by decide))⟩
  have hki : (k : Int) < (np : Int) := by omega
  obtain ⟨ad, s, hA, _, hs, c0, c1⟩ := ((stps_rd HSl.out).1.keep HKr.out (fun _ h => h.elim)).stp h0
  subst hA
  have HS := Lib.hid hs
  have HMm := Lib.hid (List.mem_of_getElem? hs)
  have hin := (stps_rd HSl.out).2.2.2.2.2 s HMm.out
  obtain ⟨s1, s2⟩ := s
  simp only at c0 c1 hin
  clear hs
  go_upto_region 8 with (fail)
  obtain ⟨w9, hw9⟩ : ∃ V : World, wr.alloc (.cells #[.int .i64 s1, .bool s2] 30) = V := ⟨_, rfl⟩
  have hk : Keep Never wr w9 := by rw [← hw9]; exact (Keep.refl _ _).alloc _
  have B9 := Blk.new wr 30 #[.int .i64 s1, .bool s2]
  rw [hw9] at B9
  obtain ⟨bl, hbl⟩ : ∃ q, wr.heap.size = q := ⟨_, rfl⟩
  rw [hbl] at B9
  have HK9 := Lib.hid (HKr.out.trans hk)
  have HT9 := Lib.hid (HTr.out.keep hk (fun h => h))
  have HM9 := Lib.hid (HMr.out.keep hk (fun h => h))
  have HR9 := Lib.hid (HRr.out.keep hk (fun h => h))
  have HO9 := Lib.hid (HOr.out.keep hk (fun _ _ h => h))
  have HL9 := Lib.hid B9
  rw [hw9, hbl]
  clear hk B9 c0 c1 HTr HMr HRr HKr HOr hbl hw9
  by_cases g0 : k = 0
  ·subst g0
   have tg : decide (((0 : Nat) : Int) > 0) = false := by decide
   obtain ⟨ae, ke, ve, hAe, hke, hkn, ed, hev, hv0, hv1⟩ := HEd.out w9 HK9.out _ HMm.out
   simp only at hAe hke hkn
   subst hAe
   have hkni : (ke : Int) < (ne : Int) := by omega
   have HEv : Hid (edgeM t (((s1, s2) : Stp)).1 = ve) := Lib.hid hev
   clear hev
   have l0 : w9.cell? ⟨bl, 0, none⟩ = some (.int .i64 ke) := by rw [← hke]; exact HL9.out.cell 0
   have hwb : wrap64 (be + ve) = be + ve := by have h1 := HJ.out.bnd; have h2 : IntKind.i64.wrap (be + ve) = be + ve := IntWalk.i64_in _ (by omega); rwa [IntWalk.i64_left] at h2
   have hwb2 : IntKind.i64.wrap (be + ve) = be + ve := by have h1 := HJ.out.bnd; exact IntWalk.i64_in _ (by omega)
   have y0 : w9.cell? ⟨w.heap.size, 0, none⟩ = some (.slice (some ae) ne ce) := HT9.out.cell 0
   have y1 : w9.cell? ⟨w.heap.size, 1, none⟩ = some (.slice Aj nj cj) := HT9.out.cell 1
   have y2 : w9.cell? ⟨w.heap.size, 2, none⟩ = some (.slice Ab nb cb) := HT9.out.cell 2
   have y3 : w9.cell? ⟨w.heap.size, 3, none⟩ = some (.slice Ar nr cr) := HT9.out.cell 3
   go_wp2_with fail
   refine ⟨⟨0 + 1, be + ve, at_, v, Ao, no, co, rfl, by go_num, rfl, by go_num, by omega, Lib.hid ⟨by have h1 := HJ.out; rw [← HRs.out] at h1; have h2 := h1.step0 HS.out (by rw [HEv.out]; exact ⟨hv0, hv1⟩); rw [HEv.out, HRs.out] at h2; exact h2, HNo.out, HO9.out, HT9.out, HM9.out, HR9.out, HK9.out⟩⟩, ?_⟩
   simp [intOf]; try omega
  ·have tg : decide ((k : Int) > 0) = true := by simp; omega
   have l0 : w9.cell? ⟨bl, 0, none⟩ = some (.int .i64 s1) := HL9.out.cell 0
   have hw := HFi.out w9 HK9.out s1
   unfold BalRet at hw
   obtain ⟨ob, hob⟩ : ∃ z, firstB t s1 = z := ⟨_, rfl⟩
   rw [hob] at hw
   have HC := Lib.hid hw
   have HOb := Lib.hid hob
   clear hw hob
   have y0 : w9.cell? ⟨w.heap.size, 0, none⟩ = some (.slice Ae ne ce) := HT9.out.cell 0
   have y1 : w9.cell? ⟨w.heap.size, 1, none⟩ = some (.slice Aj nj cj) := HT9.out.cell 1
   have y2 : w9.cell? ⟨w.heap.size, 2, none⟩ = some (.slice Ab nb cb) := HT9.out.cell 2
   have y3 : w9.cell? ⟨w.heap.size, 3, none⟩ = some (.slice Ar nr cr) := HT9.out.cell 3
   go_wp2_with fail
   refine HC.out.mono ?_
   rintro en w10 ⟨rfl, hk⟩
   have HK10 := Lib.hid (HK9.out.trans hk)
   have HT10 := Lib.hid (HT9.out.keep hk (fun h => h))
   have HM10 := Lib.hid (HM9.out.keep hk (fun h => h))
   have HR10 := Lib.hid (HR9.out.keep hk (fun h => h))
   have HO10 := Lib.hid (HO9.out.keep hk (fun _ _ h => h))
   have HL10 := Lib.hid (HL9.out.keep hk (fun h => h))
   clear hk HC HT9 HM9 HR9 HK9 HO9 HL9 y0 y1 y2 y3 l0
   have HK1 : Hid (1 ≤ k) := Lib.hid (by omega)
   cases ob with
   | none =>
    simp only [Option.getD, Option.isSome]
    have HF : Hid (res = .error 1) := Lib.hid (HJ.out.none HK1.out HS.out HOb.out)
    have HKz := Lib.hid (HK10.out.alloc (.cells #[.int .i64 0, .int .i64 0, .int .i64 0] 94))
    have HRz := Lib.hid (HR10.out.alloc (.cells #[.int .i64 0, .int .i64 0, .int .i64 0] 94))
    have r0 : (w10.alloc (.cells #[.int .i64 0, .int .i64 0, .int .i64 0] 94)).cell? ⟨w.heap.size + 1 + 1, 0, none⟩ = some (.int .i64 0) := HRz.out.cell 0
    have rf0 := HRz.out.frozen 0
    have r1 : (w10.alloc (.cells #[.int .i64 0, .int .i64 0, .int .i64 0] 94)).cell? ⟨w.heap.size + 1 + 1, 1, none⟩ = some (.slice none 0 0) := HRz.out.cell 1
    have rf1 := HRz.out.frozen 1
    go_wp2_with fail
    (try simp only [Exit.inBlock, Exit.then])
    refine bodyPost_ret (pk_results (put2_blk17 HRz.out (.int .i64 0) (.slice none 0 0)) _ rfl) rfl ?_
    refine ⟨put2_own17 HKz.out (.inr (by omega)) _ _, ?_⟩
    rw [HRe.out, HF.out]
    exact ⟨by decide, rfl⟩
   | some q =>
   obtain ⟨q1, q2, q3⟩ := q
   simp only [Option.getD, Option.isSome]
   obtain ⟨w11, hw11⟩ : ∃ V : World, w10.alloc (.cells #[.int .i64 q1, .int .i64 q2, .int .i64 q3] 94) = V := ⟨_, rfl⟩
   have hk : Keep Never w10 w11 := by rw [← hw11]; exact (Keep.refl _ _).alloc _
   have B11 := Blk.new w10 94 #[.int .i64 q1, .int .i64 q2, .int .i64 q3]
   rw [hw11] at B11
   obtain ⟨bq, hbq⟩ : ∃ q, w10.heap.size = q := ⟨_, rfl⟩
   rw [hbq] at B11
   have HK11 := Lib.hid (HK10.out.trans hk)
   have HT11 := Lib.hid (HT10.out.keep hk (fun h => h))
   have HM11 := Lib.hid (HM10.out.keep hk (fun h => h))
   have HR11 := Lib.hid (HR10.out.keep hk (fun h => h))
   have HO11 := Lib.hid (HO10.out.keep hk (fun _ _ h => h))
   have HL11 := Lib.hid (HL10.out.keep hk (fun h => h))
   have HQ11 := Lib.hid B11
   clear hk B11 HT10 HM10 HR10 HK10 HO10 HL10
   have HMq : Hid ((q1, q2, q3) ∈ t.2.2.1) := Lib.hid (by have := HOb.out; unfold firstB at this; exact List.mem_of_find?_eq_some this)
   have hw := HBh.out w11 HK11.out (q1, q2, q3) s2 HMq.out
   have ha := HAl.out (q1, q2, q3) s2 HMq.out
   simp only at hw ha
   obtain ⟨al, hal⟩ : ∃ z, alongP t (q2, q3, s2) = z := ⟨_, rfl⟩
   rw [hal] at hw ha
   have HAlo := Lib.hid hal
   have HAr := Lib.hid ha
   have HC := Lib.hid hw
   clear hal hw ha
   have y0 : w11.cell? ⟨w.heap.size, 0, none⟩ = some (.slice Ae ne ce) := HT11.out.cell 0
   have y1 : w11.cell? ⟨w.heap.size, 1, none⟩ = some (.slice Aj nj cj) := HT11.out.cell 1
   have y2 : w11.cell? ⟨w.heap.size, 2, none⟩ = some (.slice Ab nb cb) := HT11.out.cell 2
   have y3 : w11.cell? ⟨w.heap.size, 3, none⟩ = some (.slice Ar nr cr) := HT11.out.cell 3
   have d1 : w11.cell? ⟨bq, 1, none⟩ = some (.int .i64 q2) := HQ11.out.cell 1
   have d2 : w11.cell? ⟨bq, 2, none⟩ = some (.int .i64 q3) := HQ11.out.cell 2
   have l1 : w11.cell? ⟨bl, 1, none⟩ = some (.bool s2) := HL11.out.cell 1
   go_wp2_with fail
   refine HC.out.mono ?_
   rintro en w12 ⟨rfl, hk⟩
   have HK12 := Lib.hid (HK11.out.trans hk)
   have HT12 := Lib.hid (HT11.out.keep hk (fun h => h))
   have HM12 := Lib.hid (HM11.out.keep hk (fun h => h))
   have HR12 := Lib.hid (HR11.out.keep hk (fun h => h))
   have HO12 := Lib.hid (HO11.out.keep hk (fun _ _ h => h))
   have HL12 := Lib.hid (HL11.out.keep hk (fun h => h))
   have HQ12 := Lib.hid (HQ11.out.keep hk (fun h => h))
   clear hk HC HT11 HM11 HR11 HK11 HO11 HL11 HQ11 y0 y1 y2 y3 d1 d2 l1 hw11 hbq
   have hbd := HJ.out.bnd
   have har := HAr.out
   have hw1 : wrap64 (be + al) = be + al := by have h2 : IntKind.i64.wrap (be + al) = be + al := IntWalk.i64_in _ (by omega); rwa [IntWalk.i64_left] at h2
   have hw2 : IntKind.i64.wrap (be + al) = be + al := IntWalk.i64_in _ (by omega)
   have hw3 : wrap64 (be + al - at_) = be + al - at_ := by have h2 : IntKind.i64.wrap (be + al - at_) = be + al - at_ := IntWalk.i64_in _ (by omega); rwa [IntWalk.i64_left] at h2
   have hw4 : IntKind.i64.wrap (be + al - at_) = be + al - at_ := IntWalk.i64_in _ (by omega)
   clear hbd har
   obtain ⟨sc, hsc⟩ : ∃ z, scaledM (be + al - at_) u false = z := ⟨_, rfl⟩
   have HSc : Hid (scaledM (be + alongP t (((q1, q2, q3) : Bl).2.1, ((q1, q2, q3) : Bl).2.2, ((s1, s2) : Stp).2) - at_) u false = sc) := Lib.hid (by simp only; rw [HAlo.out, hsc])
   have hc := scaled_any (be + al - at_) u false w12
   rw [hsc] at hc
   obtain ⟨sv, se⟩ := sc
   simp only at hc
   have HC := Lib.hid hc
   clear hc hsc
   go_wp2_with fail
   refine HC.out.mono ?_
   rintro en w13 ⟨rfl, hk⟩
   have HK13 := Lib.hid (HK12.out.trans hk)
   have HT13 := Lib.hid (HT12.out.keep hk (fun h => h))
   have HM13 := Lib.hid (HM12.out.keep hk (fun h => h))
   have HR13 := Lib.hid (HR12.out.keep hk (fun h => h))
   have HO13 := Lib.hid (HO12.out.keep hk (fun _ _ h => h))
   have HL13 := Lib.hid (HL12.out.keep hk (fun h => h))
   have HQ13 := Lib.hid (HQ12.out.keep hk (fun h => h))
   clear hk HC HT12 HM12 HR12 HK12 HO12 HL12 HQ12 hw3 hw4 hw1 hw2
   by_cases g1 : se = 0
   case neg =>
    have t1 : (se != 0) = true := by simpa using g1
    have HNz := Lib.hid g1
    have HF : Hid (res = .error se) := Lib.hid (by have h1 := HJ.out.bad HK1.out HS.out HOb.out; rw [HSc.out] at h1; exact h1 g1)
    clear g1
    have r0 : w13.cell? ⟨w.heap.size + 1 + 1, 0, none⟩ = some (.int .i64 0) := HR13.out.cell 0
    have rf0 := HR13.out.frozen 0
    have r1 : w13.cell? ⟨w.heap.size + 1 + 1, 1, none⟩ = some (.slice none 0 0) := HR13.out.cell 1
    have rf1 := HR13.out.frozen 1
    go_wp2_with fail
    (try simp only [Exit.inBlock, Exit.then])
    refine bodyPost_ret (pk_results (put2_blk17 HR13.out (.int .i64 0) (.slice none 0 0)) _ rfl) rfl ?_
    refine ⟨put2_own17 HK13.out (.inr (by omega)) _ _, ?_⟩
    rw [HRe.out, HF.out]
    exact ⟨HNz.out, rfl⟩
   have t1 : (se != 0) = false := by simpa using g1
   have HSe := Lib.hid g1
   clear g1
   have hsz := HK13.out.size
   by_cases g2 : k = 2
   ·have t2 : ((k : Int) == 2) = true := by simp; omega
    have m2 : w13.cell? ⟨w.heap.size + 1, 2, none⟩ = some (.slice (some ad) np cp) := HM13.out.cell 2
    have hwn : wrap64 ((np : Int) - 2) = (np : Int) - 2 := by have h2 : IntKind.i64.wrap ((np : Int) - 2) = (np : Int) - 2 := IntWalk.i64_in _ (by omega); rwa [IntWalk.i64_left] at h2
    have hwn2 : IntKind.i64.wrap ((np : Int) - 2) = (np : Int) - 2 := IntWalk.i64_in _ (by omega)
    have HMi : Hid ([(np : Int) - 2] = midN k path.length) := Lib.hid (by unfold midN; rw [if_pos g2, HNp.out])
    clear g2
    go_upto_region 18 with ((at_builtin; refine wpList_app _ rfl (.tmp 86) (.tmp 91) _ rfl elemInt17 w.heap.size rfl (HO13.out.alloc _) _ rfl (Rd.of_blk (n := 1) (cs := [.int .i64 ((np : Int) - 2)]) (Blk.new _ _ _) rfl) (by simp [Value.oneCell']) (by omega) (by unfold maxLen; omega) (by simp; omega) ?_; intro A14 c14 w14 hown hk hrow; have hk14 : Keep (InRow Ao) w13 w14 := ((Keep.refl _ w13).alloc _).trans hk; have HO14 : Hid (Own w14 w.heap.size 3 1 A14 (no + 1) c14 (intCells (v ++ [(np : Int) - 2]))) := Lib.hid (by rw [intCells_app]; exact hown); clear hown hk hrow))
    have hk := hk14
    have HT14 := Lib.hid (HT13.out.keep hk (fun h => HO13.out.ne_blk HT13.out (by decide) _ h rfl))
    have HM14 := Lib.hid (HM13.out.keep hk (fun h => HO13.out.ne_blk HM13.out (by decide) _ h rfl))
    have HR14 := Lib.hid (HR13.out.keep hk (fun h => HO13.out.ne_blk HR13.out (by decide) _ h rfl))
    have HL14 := Lib.hid (HL13.out.keep hk (fun h => HO13.out.ne_blk HL13.out (by decide) _ h rfl))
    have HQ14 := Lib.hid (HQ13.out.keep hk (fun h => HO13.out.ne_blk HQ13.out (by decide) _ h rfl))
    have HK14 := Lib.hid (HK13.out.then_ hk (fun i hi h => by have := (HO13.out.row h).1; omega))
    clear hk hk14 hwn hwn2 m2 t2 hsz HT13 HM13 HR13 HL13 HQ13 HK13 HO13
    have hsz := HK14.out.size
    have q0 : w14.cell? ⟨bq, 0, none⟩ = some (.int .i64 q1) := HQ14.out.cell 0
    have l1 : w14.cell? ⟨bl, 1, none⟩ = some (.bool s2) := HL14.out.cell 1
    obtain ⟨ns2, hns2⟩ : ∃ z, nomI s2 = z := ⟨_, rfl⟩
    have HNs2 := Lib.hid hns2
    have HCn := Lib.hid (fun (V : World) => nom_any s2 V)
    rw [hns2] at HCn
    have ha14 : bits .and .i64 q1 16383 = q1 % 16384 := and14 q1 (HCB.out _ HMq.out) (by have := HCB2.out _ HMq.out; simp only at this; omega)
    clear hns2
    go_cut [12] (fun s12 wc => ∃ A16 c16, s12 = .slice A16 ((no + 1) + 7) c16 ∧ Hid (Own wc w.heap.size 3 1 A16 ((no + 1) + 7) c16 (intCells (v ++ [(np : Int) - 2]) ++ intCells [sv, 1, q1 / 16384, q1 % 16384, ns2, 2, 12]) ∧ Keep (InRow A14) w14 wc))
    case first =>
     go_region_law (first
      | (go_simp; go_at_call 77; refine (HCn.out _).mono ?_; rintro en w15 ⟨rfl, hk⟩; have hk15 : Keep Never w14 w15 := (by first | exact hk | exact hk.drewL); have q0x := keepT hk15 q0; have HO15 := Lib.hid (HO14.out.keep hk15 (fun _ _ h => h)); have HK15 := Lib.hid hk15; have hsz5 := hk15.size; clear hk15 hk)
      | (refine step_app _ rfl (.tmp 93) (.tmp 104) _ rfl elemInt17 (w.heap.size) (A := A14) (n := (no + 1)) (c := c14) (by go_simp) (HO15.out.alloc _) _ (A' := some ⟨_, 0, none⟩) (m := 7) (c' := 7) (news := [.int .i64 sv, .int .i64 1, .int .i64 (q1 / 16384), .int .i64 (q1 % 16384), .int .i64 ns2, .int .i64 2, .int .i64 12]) (by go_simp; first | done | rw [ha14]) (Rd.of_blk (n := 7) (cs := [.int .i64 sv, .int .i64 1, .int .i64 (q1 / 16384), .int .i64 (q1 % 16384), .int .i64 ns2, .int .i64 2, .int .i64 12]) (Blk.new _ _ _) rfl) (by simp [Value.oneCell']) (by omega) (by unfold maxLen; omega) (by simp; omega) ?_; intro A16 c16 w16 hown hk hrow; have hk16 : Keep (InRow A14) w15 w16 := (by first | exact ((Keep.refl (InRow A14) w15).alloc _).trans hk | exact (((Keep.refl (InRow A14) w15).alloc _).drew).trans hk); have HO16 := Lib.hid hown; clear hown hk hrow))
     all_goals
      go_wp2_with fail
      go_meet
      refine ⟨_, _, rfl, Lib.hid ⟨HO16.out, (HK15.out.mono (fun _ _ h => h.elim)).trans hk16⟩⟩
    case rest =>
     obtain ⟨A16, c16, rfl, HH16⟩ := hcut
     rename World => w16
     have hk := HH16.out.2
     have HT16 := Lib.hid (HT14.out.keep hk (fun h => HO14.out.ne_blk HT14.out (by decide) _ h rfl))
     have HM16 := Lib.hid (HM14.out.keep hk (fun h => HO14.out.ne_blk HM14.out (by decide) _ h rfl))
     have HR16 := Lib.hid (HR14.out.keep hk (fun h => HO14.out.ne_blk HR14.out (by decide) _ h rfl))
     have HL16 := Lib.hid (HL14.out.keep hk (fun h => HO14.out.ne_blk HL14.out (by decide) _ h rfl))
     have HK16 := Lib.hid (HK14.out.then_ hk (fun i hi h => by have := (HO14.out.row h).1; omega))
     have HO16 := Lib.hid HH16.out.1
     clear hk HH16 hsz ha14 q0 l1 HT14 HM14 HR14 HL14 HK14 HO14 HQ14
     obtain ⟨ae, ke, ve, hAe, hke, hkn, ed, hev, hv0, hv1⟩ := HEd.out w16 HK16.out _ HMm.out
     simp only at hAe hke hkn
     subst hAe
     have hkni : (ke : Int) < (ne : Int) := by omega
     have HEv : Hid (edgeM t (((s1, s2) : Stp)).1 = ve) := Lib.hid hev
     clear hev
     have l0 : w16.cell? ⟨bl, 0, none⟩ = some (.int .i64 ke) := by rw [← hke]; exact HL16.out.cell 0
     have hwb : wrap64 (be + ve) = be + ve := by have h1 := HJ.out.bnd; have h2 : IntKind.i64.wrap (be + ve) = be + ve := IntWalk.i64_in _ (by omega); rwa [IntWalk.i64_left] at h2
     have hwb2 : IntKind.i64.wrap (be + ve) = be + ve := by have h1 := HJ.out.bnd; exact IntWalk.i64_in _ (by omega)
     have y0 : w16.cell? ⟨w.heap.size, 0, none⟩ = some (.slice (some ae) ne ce) := HT16.out.cell 0
     have y1 : w16.cell? ⟨w.heap.size, 1, none⟩ = some (.slice Aj nj cj) := HT16.out.cell 1
     have y2 : w16.cell? ⟨w.heap.size, 2, none⟩ = some (.slice Ab nb cb) := HT16.out.cell 2
     have y3 : w16.cell? ⟨w.heap.size, 3, none⟩ = some (.slice Ar nr cr) := HT16.out.cell 3
     go_wp2_with fail
     have h2 := HJ.out.step HK1.out HS.out (by rw [HEv.out]; exact ⟨hv0, hv1⟩) HOb.out (by simp only; rw [HAlo.out]; exact HAr.out) (by rw [HSc.out]; exact HSe.out)
     rw [HSc.out, HEv.out] at h2
     simp only at h2
     rw [HAlo.out, ← HMi.out] at h2
     unfold grpN at h2
     rw [HNs2.out] at h2
     refine ⟨⟨k + 1, be + ve, be + al, _, A16, (no + 1) + 7, c16, rfl, by go_num, rfl, by go_num, by omega, Lib.hid ⟨h2, by have h3 := HNo.out; simp; omega, by rw [intCells_app]; exact HO16.out, HT16.out, HM16.out, HR16.out, HK16.out⟩⟩, ?_⟩
     simp [intOf]; try omega
   ·have t2 : ((k : Int) == 2) = false := by simp; omega
    have HMi : Hid (([] : List Int) = midN k path.length) := Lib.hid (by unfold midN; rw [if_neg g2])
    clear g2
    go_upto_region 18 with (fail)
    have hsz := HK13.out.size
    have q0 : w13.cell? ⟨bq, 0, none⟩ = some (.int .i64 q1) := HQ13.out.cell 0
    have l1 : w13.cell? ⟨bl, 1, none⟩ = some (.bool s2) := HL13.out.cell 1
    obtain ⟨ns2, hns2⟩ : ∃ z, nomI s2 = z := ⟨_, rfl⟩
    have HNs2 := Lib.hid hns2
    have HCn := Lib.hid (fun (V : World) => nom_any s2 V)
    rw [hns2] at HCn
    have ha14 : bits .and .i64 q1 16383 = q1 % 16384 := and14 q1 (HCB.out _ HMq.out) (by have := HCB2.out _ HMq.out; simp only at this; omega)
    clear hns2
    go_cut [12] (fun s12 wc => ∃ A16 c16, s12 = .slice A16 (no + 7) c16 ∧ Hid (Own wc w.heap.size 3 1 A16 (no + 7) c16 (intCells (v) ++ intCells [sv, 1, q1 / 16384, q1 % 16384, ns2, 2, 12]) ∧ Keep (InRow Ao) w13 wc))
    case first =>
     go_region_law (first
      | (go_simp; go_at_call 77; refine (HCn.out _).mono ?_; rintro en w15 ⟨rfl, hk⟩; have hk15 : Keep Never w13 w15 := (by first | exact hk | exact hk.drewL); have q0x := keepT hk15 q0; have HO15 := Lib.hid (HO13.out.keep hk15 (fun _ _ h => h)); have HK15 := Lib.hid hk15; have hsz5 := hk15.size; clear hk15 hk)
      | (refine step_app _ rfl (.tmp 93) (.tmp 104) _ rfl elemInt17 (w.heap.size) (A := Ao) (n := no) (c := co) (by go_simp) (HO15.out.alloc _) _ (A' := some ⟨_, 0, none⟩) (m := 7) (c' := 7) (news := [.int .i64 sv, .int .i64 1, .int .i64 (q1 / 16384), .int .i64 (q1 % 16384), .int .i64 ns2, .int .i64 2, .int .i64 12]) (by go_simp; first | done | rw [ha14]) (Rd.of_blk (n := 7) (cs := [.int .i64 sv, .int .i64 1, .int .i64 (q1 / 16384), .int .i64 (q1 % 16384), .int .i64 ns2, .int .i64 2, .int .i64 12]) (Blk.new _ _ _) rfl) (by simp [Value.oneCell']) (by omega) (by unfold maxLen; omega) (by simp; omega) ?_; intro A16 c16 w16 hown hk hrow; have hk16 : Keep (InRow Ao) w15 w16 := (by first | exact ((Keep.refl (InRow Ao) w15).alloc _).trans hk | exact (((Keep.refl (InRow Ao) w15).alloc _).drew).trans hk); have HO16 := Lib.hid hown; clear hown hk hrow))
     all_goals
      go_wp2_with fail
      go_meet
      refine ⟨_, _, rfl, Lib.hid ⟨HO16.out, (HK15.out.mono (fun _ _ h => h.elim)).trans hk16⟩⟩
    case rest =>
     obtain ⟨A16, c16, rfl, HH16⟩ := hcut
     rename World => w16
     have hk := HH16.out.2
     have HT16 := Lib.hid (HT13.out.keep hk (fun h => HO13.out.ne_blk HT13.out (by decide) _ h rfl))
     have HM16 := Lib.hid (HM13.out.keep hk (fun h => HO13.out.ne_blk HM13.out (by decide) _ h rfl))
     have HR16 := Lib.hid (HR13.out.keep hk (fun h => HO13.out.ne_blk HR13.out (by decide) _ h rfl))
     have HL16 := Lib.hid (HL13.out.keep hk (fun h => HO13.out.ne_blk HL13.out (by decide) _ h rfl))
     have HK16 := Lib.hid (HK13.out.then_ hk (fun i hi h => by have := (HO13.out.row h).1; omega))
     have HO16 := Lib.hid HH16.out.1
     clear hk HH16 hsz ha14 q0 l1 HT13 HM13 HR13 HL13 HK13 HO13 HQ13
     obtain ⟨ae, ke, ve, hAe, hke, hkn, ed, hev, hv0, hv1⟩ := HEd.out w16 HK16.out _ HMm.out
     simp only at hAe hke hkn
     subst hAe
     have hkni : (ke : Int) < (ne : Int) := by omega
     have HEv : Hid (edgeM t (((s1, s2) : Stp)).1 = ve) := Lib.hid hev
     clear hev
     have l0 : w16.cell? ⟨bl, 0, none⟩ = some (.int .i64 ke) := by rw [← hke]; exact HL16.out.cell 0
     have hwb : wrap64 (be + ve) = be + ve := by have h1 := HJ.out.bnd; have h2 : IntKind.i64.wrap (be + ve) = be + ve := IntWalk.i64_in _ (by omega); rwa [IntWalk.i64_left] at h2
     have hwb2 : IntKind.i64.wrap (be + ve) = be + ve := by have h1 := HJ.out.bnd; exact IntWalk.i64_in _ (by omega)
     have y0 : w16.cell? ⟨w.heap.size, 0, none⟩ = some (.slice (some ae) ne ce) := HT16.out.cell 0
     have y1 : w16.cell? ⟨w.heap.size, 1, none⟩ = some (.slice Aj nj cj) := HT16.out.cell 1
     have y2 : w16.cell? ⟨w.heap.size, 2, none⟩ = some (.slice Ab nb cb) := HT16.out.cell 2
     have y3 : w16.cell? ⟨w.heap.size, 3, none⟩ = some (.slice Ar nr cr) := HT16.out.cell 3
     go_wp2_with fail
     have h2 := HJ.out.step HK1.out HS.out (by rw [HEv.out]; exact ⟨hv0, hv1⟩) HOb.out (by simp only; rw [HAlo.out]; exact HAr.out) (by rw [HSc.out]; exact HSe.out)
     rw [HSc.out, HEv.out] at h2
     simp only at h2
     rw [HAlo.out, ← HMi.out] at h2
     unfold grpN at h2
     rw [HNs2.out] at h2
     refine ⟨⟨k + 1, be + ve, be + al, _, A16, no + 7, c16, rfl, by go_num, rfl, by go_num, by omega, Lib.hid ⟨h2, by have h3 := HNo.out; simp; omega, by rw [List.append_nil, intCells_app]; exact HO16.out, HT16.out, HM16.out, HR16.out, HK16.out⟩⟩, ?_⟩
     simp [intOf]; try omega
end Go.Proofs.YtpapiojicbbheaaGreatDoor
