/- For every input law08.SnapNews answers true: New, Get and All agree with the reference, and the order of definitions does not matter; no condition. (Part 7 of what it rests on.) -/
import Derived.Test.YtodpdlpncgkkdaaGreatDoorSnapNews5
import Derived.Test.YtodpdlpncgkkdaaGreatDoorSnapNews1
import Derived.Test.YtodpdlpncgkkdaaGreatDoorSnapNews4
import Derived.Test.YtodpdlpncgkkdaaGreatDoorSnapNews6
set_option linter.unusedVariables false
set_option linter.unusedSimpArgs false
section
namespace Go.Proofs.YtodpdlpncgkkdaaGreatDoor.P
open Go.RowKit Go.Proofs.YtodpdlpncgkkdaaGreatDoorW.PrintWords Go.Proofs.YtodpdlpncgkkdaaGreatDoorW.PrintLast Go.Proofs.YtodpdlpncgkkdaaGreatDoorW.PrintMore
attribute [local go_sem high] Go.Proofs.YtodpdlpncgkkdaaGreatDoor.leq_text Go.Proofs.YtodpdlpncgkkdaaGreatDoor.gtr_text Go.Proofs.YtodpdlpncgkkdaaGreatDoor.geq_text
attribute [local go_sem] max2_int min2_int max_two min_two max_three min_three max_four min_four   -- for this text's walks alone
set_option linter.unusedVariables false
set_option linter.unusedSimpArgs false

/-! ### monticuleref08_Put: function 42 -/
mutual
def monticuleref08_Put.l0 : Nat → List (S33) → ByteArray → List (S33) → Bool → Int → Int → ByteArray → ByteArray → List ByteArray → ByteArray → ByteArray → Option ((List (S33)))
  | 0, _, _, _, _, _, _, _, _, _, _, _ => none
  | k + 1, x0, x5, x6, x7, x8, x198000, x198001, x198002, x198003, x198004, x198005 => if x8 < (x0.length : Int) then (if 0 ≤ x8 then ((monticuleref07_Key.f k ((rd_T33 x0 x8).f0) ((rd_T33 x0 x8).f1) ((rd_T33 x0 x8).f2) ((rd_T33 x0 x8).f3) ((rd_T33 x0 x8).f4) ((rd_T33 x0 x8).f5)).bind fun t203 => (if x7 = true then (monticuleref08_Put.j1 k x0 x5 x6 x7 x8 t203 false x198000 x198001 x198002 x198003 x198004 x198005) else (monticuleref08_Put.j1 k x0 x5 x6 x7 x8 t203 (!(Op.bytesLess t203.toList x5.toList)) x198000 x198001 x198002 x198003 x198004 x198005))) else (none)) else (if x7 = true then (some x6) else (if x6.length < 1466015503701 then (some (x6 ++ [(⟨x198000, x198001, x198002, x198003, x198004, x198005⟩ : S33)])) else (none)))
def monticuleref08_Put.j1 : Nat → List (S33) → ByteArray → List (S33) → Bool → Int → ByteArray → Bool → Int → ByteArray → ByteArray → List ByteArray → ByteArray → ByteArray → Option ((List (S33)))
  | 0, _, _, _, _, _, _, _, _, _, _, _, _, _ => none
  | k + 1, x0, x5, x6, x7, x8, x9, x29, x198000, x198001, x198002, x198003, x198004, x198005 => if x29 = true then (if x6.length < 1466015503701 then ((some (x6 ++ [(⟨x198000, x198001, x198002, x198003, x198004, x198005⟩ : S33)] : List (S33))).bind fun y204 => (if x9.toList = x5.toList then (monticuleref08_Put.l0 k x0 x5 y204 true (wrap64 (x8 + 1)) x198000 x198001 x198002 x198003 x198004 x198005) else (if 0 ≤ x8 then (if x8 < (x0.length : Int) then (if y204.length < 1466015503701 then (monticuleref08_Put.l0 k x0 x5 (y204 ++ [(⟨(rd_T33 x0 x8).f0, (rd_T33 x0 x8).f1, (rd_T33 x0 x8).f2, (rd_T33 x0 x8).f3, (rd_T33 x0 x8).f4, (rd_T33 x0 x8).f5⟩ : S33)]) true (wrap64 (x8 + 1)) x198000 x198001 x198002 x198003 x198004 x198005) else (none)) else (none)) else (none)))) else (none)) else (if x9.toList = x5.toList then (monticuleref08_Put.l0 k x0 x5 x6 x7 (wrap64 (x8 + 1)) x198000 x198001 x198002 x198003 x198004 x198005) else (if 0 ≤ x8 then (if x8 < (x0.length : Int) then (if x6.length < 1466015503701 then (monticuleref08_Put.l0 k x0 x5 (x6 ++ [(⟨(rd_T33 x0 x8).f0, (rd_T33 x0 x8).f1, (rd_T33 x0 x8).f2, (rd_T33 x0 x8).f3, (rd_T33 x0 x8).f4, (rd_T33 x0 x8).f5⟩ : S33)]) x7 (wrap64 (x8 + 1)) x198000 x198001 x198002 x198003 x198004 x198005) else (none)) else (none)) else (none)))
end
def monticuleref08_Put.f (k : Nat) (l0 : List (S33)) (a1_0 : Int) (a1_1 : ByteArray) (a1_2 : ByteArray) (l1_3 : List ByteArray) (a1_4 : ByteArray) (a1_5 : ByteArray) : Option ((List (S33))) := (monticuleref07_Key.f k a1_0 a1_1 a1_2 l1_3 a1_4 a1_5).bind fun t198 => (monticuleref08_Put.l0 k l0 t198 ([] : List (S33)) false 0 a1_0 a1_1 a1_2 l1_3 a1_4 a1_5)
theorem monticuleref08_Put.mono_l : ∀ k, (∀ y0 y1 y2 y3 y4 y5 y6 y7 y8 y9 y10, LeO (monticuleref08_Put.l0 k y0 y1 y2 y3 y4 y5 y6 y7 y8 y9 y10) (monticuleref08_Put.l0 (k + 1) y0 y1 y2 y3 y4 y5 y6 y7 y8 y9 y10)) ∧ (∀ y0 y1 y2 y3 y4 y5 y6 y7 y8 y9 y10 y11 y12, LeO (monticuleref08_Put.j1 k y0 y1 y2 y3 y4 y5 y6 y7 y8 y9 y10 y11 y12) (monticuleref08_Put.j1 (k + 1) y0 y1 y2 y3 y4 y5 y6 y7 y8 y9 y10 y11 y12))
  | 0 => ⟨fun _ _ _ _ _ _ _ _ _ _ _ r h => by simp [monticuleref08_Put.l0] at h, fun _ _ _ _ _ _ _ _ _ _ _ _ _ r h => by simp [monticuleref08_Put.j1] at h⟩
  | k + 1 => by
    obtain ⟨ih0, ih1⟩ := monticuleref08_Put.mono_l k
    refine ⟨?_, ?_⟩
    · intro y0 y1 y2 y3 y4 y5 y6 y7 y8 y9 y10
      unfold monticuleref08_Put.l0
      repeat' first
      | (with_reducible exact ih0 _ _ _ _ _ _ _ _ _ _ _)
      | (with_reducible exact ih1 _ _ _ _ _ _ _ _ _ _ _ _ _)
      | (with_reducible exact monticuleref07_Key.mono _ _ _ _ _ _ _)
      | (with_reducible exact LeO.refl _)
      | (with_reducible exact LeO.none _)
      | (with_reducible refine LeO.ite ?_ ?_)
      | (with_reducible refine LeO.bind ?_ (fun _ => ?_))
      | exact ih0 _ _ _ _ _ _ _ _ _ _ _
      | exact ih1 _ _ _ _ _ _ _ _ _ _ _ _ _
      | exact monticuleref07_Key.mono _ _ _ _ _ _ _
      | exact LeO.none _
      | refine LeO.ite ?_ ?_
      | refine LeO.bind ?_ (fun _ => ?_)
    · intro y0 y1 y2 y3 y4 y5 y6 y7 y8 y9 y10 y11 y12
      unfold monticuleref08_Put.j1
      repeat' first
      | (with_reducible exact ih0 _ _ _ _ _ _ _ _ _ _ _)
      | (with_reducible exact ih1 _ _ _ _ _ _ _ _ _ _ _ _ _)
      | (with_reducible exact monticuleref07_Key.mono _ _ _ _ _ _ _)
      | (with_reducible exact LeO.refl _)
      | (with_reducible exact LeO.none _)
      | (with_reducible refine LeO.ite ?_ ?_)
      | (with_reducible refine LeO.bind ?_ (fun _ => ?_))
      | exact ih0 _ _ _ _ _ _ _ _ _ _ _
      | exact ih1 _ _ _ _ _ _ _ _ _ _ _ _ _
      | exact monticuleref07_Key.mono _ _ _ _ _ _ _
      | exact LeO.none _
      | refine LeO.ite ?_ ?_
      | refine LeO.bind ?_ (fun _ => ?_)
theorem monticuleref08_Put.mono : ∀ a0 a1 a2 a3 a4 a5 a6 k, LeO (monticuleref08_Put.f k a0 a1 a2 a3 a4 a5 a6) (monticuleref08_Put.f (k + 1) a0 a1 a2 a3 a4 a5 a6) := by
  intro a0 a1 a2 a3 a4 a5 a6 k
  obtain ⟨ih0, ih1⟩ := monticuleref08_Put.mono_l k
  unfold monticuleref08_Put.f
  repeat' first
      | (with_reducible exact ih0 _ _ _ _ _ _ _ _ _ _ _)
      | (with_reducible exact ih1 _ _ _ _ _ _ _ _ _ _ _ _ _)
      | (with_reducible exact monticuleref07_Key.mono _ _ _ _ _ _ _)
      | (with_reducible exact LeO.refl _)
      | (with_reducible exact LeO.none _)
      | (with_reducible refine LeO.ite ?_ ?_)
      | (with_reducible refine LeO.bind ?_ (fun _ => ?_))
      | exact ih0 _ _ _ _ _ _ _ _ _ _ _
      | exact ih1 _ _ _ _ _ _ _ _ _ _ _ _ _
      | exact monticuleref07_Key.mono _ _ _ _ _ _ _
      | exact LeO.none _
      | refine LeO.ite ?_ ?_
      | refine LeO.bind ?_ (fun _ => ?_)
set_option maxHeartbeats 8000000 in
set_option maxRecDepth 100000 in
theorem monticuleref08_Put.calls (k : Nat) (P0_ : Nat → Prop) (A0 : Option Addr) (c0 : Nat) (l0 : List (S33)) (a1_0 : Int) (a1_1 : ByteArray) (a1_2 : ByteArray) (P1_3_ : Nat → Prop) (A1_3 : Option Addr) (c1_3 : Nat) (l1_3 : List ByteArray) (a1_4 : ByteArray) (a1_5 : ByteArray) (r : List (S33)) (w : World) (hs0 : Kd.V k33 33 w w.heap.size (fun k_ => P0_ k_) (.slice A0 l0.length c0) l0) (hs1_3 : Kd.V Kd.string 9 w w.heap.size (fun k_ => P1_3_ k_) (.slice A1_3 l1_3.length c1_3) l1_3) (h : monticuleref08_Put.f k l0 a1_0 a1_1 a1_2 l1_3 a1_4 a1_5 = some r) :
    Calls Tryz.prog 42 #[.slice A0 l0.length c0, .agg #[.int .i64 a1_0, .string a1_1, .string a1_2, .slice A1_3 l1_3.length c1_3, .string a1_4, .string a1_5]] w fun e w' => ∃ v0_ : Value, e = .returned (v0_) ∧ Kd.N k33 33 w' w.heap.size (fun k_ => ((P0_ k_ ∨ P1_3_ k_) ∨ w.heap.size ≤ k_)) v0_ r ∧ Below w.heap.size w w' := by
  have hu33 := Tryz.underlying33
  have HO0 := Aside0.mk (show Kd.V k33 33 w w.heap.size (fun k_ => ((P0_ k_ ∨ P1_3_ k_) ∨ w.heap.size ≤ k_)) (.slice A0 l0.length c0) l0 from Kd.V_mono hs0 (fun k_ hk => .inl (.inl hk)))
  have HO1_3 := Aside0.mk (show Kd.V Kd.string 9 w w.heap.size (fun k_ => ((P0_ k_ ∨ P1_3_ k_) ∨ w.heap.size ≤ k_)) (.slice A1_3 l1_3.length c1_3) l1_3 from Kd.V_mono hs1_3 (fun k_ hk => .inl (.inr hk)))
  have HB := Aside0.mk (Below.refl w.heap.size w)
  have H : ((monticuleref07_Key.f k a1_0 a1_1 a1_2 l1_3 a1_4 a1_5).bind fun t198 => (monticuleref08_Put.l0 k l0 t198 ([] : List (S33)) false 0 a1_0 a1_1 a1_2 l1_3 a1_4 a1_5)) = some r := h
  clear h
  replace H := Option.bind_eq_some_iff.mp H
  obtain ⟨t198, A30, H⟩ := H
  replace H : (monticuleref08_Put.l0 k l0 t198 ([] : List (S33)) false 0 a1_0 a1_1 a1_2 l1_3 a1_4 a1_5) = some r := H
  have A3 := Aside0.mk A30
  clear A30
  have H' := Aside0.mk H
  clear H
  go_enter Tryz.func42, Tryz.ntmps42
  go_wp2_with (first | ((with_reducible refine gate_dst (N := 3) rfl ?_); refine box_event ?hg (N := 3) ?hd (cs := #[.int .i64 a1_0, .string a1_1, .string a1_2, .slice A1_3 l1_3.length c1_3, .string a1_4, .string a1_5]) (t := 33) ?hr ?_; (case hd => rfl); (case hg => rfl); (case hr => first | (go_simp; done) | (go_simp; rfl)); intro gb197 hg w4 hbox hb; have n0_ := Aside0.mk (Kd.V_below (Kd.V_elderB (by (with_reducible repeat (first | apply Kd.V_alloc | apply Kd.V_drewN | apply Kd.V_drew)); exact HO0.out) gb197 (Nat.le_of_eq hg.symm)) hb); have n1_ := Aside0.mk (Kd.V_below (Kd.V_elderB (by (with_reducible repeat (first | apply Kd.V_alloc | apply Kd.V_drewN | apply Kd.V_drew)); exact HO1_3.out) gb197 (Nat.le_of_eq hg.symm)) hb); have n2_ := Aside0.mk (below_step (by repeat (first | (with_reducible first | exact HB.out | apply below_alloc | apply pw_below_drewN | apply below_drew1) | exact HB.out)) hb); have n3_ := Aside0.mk (hbox); have n4_ := Aside0.mk ((by rw [hg]; exact (below_size (by repeat (first | (with_reducible first | exact HB.out | apply below_alloc | apply pw_below_drewN | apply below_drew1) | exact HB.out))) : w.heap.size ≤ gb197)); have n5_ := Aside0.mk ((by rw [hg]; exact (below_size (by repeat (first | (with_reducible first | exact HB.out | apply below_alloc | apply pw_below_drewN | apply below_drew1) | exact HB.out))) : w.heap.size ≤ gb197)); clear HO0; clear HO1_3; clear HB; have HO0 := n0_; have HO1_3 := n1_; have HB := n2_; have BK197 := n3_; have GW197 := n4_; have GE197 := n5_; clear n0_ n1_ n2_ n3_ n4_ n5_; clear hb hbox hg; have hcz5_0 : w4.cell? ⟨gb197, 0, none⟩ = some (.int .i64 a1_0) := (blk_cell BK197.out 0).trans rfl; have hcz5_1 : w4.cell? ⟨gb197, 1, none⟩ = some (.string a1_1) := (blk_cell BK197.out 1).trans rfl; have hcz5_2 : w4.cell? ⟨gb197, 2, none⟩ = some (.string a1_2) := (blk_cell BK197.out 2).trans rfl; have hcz5_3 : w4.cell? ⟨gb197, 3, none⟩ = some (.slice A1_3 l1_3.length c1_3) := (blk_cell BK197.out 3).trans rfl; have hcz5_4 : w4.cell? ⟨gb197, 4, none⟩ = some (.string a1_4) := (blk_cell BK197.out 4).trans rfl; have hcz5_5 : w4.cell? ⟨gb197, 5, none⟩ = some (.string a1_5) := (blk_cell BK197.out 5).trans rfl; have hfz5_0 := blk_frozen BK197.out 0; have hfz5_1 := blk_frozen BK197.out 1; have hfz5_2 := blk_frozen BK197.out 2; have hfz5_3 := blk_frozen BK197.out 3; have hfz5_4 := blk_frozen BK197.out 4; have hfz5_5 := blk_frozen BK197.out 5) | ((with_reducible refine gate_callee (f := 71) rfl ?_); refine goesL_ (some 11) rfl rfl Tryz.func71 (by kernel_rfl) rfl #[.agg #[.int .i64 a1_0, .string a1_1, .string a1_2, .slice A1_3 l1_3.length c1_3, .string a1_4, .string a1_5]] rfl (by (try simp only [List.map_toArray, List.map_cons, List.map_nil]); first | done | rfl | (simp only [List.length_drop, List.length_take]; rfl)) ?_; (with_reducible refine (monticuleref07_Key.calls k a1_0 a1_1 a1_2 _ _ l1_3 a1_4 a1_5 t198 _ ?side1 ?side2 A3.out).mono ?_); (case side1 => repeat (first | exact (Kd.V_reads' HO1_3.out).2.2 | (with_reducible refine Kd.C_alloc ?_ _) | (with_reducible refine Kd.C_drewN ?_ _) | (with_reducible refine Kd.C_drew ?_))); (case side2 => exact (Kd.V_reads' HO1_3.out).2.1); rintro e w6 ⟨rfl, hb⟩; refine ⟨_, rfl, ?_⟩; have n0_ := Aside0.mk (Kd.V_below (by (with_reducible repeat (first | apply Kd.V_alloc | apply Kd.V_drewN | apply Kd.V_drew)); exact HO0.out) hb); have n1_ := Aside0.mk (Kd.V_below (by (with_reducible repeat (first | apply Kd.V_alloc | apply Kd.V_drewN | apply Kd.V_drew)); exact HO1_3.out) hb); have n2_ := Aside0.mk (blk_below (g := gb197) (o := .cells #[.int .i64 a1_0, .string a1_1, .string a1_2, .slice A1_3 l1_3.length c1_3, .string a1_4, .string a1_5] 33 (0, 0)) (by (with_reducible repeat (first | refine blk_drewN ?_ _ | refine blk_drew ?_ | refine blk_alloc ?_ _)); exact BK197.out) hb); have n3_ := Aside0.mk (below_step (by repeat (first | (with_reducible first | exact HB.out | apply below_alloc | apply pw_below_drewN | apply below_drew1 | refine below_set ?_ GE197.out) | exact HB.out)) hb); clear HO0; clear HO1_3; clear BK197; clear HB; have HO0 := n0_; have HO1_3 := n1_; have BK197 := n2_; have HB := n3_; clear n0_ n1_ n2_ n3_; (try clear hb); (try clear hb2); (try clear hk); (try clear hi)))
  go_loopg [6, 7, 8] k (fun kq v6 v7 v8 w' => ∃ (x6_1 : List (S33)) (x7_1 : Bool) (x8_1 : Int), v7 = .bool x7_1 ∧ v8 = .int .i64 x8_1 ∧ Aside0 (monticuleref08_Put.l0 kq l0 t198 x6_1 x7_1 x8_1 a1_0 a1_1 a1_2 l1_3 a1_4 a1_5 = some r) ∧ Aside0 (kq ≤ k) ∧ Aside0 (Kd.V k33 33 w' w.heap.size (fun k_ => ((P0_ k_ ∨ P1_3_ k_) ∨ w.heap.size ≤ k_) ∧ some k_ ≠ (v6 : Value).ownBlock ∧ k_ ≠ gb197) (.slice A0 l0.length c0) l0) ∧ Aside0 (Kd.N k33 33 w' w.heap.size (fun k_ => ((P0_ k_ ∨ P1_3_ k_) ∨ w.heap.size ≤ k_) ∧ k_ ≠ gb197) v6 x6_1) ∧ Aside0 (Kd.V Kd.string 9 w' w.heap.size (fun k_ => ((P0_ k_ ∨ P1_3_ k_) ∨ w.heap.size ≤ k_) ∧ some k_ ≠ (v6 : Value).ownBlock ∧ k_ ≠ gb197) (.slice A1_3 l1_3.length c1_3) l1_3) ∧ Aside0 (w'.heap[gb197]? = some (.cells #[.int .i64 a1_0, .string a1_1, .string a1_2, (.slice A1_3 l1_3.length c1_3), .string a1_4, .string a1_5] 33 (0, 0))) ∧ Aside0 (Below w.heap.size w w'))
  case atStart => exact ⟨(([] : List (S33))), (false), (0), (by first | rfl | (simp; done) | (simp [*]; done)), (by first | rfl | (simp; done) | (simp [*]; done)), H', ⟨Nat.le_refl _⟩, ⟨by (with_reducible repeat (first | apply Kd.V_alloc | apply Kd.V_drewN | apply Kd.V_drew)); exact Kd.V_mono HO0.out (fun _ hk => ⟨hk.1, ⟨(by simp [Value.ownBlock]), hk.2⟩⟩)⟩, ⟨by first | exact Kd.S_nil _ _ _ _ _ | exact Kd.N_nil _ _ _ _ _ | exact Kd.V_nil _ _ _ _ _ | exact Kd.Q_nil _ _ _ _ _ | exact Kd.R_nil _ _ _ _ _⟩, ⟨by (with_reducible repeat (first | apply Kd.V_alloc | apply Kd.V_drewN | apply Kd.V_drew)); exact Kd.V_mono HO1_3.out (fun _ hk => ⟨hk.1, ⟨(by simp [Value.ownBlock]), hk.2⟩⟩)⟩, ⟨by (with_reducible repeat (first | refine blk_drewN ?_ _ | refine blk_drew ?_ | refine blk_alloc ?_ _)); exact BK197.out⟩, ⟨by repeat (first | (with_reducible first | exact HB.out | apply below_alloc | apply pw_below_drewN | apply below_drew1 | refine below_set ?_ GE197.out) | exact HB.out)⟩⟩
  case round =>
    clear H'
    try clear c1
    try clear p2
    try clear c4
    try clear hcz5_0
    try clear hcz5_1
    try clear hcz5_2
    try clear hcz5_3
    try clear hcz5_4
    try clear hcz5_5
    try clear hfz5_0
    try clear hfz5_1
    try clear hfz5_2
    try clear hfz5_3
    try clear hfz5_4
    try clear hfz5_5
    obtain ⟨x6_1, x7_1, x8_1, rfl, rfl, HA, HK1, HO_0, HO_6, HO_198003, BK197, HB⟩ := hrel
    cases gk with
    | zero => exact absurd HA.out (by simp [monticuleref08_Put.l0])
    | succ k1 =>
      have H := HA.out
      clear HA
      simp only [monticuleref08_Put.l0] at H
      by_cases c7 : x8_1 < (l0.length : Int)
      · rw [if_pos c7] at H
        have c7b0 : decide (x8_1 < (l0.length : Int)) = true := decide_eq_true c7
        clear c7
        by_cases c8 : 0 ≤ x8_1
        · rw [if_pos c8] at H
          have c8b0 : decide (0 ≤ x8_1) = true := decide_eq_true c8
          clear c8
          replace H := Option.bind_eq_some_iff.mp H
          obtain ⟨t203, A90, H⟩ := H
          replace H : (if x7_1 = true then (monticuleref08_Put.j1 k1 l0 t198 x6_1 x7_1 x8_1 t203 false a1_0 a1_1 a1_2 l1_3 a1_4 a1_5) else (monticuleref08_Put.j1 k1 l0 t198 x6_1 x7_1 x8_1 t203 (!(Op.bytesLess t203.toList t198.toList)) a1_0 a1_1 a1_2 l1_3 a1_4 a1_5)) = some r := H
          have A9 := Aside0.mk A90
          clear A90
          have HC10 := Aside0.mk H
          clear H
          have p202 : 0 ≤ (x8_1 : Int) := of_decide_eq_true (by first | (with_reducible assumption) | assumption)
          have q202 : x8_1 < (l0.length : Int) := of_decide_eq_true (by first | (with_reducible assumption) | assumption)
          obtain ⟨ad202, A202_3, c202_3, e202, hx202_0, hx202_1, hx202_2, hx202_3, hx202_4, hx202_5, hl202_3, hi202_3⟩ := at_T33 (Kd.V_reads' HO_0.out).2.2 x8_1 p202 q202
          cases e202
          obtain ⟨ce202, hce202, hMe202, hcc202⟩ := Kd.V_get HO_0.out z33 x8_1 p202 (by first | exact q202 | exact of_decide_eq_true (by first | (with_reducible assumption) | assumption) | (have e_ := (Kd.V_reads' HO_0.out).1; omega))
          obtain ⟨ua202_3, uc202_3, rfl, ul202_3, ge202_3⟩ := k33_openF hMe202
          have hv202_3 := hcc202 3 _ rfl
          rw [add_field _ _ 3 (by omega)] at hv202_3
          replace hv202_3 := Option.some.inj (hv202_3.symm.trans hx202_3)
          injection hv202_3 with hva_ hvn_ hvc_
          rw [hva_] at ge202_3
          rw [hvc_] at ul202_3
          have HL202_3 := Aside0.mk (show Kd.V Kd.string 9 _ w.heap.size _ _ ((rd_T33 l0 x8_1).f3) from Kd.V_mk ul202_3 ge202_3)
          clear hva_ hvn_ hvc_ ge202_3 ul202_3
          clear hcc202 hce202
          have HR202_3 := Aside0.mk hi202_3
          have HC202_3 := Aside0.mk hl202_3
          clear hi202_3 hl202_3
          replace p202 := eq_true p202
          replace q202 := eq_true q202
          go_upto_region 8 with (first | ((with_reducible refine gate_callee (f := 71) rfl ?_); refine goesL_ (some 22) rfl rfl Tryz.func71 (by kernel_rfl) rfl #[.agg #[.int .i64 ((rd_T33 l0 x8_1).f0), .string ((rd_T33 l0 x8_1).f1), .string ((rd_T33 l0 x8_1).f2), .slice A202_3 ((rd_T33 l0 x8_1).f3).length c202_3, .string ((rd_T33 l0 x8_1).f4), .string ((rd_T33 l0 x8_1).f5)]] rfl (by (try simp only [List.map_toArray, List.map_cons, List.map_nil]); first | done | rfl | (simp only [List.length_drop, List.length_take]; rfl)) ?_; (with_reducible refine (monticuleref07_Key.calls k1 ((rd_T33 l0 x8_1).f0) ((rd_T33 l0 x8_1).f1) ((rd_T33 l0 x8_1).f2) _ _ ((rd_T33 l0 x8_1).f3) ((rd_T33 l0 x8_1).f4) ((rd_T33 l0 x8_1).f5) t203 _ ?side1 ?side2 A9.out).mono ?_); (case side1 => repeat (first | exact (by repeat (first | (with_reducible exact HR202_3.out) | (with_reducible refine Kd.C_alloc ?_ _) | (with_reducible refine Kd.C_drewN ?_ _) | (with_reducible refine Kd.C_drew ?_) | exact HR202_3.out)) | (with_reducible refine Kd.C_alloc ?_ _) | (with_reducible refine Kd.C_drewN ?_ _) | (with_reducible refine Kd.C_drew ?_))); (case side2 => exact HC202_3.out); rintro e w11 ⟨rfl, hb⟩; refine ⟨_, rfl, ?_⟩; have n0_ := Aside0.mk (Kd.V_below (by (with_reducible repeat (first | apply Kd.V_alloc | apply Kd.V_drewN | apply Kd.V_drew)); exact HO_0.out) hb); have n1_ := Aside0.mk (Kd.N_below (by (with_reducible repeat (first | apply Kd.N_alloc | apply Kd.N_drewN | apply Kd.N_drew)); exact HO_6.out) hb); have n2_ := Aside0.mk (Kd.V_below (by (with_reducible repeat (first | apply Kd.V_alloc | apply Kd.V_drewN | apply Kd.V_drew)); exact HO_198003.out) hb); have n3_ := Aside0.mk (Kd.V_below (by (with_reducible repeat (first | apply Kd.V_alloc | apply Kd.V_drewN | apply Kd.V_drew)); exact HL202_3.out) hb); have n4_ := Aside0.mk (blk_below (g := gb197) (o := .cells #[.int .i64 a1_0, .string a1_1, .string a1_2, .slice A1_3 l1_3.length c1_3, .string a1_4, .string a1_5] 33 (0, 0)) (by (with_reducible repeat (first | refine blk_drewN ?_ _ | refine blk_drew ?_ | refine blk_alloc ?_ _)); exact BK197.out) hb); have n5_ := Aside0.mk (Kd.C_below (by repeat (first | (with_reducible exact HR202_3.out) | (with_reducible refine Kd.C_alloc ?_ _) | (with_reducible refine Kd.C_drewN ?_ _) | (with_reducible refine Kd.C_drew ?_) | exact HR202_3.out)) hb); have n6_ := Aside0.mk (below_step (by repeat (first | (with_reducible first | exact HB.out | apply below_alloc | apply pw_below_drewN | apply below_drew1 | refine below_set ?_ GE197.out) | exact HB.out)) hb); clear HO_0; clear HO_6; clear HO_198003; clear HL202_3; clear BK197; clear HR202_3; clear HB; have HO_0 := n0_; have HO_6 := n1_; have HO_198003 := n2_; have HL202_3 := n3_; have BK197 := n4_; have HR202_3 := n5_; have HB := n6_; clear n0_ n1_ n2_ n3_ n4_ n5_ n6_; (try clear hb); (try clear hb2); (try clear hk); (try clear hi)))
          (try simp only [Act.put, List.setIfInBounds_toArray, List.set_cons_zero, List.set_cons_succ])
          go_cut [29] (fun v29 wc => ∃ (kq : Nat) (x29_9 : Bool), v29 = .bool x29_9 ∧ Aside0 (monticuleref08_Put.j1 kq l0 t198 x6_1 x7_1 x8_1 t203 x29_9 a1_0 a1_1 a1_2 l1_3 a1_4 a1_5 = some r) ∧ Aside0 (kq ≤ k1) ∧ Aside0 (Kd.V k33 33 wc w.heap.size (fun k_ => ((P0_ k_ ∨ P1_3_ k_) ∨ w.heap.size ≤ k_) ∧ some k_ ≠ (u6 : Value).ownBlock ∧ k_ ≠ gb197) (.slice (some ad202) l0.length c0) l0) ∧ Aside0 (Kd.N k33 33 wc w.heap.size (fun k_ => ((P0_ k_ ∨ P1_3_ k_) ∨ w.heap.size ≤ k_) ∧ k_ ≠ gb197) u6 x6_1) ∧ Aside0 (Kd.V Kd.string 9 wc w.heap.size (fun k_ => ((P0_ k_ ∨ P1_3_ k_) ∨ w.heap.size ≤ k_) ∧ some k_ ≠ (u6 : Value).ownBlock ∧ k_ ≠ gb197) (.slice A1_3 l1_3.length c1_3) l1_3) ∧ Aside0 (wc.heap[gb197]? = some (.cells #[.int .i64 a1_0, .string a1_1, .string a1_2, (.slice A1_3 l1_3.length c1_3), .string a1_4, .string a1_5] 33 (0, 0))) ∧ Aside0 (Kd.C Kd.string wc A202_3 ((rd_T33 l0 x8_1).f3).length ((rd_T33 l0 x8_1).f3)) ∧ Aside0 (Below w.heap.size w wc))
          case first =>
            have H := HC10.out
            clear HC10
            by_cases c12 : x7_1 = true
            · subst c12
              have H1 : (monticuleref08_Put.j1 k1 l0 t198 x6_1 true x8_1 t203 false a1_0 a1_1 a1_2 l1_3 a1_4 a1_5) = some r := by rw [if_pos rfl] at H; exact H
              clear H
              have H := H1
              clear H1
              have H' := Aside0.mk H
              clear H
              go_wp2
              go_meet
              case rel => exact ⟨_, (false), (by first | rfl | (simp; done) | (simp [*]; done)), H', ⟨by have := HK1.out; first | omega | exact Nat.le_refl _⟩, ⟨by (with_reducible repeat (first | apply Kd.V_alloc | apply Kd.V_drewN | apply Kd.V_drew)); exact HO_0.out⟩, ⟨by (with_reducible repeat (first | apply Kd.N_alloc | apply Kd.N_drewN | apply Kd.N_drew)); exact HO_6.out⟩, ⟨by (with_reducible repeat (first | apply Kd.V_alloc | apply Kd.V_drewN | apply Kd.V_drew)); exact HO_198003.out⟩, ⟨by (with_reducible repeat (first | refine blk_drewN ?_ _ | refine blk_drew ?_ | refine blk_alloc ?_ _)); exact BK197.out⟩, ⟨by repeat (first | (with_reducible exact HR202_3.out) | (with_reducible refine Kd.C_alloc ?_ _) | (with_reducible refine Kd.C_drewN ?_ _) | (with_reducible refine Kd.C_drew ?_) | exact HR202_3.out)⟩, ⟨by repeat (first | (with_reducible first | exact HB.out | apply below_alloc | apply pw_below_drewN | apply below_drew1 | refine below_set ?_ GE197.out) | exact HB.out)⟩⟩
            · replace c12 := Bool.eq_false_iff.mpr c12
              subst c12
              have H1 : (monticuleref08_Put.j1 k1 l0 t198 x6_1 false x8_1 t203 (!(Op.bytesLess t203.toList t198.toList)) a1_0 a1_1 a1_2 l1_3 a1_4 a1_5) = some r := by rw [if_neg (show ¬ (false = true) by decide)] at H; exact H
              clear H
              have H := H1
              clear H1
              have H' := Aside0.mk H
              clear H
              go_wp2
              go_meet
              case rel => exact ⟨_, (!(Op.bytesLess t203.toList t198.toList)), (by first | rfl | (simp; done) | (simp [*]; done)), H', ⟨by have := HK1.out; first | omega | exact Nat.le_refl _⟩, ⟨by (with_reducible repeat (first | apply Kd.V_alloc | apply Kd.V_drewN | apply Kd.V_drew)); exact HO_0.out⟩, ⟨by (with_reducible repeat (first | apply Kd.N_alloc | apply Kd.N_drewN | apply Kd.N_drew)); exact HO_6.out⟩, ⟨by (with_reducible repeat (first | apply Kd.V_alloc | apply Kd.V_drewN | apply Kd.V_drew)); exact HO_198003.out⟩, ⟨by (with_reducible repeat (first | refine blk_drewN ?_ _ | refine blk_drew ?_ | refine blk_alloc ?_ _)); exact BK197.out⟩, ⟨by repeat (first | (with_reducible exact HR202_3.out) | (with_reducible refine Kd.C_alloc ?_ _) | (with_reducible refine Kd.C_drewN ?_ _) | (with_reducible refine Kd.C_drew ?_) | exact HR202_3.out)⟩, ⟨by repeat (first | (with_reducible first | exact HB.out | apply below_alloc | apply pw_below_drewN | apply below_drew1 | refine below_set ?_ GE197.out) | exact HB.out)⟩⟩
          case rest =>
            clear HC10
            try clear c1
            try clear c2
            try clear p2
            try clear q2
            try clear hx2
            try clear c4
            try clear c7
            try clear c7b0
            try clear c8
            try clear c8b0
            try clear c12
            try clear hcz5_0
            try clear hcz5_1
            try clear hcz5_2
            try clear hcz5_3
            try clear hcz5_4
            try clear hcz5_5
            try clear hfz5_0
            try clear hfz5_1
            try clear hfz5_2
            try clear hfz5_3
            try clear hfz5_4
            try clear hfz5_5
            try clear hx202_0
            try clear hx202_1
            try clear hx202_2
            try clear hx202_3
            try clear hx202_4
            try clear hx202_5
            try clear p2
            try clear p202
            try clear q202
            obtain ⟨kq, x29_9, rfl, HA, HJ9, HO_0, HO_6, HO_198003, BK197, HR202_3, HB⟩ := hcut
            cases kq with
            | zero => exact absurd HA.out (by simp [monticuleref08_Put.j1])
            | succ kj9 =>
              have H := HA.out
              clear HA
              simp only [monticuleref08_Put.j1] at H
              by_cases c13 : x29_9 = true
              · subst c13
                have H1 : (if x6_1.length < 1466015503701 then ((some (x6_1 ++ [(⟨a1_0, a1_1, a1_2, l1_3, a1_4, a1_5⟩ : S33)] : List (S33))).bind fun y204 => (if t203.toList = t198.toList then (monticuleref08_Put.l0 kj9 l0 t198 y204 true (wrap64 (x8_1 + 1)) a1_0 a1_1 a1_2 l1_3 a1_4 a1_5) else (if 0 ≤ x8_1 then (if x8_1 < (l0.length : Int) then (if y204.length < 1466015503701 then (monticuleref08_Put.l0 kj9 l0 t198 (y204 ++ [(⟨(rd_T33 l0 x8_1).f0, (rd_T33 l0 x8_1).f1, (rd_T33 l0 x8_1).f2, (rd_T33 l0 x8_1).f3, (rd_T33 l0 x8_1).f4, (rd_T33 l0 x8_1).f5⟩ : S33)]) true (wrap64 (x8_1 + 1)) a1_0 a1_1 a1_2 l1_3 a1_4 a1_5) else (none)) else (none)) else (none)))) else (none)) = some r := by rw [if_pos rfl] at H; exact H
                clear H
                have H := H1
                clear H1
                by_cases c14 : x6_1.length < 1466015503701
                · rw [if_pos c14] at H
                  have LMc14 := Aside0.mk c14
                  clear c14
                  obtain ⟨y204, hy204⟩ : ∃ y_ : List (S33), y_ = (x6_1 ++ [(⟨a1_0, a1_1, a1_2, l1_3, a1_4, a1_5⟩ : S33)]) := ⟨_, rfl⟩
                  replace H : (if t203.toList = t198.toList then (monticuleref08_Put.l0 kj9 l0 t198 y204 true (wrap64 (x8_1 + 1)) a1_0 a1_1 a1_2 l1_3 a1_4 a1_5) else (if 0 ≤ x8_1 then (if x8_1 < (l0.length : Int) then (if y204.length < 1466015503701 then (monticuleref08_Put.l0 kj9 l0 t198 (y204 ++ [(⟨(rd_T33 l0 x8_1).f0, (rd_T33 l0 x8_1).f1, (rd_T33 l0 x8_1).f2, (rd_T33 l0 x8_1).f3, (rd_T33 l0 x8_1).f4, (rd_T33 l0 x8_1).f5⟩ : S33)]) true (wrap64 (x8_1 + 1)) a1_0 a1_1 a1_2 l1_3 a1_4 a1_5) else (none)) else (none)) else (none))) = some r := by first | (rw [hy204]; with_reducible exact H) | (have H2_ := (Option.bind_some _ _).symm.trans H; rw [hy204]; with_reducible exact H2_) | (have H2_ := (Option.bind_some _ _).symm.trans H; with_reducible exact H2_) | with_reducible exact H | (rw [hy204]; exact H) | exact H
                  have Ny204 := Aside0.mk hy204
                  clear hy204
                  by_cases c15 : t203.toList = t198.toList
                  · rw [if_pos c15] at H
                    have c15b0 : (t203.toList == t198.toList) = true := beq_iff_eq.mpr c15
                    have c15b1 : (t203.toList != t198.toList) = false := bne_eq_false_iff_eq.mpr c15
                    clear c15
                    have H' := Aside0.mk H
                    clear H
                    have hcz16_0 : wc.cell? ⟨gb197, 0, none⟩ = some (.int .i64 a1_0) := (blk_cell BK197.out 0).trans rfl
                    have hcz16_1 : wc.cell? ⟨gb197, 1, none⟩ = some (.string a1_1) := (blk_cell BK197.out 1).trans rfl
                    have hcz16_2 : wc.cell? ⟨gb197, 2, none⟩ = some (.string a1_2) := (blk_cell BK197.out 2).trans rfl
                    have hcz16_3 : wc.cell? ⟨gb197, 3, none⟩ = some (.slice A1_3 l1_3.length c1_3) := (blk_cell BK197.out 3).trans rfl
                    have hcz16_4 : wc.cell? ⟨gb197, 4, none⟩ = some (.string a1_4) := (blk_cell BK197.out 4).trans rfl
                    have hcz16_5 : wc.cell? ⟨gb197, 5, none⟩ = some (.string a1_5) := (blk_cell BK197.out 5).trans rfl
                    have hfz16_0 := blk_frozen BK197.out 0
                    have hfz16_1 := blk_frozen BK197.out 1
                    have hfz16_2 := blk_frozen BK197.out 2
                    have hfz16_3 := blk_frozen BK197.out 3
                    have hfz16_4 := blk_frozen BK197.out 4
                    have hfz16_5 := blk_frozen BK197.out 5
                    go_wp2_with (first | ((with_reducible refine gate_builtin (b := .append) (xs := #[.tmp 30, .tmp 32]) rfl ?_); at_builtin; refine Kd.N_append k33 (w0 := w) w.heap.size rfl (.tmp 30) (.tmp 32) 22 33 (.agg #[(.int .i64 0), (.string ⟨#[]⟩), (.string ⟨#[]⟩), (.slice none 0 0), (.string ⟨#[]⟩), (.string ⟨#[]⟩)]) 96 rfl Tryz.underlying22 info33 rfl (by decide) (by omega) u6 x6_1 (⟨a1_0, a1_1, a1_2, l1_3, a1_4, a1_5⟩ : S33) [.int .i64 a1_0, .string a1_1, .string a1_2, .slice A1_3 l1_3.length c1_3, .string a1_4, .string a1_5] (fun k_ => ((P0_ k_ ∨ P1_3_ k_) ∨ w.heap.size ≤ k_) ∧ k_ ≠ gb197) (fun k_ => ((fun k_ => ((P0_ k_ ∨ P1_3_ k_) ∨ w.heap.size ≤ k_) ∧ k_ ≠ gb197)) k_ ∧ some k_ ≠ (u6 : Value).ownBlock) rfl rfl ?aP (fun _ hk => hk) ?aF ?aO ?aB ?aS ?aL ?_; (case aP => exact (k33_mkF _ _ (⟨a1_0, a1_1, a1_2, l1_3, a1_4, a1_5⟩ : S33) (Kd.V_reads' (Kd.V_mono (ok' := (fun k_ => ((fun k_ => ((P0_ k_ ∨ P1_3_ k_) ∨ w.heap.size ≤ k_) ∧ k_ ≠ gb197)) k_ ∧ some k_ ≠ (u6 : Value).ownBlock)) (HO_198003.out) (fun k_ hk => ⟨⟨hk.1, hk.2.2⟩, hk.2.1⟩))).2.1 (Kd.V_F (Kd.V_mono (ok' := (fun k_ => ((fun k_ => ((P0_ k_ ∨ P1_3_ k_) ∨ w.heap.size ≤ k_) ∧ k_ ≠ gb197)) k_ ∧ some k_ ≠ (u6 : Value).ownBlock)) (HO_198003.out) (fun k_ hk => ⟨⟨hk.1, hk.2.2⟩, hk.2.1⟩))))); (case aB => exact (by repeat (first | (with_reducible first | exact HB.out | apply below_alloc | apply pw_below_drewN | apply below_drew1 | refine below_set ?_ GE197.out) | exact HB.out))); (case aF => exact (fun k_ hk => ⟨(.inr (Nat.le_trans (below_size (by repeat (first | (with_reducible first | exact HB.out | apply below_alloc | apply pw_below_drewN | apply below_drew1 | refine below_set ?_ GE197.out) | exact HB.out))) hk)), Kd.freshB (g := gb197) (o := .cells #[.int .i64 a1_0, .string a1_1, .string a1_2, .slice A1_3 l1_3.length c1_3, .string a1_4, .string a1_5] 33 (0, 0)) (by (with_reducible repeat (first | refine blk_drewN ?_ _ | refine blk_drew ?_ | refine blk_alloc ?_ _)); exact BK197.out) k_ hk⟩)); (case aO => exact (by (with_reducible repeat (first | apply Kd.N_alloc | apply Kd.N_drewN | apply Kd.N_drew)); exact HO_6.out)); (case aS => exact (below_size (by repeat (first | (with_reducible first | exact HB.out | apply below_alloc | apply pw_below_drewN | apply below_drew1 | refine below_set ?_ GE197.out) | exact HB.out)))); (case aL => have := LMc14.out; omega); intro v205 w17 ho hb hg hat; rw [← Ny204.out] at ho; have n0_ := Aside0.mk (Kd.V_afterv (ok := (fun k_ => ((P0_ k_ ∨ P1_3_ k_) ∨ w.heap.size ≤ k_) ∧ k_ ≠ gb197)) (by (with_reducible repeat (first | apply Kd.V_alloc | apply Kd.V_drewN | apply Kd.V_drew)); exact Kd.V_mono HO_0.out (fun _ hk => ⟨⟨hk.1, hk.2.2⟩, hk.2.1⟩)) hg hat); have n1_ := Aside0.mk (Kd.V_afterv (ok := (fun k_ => ((P0_ k_ ∨ P1_3_ k_) ∨ w.heap.size ≤ k_) ∧ k_ ≠ gb197)) (by (with_reducible repeat (first | apply Kd.V_alloc | apply Kd.V_drewN | apply Kd.V_drew)); exact Kd.V_mono HO_198003.out (fun _ hk => ⟨⟨hk.1, hk.2.2⟩, hk.2.1⟩)) hg hat); have n2_ := Aside0.mk (blk_grown (g := gb197) (o := .cells #[.int .i64 a1_0, .string a1_1, .string a1_2, .slice A1_3 l1_3.length c1_3, .string a1_4, .string a1_5] 33 (0, 0)) (by (with_reducible repeat (first | refine blk_drewN ?_ _ | refine blk_drew ?_ | refine blk_alloc ?_ _)); exact BK197.out) hg (Kd.N_away HO_6.out (fun _ hk => hk.2))); have n3_ := Aside0.mk (hb); have n4_ := Aside0.mk (ho); clear HO_0; clear HO_198003; clear BK197; clear HB; clear HO_6; have HO_0 := n0_; have HO_198003 := n1_; have BK197 := n2_; have HB := n3_; have HO206 := n4_; clear n0_ n1_ n2_ n3_ n4_; clear ho hb hg hat))
                    go_roundg kj9
                    case measure => have := HK1.out; have := HJ9.out; omega
                    case rel => exact ⟨(y204), (true), (wrap64 (x8_1 + 1)), (by first | rfl | (simp; done) | (simp [*]; done)), (by first | rfl | (simp; done) | (simp [*]; done)), H', ⟨by have := HK1.out; have := HJ9.out; omega⟩, ⟨by (with_reducible repeat (first | apply Kd.V_alloc | apply Kd.V_drewN | apply Kd.V_drew)); exact Kd.V_mono HO_0.out (fun _ hk => ⟨hk.1.1, ⟨hk.2, hk.1.2⟩⟩)⟩, ⟨by (with_reducible repeat (first | apply Kd.N_alloc | apply Kd.N_drewN | apply Kd.N_drew)); exact HO206.out⟩, ⟨by (with_reducible repeat (first | apply Kd.V_alloc | apply Kd.V_drewN | apply Kd.V_drew)); exact Kd.V_mono HO_198003.out (fun _ hk => ⟨hk.1.1, ⟨hk.2, hk.1.2⟩⟩)⟩, ⟨by (with_reducible repeat (first | refine blk_drewN ?_ _ | refine blk_drew ?_ | refine blk_alloc ?_ _)); exact BK197.out⟩, ⟨by repeat (first | (with_reducible first | exact HB.out | apply below_alloc | apply pw_below_drewN | apply below_drew1 | refine below_set ?_ GE197.out) | exact HB.out)⟩⟩
                  · rw [if_neg c15] at H
                    have c15b0 : (t203.toList == t198.toList) = false := beq_eq_false_iff_ne.mpr c15
                    have c15b1 : (t203.toList != t198.toList) = true := bne_iff_ne.mpr c15
                    by_cases c18 : 0 ≤ x8_1
                    · rw [if_pos c18] at H
                      have c18b0 : decide (0 ≤ x8_1) = true := decide_eq_true c18
                      clear c18
                      by_cases c19 : x8_1 < (l0.length : Int)
                      · rw [if_pos c19] at H
                        have c19b0 : decide (x8_1 < (l0.length : Int)) = true := decide_eq_true c19
                        clear c19
                        by_cases c20 : y204.length < 1466015503701
                        · rw [if_pos c20] at H
                          have LMc20 := Aside0.mk c20
                          clear c20
                          obtain ⟨y208, hy208⟩ : ∃ y_ : List (S33), y_ = (y204 ++ [(⟨(rd_T33 l0 x8_1).f0, (rd_T33 l0 x8_1).f1, (rd_T33 l0 x8_1).f2, (rd_T33 l0 x8_1).f3, (rd_T33 l0 x8_1).f4, (rd_T33 l0 x8_1).f5⟩ : S33)]) := ⟨_, rfl⟩
                          replace H : (monticuleref08_Put.l0 kj9 l0 t198 y208 true (wrap64 (x8_1 + 1)) a1_0 a1_1 a1_2 l1_3 a1_4 a1_5) = some r := by first | (rw [hy208]; with_reducible exact H) | (have H2_ := (Option.bind_some _ _).symm.trans H; rw [hy208]; with_reducible exact H2_) | (have H2_ := (Option.bind_some _ _).symm.trans H; with_reducible exact H2_) | with_reducible exact H | (rw [hy208]; exact H) | exact H
                          have Ny208 := Aside0.mk hy208
                          clear hy208
                          have H' := Aside0.mk H
                          clear H
                          have hcz21_0 : wc.cell? ⟨gb197, 0, none⟩ = some (.int .i64 a1_0) := (blk_cell BK197.out 0).trans rfl
                          have hcz21_1 : wc.cell? ⟨gb197, 1, none⟩ = some (.string a1_1) := (blk_cell BK197.out 1).trans rfl
                          have hcz21_2 : wc.cell? ⟨gb197, 2, none⟩ = some (.string a1_2) := (blk_cell BK197.out 2).trans rfl
                          have hcz21_3 : wc.cell? ⟨gb197, 3, none⟩ = some (.slice A1_3 l1_3.length c1_3) := (blk_cell BK197.out 3).trans rfl
                          have hcz21_4 : wc.cell? ⟨gb197, 4, none⟩ = some (.string a1_4) := (blk_cell BK197.out 4).trans rfl
                          have hcz21_5 : wc.cell? ⟨gb197, 5, none⟩ = some (.string a1_5) := (blk_cell BK197.out 5).trans rfl
                          have hfz21_0 := blk_frozen BK197.out 0
                          have hfz21_1 := blk_frozen BK197.out 1
                          have hfz21_2 := blk_frozen BK197.out 2
                          have hfz21_3 := blk_frozen BK197.out 3
                          have hfz21_4 := blk_frozen BK197.out 4
                          have hfz21_5 := blk_frozen BK197.out 5
                          go_wp2_with (first | ((with_reducible refine gate_builtin (b := .append) (xs := #[.tmp 30, .tmp 32]) rfl ?_); at_builtin; refine Kd.N_append k33 (w0 := w) w.heap.size rfl (.tmp 30) (.tmp 32) 22 33 (.agg #[(.int .i64 0), (.string ⟨#[]⟩), (.string ⟨#[]⟩), (.slice none 0 0), (.string ⟨#[]⟩), (.string ⟨#[]⟩)]) 96 rfl Tryz.underlying22 info33 rfl (by decide) (by omega) u6 x6_1 (⟨a1_0, a1_1, a1_2, l1_3, a1_4, a1_5⟩ : S33) [.int .i64 a1_0, .string a1_1, .string a1_2, .slice A1_3 l1_3.length c1_3, .string a1_4, .string a1_5] (fun k_ => ((P0_ k_ ∨ P1_3_ k_) ∨ w.heap.size ≤ k_) ∧ k_ ≠ gb197) (fun k_ => ((fun k_ => ((P0_ k_ ∨ P1_3_ k_) ∨ w.heap.size ≤ k_) ∧ k_ ≠ gb197)) k_ ∧ some k_ ≠ (u6 : Value).ownBlock) rfl rfl ?aP (fun _ hk => hk) ?aF ?aO ?aB ?aS ?aL ?_; (case aP => exact (k33_mkF _ _ (⟨a1_0, a1_1, a1_2, l1_3, a1_4, a1_5⟩ : S33) (Kd.V_reads' (Kd.V_mono (ok' := (fun k_ => ((fun k_ => ((P0_ k_ ∨ P1_3_ k_) ∨ w.heap.size ≤ k_) ∧ k_ ≠ gb197)) k_ ∧ some k_ ≠ (u6 : Value).ownBlock)) (HO_198003.out) (fun k_ hk => ⟨⟨hk.1, hk.2.2⟩, hk.2.1⟩))).2.1 (Kd.V_F (Kd.V_mono (ok' := (fun k_ => ((fun k_ => ((P0_ k_ ∨ P1_3_ k_) ∨ w.heap.size ≤ k_) ∧ k_ ≠ gb197)) k_ ∧ some k_ ≠ (u6 : Value).ownBlock)) (HO_198003.out) (fun k_ hk => ⟨⟨hk.1, hk.2.2⟩, hk.2.1⟩))))); (case aB => exact (by repeat (first | (with_reducible first | exact HB.out | apply below_alloc | apply pw_below_drewN | apply below_drew1 | refine below_set ?_ GE197.out) | exact HB.out))); (case aF => exact (fun k_ hk => ⟨(.inr (Nat.le_trans (below_size (by repeat (first | (with_reducible first | exact HB.out | apply below_alloc | apply pw_below_drewN | apply below_drew1 | refine below_set ?_ GE197.out) | exact HB.out))) hk)), Kd.freshB (g := gb197) (o := .cells #[.int .i64 a1_0, .string a1_1, .string a1_2, .slice A1_3 l1_3.length c1_3, .string a1_4, .string a1_5] 33 (0, 0)) (by (with_reducible repeat (first | refine blk_drewN ?_ _ | refine blk_drew ?_ | refine blk_alloc ?_ _)); exact BK197.out) k_ hk⟩)); (case aO => exact (by (with_reducible repeat (first | apply Kd.N_alloc | apply Kd.N_drewN | apply Kd.N_drew)); exact HO_6.out)); (case aS => exact (below_size (by repeat (first | (with_reducible first | exact HB.out | apply below_alloc | apply pw_below_drewN | apply below_drew1 | refine below_set ?_ GE197.out) | exact HB.out)))); (case aL => have := LMc14.out; omega); intro v205 w22 ho hb hg hat; rw [← Ny204.out] at ho; have n0_ := Aside0.mk (Kd.V_afterv (ok := (fun k_ => ((P0_ k_ ∨ P1_3_ k_) ∨ w.heap.size ≤ k_) ∧ k_ ≠ gb197)) (by (with_reducible repeat (first | apply Kd.V_alloc | apply Kd.V_drewN | apply Kd.V_drew)); exact Kd.V_mono HO_0.out (fun _ hk => ⟨⟨hk.1, hk.2.2⟩, hk.2.1⟩)) hg hat); have n1_ := Aside0.mk (Kd.V_afterv (ok := (fun k_ => ((P0_ k_ ∨ P1_3_ k_) ∨ w.heap.size ≤ k_) ∧ k_ ≠ gb197)) (by (with_reducible repeat (first | apply Kd.V_alloc | apply Kd.V_drewN | apply Kd.V_drew)); exact Kd.V_mono HO_198003.out (fun _ hk => ⟨⟨hk.1, hk.2.2⟩, hk.2.1⟩)) hg hat); have n2_ := Aside0.mk (blk_grown (g := gb197) (o := .cells #[.int .i64 a1_0, .string a1_1, .string a1_2, .slice A1_3 l1_3.length c1_3, .string a1_4, .string a1_5] 33 (0, 0)) (by (with_reducible repeat (first | refine blk_drewN ?_ _ | refine blk_drew ?_ | refine blk_alloc ?_ _)); exact BK197.out) hg (Kd.N_away HO_6.out (fun _ hk => hk.2))); have n3_ := Aside0.mk (hb); have n4_ := Aside0.mk (ho); clear HO_0; clear HO_198003; clear BK197; clear HB; clear HO_6; have HO_0 := n0_; have HO_198003 := n1_; have BK197 := n2_; have HB := n3_; have HO206 := n4_; clear n0_ n1_ n2_ n3_ n4_; clear ho hb hg hat; have p207 : 0 ≤ (x8_1 : Int) := of_decide_eq_true (by first | (with_reducible assumption) | assumption); have q207 : x8_1 < (l0.length : Int) := of_decide_eq_true (by first | (with_reducible assumption) | assumption); obtain ⟨ad207, A207_3, c207_3, e207, hx207_0, hx207_1, hx207_2, hx207_3, hx207_4, hx207_5, hl207_3, hi207_3⟩ := at_T33 (Kd.V_reads' HO_0.out).2.2 x8_1 p207 q207; obtain rfl : ad202 = ad207 := (by injection e207); obtain ⟨ce207, hce207, hMe207, hcc207⟩ := Kd.V_get HO_0.out z33 x8_1 p207 (by first | exact q207 | exact of_decide_eq_true (by first | (with_reducible assumption) | assumption) | (have e_ := (Kd.V_reads' HO_0.out).1; omega)); obtain ⟨ua207_3, uc207_3, rfl, ul207_3, ge207_3⟩ := k33_openF hMe207; have hv207_3 := hcc207 3 _ rfl; rw [add_field _ _ 3 (by omega)] at hv207_3; replace hv207_3 := Option.some.inj (hv207_3.symm.trans hx207_3); injection hv207_3 with hva_ hvn_ hvc_; rw [hva_] at ge207_3; rw [hvc_] at ul207_3; have HL207_3 := Aside0.mk (show Kd.V Kd.string 9 _ w.heap.size _ _ ((rd_T33 l0 x8_1).f3) from Kd.V_mk ul207_3 ge207_3); clear hva_ hvn_ hvc_ ge207_3 ul207_3; clear hcc207 hce207; have HR207_3 := Aside0.mk hi207_3; have HC207_3 := Aside0.mk hl207_3; clear hi207_3 hl207_3; replace p207 := eq_true p207; replace q207 := eq_true q207) | ((with_reducible refine gate_builtin (b := .append) (xs := #[.tmp 37, .tmp 42]) rfl ?_); at_builtin; refine Kd.N_append k33 (w0 := w) w.heap.size rfl (.tmp 37) (.tmp 42) 22 33 (.agg #[(.int .i64 0), (.string ⟨#[]⟩), (.string ⟨#[]⟩), (.slice none 0 0), (.string ⟨#[]⟩), (.string ⟨#[]⟩)]) 96 rfl Tryz.underlying22 info33 rfl (by decide) (by omega) v205 y204 (⟨(rd_T33 l0 x8_1).f0, (rd_T33 l0 x8_1).f1, (rd_T33 l0 x8_1).f2, (rd_T33 l0 x8_1).f3, (rd_T33 l0 x8_1).f4, (rd_T33 l0 x8_1).f5⟩ : S33) [.int .i64 ((rd_T33 l0 x8_1).f0), .string ((rd_T33 l0 x8_1).f1), .string ((rd_T33 l0 x8_1).f2), .slice A207_3 ((rd_T33 l0 x8_1).f3).length c207_3, .string ((rd_T33 l0 x8_1).f4), .string ((rd_T33 l0 x8_1).f5)] (fun k_ => ((P0_ k_ ∨ P1_3_ k_) ∨ w.heap.size ≤ k_) ∧ k_ ≠ gb197) (fun k_ => ((fun k_ => ((P0_ k_ ∨ P1_3_ k_) ∨ w.heap.size ≤ k_) ∧ k_ ≠ gb197)) k_ ∧ some k_ ≠ (v205 : Value).ownBlock) rfl rfl ?aP (fun _ hk => hk) ?aF ?aO ?aB ?aS ?aL ?_; (case aP => exact (k33_mkF _ _ (⟨(rd_T33 l0 x8_1).f0, (rd_T33 l0 x8_1).f1, (rd_T33 l0 x8_1).f2, (rd_T33 l0 x8_1).f3, (rd_T33 l0 x8_1).f4, (rd_T33 l0 x8_1).f5⟩ : S33) (Kd.V_reads' (Kd.V_mono (ok' := (fun k_ => ((fun k_ => ((P0_ k_ ∨ P1_3_ k_) ∨ w.heap.size ≤ k_) ∧ k_ ≠ gb197)) k_ ∧ some k_ ≠ (v205 : Value).ownBlock)) (HL207_3.out) (fun k_ hk => ⟨⟨hk.1.1, hk.1.2⟩, hk.2⟩))).2.1 (Kd.V_F (Kd.V_mono (ok' := (fun k_ => ((fun k_ => ((P0_ k_ ∨ P1_3_ k_) ∨ w.heap.size ≤ k_) ∧ k_ ≠ gb197)) k_ ∧ some k_ ≠ (v205 : Value).ownBlock)) (HL207_3.out) (fun k_ hk => ⟨⟨hk.1.1, hk.1.2⟩, hk.2⟩))))); (case aB => exact (by repeat (first | (with_reducible first | exact HB.out | apply below_alloc | apply pw_below_drewN | apply below_drew1 | refine below_set ?_ GE197.out) | exact HB.out))); (case aF => exact (fun k_ hk => ⟨(.inr (Nat.le_trans (below_size (by repeat (first | (with_reducible first | exact HB.out | apply below_alloc | apply pw_below_drewN | apply below_drew1 | refine below_set ?_ GE197.out) | exact HB.out))) hk)), Kd.freshB (g := gb197) (o := .cells #[.int .i64 a1_0, .string a1_1, .string a1_2, .slice A1_3 l1_3.length c1_3, .string a1_4, .string a1_5] 33 (0, 0)) (by (with_reducible repeat (first | refine blk_drewN ?_ _ | refine blk_drew ?_ | refine blk_alloc ?_ _)); exact BK197.out) k_ hk⟩)); (case aO => exact (by (with_reducible repeat (first | apply Kd.N_alloc | apply Kd.N_drewN | apply Kd.N_drew)); exact HO206.out)); (case aS => exact (below_size (by repeat (first | (with_reducible first | exact HB.out | apply below_alloc | apply pw_below_drewN | apply below_drew1 | refine below_set ?_ GE197.out) | exact HB.out)))); (case aL => have := LMc20.out; omega); intro v209 w23 ho hb hg hat; rw [← Ny208.out] at ho; have n0_ := Aside0.mk (Kd.V_afterv (ok := (fun k_ => ((P0_ k_ ∨ P1_3_ k_) ∨ w.heap.size ≤ k_) ∧ k_ ≠ gb197)) (by (with_reducible repeat (first | apply Kd.V_alloc | apply Kd.V_drewN | apply Kd.V_drew)); exact HO_0.out) hg hat); have n1_ := Aside0.mk (Kd.V_afterv (ok := (fun k_ => ((P0_ k_ ∨ P1_3_ k_) ∨ w.heap.size ≤ k_) ∧ k_ ≠ gb197)) (by (with_reducible repeat (first | apply Kd.V_alloc | apply Kd.V_drewN | apply Kd.V_drew)); exact HO_198003.out) hg hat); have n2_ := Aside0.mk (blk_grown (g := gb197) (o := .cells #[.int .i64 a1_0, .string a1_1, .string a1_2, .slice A1_3 l1_3.length c1_3, .string a1_4, .string a1_5] 33 (0, 0)) (by (with_reducible repeat (first | refine blk_drewN ?_ _ | refine blk_drew ?_ | refine blk_alloc ?_ _)); exact BK197.out) hg (Kd.N_away HO206.out (fun _ hk => hk.2))); have n3_ := Aside0.mk (Kd.V_afterv (ok := (fun k_ => ((P0_ k_ ∨ P1_3_ k_) ∨ w.heap.size ≤ k_) ∧ k_ ≠ gb197)) (by (with_reducible repeat (first | apply Kd.V_alloc | apply Kd.V_drewN | apply Kd.V_drew)); exact HL207_3.out) hg hat); have n4_ := Aside0.mk (hb); have n5_ := Aside0.mk (ho); clear HO_0; clear HO_198003; clear BK197; clear HL207_3; clear HB; clear HO206; have HO_0 := n0_; have HO_198003 := n1_; have BK197 := n2_; have HL207_3 := n3_; have HB := n4_; have HO210 := n5_; clear n0_ n1_ n2_ n3_ n4_ n5_; clear ho hb hg hat))
                          go_roundg kj9
                          case measure => have := HK1.out; have := HJ9.out; omega
                          case rel => exact ⟨(y208), (true), (wrap64 (x8_1 + 1)), (by first | rfl | (simp; done) | (simp [*]; done)), (by first | rfl | (simp; done) | (simp [*]; done)), H', ⟨by have := HK1.out; have := HJ9.out; omega⟩, ⟨by (with_reducible repeat (first | apply Kd.V_alloc | apply Kd.V_drewN | apply Kd.V_drew)); exact Kd.V_mono HO_0.out (fun _ hk => ⟨hk.1.1, ⟨hk.2, hk.1.2⟩⟩)⟩, ⟨by (with_reducible repeat (first | apply Kd.N_alloc | apply Kd.N_drewN | apply Kd.N_drew)); exact HO210.out⟩, ⟨by (with_reducible repeat (first | apply Kd.V_alloc | apply Kd.V_drewN | apply Kd.V_drew)); exact Kd.V_mono HO_198003.out (fun _ hk => ⟨hk.1.1, ⟨hk.2, hk.1.2⟩⟩)⟩, ⟨by (with_reducible repeat (first | refine blk_drewN ?_ _ | refine blk_drew ?_ | refine blk_alloc ?_ _)); exact BK197.out⟩, ⟨by repeat (first | (with_reducible first | exact HB.out | apply below_alloc | apply pw_below_drewN | apply below_drew1 | refine below_set ?_ GE197.out) | exact HB.out)⟩⟩
                        · rw [if_neg c20] at H
                          exact absurd H (by simp)
                      · rw [if_neg c19] at H
                        exact absurd H (by simp)
                    · rw [if_neg c18] at H
                      exact absurd H (by simp)
                · rw [if_neg c14] at H
                  exact absurd H (by simp)
              · replace c13 := Bool.eq_false_iff.mpr c13
                subst c13
                have H1 : (if t203.toList = t198.toList then (monticuleref08_Put.l0 kj9 l0 t198 x6_1 x7_1 (wrap64 (x8_1 + 1)) a1_0 a1_1 a1_2 l1_3 a1_4 a1_5) else (if 0 ≤ x8_1 then (if x8_1 < (l0.length : Int) then (if x6_1.length < 1466015503701 then (monticuleref08_Put.l0 kj9 l0 t198 (x6_1 ++ [(⟨(rd_T33 l0 x8_1).f0, (rd_T33 l0 x8_1).f1, (rd_T33 l0 x8_1).f2, (rd_T33 l0 x8_1).f3, (rd_T33 l0 x8_1).f4, (rd_T33 l0 x8_1).f5⟩ : S33)]) x7_1 (wrap64 (x8_1 + 1)) a1_0 a1_1 a1_2 l1_3 a1_4 a1_5) else (none)) else (none)) else (none))) = some r := by rw [if_neg (show ¬ (false = true) by decide)] at H; exact H
                clear H
                have H := H1
                clear H1
                by_cases c24 : t203.toList = t198.toList
                · rw [if_pos c24] at H
                  have c24b0 : (t203.toList == t198.toList) = true := beq_iff_eq.mpr c24
                  have c24b1 : (t203.toList != t198.toList) = false := bne_eq_false_iff_eq.mpr c24
                  clear c24
                  have H' := Aside0.mk H
                  clear H
                  go_wp2
                  go_roundg kj9
                  case measure => have := HK1.out; have := HJ9.out; omega
                  case rel => exact ⟨(x6_1), (x7_1), (wrap64 (x8_1 + 1)), (by first | rfl | (simp; done) | (simp [*]; done)), (by first | rfl | (simp; done) | (simp [*]; done)), H', ⟨by have := HK1.out; have := HJ9.out; omega⟩, ⟨by (with_reducible repeat (first | apply Kd.V_alloc | apply Kd.V_drewN | apply Kd.V_drew)); exact HO_0.out⟩, ⟨by (with_reducible repeat (first | apply Kd.N_alloc | apply Kd.N_drewN | apply Kd.N_drew)); exact HO_6.out⟩, ⟨by (with_reducible repeat (first | apply Kd.V_alloc | apply Kd.V_drewN | apply Kd.V_drew)); exact HO_198003.out⟩, ⟨by (with_reducible repeat (first | refine blk_drewN ?_ _ | refine blk_drew ?_ | refine blk_alloc ?_ _)); exact BK197.out⟩, ⟨by repeat (first | (with_reducible first | exact HB.out | apply below_alloc | apply pw_below_drewN | apply below_drew1 | refine below_set ?_ GE197.out) | exact HB.out)⟩⟩
                · rw [if_neg c24] at H
                  have c24b0 : (t203.toList == t198.toList) = false := beq_eq_false_iff_ne.mpr c24
                  have c24b1 : (t203.toList != t198.toList) = true := bne_iff_ne.mpr c24
                  by_cases c25 : 0 ≤ x8_1
                  · rw [if_pos c25] at H
                    have c25b0 : decide (0 ≤ x8_1) = true := decide_eq_true c25
                    clear c25
                    by_cases c26 : x8_1 < (l0.length : Int)
                    · rw [if_pos c26] at H
                      have c26b0 : decide (x8_1 < (l0.length : Int)) = true := decide_eq_true c26
                      clear c26
                      by_cases c27 : x6_1.length < 1466015503701
                      · rw [if_pos c27] at H
                        have LMc27 := Aside0.mk c27
                        clear c27
                        obtain ⟨y212, hy212⟩ : ∃ y_ : List (S33), y_ = (x6_1 ++ [(⟨(rd_T33 l0 x8_1).f0, (rd_T33 l0 x8_1).f1, (rd_T33 l0 x8_1).f2, (rd_T33 l0 x8_1).f3, (rd_T33 l0 x8_1).f4, (rd_T33 l0 x8_1).f5⟩ : S33)]) := ⟨_, rfl⟩
                        replace H : (monticuleref08_Put.l0 kj9 l0 t198 y212 x7_1 (wrap64 (x8_1 + 1)) a1_0 a1_1 a1_2 l1_3 a1_4 a1_5) = some r := by first | (rw [hy212]; with_reducible exact H) | (have H2_ := (Option.bind_some _ _).symm.trans H; rw [hy212]; with_reducible exact H2_) | (have H2_ := (Option.bind_some _ _).symm.trans H; with_reducible exact H2_) | with_reducible exact H | (rw [hy212]; exact H) | exact H
                        have Ny212 := Aside0.mk hy212
                        clear hy212
                        have H' := Aside0.mk H
                        clear H
                        have p211 : 0 ≤ (x8_1 : Int) := of_decide_eq_true (by first | (with_reducible assumption) | assumption)
                        have q211 : x8_1 < (l0.length : Int) := of_decide_eq_true (by first | (with_reducible assumption) | assumption)
                        obtain ⟨ad211, A211_3, c211_3, e211, hx211_0, hx211_1, hx211_2, hx211_3, hx211_4, hx211_5, hl211_3, hi211_3⟩ := at_T33 (Kd.V_reads' HO_0.out).2.2 x8_1 p211 q211
                        obtain rfl : ad202 = ad211 := (by injection e211)
                        obtain ⟨ce211, hce211, hMe211, hcc211⟩ := Kd.V_get HO_0.out z33 x8_1 p211 (by first | exact q211 | exact of_decide_eq_true (by first | (with_reducible assumption) | assumption) | (have e_ := (Kd.V_reads' HO_0.out).1; omega))
                        obtain ⟨ua211_3, uc211_3, rfl, ul211_3, ge211_3⟩ := k33_openF hMe211
                        have hv211_3 := hcc211 3 _ rfl
                        rw [add_field _ _ 3 (by omega)] at hv211_3
                        replace hv211_3 := Option.some.inj (hv211_3.symm.trans hx211_3)
                        injection hv211_3 with hva_ hvn_ hvc_
                        rw [hva_] at ge211_3
                        rw [hvc_] at ul211_3
                        have HL211_3 := Aside0.mk (show Kd.V Kd.string 9 _ w.heap.size _ _ ((rd_T33 l0 x8_1).f3) from Kd.V_mk ul211_3 ge211_3)
                        clear hva_ hvn_ hvc_ ge211_3 ul211_3
                        clear hcc211 hce211
                        have HR211_3 := Aside0.mk hi211_3
                        have HC211_3 := Aside0.mk hl211_3
                        clear hi211_3 hl211_3
                        replace p211 := eq_true p211
                        replace q211 := eq_true q211
                        go_wp2_with (first | ((with_reducible refine gate_builtin (b := .append) (xs := #[.tmp 37, .tmp 42]) rfl ?_); at_builtin; refine Kd.N_append k33 (w0 := w) w.heap.size rfl (.tmp 37) (.tmp 42) 22 33 (.agg #[(.int .i64 0), (.string ⟨#[]⟩), (.string ⟨#[]⟩), (.slice none 0 0), (.string ⟨#[]⟩), (.string ⟨#[]⟩)]) 96 rfl Tryz.underlying22 info33 rfl (by decide) (by omega) u6 x6_1 (⟨(rd_T33 l0 x8_1).f0, (rd_T33 l0 x8_1).f1, (rd_T33 l0 x8_1).f2, (rd_T33 l0 x8_1).f3, (rd_T33 l0 x8_1).f4, (rd_T33 l0 x8_1).f5⟩ : S33) [.int .i64 ((rd_T33 l0 x8_1).f0), .string ((rd_T33 l0 x8_1).f1), .string ((rd_T33 l0 x8_1).f2), .slice A211_3 ((rd_T33 l0 x8_1).f3).length c211_3, .string ((rd_T33 l0 x8_1).f4), .string ((rd_T33 l0 x8_1).f5)] (fun k_ => ((P0_ k_ ∨ P1_3_ k_) ∨ w.heap.size ≤ k_) ∧ k_ ≠ gb197) (fun k_ => ((fun k_ => ((P0_ k_ ∨ P1_3_ k_) ∨ w.heap.size ≤ k_) ∧ k_ ≠ gb197)) k_ ∧ some k_ ≠ (u6 : Value).ownBlock) rfl rfl ?aP (fun _ hk => hk) ?aF ?aO ?aB ?aS ?aL ?_; (case aP => exact (k33_mkF _ _ (⟨(rd_T33 l0 x8_1).f0, (rd_T33 l0 x8_1).f1, (rd_T33 l0 x8_1).f2, (rd_T33 l0 x8_1).f3, (rd_T33 l0 x8_1).f4, (rd_T33 l0 x8_1).f5⟩ : S33) (Kd.V_reads' (Kd.V_mono (ok' := (fun k_ => ((fun k_ => ((P0_ k_ ∨ P1_3_ k_) ∨ w.heap.size ≤ k_) ∧ k_ ≠ gb197)) k_ ∧ some k_ ≠ (u6 : Value).ownBlock)) (HL211_3.out) (fun k_ hk => ⟨⟨hk.1, hk.2.2⟩, hk.2.1⟩))).2.1 (Kd.V_F (Kd.V_mono (ok' := (fun k_ => ((fun k_ => ((P0_ k_ ∨ P1_3_ k_) ∨ w.heap.size ≤ k_) ∧ k_ ≠ gb197)) k_ ∧ some k_ ≠ (u6 : Value).ownBlock)) (HL211_3.out) (fun k_ hk => ⟨⟨hk.1, hk.2.2⟩, hk.2.1⟩))))); (case aB => exact (by repeat (first | (with_reducible first | exact HB.out | apply below_alloc | apply pw_below_drewN | apply below_drew1 | refine below_set ?_ GE197.out) | exact HB.out))); (case aF => exact (fun k_ hk => ⟨(.inr (Nat.le_trans (below_size (by repeat (first | (with_reducible first | exact HB.out | apply below_alloc | apply pw_below_drewN | apply below_drew1 | refine below_set ?_ GE197.out) | exact HB.out))) hk)), Kd.freshB (g := gb197) (o := .cells #[.int .i64 a1_0, .string a1_1, .string a1_2, .slice A1_3 l1_3.length c1_3, .string a1_4, .string a1_5] 33 (0, 0)) (by (with_reducible repeat (first | refine blk_drewN ?_ _ | refine blk_drew ?_ | refine blk_alloc ?_ _)); exact BK197.out) k_ hk⟩)); (case aO => exact (by (with_reducible repeat (first | apply Kd.N_alloc | apply Kd.N_drewN | apply Kd.N_drew)); exact HO_6.out)); (case aS => exact (below_size (by repeat (first | (with_reducible first | exact HB.out | apply below_alloc | apply pw_below_drewN | apply below_drew1 | refine below_set ?_ GE197.out) | exact HB.out)))); (case aL => have := LMc27.out; omega); intro v213 w28 ho hb hg hat; rw [← Ny212.out] at ho; have n0_ := Aside0.mk (Kd.V_afterv (ok := (fun k_ => ((P0_ k_ ∨ P1_3_ k_) ∨ w.heap.size ≤ k_) ∧ k_ ≠ gb197)) (by (with_reducible repeat (first | apply Kd.V_alloc | apply Kd.V_drewN | apply Kd.V_drew)); exact Kd.V_mono HO_0.out (fun _ hk => ⟨⟨hk.1, hk.2.2⟩, hk.2.1⟩)) hg hat); have n1_ := Aside0.mk (Kd.V_afterv (ok := (fun k_ => ((P0_ k_ ∨ P1_3_ k_) ∨ w.heap.size ≤ k_) ∧ k_ ≠ gb197)) (by (with_reducible repeat (first | apply Kd.V_alloc | apply Kd.V_drewN | apply Kd.V_drew)); exact Kd.V_mono HO_198003.out (fun _ hk => ⟨⟨hk.1, hk.2.2⟩, hk.2.1⟩)) hg hat); have n2_ := Aside0.mk (blk_grown (g := gb197) (o := .cells #[.int .i64 a1_0, .string a1_1, .string a1_2, .slice A1_3 l1_3.length c1_3, .string a1_4, .string a1_5] 33 (0, 0)) (by (with_reducible repeat (first | refine blk_drewN ?_ _ | refine blk_drew ?_ | refine blk_alloc ?_ _)); exact BK197.out) hg (Kd.N_away HO_6.out (fun _ hk => hk.2))); have n3_ := Aside0.mk (Kd.V_afterv (ok := (fun k_ => ((P0_ k_ ∨ P1_3_ k_) ∨ w.heap.size ≤ k_) ∧ k_ ≠ gb197)) (by (with_reducible repeat (first | apply Kd.V_alloc | apply Kd.V_drewN | apply Kd.V_drew)); exact Kd.V_mono HL211_3.out (fun _ hk => ⟨⟨hk.1, hk.2.2⟩, hk.2.1⟩)) hg hat); have n4_ := Aside0.mk (hb); have n5_ := Aside0.mk (ho); clear HO_0; clear HO_198003; clear BK197; clear HL211_3; clear HB; clear HO_6; have HO_0 := n0_; have HO_198003 := n1_; have BK197 := n2_; have HL211_3 := n3_; have HB := n4_; have HO214 := n5_; clear n0_ n1_ n2_ n3_ n4_ n5_; clear ho hb hg hat))
                        go_roundg kj9
                        case measure => have := HK1.out; have := HJ9.out; omega
                        case rel => exact ⟨(y212), (x7_1), (wrap64 (x8_1 + 1)), (by first | rfl | (simp; done) | (simp [*]; done)), (by first | rfl | (simp; done) | (simp [*]; done)), H', ⟨by have := HK1.out; have := HJ9.out; omega⟩, ⟨by (with_reducible repeat (first | apply Kd.V_alloc | apply Kd.V_drewN | apply Kd.V_drew)); exact Kd.V_mono HO_0.out (fun _ hk => ⟨hk.1.1, ⟨hk.2, hk.1.2⟩⟩)⟩, ⟨by (with_reducible repeat (first | apply Kd.N_alloc | apply Kd.N_drewN | apply Kd.N_drew)); exact HO214.out⟩, ⟨by (with_reducible repeat (first | apply Kd.V_alloc | apply Kd.V_drewN | apply Kd.V_drew)); exact Kd.V_mono HO_198003.out (fun _ hk => ⟨hk.1.1, ⟨hk.2, hk.1.2⟩⟩)⟩, ⟨by (with_reducible repeat (first | refine blk_drewN ?_ _ | refine blk_drew ?_ | refine blk_alloc ?_ _)); exact BK197.out⟩, ⟨by repeat (first | (with_reducible first | exact HB.out | apply below_alloc | apply pw_below_drewN | apply below_drew1 | refine below_set ?_ GE197.out) | exact HB.out)⟩⟩
                      · rw [if_neg c27] at H
                        exact absurd H (by simp)
                    · rw [if_neg c26] at H
                      exact absurd H (by simp)
                  · rw [if_neg c25] at H
                    exact absurd H (by simp)
        · rw [if_neg c8] at H
          exact absurd H (by simp)
      · rw [if_neg c7] at H
        have c7b0 : decide (x8_1 < (l0.length : Int)) = false := decide_eq_false c7
        clear c7
        by_cases c29 : x7_1 = true
        · subst c29
          have H1 : (some x6_1) = some r := by rw [if_pos rfl] at H; exact H
          clear H
          have H := H1
          clear H1
          obtain rfl := Option.some.inj H
          go_wp2
          go_ret
          exact ⟨_, by first | rfl | (simp [errW_none, errW_some] <;> rfl) | (simp [*, errW_none, errW_some] <;> rfl), by (with_reducible repeat (first | apply Kd.N_alloc | apply Kd.N_drewN | apply Kd.N_drew)); exact Kd.N_mono HO_6.out (fun _ hk => hk.1), by repeat (first | (with_reducible first | exact HB.out | apply below_alloc | apply pw_below_drewN | apply below_drew1 | refine below_set ?_ GE197.out) | exact HB.out)⟩
        · replace c29 := Bool.eq_false_iff.mpr c29
          subst c29
          have H1 : (if x6_1.length < 1466015503701 then (some (x6_1 ++ [(⟨a1_0, a1_1, a1_2, l1_3, a1_4, a1_5⟩ : S33)])) else (none)) = some r := by rw [if_neg (show ¬ (false = true) by decide)] at H; exact H
          clear H
          have H := H1
          clear H1
          by_cases c30 : x6_1.length < 1466015503701
          · rw [if_pos c30] at H
            have LMc30 := Aside0.mk c30
            clear c30
            obtain ⟨y199, hy199⟩ : ∃ y_ : List (S33), y_ = (x6_1 ++ [(⟨a1_0, a1_1, a1_2, l1_3, a1_4, a1_5⟩ : S33)]) := ⟨_, rfl⟩
            replace H : (some y199) = some r := by first | (rw [hy199]; with_reducible exact H) | (have H2_ := (Option.bind_some _ _).symm.trans H; rw [hy199]; with_reducible exact H2_) | (have H2_ := (Option.bind_some _ _).symm.trans H; with_reducible exact H2_) | with_reducible exact H | (rw [hy199]; exact H) | exact H
            have Ny199 := Aside0.mk hy199
            clear hy199
            obtain rfl := Option.some.inj H
            have hcz31_0 : wr.cell? ⟨gb197, 0, none⟩ = some (.int .i64 a1_0) := (blk_cell BK197.out 0).trans rfl
            have hcz31_1 : wr.cell? ⟨gb197, 1, none⟩ = some (.string a1_1) := (blk_cell BK197.out 1).trans rfl
            have hcz31_2 : wr.cell? ⟨gb197, 2, none⟩ = some (.string a1_2) := (blk_cell BK197.out 2).trans rfl
            have hcz31_3 : wr.cell? ⟨gb197, 3, none⟩ = some (.slice A1_3 l1_3.length c1_3) := (blk_cell BK197.out 3).trans rfl
            have hcz31_4 : wr.cell? ⟨gb197, 4, none⟩ = some (.string a1_4) := (blk_cell BK197.out 4).trans rfl
            have hcz31_5 : wr.cell? ⟨gb197, 5, none⟩ = some (.string a1_5) := (blk_cell BK197.out 5).trans rfl
            have hfz31_0 := blk_frozen BK197.out 0
            have hfz31_1 := blk_frozen BK197.out 1
            have hfz31_2 := blk_frozen BK197.out 2
            have hfz31_3 := blk_frozen BK197.out 3
            have hfz31_4 := blk_frozen BK197.out 4
            have hfz31_5 := blk_frozen BK197.out 5
            go_wp2_with (first | ((with_reducible refine gate_builtin (b := .append) (xs := #[.tmp 46, .tmp 48]) rfl ?_); at_builtin; refine Kd.N_append k33 (w0 := w) w.heap.size rfl (.tmp 46) (.tmp 48) 22 33 (.agg #[(.int .i64 0), (.string ⟨#[]⟩), (.string ⟨#[]⟩), (.slice none 0 0), (.string ⟨#[]⟩), (.string ⟨#[]⟩)]) 96 rfl Tryz.underlying22 info33 rfl (by decide) (by omega) u6 x6_1 (⟨a1_0, a1_1, a1_2, l1_3, a1_4, a1_5⟩ : S33) [.int .i64 a1_0, .string a1_1, .string a1_2, .slice A1_3 l1_3.length c1_3, .string a1_4, .string a1_5] (fun k_ => ((P0_ k_ ∨ P1_3_ k_) ∨ w.heap.size ≤ k_) ∧ k_ ≠ gb197) (fun k_ => ((fun k_ => ((P0_ k_ ∨ P1_3_ k_) ∨ w.heap.size ≤ k_) ∧ k_ ≠ gb197)) k_ ∧ some k_ ≠ (u6 : Value).ownBlock) rfl rfl ?aP (fun _ hk => hk) ?aF ?aO ?aB ?aS ?aL ?_; (case aP => exact (k33_mkF _ _ (⟨a1_0, a1_1, a1_2, l1_3, a1_4, a1_5⟩ : S33) (Kd.V_reads' (Kd.V_mono (ok' := (fun k_ => ((fun k_ => ((P0_ k_ ∨ P1_3_ k_) ∨ w.heap.size ≤ k_) ∧ k_ ≠ gb197)) k_ ∧ some k_ ≠ (u6 : Value).ownBlock)) (HO_198003.out) (fun k_ hk => ⟨⟨hk.1, hk.2.2⟩, hk.2.1⟩))).2.1 (Kd.V_F (Kd.V_mono (ok' := (fun k_ => ((fun k_ => ((P0_ k_ ∨ P1_3_ k_) ∨ w.heap.size ≤ k_) ∧ k_ ≠ gb197)) k_ ∧ some k_ ≠ (u6 : Value).ownBlock)) (HO_198003.out) (fun k_ hk => ⟨⟨hk.1, hk.2.2⟩, hk.2.1⟩))))); (case aB => exact (by repeat (first | (with_reducible first | exact HB.out | apply below_alloc | apply pw_below_drewN | apply below_drew1 | refine below_set ?_ GE197.out) | exact HB.out))); (case aF => exact (fun k_ hk => ⟨(.inr (Nat.le_trans (below_size (by repeat (first | (with_reducible first | exact HB.out | apply below_alloc | apply pw_below_drewN | apply below_drew1 | refine below_set ?_ GE197.out) | exact HB.out))) hk)), Kd.freshB (g := gb197) (o := .cells #[.int .i64 a1_0, .string a1_1, .string a1_2, .slice A1_3 l1_3.length c1_3, .string a1_4, .string a1_5] 33 (0, 0)) (by (with_reducible repeat (first | refine blk_drewN ?_ _ | refine blk_drew ?_ | refine blk_alloc ?_ _)); exact BK197.out) k_ hk⟩)); (case aO => exact (by (with_reducible repeat (first | apply Kd.N_alloc | apply Kd.N_drewN | apply Kd.N_drew)); exact HO_6.out)); (case aS => exact (below_size (by repeat (first | (with_reducible first | exact HB.out | apply below_alloc | apply pw_below_drewN | apply below_drew1 | refine below_set ?_ GE197.out) | exact HB.out)))); (case aL => have := LMc30.out; omega); intro v200 w32 ho hb hg hat; rw [← Ny199.out] at ho; have n0_ := Aside0.mk (Kd.V_afterv (ok := (fun k_ => ((P0_ k_ ∨ P1_3_ k_) ∨ w.heap.size ≤ k_) ∧ k_ ≠ gb197)) (by (with_reducible repeat (first | apply Kd.V_alloc | apply Kd.V_drewN | apply Kd.V_drew)); exact Kd.V_mono HO_0.out (fun _ hk => ⟨⟨hk.1, hk.2.2⟩, hk.2.1⟩)) hg hat); have n1_ := Aside0.mk (Kd.V_afterv (ok := (fun k_ => ((P0_ k_ ∨ P1_3_ k_) ∨ w.heap.size ≤ k_) ∧ k_ ≠ gb197)) (by (with_reducible repeat (first | apply Kd.V_alloc | apply Kd.V_drewN | apply Kd.V_drew)); exact Kd.V_mono HO_198003.out (fun _ hk => ⟨⟨hk.1, hk.2.2⟩, hk.2.1⟩)) hg hat); have n2_ := Aside0.mk (blk_grown (g := gb197) (o := .cells #[.int .i64 a1_0, .string a1_1, .string a1_2, .slice A1_3 l1_3.length c1_3, .string a1_4, .string a1_5] 33 (0, 0)) (by (with_reducible repeat (first | refine blk_drewN ?_ _ | refine blk_drew ?_ | refine blk_alloc ?_ _)); exact BK197.out) hg (Kd.N_away HO_6.out (fun _ hk => hk.2))); have n3_ := Aside0.mk (hb); have n4_ := Aside0.mk (ho); clear HO_0; clear HO_198003; clear BK197; clear HB; clear HO_6; have HO_0 := n0_; have HO_198003 := n1_; have BK197 := n2_; have HB := n3_; have HO201 := n4_; clear n0_ n1_ n2_ n3_ n4_; clear ho hb hg hat))
            go_ret
            exact ⟨_, by first | rfl | (simp [errW_none, errW_some] <;> rfl) | (simp [*, errW_none, errW_some] <;> rfl), by (with_reducible repeat (first | apply Kd.N_alloc | apply Kd.N_drewN | apply Kd.N_drew)); exact Kd.N_mono HO201.out (fun _ hk => hk.1), by repeat (first | (with_reducible first | exact HB.out | apply below_alloc | apply pw_below_drewN | apply below_drew1 | refine below_set ?_ GE197.out) | exact HB.out)⟩
          · rw [if_neg c30] at H
            exact absurd H (by simp)

end Go.Proofs.YtodpdlpncgkkdaaGreatDoor.P
end
section
namespace Go.Proofs.YtodpdlpncgkkdaaGreatDoor.P
open Go.RowKit Go.Proofs.YtodpdlpncgkkdaaGreatDoorW.PrintWords Go.Proofs.YtodpdlpncgkkdaaGreatDoorW.PrintLast Go.Proofs.YtodpdlpncgkkdaaGreatDoorW.PrintMore
attribute [local go_sem] max2_int min2_int max_two min_two max_three min_three max_four min_four   -- for this text's walks alone
set_option linter.unusedVariables false
set_option linter.unusedSimpArgs false

/-! ### monticuleref08_New: function 21 -/
def monticuleref08_New.l0 : Nat → List (S33) → List (S33) → Int → Option ((List (S33)) × Int)
  | 0, _, _, _ => none
  | k + 1, x0, x4, x5 => if x5 < (x0.length : Int) then (if 0 ≤ x5 then ((monticuleref07_Key.f k ((rd_T33 x0 x5).f0) ((rd_T33 x0 x5).f1) ((rd_T33 x0 x5).f2) ((rd_T33 x0 x5).f3) ((rd_T33 x0 x5).f4) ((rd_T33 x0 x5).f5)).bind fun t216 => (if t216.toList = ([] : List UInt8) then (some (([] : List (S33)), 31)) else ((monticuleref08_Find.f k x4 t216).bind fun t217 => (if t217 ≥ 0 then (some (([] : List (S33)), 45)) else (if (x4.length : Int) = 500 then (some (([] : List (S33)), 21)) else ((monticuleref08_Put.f k x4 ((rd_T33 x0 x5).f0) ((rd_T33 x0 x5).f1) ((rd_T33 x0 x5).f2) ((rd_T33 x0 x5).f3) ((rd_T33 x0 x5).f4) ((rd_T33 x0 x5).f5)).bind fun t219 => (monticuleref08_New.l0 k x0 t219 (wrap64 (x5 + 1))))))))) else (none)) else (some (x4, 0))
def monticuleref08_New.f (k : Nat) (l0 : List (S33)) : Option ((List (S33)) × Int) := monticuleref08_New.l0 k l0 ([] : List (S33)) 0
theorem monticuleref08_New.mono_l : ∀ k, (∀ y0 y1 y2, LeO (monticuleref08_New.l0 k y0 y1 y2) (monticuleref08_New.l0 (k + 1) y0 y1 y2))
  | 0 => fun _ _ _ r h => by simp [monticuleref08_New.l0] at h
  | k + 1 => by
    have ih0 := monticuleref08_New.mono_l k
    · intro y0 y1 y2
      unfold monticuleref08_New.l0
      repeat' first
      | (with_reducible exact ih0 _ _ _)
      | (with_reducible exact monticuleref07_Key.mono _ _ _ _ _ _ _)
      | (with_reducible exact monticuleref08_Find.mono _ _ _)
      | (with_reducible exact monticuleref08_Put.mono _ _ _ _ _ _ _ _)
      | (with_reducible exact LeO.refl _)
      | (with_reducible exact LeO.none _)
      | (with_reducible refine LeO.ite ?_ ?_)
      | (with_reducible refine LeO.bind ?_ (fun _ => ?_))
      | exact ih0 _ _ _
      | exact monticuleref07_Key.mono _ _ _ _ _ _ _
      | exact monticuleref08_Find.mono _ _ _
      | exact monticuleref08_Put.mono _ _ _ _ _ _ _ _
      | exact LeO.none _
      | refine LeO.ite ?_ ?_
      | refine LeO.bind ?_ (fun _ => ?_)
theorem monticuleref08_New.mono : ∀ a0 k, LeO (monticuleref08_New.f k a0) (monticuleref08_New.f (k + 1) a0) := by
  intro a0 k
  have ih0 := monticuleref08_New.mono_l k
  unfold monticuleref08_New.f
  repeat' first
      | (with_reducible exact ih0 _ _ _)
      | (with_reducible exact monticuleref07_Key.mono _ _ _ _ _ _ _)
      | (with_reducible exact monticuleref08_Find.mono _ _ _)
      | (with_reducible exact monticuleref08_Put.mono _ _ _ _ _ _ _ _)
      | (with_reducible exact LeO.refl _)
      | (with_reducible exact LeO.none _)
      | (with_reducible refine LeO.ite ?_ ?_)
      | (with_reducible refine LeO.bind ?_ (fun _ => ?_))
      | exact ih0 _ _ _
      | exact monticuleref07_Key.mono _ _ _ _ _ _ _
      | exact monticuleref08_Find.mono _ _ _
      | exact monticuleref08_Put.mono _ _ _ _ _ _ _ _
      | exact LeO.none _
      | refine LeO.ite ?_ ?_
      | refine LeO.bind ?_ (fun _ => ?_)
set_option maxHeartbeats 8000000 in
set_option maxRecDepth 100000 in
theorem monticuleref08_New.calls (k : Nat) (P0_ : Nat → Prop) (A0 : Option Addr) (c0 : Nat) (l0 : List (S33)) (r1 : List (S33)) (r2 : Int) (w : World) (hs0 : Kd.V k33 33 w w.heap.size (fun k_ => P0_ k_) (.slice A0 l0.length c0) l0) (h : monticuleref08_New.f k l0 = some (r1, r2)) :
    Calls Tryz.prog 21 #[.slice A0 l0.length c0] w fun e w' => ∃ v0_ : Value, e = .returned (.tuple #[v0_, .int .i64 r2]) ∧ Kd.N k33 33 w' w.heap.size (fun k_ => (P0_ k_ ∨ w.heap.size ≤ k_)) v0_ r1 ∧ Below w.heap.size w w' := by
  have hu33 := Tryz.underlying33
  have HO0 := Aside0.mk (show Kd.V k33 33 w w.heap.size (fun k_ => (P0_ k_ ∨ w.heap.size ≤ k_)) (.slice A0 l0.length c0) l0 from Kd.V_mono hs0 (fun k_ hk => .inl hk))
  have HB := Aside0.mk (Below.refl w.heap.size w)
  have H : (monticuleref08_New.l0 k l0 ([] : List (S33)) 0) = some (r1, r2) := h
  clear h
  have H' := Aside0.mk H
  clear H
  go_enter Tryz.func21, Tryz.ntmps21
  go_wp2
  go_loopg [4, 5] k (fun kq v4 v5 w' => ∃ (x4_1 : List (S33)) (x5_1 : Int), v5 = .int .i64 x5_1 ∧ Aside0 (monticuleref08_New.l0 kq l0 x4_1 x5_1 = some (r1, r2)) ∧ Aside0 (kq ≤ k) ∧ Aside0 (Kd.V k33 33 w' w.heap.size (fun k_ => (P0_ k_ ∨ w.heap.size ≤ k_) ∧ some k_ ≠ (v4 : Value).ownBlock) (.slice A0 l0.length c0) l0) ∧ Aside0 (Kd.N k33 33 w' w.heap.size (fun k_ => (P0_ k_ ∨ w.heap.size ≤ k_)) v4 x4_1) ∧ Aside0 (Below w.heap.size w w'))
  case atStart => exact ⟨(([] : List (S33))), (0), (by first | rfl | (simp; done) | (simp [*]; done)), H', ⟨Nat.le_refl _⟩, ⟨by (with_reducible repeat (first | apply Kd.V_alloc | apply Kd.V_drewN | apply Kd.V_drew)); exact Kd.V_mono HO0.out (fun _ hk => ⟨hk, (by simp [Value.ownBlock])⟩)⟩, ⟨by first | exact Kd.S_nil _ _ _ _ _ | exact Kd.N_nil _ _ _ _ _ | exact Kd.V_nil _ _ _ _ _ | exact Kd.Q_nil _ _ _ _ _ | exact Kd.R_nil _ _ _ _ _⟩, ⟨by repeat (first | (with_reducible first | exact HB.out | apply below_alloc | apply pw_below_drewN | apply below_drew1) | exact HB.out)⟩⟩
  case round =>
    clear H'
    obtain ⟨x4_1, x5_1, rfl, HA, HK1, HO_0, HO_4, HB⟩ := hrel
    cases gk with
    | zero => exact absurd HA.out (by simp [monticuleref08_New.l0])
    | succ k1 =>
      have H := HA.out
      clear HA
      simp only [monticuleref08_New.l0] at H
      by_cases c2 : x5_1 < (l0.length : Int)
      · rw [if_pos c2] at H
        have c2b0 : decide (x5_1 < (l0.length : Int)) = true := decide_eq_true c2
        clear c2
        by_cases c3 : 0 ≤ x5_1
        · rw [if_pos c3] at H
          have c3b0 : decide (0 ≤ x5_1) = true := decide_eq_true c3
          clear c3
          replace H := Option.bind_eq_some_iff.mp H
          obtain ⟨t216, A40, H⟩ := H
          replace H : (if t216.toList = ([] : List UInt8) then (some (([] : List (S33)), 31)) else ((monticuleref08_Find.f k1 x4_1 t216).bind fun t217 => (if t217 ≥ 0 then (some (([] : List (S33)), 45)) else (if (x4_1.length : Int) = 500 then (some (([] : List (S33)), 21)) else ((monticuleref08_Put.f k1 x4_1 ((rd_T33 l0 x5_1).f0) ((rd_T33 l0 x5_1).f1) ((rd_T33 l0 x5_1).f2) ((rd_T33 l0 x5_1).f3) ((rd_T33 l0 x5_1).f4) ((rd_T33 l0 x5_1).f5)).bind fun t219 => (monticuleref08_New.l0 k1 l0 t219 (wrap64 (x5_1 + 1)))))))) = some (r1, r2) := H
          have A4 := Aside0.mk A40
          clear A40
          by_cases c5 : t216.toList = ([] : List UInt8)
          · rw [if_pos c5] at H
            have c5b0 : (t216.toList == ([] : List UInt8)) = true := beq_iff_eq.mpr c5
            have c5b1 : (t216.toList != ([] : List UInt8)) = false := bne_eq_false_iff_eq.mpr c5
            clear c5
            simp only [Option.some.injEq, Prod.mk.injEq] at H
            obtain ⟨rfl, rfl⟩ := H
            have p215 : 0 ≤ (x5_1 : Int) := of_decide_eq_true (by first | (with_reducible assumption) | assumption)
            have q215 : x5_1 < (l0.length : Int) := of_decide_eq_true (by first | (with_reducible assumption) | assumption)
            obtain ⟨ad215, A215_3, c215_3, e215, hx215_0, hx215_1, hx215_2, hx215_3, hx215_4, hx215_5, hl215_3, hi215_3⟩ := at_T33 (Kd.V_reads' HO_0.out).2.2 x5_1 p215 q215
            cases e215
            obtain ⟨ce215, hce215, hMe215, hcc215⟩ := Kd.V_get HO_0.out z33 x5_1 p215 (by first | exact q215 | exact of_decide_eq_true (by first | (with_reducible assumption) | assumption) | (have e_ := (Kd.V_reads' HO_0.out).1; omega))
            obtain ⟨ua215_3, uc215_3, rfl, ul215_3, ge215_3⟩ := k33_openF hMe215
            have hv215_3 := hcc215 3 _ rfl
            rw [add_field _ _ 3 (by omega)] at hv215_3
            replace hv215_3 := Option.some.inj (hv215_3.symm.trans hx215_3)
            injection hv215_3 with hva_ hvn_ hvc_
            rw [hva_] at ge215_3
            rw [hvc_] at ul215_3
            have HL215_3 := Aside0.mk (show Kd.V Kd.string 9 _ w.heap.size _ _ ((rd_T33 l0 x5_1).f3) from Kd.V_mk ul215_3 ge215_3)
            clear hva_ hvn_ hvc_ ge215_3 ul215_3
            clear hcc215 hce215
            have HR215_3 := Aside0.mk hi215_3
            have HC215_3 := Aside0.mk hl215_3
            clear hi215_3 hl215_3
            replace p215 := eq_true p215
            replace q215 := eq_true q215
            go_wp2_with (first | ((with_reducible refine gate_callee (f := 71) rfl ?_); refine goesL_ (some 17) rfl rfl Tryz.func71 (by kernel_rfl) rfl #[.agg #[.int .i64 ((rd_T33 l0 x5_1).f0), .string ((rd_T33 l0 x5_1).f1), .string ((rd_T33 l0 x5_1).f2), .slice A215_3 ((rd_T33 l0 x5_1).f3).length c215_3, .string ((rd_T33 l0 x5_1).f4), .string ((rd_T33 l0 x5_1).f5)]] rfl (by (try simp only [List.map_toArray, List.map_cons, List.map_nil]); first | done | rfl | (simp only [List.length_drop, List.length_take]; rfl)) ?_; (with_reducible refine (monticuleref07_Key.calls k1 ((rd_T33 l0 x5_1).f0) ((rd_T33 l0 x5_1).f1) ((rd_T33 l0 x5_1).f2) _ _ ((rd_T33 l0 x5_1).f3) ((rd_T33 l0 x5_1).f4) ((rd_T33 l0 x5_1).f5) t216 _ ?side1 ?side2 A4.out).mono ?_); (case side1 => repeat (first | exact (by repeat (first | (with_reducible exact HR215_3.out) | (with_reducible refine Kd.C_alloc ?_ _) | (with_reducible refine Kd.C_drewN ?_ _) | (with_reducible refine Kd.C_drew ?_) | exact HR215_3.out)) | (with_reducible refine Kd.C_alloc ?_ _) | (with_reducible refine Kd.C_drewN ?_ _) | (with_reducible refine Kd.C_drew ?_))); (case side2 => exact HC215_3.out); rintro e w6 ⟨rfl, hb⟩; refine ⟨_, rfl, ?_⟩; have n0_ := Aside0.mk (Kd.V_below (by (with_reducible repeat (first | apply Kd.V_alloc | apply Kd.V_drewN | apply Kd.V_drew)); exact HO_0.out) hb); have n1_ := Aside0.mk (Kd.N_below (by (with_reducible repeat (first | apply Kd.N_alloc | apply Kd.N_drewN | apply Kd.N_drew)); exact HO_4.out) hb); have n2_ := Aside0.mk (Kd.V_below (by (with_reducible repeat (first | apply Kd.V_alloc | apply Kd.V_drewN | apply Kd.V_drew)); exact HL215_3.out) hb); have n3_ := Aside0.mk (Kd.C_below (by repeat (first | (with_reducible exact HR215_3.out) | (with_reducible refine Kd.C_alloc ?_ _) | (with_reducible refine Kd.C_drewN ?_ _) | (with_reducible refine Kd.C_drew ?_) | exact HR215_3.out)) hb); have n4_ := Aside0.mk (below_step (by repeat (first | (with_reducible first | exact HB.out | apply below_alloc | apply pw_below_drewN | apply below_drew1) | exact HB.out)) hb); clear HO_0; clear HO_4; clear HL215_3; clear HR215_3; clear HB; have HO_0 := n0_; have HO_4 := n1_; have HL215_3 := n2_; have HR215_3 := n3_; have HB := n4_; clear n0_ n1_ n2_ n3_ n4_; (try clear hb); (try clear hb2); (try clear hk); (try clear hi)))
            go_ret2
            exact ⟨_, by first | rfl | (simp [errW_none, errW_some] <;> rfl) | (simp [*, errW_none, errW_some] <;> rfl), by first | exact Kd.S_nil _ _ _ _ _ | exact Kd.N_nil _ _ _ _ _ | exact Kd.V_nil _ _ _ _ _ | exact Kd.Q_nil _ _ _ _ _ | exact Kd.R_nil _ _ _ _ _, by repeat (first | (with_reducible first | exact HB.out | apply below_alloc | apply pw_below_drewN | apply below_drew1) | exact HB.out)⟩
          · rw [if_neg c5] at H
            have c5b0 : (t216.toList == ([] : List UInt8)) = false := beq_eq_false_iff_ne.mpr c5
            have c5b1 : (t216.toList != ([] : List UInt8)) = true := bne_iff_ne.mpr c5
            replace H := Option.bind_eq_some_iff.mp H
            obtain ⟨t217, A70, H⟩ := H
            replace H : (if t217 ≥ 0 then (some (([] : List (S33)), 45)) else (if (x4_1.length : Int) = 500 then (some (([] : List (S33)), 21)) else ((monticuleref08_Put.f k1 x4_1 ((rd_T33 l0 x5_1).f0) ((rd_T33 l0 x5_1).f1) ((rd_T33 l0 x5_1).f2) ((rd_T33 l0 x5_1).f3) ((rd_T33 l0 x5_1).f4) ((rd_T33 l0 x5_1).f5)).bind fun t219 => (monticuleref08_New.l0 k1 l0 t219 (wrap64 (x5_1 + 1)))))) = some (r1, r2) := H
            have A7 := Aside0.mk A70
            clear A70
            by_cases c8 : t217 ≥ 0
            · rw [if_pos c8] at H
              have c8b0 : decide (0 ≤ t217) = true := decide_eq_true c8
              clear c8
              simp only [Option.some.injEq, Prod.mk.injEq] at H
              obtain ⟨rfl, rfl⟩ := H
              have p215 : 0 ≤ (x5_1 : Int) := of_decide_eq_true (by first | (with_reducible assumption) | assumption)
              have q215 : x5_1 < (l0.length : Int) := of_decide_eq_true (by first | (with_reducible assumption) | assumption)
              obtain ⟨ad215, A215_3, c215_3, e215, hx215_0, hx215_1, hx215_2, hx215_3, hx215_4, hx215_5, hl215_3, hi215_3⟩ := at_T33 (Kd.V_reads' HO_0.out).2.2 x5_1 p215 q215
              cases e215
              obtain ⟨ce215, hce215, hMe215, hcc215⟩ := Kd.V_get HO_0.out z33 x5_1 p215 (by first | exact q215 | exact of_decide_eq_true (by first | (with_reducible assumption) | assumption) | (have e_ := (Kd.V_reads' HO_0.out).1; omega))
              obtain ⟨ua215_3, uc215_3, rfl, ul215_3, ge215_3⟩ := k33_openF hMe215
              have hv215_3 := hcc215 3 _ rfl
              rw [add_field _ _ 3 (by omega)] at hv215_3
              replace hv215_3 := Option.some.inj (hv215_3.symm.trans hx215_3)
              injection hv215_3 with hva_ hvn_ hvc_
              rw [hva_] at ge215_3
              rw [hvc_] at ul215_3
              have HL215_3 := Aside0.mk (show Kd.V Kd.string 9 _ w.heap.size _ _ ((rd_T33 l0 x5_1).f3) from Kd.V_mk ul215_3 ge215_3)
              clear hva_ hvn_ hvc_ ge215_3 ul215_3
              clear hcc215 hce215
              have HR215_3 := Aside0.mk hi215_3
              have HC215_3 := Aside0.mk hl215_3
              clear hi215_3 hl215_3
              replace p215 := eq_true p215
              replace q215 := eq_true q215
              go_wp2_with (first | ((with_reducible refine gate_callee (f := 71) rfl ?_); refine goesL_ (some 17) rfl rfl Tryz.func71 (by kernel_rfl) rfl #[.agg #[.int .i64 ((rd_T33 l0 x5_1).f0), .string ((rd_T33 l0 x5_1).f1), .string ((rd_T33 l0 x5_1).f2), .slice A215_3 ((rd_T33 l0 x5_1).f3).length c215_3, .string ((rd_T33 l0 x5_1).f4), .string ((rd_T33 l0 x5_1).f5)]] rfl (by (try simp only [List.map_toArray, List.map_cons, List.map_nil]); first | done | rfl | (simp only [List.length_drop, List.length_take]; rfl)) ?_; (with_reducible refine (monticuleref07_Key.calls k1 ((rd_T33 l0 x5_1).f0) ((rd_T33 l0 x5_1).f1) ((rd_T33 l0 x5_1).f2) _ _ ((rd_T33 l0 x5_1).f3) ((rd_T33 l0 x5_1).f4) ((rd_T33 l0 x5_1).f5) t216 _ ?side1 ?side2 A4.out).mono ?_); (case side1 => repeat (first | exact (by repeat (first | (with_reducible exact HR215_3.out) | (with_reducible refine Kd.C_alloc ?_ _) | (with_reducible refine Kd.C_drewN ?_ _) | (with_reducible refine Kd.C_drew ?_) | exact HR215_3.out)) | (with_reducible refine Kd.C_alloc ?_ _) | (with_reducible refine Kd.C_drewN ?_ _) | (with_reducible refine Kd.C_drew ?_))); (case side2 => exact HC215_3.out); rintro e w9 ⟨rfl, hb⟩; refine ⟨_, rfl, ?_⟩; have n0_ := Aside0.mk (Kd.V_below (by (with_reducible repeat (first | apply Kd.V_alloc | apply Kd.V_drewN | apply Kd.V_drew)); exact HO_0.out) hb); have n1_ := Aside0.mk (Kd.N_below (by (with_reducible repeat (first | apply Kd.N_alloc | apply Kd.N_drewN | apply Kd.N_drew)); exact HO_4.out) hb); have n2_ := Aside0.mk (Kd.V_below (by (with_reducible repeat (first | apply Kd.V_alloc | apply Kd.V_drewN | apply Kd.V_drew)); exact HL215_3.out) hb); have n3_ := Aside0.mk (Kd.C_below (by repeat (first | (with_reducible exact HR215_3.out) | (with_reducible refine Kd.C_alloc ?_ _) | (with_reducible refine Kd.C_drewN ?_ _) | (with_reducible refine Kd.C_drew ?_) | exact HR215_3.out)) hb); have n4_ := Aside0.mk (below_step (by repeat (first | (with_reducible first | exact HB.out | apply below_alloc | apply pw_below_drewN | apply below_drew1) | exact HB.out)) hb); clear HO_0; clear HO_4; clear HL215_3; clear HR215_3; clear HB; have HO_0 := n0_; have HO_4 := n1_; have HL215_3 := n2_; have HR215_3 := n3_; have HB := n4_; clear n0_ n1_ n2_ n3_ n4_; (try clear hb); (try clear hb2); (try clear hk); (try clear hi); obtain ⟨Ao10, co10, eo10⟩ := Kd.N_slice HO_4.out; subst eo10) | ((with_reducible refine gate_callee (f := 24) rfl ?_); refine goesL_ (some 22) rfl rfl Tryz.func24 (by kernel_rfl) rfl #[.slice Ao10 x4_1.length co10, .string t216] rfl (by (try simp only [List.map_toArray, List.map_cons, List.map_nil]); first | done | rfl | (simp only [List.length_drop, List.length_take]; rfl)) ?_; (with_reducible refine (monticuleref08_Find.calls k1 _ _ x4_1 t216 t217 _ ?side1 ?side2 A7.out).mono ?_); (case side1 => repeat (first | exact (Kd.N_reads' HO_4.out).2.2 | (with_reducible refine Kd.C_alloc ?_ _) | (with_reducible refine Kd.C_drewN ?_ _) | (with_reducible refine Kd.C_drew ?_))); (case side2 => exact (Kd.N_reads' HO_4.out).2.1); rintro e w11 ⟨rfl, hb⟩; refine ⟨_, rfl, ?_⟩; have n0_ := Aside0.mk (Kd.V_below (by (with_reducible repeat (first | apply Kd.V_alloc | apply Kd.V_drewN | apply Kd.V_drew)); exact HO_0.out) hb); have n1_ := Aside0.mk (Kd.N_below (by (with_reducible repeat (first | apply Kd.N_alloc | apply Kd.N_drewN | apply Kd.N_drew)); exact HO_4.out) hb); have n2_ := Aside0.mk (Kd.V_below (by (with_reducible repeat (first | apply Kd.V_alloc | apply Kd.V_drewN | apply Kd.V_drew)); exact HL215_3.out) hb); have n3_ := Aside0.mk (Kd.C_below (by repeat (first | (with_reducible exact HR215_3.out) | (with_reducible refine Kd.C_alloc ?_ _) | (with_reducible refine Kd.C_drewN ?_ _) | (with_reducible refine Kd.C_drew ?_) | exact HR215_3.out)) hb); have n4_ := Aside0.mk (below_step (by repeat (first | (with_reducible first | exact HB.out | apply below_alloc | apply pw_below_drewN | apply below_drew1) | exact HB.out)) hb); clear HO_0; clear HO_4; clear HL215_3; clear HR215_3; clear HB; have HO_0 := n0_; have HO_4 := n1_; have HL215_3 := n2_; have HR215_3 := n3_; have HB := n4_; clear n0_ n1_ n2_ n3_ n4_; (try clear hb); (try clear hb2); (try clear hk); (try clear hi)))
              go_ret2
              exact ⟨_, by first | rfl | (simp [errW_none, errW_some] <;> rfl) | (simp [*, errW_none, errW_some] <;> rfl), by first | exact Kd.S_nil _ _ _ _ _ | exact Kd.N_nil _ _ _ _ _ | exact Kd.V_nil _ _ _ _ _ | exact Kd.Q_nil _ _ _ _ _ | exact Kd.R_nil _ _ _ _ _, by repeat (first | (with_reducible first | exact HB.out | apply below_alloc | apply pw_below_drewN | apply below_drew1) | exact HB.out)⟩
            · rw [if_neg c8] at H
              have c8b0 : decide (0 ≤ t217) = false := decide_eq_false c8
              clear c8
              by_cases c12 : (x4_1.length : Int) = 500
              · rw [if_pos c12] at H
                have c12b0 : ((x4_1.length : Int) == 500) = true := beq_iff_eq.mpr c12
                have c12b1 : ((x4_1.length : Int) != 500) = false := bne_eq_false_iff_eq.mpr c12
                clear c12
                simp only [Option.some.injEq, Prod.mk.injEq] at H
                obtain ⟨rfl, rfl⟩ := H
                have p215 : 0 ≤ (x5_1 : Int) := of_decide_eq_true (by first | (with_reducible assumption) | assumption)
                have q215 : x5_1 < (l0.length : Int) := of_decide_eq_true (by first | (with_reducible assumption) | assumption)
                obtain ⟨ad215, A215_3, c215_3, e215, hx215_0, hx215_1, hx215_2, hx215_3, hx215_4, hx215_5, hl215_3, hi215_3⟩ := at_T33 (Kd.V_reads' HO_0.out).2.2 x5_1 p215 q215
                cases e215
                obtain ⟨ce215, hce215, hMe215, hcc215⟩ := Kd.V_get HO_0.out z33 x5_1 p215 (by first | exact q215 | exact of_decide_eq_true (by first | (with_reducible assumption) | assumption) | (have e_ := (Kd.V_reads' HO_0.out).1; omega))
                obtain ⟨ua215_3, uc215_3, rfl, ul215_3, ge215_3⟩ := k33_openF hMe215
                have hv215_3 := hcc215 3 _ rfl
                rw [add_field _ _ 3 (by omega)] at hv215_3
                replace hv215_3 := Option.some.inj (hv215_3.symm.trans hx215_3)
                injection hv215_3 with hva_ hvn_ hvc_
                rw [hva_] at ge215_3
                rw [hvc_] at ul215_3
                have HL215_3 := Aside0.mk (show Kd.V Kd.string 9 _ w.heap.size _ _ ((rd_T33 l0 x5_1).f3) from Kd.V_mk ul215_3 ge215_3)
                clear hva_ hvn_ hvc_ ge215_3 ul215_3
                clear hcc215 hce215
                have HR215_3 := Aside0.mk hi215_3
                have HC215_3 := Aside0.mk hl215_3
                clear hi215_3 hl215_3
                replace p215 := eq_true p215
                replace q215 := eq_true q215
                go_wp2_with (first | ((with_reducible refine gate_callee (f := 71) rfl ?_); refine goesL_ (some 17) rfl rfl Tryz.func71 (by kernel_rfl) rfl #[.agg #[.int .i64 ((rd_T33 l0 x5_1).f0), .string ((rd_T33 l0 x5_1).f1), .string ((rd_T33 l0 x5_1).f2), .slice A215_3 ((rd_T33 l0 x5_1).f3).length c215_3, .string ((rd_T33 l0 x5_1).f4), .string ((rd_T33 l0 x5_1).f5)]] rfl (by (try simp only [List.map_toArray, List.map_cons, List.map_nil]); first | done | rfl | (simp only [List.length_drop, List.length_take]; rfl)) ?_; (with_reducible refine (monticuleref07_Key.calls k1 ((rd_T33 l0 x5_1).f0) ((rd_T33 l0 x5_1).f1) ((rd_T33 l0 x5_1).f2) _ _ ((rd_T33 l0 x5_1).f3) ((rd_T33 l0 x5_1).f4) ((rd_T33 l0 x5_1).f5) t216 _ ?side1 ?side2 A4.out).mono ?_); (case side1 => repeat (first | exact (by repeat (first | (with_reducible exact HR215_3.out) | (with_reducible refine Kd.C_alloc ?_ _) | (with_reducible refine Kd.C_drewN ?_ _) | (with_reducible refine Kd.C_drew ?_) | exact HR215_3.out)) | (with_reducible refine Kd.C_alloc ?_ _) | (with_reducible refine Kd.C_drewN ?_ _) | (with_reducible refine Kd.C_drew ?_))); (case side2 => exact HC215_3.out); rintro e w13 ⟨rfl, hb⟩; refine ⟨_, rfl, ?_⟩; have n0_ := Aside0.mk (Kd.V_below (by (with_reducible repeat (first | apply Kd.V_alloc | apply Kd.V_drewN | apply Kd.V_drew)); exact HO_0.out) hb); have n1_ := Aside0.mk (Kd.N_below (by (with_reducible repeat (first | apply Kd.N_alloc | apply Kd.N_drewN | apply Kd.N_drew)); exact HO_4.out) hb); have n2_ := Aside0.mk (Kd.V_below (by (with_reducible repeat (first | apply Kd.V_alloc | apply Kd.V_drewN | apply Kd.V_drew)); exact HL215_3.out) hb); have n3_ := Aside0.mk (Kd.C_below (by repeat (first | (with_reducible exact HR215_3.out) | (with_reducible refine Kd.C_alloc ?_ _) | (with_reducible refine Kd.C_drewN ?_ _) | (with_reducible refine Kd.C_drew ?_) | exact HR215_3.out)) hb); have n4_ := Aside0.mk (below_step (by repeat (first | (with_reducible first | exact HB.out | apply below_alloc | apply pw_below_drewN | apply below_drew1) | exact HB.out)) hb); clear HO_0; clear HO_4; clear HL215_3; clear HR215_3; clear HB; have HO_0 := n0_; have HO_4 := n1_; have HL215_3 := n2_; have HR215_3 := n3_; have HB := n4_; clear n0_ n1_ n2_ n3_ n4_; (try clear hb); (try clear hb2); (try clear hk); (try clear hi); obtain ⟨Ao14, co14, eo14⟩ := Kd.N_slice HO_4.out; subst eo14) | ((with_reducible refine gate_callee (f := 24) rfl ?_); refine goesL_ (some 22) rfl rfl Tryz.func24 (by kernel_rfl) rfl #[.slice Ao14 x4_1.length co14, .string t216] rfl (by (try simp only [List.map_toArray, List.map_cons, List.map_nil]); first | done | rfl | (simp only [List.length_drop, List.length_take]; rfl)) ?_; (with_reducible refine (monticuleref08_Find.calls k1 _ _ x4_1 t216 t217 _ ?side1 ?side2 A7.out).mono ?_); (case side1 => repeat (first | exact (Kd.N_reads' HO_4.out).2.2 | (with_reducible refine Kd.C_alloc ?_ _) | (with_reducible refine Kd.C_drewN ?_ _) | (with_reducible refine Kd.C_drew ?_))); (case side2 => exact (Kd.N_reads' HO_4.out).2.1); rintro e w15 ⟨rfl, hb⟩; refine ⟨_, rfl, ?_⟩; have n0_ := Aside0.mk (Kd.V_below (by (with_reducible repeat (first | apply Kd.V_alloc | apply Kd.V_drewN | apply Kd.V_drew)); exact HO_0.out) hb); have n1_ := Aside0.mk (Kd.N_below (by (with_reducible repeat (first | apply Kd.N_alloc | apply Kd.N_drewN | apply Kd.N_drew)); exact HO_4.out) hb); have n2_ := Aside0.mk (Kd.V_below (by (with_reducible repeat (first | apply Kd.V_alloc | apply Kd.V_drewN | apply Kd.V_drew)); exact HL215_3.out) hb); have n3_ := Aside0.mk (Kd.C_below (by repeat (first | (with_reducible exact HR215_3.out) | (with_reducible refine Kd.C_alloc ?_ _) | (with_reducible refine Kd.C_drewN ?_ _) | (with_reducible refine Kd.C_drew ?_) | exact HR215_3.out)) hb); have n4_ := Aside0.mk (below_step (by repeat (first | (with_reducible first | exact HB.out | apply below_alloc | apply pw_below_drewN | apply below_drew1) | exact HB.out)) hb); clear HO_0; clear HO_4; clear HL215_3; clear HR215_3; clear HB; have HO_0 := n0_; have HO_4 := n1_; have HL215_3 := n2_; have HR215_3 := n3_; have HB := n4_; clear n0_ n1_ n2_ n3_ n4_; (try clear hb); (try clear hb2); (try clear hk); (try clear hi)))
                go_ret2
                exact ⟨_, by first | rfl | (simp [errW_none, errW_some] <;> rfl) | (simp [*, errW_none, errW_some] <;> rfl), by first | exact Kd.S_nil _ _ _ _ _ | exact Kd.N_nil _ _ _ _ _ | exact Kd.V_nil _ _ _ _ _ | exact Kd.Q_nil _ _ _ _ _ | exact Kd.R_nil _ _ _ _ _, by repeat (first | (with_reducible first | exact HB.out | apply below_alloc | apply pw_below_drewN | apply below_drew1) | exact HB.out)⟩
              · rw [if_neg c12] at H
                have c12b0 : ((x4_1.length : Int) == 500) = false := beq_eq_false_iff_ne.mpr c12
                have c12b1 : ((x4_1.length : Int) != 500) = true := bne_iff_ne.mpr c12
                replace H := Option.bind_eq_some_iff.mp H
                obtain ⟨t219, A160, H⟩ := H
                replace H : (monticuleref08_New.l0 k1 l0 t219 (wrap64 (x5_1 + 1))) = some (r1, r2) := H
                have A16 := Aside0.mk A160
                clear A160
                have H' := Aside0.mk H
                clear H
                have p215 : 0 ≤ (x5_1 : Int) := of_decide_eq_true (by first | (with_reducible assumption) | assumption)
                have q215 : x5_1 < (l0.length : Int) := of_decide_eq_true (by first | (with_reducible assumption) | assumption)
                obtain ⟨ad215, A215_3, c215_3, e215, hx215_0, hx215_1, hx215_2, hx215_3, hx215_4, hx215_5, hl215_3, hi215_3⟩ := at_T33 (Kd.V_reads' HO_0.out).2.2 x5_1 p215 q215
                cases e215
                obtain ⟨ce215, hce215, hMe215, hcc215⟩ := Kd.V_get HO_0.out z33 x5_1 p215 (by first | exact q215 | exact of_decide_eq_true (by first | (with_reducible assumption) | assumption) | (have e_ := (Kd.V_reads' HO_0.out).1; omega))
                obtain ⟨ua215_3, uc215_3, rfl, ul215_3, ge215_3⟩ := k33_openF hMe215
                have hv215_3 := hcc215 3 _ rfl
                rw [add_field _ _ 3 (by omega)] at hv215_3
                replace hv215_3 := Option.some.inj (hv215_3.symm.trans hx215_3)
                injection hv215_3 with hva_ hvn_ hvc_
                rw [hva_] at ge215_3
                rw [hvc_] at ul215_3
                have HL215_3 := Aside0.mk (show Kd.V Kd.string 9 _ w.heap.size _ _ ((rd_T33 l0 x5_1).f3) from Kd.V_mk ul215_3 ge215_3)
                clear hva_ hvn_ hvc_ ge215_3 ul215_3
                clear hcc215 hce215
                have HR215_3 := Aside0.mk hi215_3
                have HC215_3 := Aside0.mk hl215_3
                clear hi215_3 hl215_3
                replace p215 := eq_true p215
                replace q215 := eq_true q215
                go_wp2_with (first | ((with_reducible refine gate_callee (f := 71) rfl ?_); refine goesL_ (some 17) rfl rfl Tryz.func71 (by kernel_rfl) rfl #[.agg #[.int .i64 ((rd_T33 l0 x5_1).f0), .string ((rd_T33 l0 x5_1).f1), .string ((rd_T33 l0 x5_1).f2), .slice A215_3 ((rd_T33 l0 x5_1).f3).length c215_3, .string ((rd_T33 l0 x5_1).f4), .string ((rd_T33 l0 x5_1).f5)]] rfl (by (try simp only [List.map_toArray, List.map_cons, List.map_nil]); first | done | rfl | (simp only [List.length_drop, List.length_take]; rfl)) ?_; (with_reducible refine (monticuleref07_Key.calls k1 ((rd_T33 l0 x5_1).f0) ((rd_T33 l0 x5_1).f1) ((rd_T33 l0 x5_1).f2) _ _ ((rd_T33 l0 x5_1).f3) ((rd_T33 l0 x5_1).f4) ((rd_T33 l0 x5_1).f5) t216 _ ?side1 ?side2 A4.out).mono ?_); (case side1 => repeat (first | exact (by repeat (first | (with_reducible exact HR215_3.out) | (with_reducible refine Kd.C_alloc ?_ _) | (with_reducible refine Kd.C_drewN ?_ _) | (with_reducible refine Kd.C_drew ?_) | exact HR215_3.out)) | (with_reducible refine Kd.C_alloc ?_ _) | (with_reducible refine Kd.C_drewN ?_ _) | (with_reducible refine Kd.C_drew ?_))); (case side2 => exact HC215_3.out); rintro e w17 ⟨rfl, hb⟩; refine ⟨_, rfl, ?_⟩; have n0_ := Aside0.mk (Kd.V_below (by (with_reducible repeat (first | apply Kd.V_alloc | apply Kd.V_drewN | apply Kd.V_drew)); exact HO_0.out) hb); have n1_ := Aside0.mk (Kd.N_below (by (with_reducible repeat (first | apply Kd.N_alloc | apply Kd.N_drewN | apply Kd.N_drew)); exact HO_4.out) hb); have n2_ := Aside0.mk (Kd.V_below (by (with_reducible repeat (first | apply Kd.V_alloc | apply Kd.V_drewN | apply Kd.V_drew)); exact HL215_3.out) hb); have n3_ := Aside0.mk (Kd.C_below (by repeat (first | (with_reducible exact HR215_3.out) | (with_reducible refine Kd.C_alloc ?_ _) | (with_reducible refine Kd.C_drewN ?_ _) | (with_reducible refine Kd.C_drew ?_) | exact HR215_3.out)) hb); have n4_ := Aside0.mk (below_step (by repeat (first | (with_reducible first | exact HB.out | apply below_alloc | apply pw_below_drewN | apply below_drew1) | exact HB.out)) hb); clear HO_0; clear HO_4; clear HL215_3; clear HR215_3; clear HB; have HO_0 := n0_; have HO_4 := n1_; have HL215_3 := n2_; have HR215_3 := n3_; have HB := n4_; clear n0_ n1_ n2_ n3_ n4_; (try clear hb); (try clear hb2); (try clear hk); (try clear hi); obtain ⟨Ao18, co18, eo18⟩ := Kd.N_slice HO_4.out; subst eo18) | ((with_reducible refine gate_callee (f := 24) rfl ?_); refine goesL_ (some 22) rfl rfl Tryz.func24 (by kernel_rfl) rfl #[.slice Ao18 x4_1.length co18, .string t216] rfl (by (try simp only [List.map_toArray, List.map_cons, List.map_nil]); first | done | rfl | (simp only [List.length_drop, List.length_take]; rfl)) ?_; (with_reducible refine (monticuleref08_Find.calls k1 _ _ x4_1 t216 t217 _ ?side1 ?side2 A7.out).mono ?_); (case side1 => repeat (first | exact (Kd.N_reads' HO_4.out).2.2 | (with_reducible refine Kd.C_alloc ?_ _) | (with_reducible refine Kd.C_drewN ?_ _) | (with_reducible refine Kd.C_drew ?_))); (case side2 => exact (Kd.N_reads' HO_4.out).2.1); rintro e w19 ⟨rfl, hb⟩; refine ⟨_, rfl, ?_⟩; have n0_ := Aside0.mk (Kd.V_below (by (with_reducible repeat (first | apply Kd.V_alloc | apply Kd.V_drewN | apply Kd.V_drew)); exact HO_0.out) hb); have n1_ := Aside0.mk (Kd.N_below (by (with_reducible repeat (first | apply Kd.N_alloc | apply Kd.N_drewN | apply Kd.N_drew)); exact HO_4.out) hb); have n2_ := Aside0.mk (Kd.V_below (by (with_reducible repeat (first | apply Kd.V_alloc | apply Kd.V_drewN | apply Kd.V_drew)); exact HL215_3.out) hb); have n3_ := Aside0.mk (Kd.C_below (by repeat (first | (with_reducible exact HR215_3.out) | (with_reducible refine Kd.C_alloc ?_ _) | (with_reducible refine Kd.C_drewN ?_ _) | (with_reducible refine Kd.C_drew ?_) | exact HR215_3.out)) hb); have n4_ := Aside0.mk (below_step (by repeat (first | (with_reducible first | exact HB.out | apply below_alloc | apply pw_below_drewN | apply below_drew1) | exact HB.out)) hb); clear HO_0; clear HO_4; clear HL215_3; clear HR215_3; clear HB; have HO_0 := n0_; have HO_4 := n1_; have HL215_3 := n2_; have HR215_3 := n3_; have HB := n4_; clear n0_ n1_ n2_ n3_ n4_; (try clear hb); (try clear hb2); (try clear hk); (try clear hi); have p218 : 0 ≤ (x5_1 : Int) := of_decide_eq_true (by first | (with_reducible assumption) | assumption); have q218 : x5_1 < (l0.length : Int) := of_decide_eq_true (by first | (with_reducible assumption) | assumption); obtain ⟨ad218, A218_3, c218_3, e218, hx218_0, hx218_1, hx218_2, hx218_3, hx218_4, hx218_5, hl218_3, hi218_3⟩ := at_T33 (Kd.V_reads' HO_0.out).2.2 x5_1 p218 q218; obtain rfl : ad215 = ad218 := (by injection e218); obtain ⟨ce218, hce218, hMe218, hcc218⟩ := Kd.V_get HO_0.out z33 x5_1 p218 (by first | exact q218 | exact of_decide_eq_true (by first | (with_reducible assumption) | assumption) | (have e_ := (Kd.V_reads' HO_0.out).1; omega)); obtain ⟨ua218_3, uc218_3, rfl, ul218_3, ge218_3⟩ := k33_openF hMe218; have hv218_3 := hcc218 3 _ rfl; rw [add_field _ _ 3 (by omega)] at hv218_3; replace hv218_3 := Option.some.inj (hv218_3.symm.trans hx218_3); injection hv218_3 with hva_ hvn_ hvc_; rw [hva_] at ge218_3; rw [hvc_] at ul218_3; have HL218_3 := Aside0.mk (show Kd.V Kd.string 9 _ w.heap.size _ _ ((rd_T33 l0 x5_1).f3) from Kd.V_mk ul218_3 ge218_3); clear hva_ hvn_ hvc_ ge218_3 ul218_3; clear hcc218 hce218; have HR218_3 := Aside0.mk hi218_3; have HC218_3 := Aside0.mk hl218_3; clear hi218_3 hl218_3; replace p218 := eq_true p218; replace q218 := eq_true q218) | ((with_reducible refine gate_callee (f := 42) rfl ?_); refine goesL_ (some 32) rfl rfl Tryz.func42 (by kernel_rfl) rfl #[.slice Ao18 x4_1.length co18, .agg #[.int .i64 ((rd_T33 l0 x5_1).f0), .string ((rd_T33 l0 x5_1).f1), .string ((rd_T33 l0 x5_1).f2), .slice A218_3 ((rd_T33 l0 x5_1).f3).length c218_3, .string ((rd_T33 l0 x5_1).f4), .string ((rd_T33 l0 x5_1).f5)]] rfl (by (try simp only [List.map_toArray, List.map_cons, List.map_nil]); first | done | rfl | (simp only [List.length_drop, List.length_take]; rfl)) ?_; (with_reducible refine (monticuleref08_Put.calls k1 (fun k_ => (P0_ k_ ∨ w.heap.size ≤ k_)) _ _ x4_1 ((rd_T33 l0 x5_1).f0) ((rd_T33 l0 x5_1).f1) ((rd_T33 l0 x5_1).f2) (fun k_ => ((P0_ k_ ∨ w.heap.size ≤ k_) ∧ some k_ ≠ (.slice Ao18 x4_1.length co18 : Value).ownBlock)) _ _ ((rd_T33 l0 x5_1).f3) ((rd_T33 l0 x5_1).f4) ((rd_T33 l0 x5_1).f5) t219 _ ?side1 ?side2 A16.out).mono ?_); (case side1 => exact Kd.N_V (HO_4.out)); (case side2 => exact HL218_3.out); rintro e w20 ⟨v220, rfl, ho0, hb⟩; refine ⟨_, rfl, ?_⟩; have n0_ := Aside0.mk (Kd.V_elder' (by (with_reducible repeat (first | apply Kd.V_alloc | apply Kd.V_drewN | apply Kd.V_drew)); exact HO_0.out) (Kd.N_base ho0) hb); have n1_ := Aside0.mk (Kd.N_elder' (by (with_reducible repeat (first | apply Kd.N_alloc | apply Kd.N_drewN | apply Kd.N_drew)); exact HO_4.out) (Kd.N_base ho0) hb); have n2_ := Aside0.mk (Kd.V_elder' (by (with_reducible repeat (first | apply Kd.V_alloc | apply Kd.V_drewN | apply Kd.V_drew)); exact HL215_3.out) (Kd.N_base ho0) hb); have n3_ := Aside0.mk (Kd.V_elder' (by (with_reducible repeat (first | apply Kd.V_alloc | apply Kd.V_drewN | apply Kd.V_drew)); exact HL218_3.out) (Kd.N_base ho0) hb); have n4_ := Aside0.mk (Kd.N_lower (Kd.N_mono (ok' := fun k_ => (P0_ k_ ∨ w.heap.size ≤ k_)) ho0 (fun k_ hk_ => Or.elim hk_ (fun hs_ => Or.elim hs_ (fun hs_ => hs_) (fun hs_ => hs_.1)) (fun hn_ => (.inr (Nat.le_trans (below_size (by repeat (first | (with_reducible first | exact HB.out | apply below_alloc | apply pw_below_drewN | apply below_drew1) | exact HB.out))) hn_))))) (below_size (by repeat (first | (with_reducible first | exact HB.out | apply below_alloc | apply pw_below_drewN | apply below_drew1) | exact HB.out)))); have n5_ := Aside0.mk (Kd.C_below (by repeat (first | (with_reducible exact HR215_3.out) | (with_reducible refine Kd.C_alloc ?_ _) | (with_reducible refine Kd.C_drewN ?_ _) | (with_reducible refine Kd.C_drew ?_) | exact HR215_3.out)) hb); have n6_ := Aside0.mk (Kd.C_below (by repeat (first | (with_reducible exact HR218_3.out) | (with_reducible refine Kd.C_alloc ?_ _) | (with_reducible refine Kd.C_drewN ?_ _) | (with_reducible refine Kd.C_drew ?_) | exact HR218_3.out)) hb); have n7_ := Aside0.mk (below_step (by repeat (first | (with_reducible first | exact HB.out | apply below_alloc | apply pw_below_drewN | apply below_drew1) | exact HB.out)) hb); clear HO_0; clear HO_4; clear HL215_3; clear HL218_3; clear HR215_3; clear HR218_3; clear HB; have HO_0 := n0_; have HO_4 := n1_; have HL215_3 := n2_; have HL218_3 := n3_; have HO221 := n4_; have HR215_3 := n5_; have HR218_3 := n6_; have HB := n7_; clear n0_ n1_ n2_ n3_ n4_ n5_ n6_ n7_; (try clear hb); (try clear hb2); (try clear hk); (try clear hi); (try clear ho0)))
                go_roundg k1
                case measure => have := HK1.out; omega
                case rel => exact ⟨(t219), (wrap64 (x5_1 + 1)), (by first | rfl | (simp; done) | (simp [*]; done)), H', ⟨by have := HK1.out; omega⟩, ⟨by (with_reducible repeat (first | apply Kd.V_alloc | apply Kd.V_drewN | apply Kd.V_drew)); exact Kd.V_mono HO_0.out (fun _ hk => ⟨hk.1.1, hk.2⟩)⟩, ⟨by (with_reducible repeat (first | apply Kd.N_alloc | apply Kd.N_drewN | apply Kd.N_drew)); exact HO221.out⟩, ⟨by repeat (first | (with_reducible first | exact HB.out | apply below_alloc | apply pw_below_drewN | apply below_drew1) | exact HB.out)⟩⟩
        · rw [if_neg c3] at H
          exact absurd H (by simp)
      · rw [if_neg c2] at H
        have c2b0 : decide (x5_1 < (l0.length : Int)) = false := decide_eq_false c2
        clear c2
        simp only [Option.some.injEq, Prod.mk.injEq] at H
        obtain ⟨rfl, rfl⟩ := H
        go_wp2
        go_ret2
        exact ⟨_, by first | rfl | (simp [errW_none, errW_some] <;> rfl) | (simp [*, errW_none, errW_some] <;> rfl), by (with_reducible repeat (first | apply Kd.N_alloc | apply Kd.N_drewN | apply Kd.N_drew)); exact HO_4.out, by repeat (first | (with_reducible first | exact HB.out | apply below_alloc | apply pw_below_drewN | apply below_drew1) | exact HB.out)⟩

end Go.Proofs.YtodpdlpncgkkdaaGreatDoor.P
end
section
namespace Go.Proofs.YtodpdlpncgkkdaaGreatDoor
open Go.RowKit Go.Proofs.YtodpdlpncgkkdaaGreatDoorW.PrintWords Go.Shelf

def kd (d : Def) : List UInt8 := (defKey d).data.toList
theorem rd_def (l : List Def) (i : Nat) (h : i < l.length) : P.rd_T33 l (i : Int) = l[i] := by simp [P.rd_T33, h]
theorem key_eq {d : Def} {key : ByteArray} : (defKey d).toList = key.toList ↔ kd d = key.data.toList := by
  unfold kd
  rw [Lib.toList_data, Lib.toList_data]
/-- The place of a key; -1: it isn't there. -/
def findD (l : List Def) (key : List UInt8) : Int := match l.findIdx? (fun d => decide (kd d = key)) with | some i => (i : Int) | none => -1
theorem findIdx_drop (p : Def → Bool) (l : List Def) (i : Nat) (h : i < l.length) (r : Option Nat) (hr : (l.drop (i + 1)).findIdx? p = r) :
    (l.drop i).findIdx? p = if p l[i] = true then some 0 else r.map (· + 1) := by
  rw [List.drop_eq_getElem_cons h, List.findIdx?_cons, hr]
theorem refFind_loop (l : List Def) (key : ByteArray) (hl : l.length ≤ 9223372036854775807) (ht : ∀ d ∈ l, Told d) : ∀ n i : Nat, i ≤ l.length → l.length - i = n →
    ∃ K, ∀ k, K ≤ k → P.monticuleref08_Find.l0 k l key (i : Int) = some (match (l.drop i).findIdx? (fun d => decide (kd d = key.data.toList)) with | some j => ((i + j : Nat) : Int) | none => -1) := by
  intro n
  induction n with
  | zero =>
    intro i hi hn
    refine ⟨1, fun k hk => ?_⟩
    obtain ⟨k, rfl⟩ : ∃ m, k = m + 1 := ⟨k - 1, by omega⟩
    simp only [P.monticuleref08_Find.l0]
    rw [if_neg (by omega), List.drop_eq_nil_of_le (by omega)]
    rfl
  | succ n ih =>
    intro i hi hn
    have hlt : i < l.length := by omega
    have hcast : ((i : Int) + 1) = ((i + 1 : Nat) : Int) := by omega
    have hw : wrap64 ((i : Int) + 1) = ((i + 1 : Nat) : Int) := by rw [wrap_up (by omega) (n := l.length) (by omega) (by omega), hcast]
    obtain ⟨K1, hK1⟩ := refKey_f l[i] (ht _ (List.getElem_mem hlt))
    obtain ⟨K3, hK3⟩ := ih (i + 1) (by omega) (by omega)
    refine ⟨max K1 K3 + 1, fun k hk => ?_⟩
    obtain ⟨k, rfl⟩ : ∃ m, k = m + 1 := ⟨k - 1, by omega⟩
    simp only [P.monticuleref08_Find.l0]
    rw [if_pos (by omega), if_pos (by omega), rd_def l i hlt, hK1 k (by omega), hw, hK3 k (by omega)]
    simp only [Option.bind_some]
    obtain ⟨r, hr⟩ : ∃ r, (l.drop (i + 1)).findIdx? (fun d => decide (kd d = key.data.toList)) = r := ⟨_, rfl⟩
    rw [findIdx_drop _ l i hlt r hr, hr]
    by_cases h : kd l[i] = key.data.toList
    · rw [if_pos (key_eq.2 h), if_pos (by simp [h])]; rfl
    · rw [if_neg (fun e => h (key_eq.1 e)), if_neg (by simp [h])]
      cases r with
      | none => rfl
      | some j =>
        show some ((i + 1 + j : Nat) : Int) = some ((i + (j + 1) : Nat) : Int)
        congr 2
        omega
theorem refFind_f (l : List Def) (key : ByteArray) (hl : l.length ≤ 9223372036854775807) (ht : ∀ d ∈ l, Told d) : ∃ K, ∀ k, K ≤ k → P.monticuleref08_Find.f k l key = some (findD l key.data.toList) := by
  obtain ⟨K, hK⟩ := refFind_loop l key hl ht l.length 0 (Nat.zero_le _) (by omega)
  refine ⟨K, fun k hk => (hK k hk).trans ?_⟩
  unfold findD
  rw [List.drop_zero]
  cases l.findIdx? (fun d => decide (kd d = key.data.toList)) with
  | none => rfl
  | some j => simp
theorem findD_ge (l : List Def) (key : List UInt8) : findD l key ≥ 0 ↔ ∃ d ∈ l, kd d = key := by
  unfold findD
  cases h : l.findIdx? (fun d => decide (kd d = key)) with
  | none =>
    have := List.findIdx?_eq_none_iff.1 h
    constructor
    · intro h; exact absurd h (by decide)
    · rintro ⟨d, hd, e⟩
      have := this d hd
      simp [e] at this
  | some j =>
    obtain ⟨hj, h1, _⟩ := List.findIdx?_eq_some_iff_getElem.1 h
    exact ⟨fun _ => ⟨l[j], List.getElem_mem hj, by simpa using h1⟩, fun _ => by simp⟩
theorem findD_at (l : List Def) (key : List UInt8) (h : findD l key ≥ 0) : ∃ j : Nat, ∃ hj : j < l.length, findD l key = j ∧ kd l[j] = key := by
  unfold findD at h ⊢
  cases h2 : l.findIdx? (fun d => decide (kd d = key)) with
  | none => rw [h2] at h; exact absurd h (by decide)
  | some j =>
    obtain ⟨hj, h1, _⟩ := List.findIdx?_eq_some_iff_getElem.1 h2
    exact ⟨j, hj, rfl, by simpa using h1⟩

/-- The reference's Put, from a place on. -/
def putFrom (d : Def) (done : Bool) : List Def → List Def
  | [] => if done = true then [] else [d]
  | x :: r => (if (!done && !(Op.bytesLess (kd x) (kd d))) = true then [d] else []) ++ (if kd x = kd d then [] else [x]) ++ putFrom d (done || !(Op.bytesLess (kd x) (kd d))) r
theorem refPut_loop (l : List Def) (d : Def) (hl : l.length ≤ 4294967296) (ht : ∀ x ∈ l, Told x) : ∀ n i : Nat, ∀ (out : List Def) (done : Bool), i ≤ l.length → l.length - i = n → out.length ≤ 2 * i →
    ∃ K, ∀ k, K ≤ k → P.monticuleref08_Put.l0 k l (defKey d) out done (i : Int) d.f0 d.f1 d.f2 d.f3 d.f4 d.f5 = some (out ++ putFrom d done (l.drop i)) := by
  intro n
  induction n with
  | zero =>
    intro i out done hi hn ho
    refine ⟨1, fun k hk => ?_⟩
    obtain ⟨k, rfl⟩ : ∃ m, k = m + 1 := ⟨k - 1, by omega⟩
    simp only [P.monticuleref08_Put.l0]
    rw [if_neg (by omega), List.drop_eq_nil_of_le (by omega)]
    unfold putFrom
    cases done
    · rw [if_neg (by decide), if_pos (by omega)]; rfl
    · simp
  | succ n ih =>
    intro i out done hi hn ho
    have hlt : i < l.length := by omega
    have hcast : ((i : Int) + 1) = ((i + 1 : Nat) : Int) := by omega
    have hw : wrap64 ((i : Int) + 1) = ((i + 1 : Nat) : Int) := by rw [wrap_up (by omega) (n := l.length) (by omega) (by omega), hcast]
    obtain ⟨K1, hK1⟩ := refKey_f l[i] (ht _ (List.getElem_mem hlt))
    obtain ⟨K2, hK2⟩ := ih (i + 1) (out ++ (if (!done && !(Op.bytesLess (kd l[i]) (kd d))) = true then [d] else []) ++ (if kd l[i] = kd d then [] else [l[i]])) (done || !(Op.bytesLess (kd l[i]) (kd d))) (by omega) (by omega) (by
      simp only [List.length_append]
      split <;> split <;> simp <;> omega)
    have hless : Op.bytesLess (defKey l[i]).toList (defKey d).toList = Op.bytesLess (kd l[i]) (kd d) := by unfold kd; rw [Lib.toList_data, Lib.toList_data]
    have hkeq : (defKey l[i]).toList = (defKey d).toList ↔ kd l[i] = kd d := by unfold kd; rw [Lib.toList_data, Lib.toList_data]
    have hd1 : (⟨d.f0, d.f1, d.f2, d.f3, d.f4, d.f5⟩ : Def) = d := rfl
    have hd2 : (⟨l[i].f0, l[i].f1, l[i].f2, l[i].f3, l[i].f4, l[i].f5⟩ : Def) = l[i] := rfl
    have j1 : ∀ k b, K2 ≤ k → b = (!done && !(Op.bytesLess (kd l[i]) (kd d))) → P.monticuleref08_Put.j1 (k + 1) l (defKey d) out done (i : Int) (defKey l[i]) b d.f0 d.f1 d.f2 d.f3 d.f4 d.f5 = some (out ++ putFrom d done (l.drop i)) := by
      intro k b hk hb
      have h2 := hK2 k hk
      have hgoal : out ++ putFrom d done (l.drop i) = out ++ (if (!done && !(Op.bytesLess (kd l[i]) (kd d))) = true then [d] else []) ++ (if kd l[i] = kd d then [] else [l[i]]) ++ putFrom d (done || !(Op.bytesLess (kd l[i]) (kd d))) (l.drop (i + 1)) := by
        rw [List.drop_eq_getElem_cons hlt, putFrom]
        simp only [List.append_assoc]
      rw [hgoal]
      simp only [P.monticuleref08_Put.j1, rd_def l i hlt, hw, hd1, hd2]
      rw [← hb] at h2 ⊢
      cases b
      · have hdn : (done || !(Op.bytesLess (kd l[i]) (kd d))) = done := by
          cases done
          · simp at hb ⊢; exact hb
          · rfl
        simp only [Bool.false_eq_true, ↓reduceIte, List.append_nil] at h2 ⊢
        rw [hdn] at h2 ⊢
        by_cases he : kd l[i] = kd d
        · rw [if_pos he] at h2 ⊢
          rw [if_pos (hkeq.2 he), ← h2, List.append_nil]
        · rw [if_neg he] at h2 ⊢
          rw [if_neg (fun e => he (hkeq.1 e)), if_pos (by omega), if_pos (by omega), if_pos (by omega), h2]
      · have hdn : (done || !(Op.bytesLess (kd l[i]) (kd d))) = true := by
          cases done
          · simp at hb ⊢; exact hb
          · rfl
        simp only [↓reduceIte] at h2 ⊢
        rw [hdn] at h2 ⊢
        rw [if_pos (by omega)]
        simp only [Option.bind_some]
        by_cases he : kd l[i] = kd d
        · rw [if_pos he] at h2 ⊢
          rw [if_pos (hkeq.2 he), ← h2, List.append_nil]
        · rw [if_neg he] at h2 ⊢
          rw [if_neg (fun e => he (hkeq.1 e)), if_pos (by omega), if_pos (by omega), if_pos (by simp; omega), h2]
    refine ⟨max K1 K2 + 2, fun k hk => ?_⟩
    obtain ⟨k, rfl⟩ : ∃ m, k = m + 1 + 1 := ⟨k - 2, by omega⟩
    simp only [P.monticuleref08_Put.l0]
    rw [if_pos (by omega), if_pos (by omega), rd_def l i hlt, hK1 (k + 1) (by omega)]
    simp only [Option.bind_some]
    rw [hless]
    cases done
    · rw [if_neg (by decide)]
      exact j1 k _ (by omega) (by simp)
    · rw [if_pos rfl]
      exact j1 k _ (by omega) (by simp)
theorem refPut_f (l : List Def) (d : Def) (hl : l.length ≤ 4294967296) (ht : ∀ x ∈ l, Told x) (hd : Told d) : ∃ K, ∀ k, K ≤ k → P.monticuleref08_Put.f k l d.f0 d.f1 d.f2 d.f3 d.f4 d.f5 = some (putFrom d false l) := by
  obtain ⟨K1, hK1⟩ := refKey_f d hd
  obtain ⟨K2, hK2⟩ := refPut_loop l d hl ht l.length 0 [] false (Nat.zero_le _) (by omega) (Nat.zero_le _)
  refine ⟨max K1 K2, fun k hk => ?_⟩
  unfold P.monticuleref08_Put.f
  rw [hK1 k (by omega)]
  exact hK2 k (by omega)
end Go.Proofs.YtodpdlpncgkkdaaGreatDoor
end
