/- For every input law08.SnapNews answers true: New, Get and All agree with the reference, and the order of definitions does not matter; no condition. (Part 6 of what it rests on.) -/
import Derived.Test.YtodpdlpncgkkdaaGreatDoorSnapNews1
import Derived.Test.YtodpdlpncgkkdaaGreatDoorSnapNews5
import Derived.Test.YtodpdlpncgkkdaaGreatDoorSnapNews4
set_option linter.unusedVariables false
set_option linter.unusedSimpArgs false
section
namespace Go.Proofs.YtodpdlpncgkkdaaGreatDoor.P
open Go.RowKit Go.Proofs.YtodpdlpncgkkdaaGreatDoorW.PrintWords Go.Proofs.YtodpdlpncgkkdaaGreatDoorW.PrintLast Go.Proofs.YtodpdlpncgkkdaaGreatDoorW.PrintMore
attribute [local go_sem] max2_int min2_int max_two min_two max_three min_three max_four min_four   -- for this text's walks alone
set_option linter.unusedVariables false
set_option linter.unusedSimpArgs false

/-! ### monticuleref01_Same: function 35 -/
def monticuleref01_Same.l0 : Nat → List ByteArray → List ByteArray → Int → Option (Bool)
  | 0, _, _, _ => none
  | k + 1, x0, x1, x5 => if x5 < (x0.length : Int) then (if 0 ≤ x5 then (if x5 < (x1.length : Int) then (if (rdOf ByteArray.empty x0 x5).toList = (rdOf ByteArray.empty x1 x5).toList then (monticuleref01_Same.l0 k x0 x1 (wrap64 (x5 + 1))) else (some false)) else (none)) else (none)) else (some true)
def monticuleref01_Same.f (k : Nat) (l0 : List ByteArray) (l1 : List ByteArray) : Option (Bool) := if (l0.length : Int) = (l1.length : Int) then (monticuleref01_Same.l0 k l0 l1 0) else (some false)
theorem monticuleref01_Same.mono_l : ∀ k, (∀ y0 y1 y2, LeO (monticuleref01_Same.l0 k y0 y1 y2) (monticuleref01_Same.l0 (k + 1) y0 y1 y2))
  | 0 => fun _ _ _ r h => by simp [monticuleref01_Same.l0] at h
  | k + 1 => by
    have ih0 := monticuleref01_Same.mono_l k
    · intro y0 y1 y2
      unfold monticuleref01_Same.l0
      repeat' first
      | (with_reducible exact ih0 _ _ _)
      | (with_reducible exact LeO.refl _)
      | (with_reducible exact LeO.none _)
      | (with_reducible refine LeO.ite ?_ ?_)
      | (with_reducible refine LeO.bind ?_ (fun _ => ?_))
      | exact ih0 _ _ _
      | exact LeO.none _
      | refine LeO.ite ?_ ?_
      | refine LeO.bind ?_ (fun _ => ?_)
theorem monticuleref01_Same.mono : ∀ a0 a1 k, LeO (monticuleref01_Same.f k a0 a1) (monticuleref01_Same.f (k + 1) a0 a1) := by
  intro a0 a1 k
  have ih0 := monticuleref01_Same.mono_l k
  unfold monticuleref01_Same.f
  repeat' first
      | (with_reducible exact ih0 _ _ _)
      | (with_reducible exact LeO.refl _)
      | (with_reducible exact LeO.none _)
      | (with_reducible refine LeO.ite ?_ ?_)
      | (with_reducible refine LeO.bind ?_ (fun _ => ?_))
      | exact ih0 _ _ _
      | exact LeO.none _
      | refine LeO.ite ?_ ?_
      | refine LeO.bind ?_ (fun _ => ?_)
set_option maxHeartbeats 8000000 in
set_option maxRecDepth 100000 in
theorem monticuleref01_Same.calls (k : Nat) (A0 : Option Addr) (c0 : Nat) (l0 : List ByteArray) (A1 : Option Addr) (c1 : Nat) (l1 : List ByteArray) (r : Bool) (w : World) (hr0 : Kd.C Kd.string w A0 l0.length l0) (hc0 : l0.length ≤ c0) (hr1 : Kd.C Kd.string w A1 l1.length l1) (hc1 : l1.length ≤ c1) (h : monticuleref01_Same.f k l0 l1 = some r) :
    Calls Tryz.prog 35 #[.slice A0 l0.length c0, .slice A1 l1.length c1] w fun e w' => e = .returned (.bool r) ∧ Drawn0 w w' := by
  have HR0 := Aside0.mk hr0
  have HC0 := Aside0.mk hc0
  clear hr0 hc0
  have HR1 := Aside0.mk hr1
  have HC1 := Aside0.mk hc1
  clear hr1 hc1
  have H : (if (l0.length : Int) = (l1.length : Int) then (monticuleref01_Same.l0 k l0 l1 0) else (some false)) = some r := h
  clear h
  by_cases c3 : (l0.length : Int) = (l1.length : Int)
  · rw [if_pos c3] at H
    have c3b0 : ((l0.length : Int) == (l1.length : Int)) = true := beq_iff_eq.mpr c3
    have c3b1 : ((l0.length : Int) != (l1.length : Int)) = false := bne_eq_false_iff_eq.mpr c3
    have c3b2 : (l0.length == l1.length) = true := by first | simpa using c3 | (simp at c3 ⊢; omega)
    clear c3
    have H' := Aside0.mk H
    clear H
    go_enter Tryz.func35, Tryz.ntmps35
    go_wp2
    repeat (go_quiet (fail); try go_wp2)
    go_loopg [5] k (fun kq v5 w' => ∃ (x5_1 : Int), v5 = .int .i64 x5_1 ∧ Aside0 (monticuleref01_Same.l0 kq l0 l1 x5_1 = some r) ∧ Aside0 (kq ≤ k) ∧ Drawn0 w w')
    case atStart => exact ⟨(0), (by first | rfl | (simp; done) | (simp [*]; done)), H', ⟨Nat.le_refl _⟩, by repeat (first | exact Drawn0.refl _ | apply Drawn0.step)⟩
    case round =>
      clear H'
      try clear c1
      try clear p2
      try clear c3
      try clear c3b0
      try clear c3b1
      try clear c3b2
      obtain ⟨x5_1, rfl, HA, HK1, ⟨m1, rfl⟩⟩ := hrel
      cases gk with
      | zero => exact absurd HA.out (by simp [monticuleref01_Same.l0])
      | succ k1 =>
        have H := HA.out
        clear HA
        simp only [monticuleref01_Same.l0] at H
        by_cases c4 : x5_1 < (l0.length : Int)
        · rw [if_pos c4] at H
          have c4b0 : decide (x5_1 < (l0.length : Int)) = true := decide_eq_true c4
          clear c4
          by_cases c5 : 0 ≤ x5_1
          · rw [if_pos c5] at H
            have c5b0 : decide (0 ≤ x5_1) = true := decide_eq_true c5
            clear c5
            by_cases c6 : x5_1 < (l1.length : Int)
            · rw [if_pos c6] at H
              have c6b0 : decide (x5_1 < (l1.length : Int)) = true := decide_eq_true c6
              clear c6
              by_cases c7 : (rdOf ByteArray.empty l0 x5_1).toList = (rdOf ByteArray.empty l1 x5_1).toList
              · rw [if_pos c7] at H
                have c7b0 : ((rdOf ByteArray.empty l0 x5_1).toList == (rdOf ByteArray.empty l1 x5_1).toList) = true := beq_iff_eq.mpr c7
                have c7b1 : ((rdOf ByteArray.empty l0 x5_1).toList != (rdOf ByteArray.empty l1 x5_1).toList) = false := bne_eq_false_iff_eq.mpr c7
                clear c7
                have H' := Aside0.mk H
                clear H
                have p222 : 0 ≤ (x5_1 : Int) := of_decide_eq_true (by first | (with_reducible assumption) | assumption)
                have q222 : x5_1 < (l0.length : Int) := of_decide_eq_true (by first | (with_reducible assumption) | assumption)
                obtain ⟨ad222, e222, hx222_0⟩ := Kd.at_string HR0.out x5_1 p222 q222
                cases e222
                replace p222 := eq_true p222
                replace q222 := eq_true q222
                have p223 : 0 ≤ (x5_1 : Int) := of_decide_eq_true (by first | (with_reducible assumption) | assumption)
                have q223 : x5_1 < (l1.length : Int) := of_decide_eq_true (by first | (with_reducible assumption) | assumption)
                obtain ⟨ad223, e223, hx223_0⟩ := Kd.at_string HR1.out x5_1 p223 q223
                cases e223
                replace p223 := eq_true p223
                replace q223 := eq_true q223
                go_wp2
                repeat (go_quiet (fail); try go_wp2)
                go_roundg k1
                case measure => have := HK1.out; omega
                case rel => exact ⟨(wrap64 (x5_1 + 1)), (by first | rfl | (simp; done) | (simp [*]; done)), H', ⟨by have := HK1.out; omega⟩, by repeat (first | exact Drawn0.refl _ | apply Drawn0.step)⟩
              · rw [if_neg c7] at H
                have c7b0 : ((rdOf ByteArray.empty l0 x5_1).toList == (rdOf ByteArray.empty l1 x5_1).toList) = false := beq_eq_false_iff_ne.mpr c7
                have c7b1 : ((rdOf ByteArray.empty l0 x5_1).toList != (rdOf ByteArray.empty l1 x5_1).toList) = true := bne_iff_ne.mpr c7
                obtain rfl := Option.some.inj H
                have p222 : 0 ≤ (x5_1 : Int) := of_decide_eq_true (by first | (with_reducible assumption) | assumption)
                have q222 : x5_1 < (l0.length : Int) := of_decide_eq_true (by first | (with_reducible assumption) | assumption)
                obtain ⟨ad222, e222, hx222_0⟩ := Kd.at_string HR0.out x5_1 p222 q222
                cases e222
                replace p222 := eq_true p222
                replace q222 := eq_true q222
                have p223 : 0 ≤ (x5_1 : Int) := of_decide_eq_true (by first | (with_reducible assumption) | assumption)
                have q223 : x5_1 < (l1.length : Int) := of_decide_eq_true (by first | (with_reducible assumption) | assumption)
                obtain ⟨ad223, e223, hx223_0⟩ := Kd.at_string HR1.out x5_1 p223 q223
                cases e223
                replace p223 := eq_true p223
                replace q223 := eq_true q223
                go_wp2
                repeat (go_quiet (fail); try go_wp2)
                go_ret
                exact ⟨by first | rfl | (simp; done) | (simp [*]; done), by repeat (first | exact Drawn0.refl _ | apply Drawn0.step)⟩
            · rw [if_neg c6] at H
              exact absurd H (by simp)
          · rw [if_neg c5] at H
            exact absurd H (by simp)
        · rw [if_neg c4] at H
          have c4b0 : decide (x5_1 < (l0.length : Int)) = false := decide_eq_false c4
          clear c4
          obtain rfl := Option.some.inj H
          go_wp2
          repeat (go_quiet (fail); try go_wp2)
          go_ret
          exact ⟨by first | rfl | (simp; done) | (simp [*]; done), by repeat (first | exact Drawn0.refl _ | apply Drawn0.step)⟩
  · rw [if_neg c3] at H
    have c3b0 : ((l0.length : Int) == (l1.length : Int)) = false := beq_eq_false_iff_ne.mpr c3
    have c3b1 : ((l0.length : Int) != (l1.length : Int)) = true := bne_iff_ne.mpr c3
    have c3b2 : (l0.length == l1.length) = false := by first | simpa using c3 | (simp at c3 ⊢; omega)
    obtain rfl := Option.some.inj H
    go_enter Tryz.func35, Tryz.ntmps35
    go_wp2
    repeat (go_quiet (fail); try go_wp2)
    go_ret
    exact ⟨by first | rfl | (simp; done) | (simp [*]; done), by repeat (first | exact Drawn0.refl _ | apply Drawn0.step)⟩

end Go.Proofs.YtodpdlpncgkkdaaGreatDoor.P
end
section
namespace Go.Proofs.YtodpdlpncgkkdaaGreatDoor.P
open Go.RowKit Go.Proofs.YtodpdlpncgkkdaaGreatDoorW.PrintWords Go.Proofs.YtodpdlpncgkkdaaGreatDoorW.PrintLast Go.Proofs.YtodpdlpncgkkdaaGreatDoorW.PrintMore
attribute [local go_sem] max2_int min2_int max_two min_two max_three min_three max_four min_four   -- for this text's walks alone
set_option linter.unusedVariables false
set_option linter.unusedSimpArgs false

/-! ### monticuleref07_Same: function 27 -/
def monticuleref07_Same.f (k : Nat) (a0_0 : Int) (a0_1 : ByteArray) (a0_2 : ByteArray) (l0_3 : List ByteArray) (a0_4 : ByteArray) (a0_5 : ByteArray) (a1_0 : Int) (a1_1 : ByteArray) (a1_2 : ByteArray) (l1_3 : List ByteArray) (a1_4 : ByteArray) (a1_5 : ByteArray) : Option (Bool) := if a0_0 = a1_0 then (if a0_1.toList = a1_1.toList then (if a0_2.toList = a1_2.toList then (if a0_4.toList = a1_4.toList then (if a0_5.toList = a1_5.toList then ((monticuleref01_Same.f k l0_3 l1_3).bind fun t226 => (some t226)) else (some false)) else (some false)) else (some false)) else (some false)) else (some false)
theorem monticuleref07_Same.mono : ∀ a0 a1 a2 a3 a4 a5 a6 a7 a8 a9 a10 a11 k, LeO (monticuleref07_Same.f k a0 a1 a2 a3 a4 a5 a6 a7 a8 a9 a10 a11) (monticuleref07_Same.f (k + 1) a0 a1 a2 a3 a4 a5 a6 a7 a8 a9 a10 a11) := by
  intro a0 a1 a2 a3 a4 a5 a6 a7 a8 a9 a10 a11 k
  unfold monticuleref07_Same.f
  repeat' first
      | (with_reducible exact monticuleref01_Same.mono _ _ _)
      | (with_reducible exact LeO.refl _)
      | (with_reducible exact LeO.none _)
      | (with_reducible refine LeO.ite ?_ ?_)
      | (with_reducible refine LeO.bind ?_ (fun _ => ?_))
      | exact monticuleref01_Same.mono _ _ _
      | exact LeO.none _
      | refine LeO.ite ?_ ?_
      | refine LeO.bind ?_ (fun _ => ?_)
set_option maxHeartbeats 8000000 in
set_option maxRecDepth 100000 in
theorem monticuleref07_Same.calls (k : Nat) (a0_0 : Int) (a0_1 : ByteArray) (a0_2 : ByteArray) (A0_3 : Option Addr) (c0_3 : Nat) (l0_3 : List ByteArray) (a0_4 : ByteArray) (a0_5 : ByteArray) (a1_0 : Int) (a1_1 : ByteArray) (a1_2 : ByteArray) (A1_3 : Option Addr) (c1_3 : Nat) (l1_3 : List ByteArray) (a1_4 : ByteArray) (a1_5 : ByteArray) (r : Bool) (w : World) (hr0_3 : Kd.C Kd.string w A0_3 l0_3.length l0_3) (hc0_3 : l0_3.length ≤ c0_3) (hr1_3 : Kd.C Kd.string w A1_3 l1_3.length l1_3) (hc1_3 : l1_3.length ≤ c1_3) (h : monticuleref07_Same.f k a0_0 a0_1 a0_2 l0_3 a0_4 a0_5 a1_0 a1_1 a1_2 l1_3 a1_4 a1_5 = some r) :
    Calls Tryz.prog 27 #[.agg #[.int .i64 a0_0, .string a0_1, .string a0_2, .slice A0_3 l0_3.length c0_3, .string a0_4, .string a0_5], .agg #[.int .i64 a1_0, .string a1_1, .string a1_2, .slice A1_3 l1_3.length c1_3, .string a1_4, .string a1_5]] w fun e w' => e = .returned (.bool r) ∧ Below w.heap.size w w' := by
  have hu33 := Tryz.underlying33
  have HR0_3 := Aside0.mk hr0_3
  have HC0_3 := Aside0.mk hc0_3
  clear hr0_3 hc0_3
  have HR1_3 := Aside0.mk hr1_3
  have HC1_3 := Aside0.mk hc1_3
  clear hr1_3 hc1_3
  have HB := Aside0.mk (Below.refl w.heap.size w)
  have H : (if a0_0 = a1_0 then (if a0_1.toList = a1_1.toList then (if a0_2.toList = a1_2.toList then (if a0_4.toList = a1_4.toList then (if a0_5.toList = a1_5.toList then ((monticuleref01_Same.f k l0_3 l1_3).bind fun t226 => (some t226)) else (some false)) else (some false)) else (some false)) else (some false)) else (some false)) = some r := h
  clear h
  by_cases c3 : a0_0 = a1_0
  · rw [if_pos c3] at H
    have c3b0 : (a0_0 == a1_0) = true := beq_iff_eq.mpr c3
    have c3b1 : (a0_0 != a1_0) = false := bne_eq_false_iff_eq.mpr c3
    clear c3
    by_cases c4 : a0_1.toList = a1_1.toList
    · rw [if_pos c4] at H
      have c4b0 : (a0_1.toList == a1_1.toList) = true := beq_iff_eq.mpr c4
      have c4b1 : (a0_1.toList != a1_1.toList) = false := bne_eq_false_iff_eq.mpr c4
      clear c4
      by_cases c5 : a0_2.toList = a1_2.toList
      · rw [if_pos c5] at H
        have c5b0 : (a0_2.toList == a1_2.toList) = true := beq_iff_eq.mpr c5
        have c5b1 : (a0_2.toList != a1_2.toList) = false := bne_eq_false_iff_eq.mpr c5
        clear c5
        by_cases c6 : a0_4.toList = a1_4.toList
        · rw [if_pos c6] at H
          have c6b0 : (a0_4.toList == a1_4.toList) = true := beq_iff_eq.mpr c6
          have c6b1 : (a0_4.toList != a1_4.toList) = false := bne_eq_false_iff_eq.mpr c6
          clear c6
          by_cases c7 : a0_5.toList = a1_5.toList
          · rw [if_pos c7] at H
            have c7b0 : (a0_5.toList == a1_5.toList) = true := beq_iff_eq.mpr c7
            have c7b1 : (a0_5.toList != a1_5.toList) = false := bne_eq_false_iff_eq.mpr c7
            clear c7
            replace H := Option.bind_eq_some_iff.mp H
            obtain ⟨t226, A80, H⟩ := H
            replace H : (some t226) = some r := H
            have A8 := Aside0.mk A80
            clear A80
            obtain rfl := Option.some.inj H
            go_enter Tryz.func27, Tryz.ntmps27
            go_wp2_with (first | ((with_reducible refine gate_dst (N := 2) rfl ?_); refine box_event ?hg (N := 2) ?hd (cs := #[.int .i64 a0_0, .string a0_1, .string a0_2, .slice A0_3 l0_3.length c0_3, .string a0_4, .string a0_5]) (t := 33) ?hr ?_; (case hd => rfl); (case hg => rfl); (case hr => first | (go_simp; done) | (go_simp; rfl)); intro gb224 hg w9 hbox hb; have n0_ := Aside0.mk (below_step (by repeat (first | (with_reducible first | exact HB.out | apply below_alloc | apply pw_below_drewN | apply below_drew1) | exact HB.out)) hb); have n1_ := Aside0.mk (hbox); have n2_ := Aside0.mk ((by rw [hg]; exact (below_size (by repeat (first | (with_reducible first | exact HB.out | apply below_alloc | apply pw_below_drewN | apply below_drew1) | exact HB.out))) : w.heap.size ≤ gb224)); have n3_ := Aside0.mk ((by rw [hg]; exact (below_size (by repeat (first | (with_reducible first | exact HB.out | apply below_alloc | apply pw_below_drewN | apply below_drew1) | exact HB.out))) : w.heap.size ≤ gb224)); clear HB; have HB := n0_; have BK224 := n1_; have GW224 := n2_; have GE224 := n3_; clear n0_ n1_ n2_ n3_; clear hb hbox hg) | ((with_reducible refine gate_dst (N := 3) rfl ?_); refine box_event ?hg (N := 3) ?hd (cs := #[.int .i64 a1_0, .string a1_1, .string a1_2, .slice A1_3 l1_3.length c1_3, .string a1_4, .string a1_5]) (t := 33) ?hr ?_; (case hd => rfl); (case hg => rfl); (case hr => first | (go_simp; done) | (go_simp; rfl)); intro gb225 hg w10 hbox hb; have n0_ := Aside0.mk (blk_below (g := gb224) (o := .cells #[.int .i64 a0_0, .string a0_1, .string a0_2, .slice A0_3 l0_3.length c0_3, .string a0_4, .string a0_5] 33 (0, 0)) (by (with_reducible repeat (first | refine blk_drewN ?_ _ | refine blk_drew ?_ | refine blk_alloc ?_ _)); exact BK224.out) hb); have n1_ := Aside0.mk (below_step (by repeat (first | (with_reducible first | exact HB.out | apply below_alloc | apply pw_below_drewN | apply below_drew1 | refine below_set ?_ GE224.out) | exact HB.out)) hb); have n2_ := Aside0.mk (hbox); have n3_ := Aside0.mk ((by rw [hg]; exact (below_size (by repeat (first | (with_reducible first | exact HB.out | apply below_alloc | apply pw_below_drewN | apply below_drew1 | refine below_set ?_ GE224.out) | exact HB.out))) : w.heap.size ≤ gb225)); have n4_ := Aside0.mk ((by rw [hg]; exact (below_size (by repeat (first | (with_reducible first | exact HB.out | apply below_alloc | apply pw_below_drewN | apply below_drew1 | refine below_set ?_ GE224.out) | exact HB.out))) : w.heap.size ≤ gb225)); have n5_ := Aside0.mk ((by rw [hg]; exact Nat.ne_of_lt (blk_lt (g := gb224) (o := .cells #[.int .i64 a0_0, .string a0_1, .string a0_2, .slice A0_3 l0_3.length c0_3, .string a0_4, .string a0_5] 33 (0, 0)) (by (with_reducible repeat (first | refine blk_drewN ?_ _ | refine blk_drew ?_ | refine blk_alloc ?_ _)); exact BK224.out)) : gb224 ≠ gb225)); have n6_ := Aside0.mk ((by rw [hg]; exact Nat.ne_of_gt (blk_lt (g := gb224) (o := .cells #[.int .i64 a0_0, .string a0_1, .string a0_2, .slice A0_3 l0_3.length c0_3, .string a0_4, .string a0_5] 33 (0, 0)) (by (with_reducible repeat (first | refine blk_drewN ?_ _ | refine blk_drew ?_ | refine blk_alloc ?_ _)); exact BK224.out)) : gb225 ≠ gb224)); clear BK224; clear HB; have BK224 := n0_; have HB := n1_; have BK225 := n2_; have GW225 := n3_; have GE225 := n4_; have NB224_225 := n5_; have NB225_224 := n6_; clear n0_ n1_ n2_ n3_ n4_ n5_ n6_; clear hb hbox hg; have hnb11 := NB224_225.out; have hnc11 := NB225_224.out; have hcz12_0 : w10.cell? ⟨gb224, 0, none⟩ = some (.int .i64 a0_0) := (blk_cell BK224.out 0).trans rfl; have hcz12_1 : w10.cell? ⟨gb224, 1, none⟩ = some (.string a0_1) := (blk_cell BK224.out 1).trans rfl; have hcz12_2 : w10.cell? ⟨gb224, 2, none⟩ = some (.string a0_2) := (blk_cell BK224.out 2).trans rfl; have hcz12_3 : w10.cell? ⟨gb224, 3, none⟩ = some (.slice A0_3 l0_3.length c0_3) := (blk_cell BK224.out 3).trans rfl; have hcz12_4 : w10.cell? ⟨gb224, 4, none⟩ = some (.string a0_4) := (blk_cell BK224.out 4).trans rfl; have hcz12_5 : w10.cell? ⟨gb224, 5, none⟩ = some (.string a0_5) := (blk_cell BK224.out 5).trans rfl; have hfz12_0 := blk_frozen BK224.out 0; have hfz12_1 := blk_frozen BK224.out 1; have hfz12_2 := blk_frozen BK224.out 2; have hfz12_3 := blk_frozen BK224.out 3; have hfz12_4 := blk_frozen BK224.out 4; have hfz12_5 := blk_frozen BK224.out 5; have hcz13_0 : w10.cell? ⟨gb225, 0, none⟩ = some (.int .i64 a1_0) := (blk_cell BK225.out 0).trans rfl; have hcz13_1 : w10.cell? ⟨gb225, 1, none⟩ = some (.string a1_1) := (blk_cell BK225.out 1).trans rfl; have hcz13_2 : w10.cell? ⟨gb225, 2, none⟩ = some (.string a1_2) := (blk_cell BK225.out 2).trans rfl; have hcz13_3 : w10.cell? ⟨gb225, 3, none⟩ = some (.slice A1_3 l1_3.length c1_3) := (blk_cell BK225.out 3).trans rfl; have hcz13_4 : w10.cell? ⟨gb225, 4, none⟩ = some (.string a1_4) := (blk_cell BK225.out 4).trans rfl; have hcz13_5 : w10.cell? ⟨gb225, 5, none⟩ = some (.string a1_5) := (blk_cell BK225.out 5).trans rfl; have hfz13_0 := blk_frozen BK225.out 0; have hfz13_1 := blk_frozen BK225.out 1; have hfz13_2 := blk_frozen BK225.out 2; have hfz13_3 := blk_frozen BK225.out 3; have hfz13_4 := blk_frozen BK225.out 4; have hfz13_5 := blk_frozen BK225.out 5) | (go_at_call 35; (with_reducible refine (monticuleref01_Same.calls k _ _ l0_3 _ _ l1_3 t226 _ ?side1 ?side2 ?side3 ?side4 A8.out).mono ?_); (case side1 => repeat (first | exact (Kd.C_below HR0_3.out HB.out) | (with_reducible refine Kd.C_alloc ?_ _) | (with_reducible refine Kd.C_drewN ?_ _) | (with_reducible refine Kd.C_drew ?_))); (case side2 => exact HC0_3.out); (case side3 => repeat (first | exact (Kd.C_below HR1_3.out HB.out) | (with_reducible refine Kd.C_alloc ?_ _) | (with_reducible refine Kd.C_drewN ?_ _) | (with_reducible refine Kd.C_drew ?_))); (case side4 => exact HC1_3.out); rintro e w' ⟨rfl, ⟨nd, rfl⟩⟩))
            go_ret
            exact ⟨by first | rfl | (simp [errW_none, errW_some] <;> rfl) | (simp [*, errW_none, errW_some] <;> rfl), by repeat (first | (with_reducible first | exact HB.out | apply below_alloc | apply pw_below_drewN | apply below_drew1 | refine below_set ?_ GE224.out | refine below_set ?_ GE225.out) | exact HB.out)⟩
          · rw [if_neg c7] at H
            have c7b0 : (a0_5.toList == a1_5.toList) = false := beq_eq_false_iff_ne.mpr c7
            have c7b1 : (a0_5.toList != a1_5.toList) = true := bne_iff_ne.mpr c7
            obtain rfl := Option.some.inj H
            go_enter Tryz.func27, Tryz.ntmps27
            go_wp2_with (first | ((with_reducible refine gate_dst (N := 2) rfl ?_); refine box_event ?hg (N := 2) ?hd (cs := #[.int .i64 a0_0, .string a0_1, .string a0_2, .slice A0_3 l0_3.length c0_3, .string a0_4, .string a0_5]) (t := 33) ?hr ?_; (case hd => rfl); (case hg => rfl); (case hr => first | (go_simp; done) | (go_simp; rfl)); intro gb224 hg w14 hbox hb; have n0_ := Aside0.mk (below_step (by repeat (first | (with_reducible first | exact HB.out | apply below_alloc | apply pw_below_drewN | apply below_drew1) | exact HB.out)) hb); have n1_ := Aside0.mk (hbox); have n2_ := Aside0.mk ((by rw [hg]; exact (below_size (by repeat (first | (with_reducible first | exact HB.out | apply below_alloc | apply pw_below_drewN | apply below_drew1) | exact HB.out))) : w.heap.size ≤ gb224)); have n3_ := Aside0.mk ((by rw [hg]; exact (below_size (by repeat (first | (with_reducible first | exact HB.out | apply below_alloc | apply pw_below_drewN | apply below_drew1) | exact HB.out))) : w.heap.size ≤ gb224)); clear HB; have HB := n0_; have BK224 := n1_; have GW224 := n2_; have GE224 := n3_; clear n0_ n1_ n2_ n3_; clear hb hbox hg) | ((with_reducible refine gate_dst (N := 3) rfl ?_); refine box_event ?hg (N := 3) ?hd (cs := #[.int .i64 a1_0, .string a1_1, .string a1_2, .slice A1_3 l1_3.length c1_3, .string a1_4, .string a1_5]) (t := 33) ?hr ?_; (case hd => rfl); (case hg => rfl); (case hr => first | (go_simp; done) | (go_simp; rfl)); intro gb225 hg w15 hbox hb; have n0_ := Aside0.mk (blk_below (g := gb224) (o := .cells #[.int .i64 a0_0, .string a0_1, .string a0_2, .slice A0_3 l0_3.length c0_3, .string a0_4, .string a0_5] 33 (0, 0)) (by (with_reducible repeat (first | refine blk_drewN ?_ _ | refine blk_drew ?_ | refine blk_alloc ?_ _)); exact BK224.out) hb); have n1_ := Aside0.mk (below_step (by repeat (first | (with_reducible first | exact HB.out | apply below_alloc | apply pw_below_drewN | apply below_drew1 | refine below_set ?_ GE224.out) | exact HB.out)) hb); have n2_ := Aside0.mk (hbox); have n3_ := Aside0.mk ((by rw [hg]; exact (below_size (by repeat (first | (with_reducible first | exact HB.out | apply below_alloc | apply pw_below_drewN | apply below_drew1 | refine below_set ?_ GE224.out) | exact HB.out))) : w.heap.size ≤ gb225)); have n4_ := Aside0.mk ((by rw [hg]; exact (below_size (by repeat (first | (with_reducible first | exact HB.out | apply below_alloc | apply pw_below_drewN | apply below_drew1 | refine below_set ?_ GE224.out) | exact HB.out))) : w.heap.size ≤ gb225)); have n5_ := Aside0.mk ((by rw [hg]; exact Nat.ne_of_lt (blk_lt (g := gb224) (o := .cells #[.int .i64 a0_0, .string a0_1, .string a0_2, .slice A0_3 l0_3.length c0_3, .string a0_4, .string a0_5] 33 (0, 0)) (by (with_reducible repeat (first | refine blk_drewN ?_ _ | refine blk_drew ?_ | refine blk_alloc ?_ _)); exact BK224.out)) : gb224 ≠ gb225)); have n6_ := Aside0.mk ((by rw [hg]; exact Nat.ne_of_gt (blk_lt (g := gb224) (o := .cells #[.int .i64 a0_0, .string a0_1, .string a0_2, .slice A0_3 l0_3.length c0_3, .string a0_4, .string a0_5] 33 (0, 0)) (by (with_reducible repeat (first | refine blk_drewN ?_ _ | refine blk_drew ?_ | refine blk_alloc ?_ _)); exact BK224.out)) : gb225 ≠ gb224)); clear BK224; clear HB; have BK224 := n0_; have HB := n1_; have BK225 := n2_; have GW225 := n3_; have GE225 := n4_; have NB224_225 := n5_; have NB225_224 := n6_; clear n0_ n1_ n2_ n3_ n4_ n5_ n6_; clear hb hbox hg; have hnb16 := NB224_225.out; have hnc16 := NB225_224.out; have hcz17_0 : w15.cell? ⟨gb224, 0, none⟩ = some (.int .i64 a0_0) := (blk_cell BK224.out 0).trans rfl; have hcz17_1 : w15.cell? ⟨gb224, 1, none⟩ = some (.string a0_1) := (blk_cell BK224.out 1).trans rfl; have hcz17_2 : w15.cell? ⟨gb224, 2, none⟩ = some (.string a0_2) := (blk_cell BK224.out 2).trans rfl; have hcz17_3 : w15.cell? ⟨gb224, 3, none⟩ = some (.slice A0_3 l0_3.length c0_3) := (blk_cell BK224.out 3).trans rfl; have hcz17_4 : w15.cell? ⟨gb224, 4, none⟩ = some (.string a0_4) := (blk_cell BK224.out 4).trans rfl; have hcz17_5 : w15.cell? ⟨gb224, 5, none⟩ = some (.string a0_5) := (blk_cell BK224.out 5).trans rfl; have hfz17_0 := blk_frozen BK224.out 0; have hfz17_1 := blk_frozen BK224.out 1; have hfz17_2 := blk_frozen BK224.out 2; have hfz17_3 := blk_frozen BK224.out 3; have hfz17_4 := blk_frozen BK224.out 4; have hfz17_5 := blk_frozen BK224.out 5; have hcz18_0 : w15.cell? ⟨gb225, 0, none⟩ = some (.int .i64 a1_0) := (blk_cell BK225.out 0).trans rfl; have hcz18_1 : w15.cell? ⟨gb225, 1, none⟩ = some (.string a1_1) := (blk_cell BK225.out 1).trans rfl; have hcz18_2 : w15.cell? ⟨gb225, 2, none⟩ = some (.string a1_2) := (blk_cell BK225.out 2).trans rfl; have hcz18_3 : w15.cell? ⟨gb225, 3, none⟩ = some (.slice A1_3 l1_3.length c1_3) := (blk_cell BK225.out 3).trans rfl; have hcz18_4 : w15.cell? ⟨gb225, 4, none⟩ = some (.string a1_4) := (blk_cell BK225.out 4).trans rfl; have hcz18_5 : w15.cell? ⟨gb225, 5, none⟩ = some (.string a1_5) := (blk_cell BK225.out 5).trans rfl; have hfz18_0 := blk_frozen BK225.out 0; have hfz18_1 := blk_frozen BK225.out 1; have hfz18_2 := blk_frozen BK225.out 2; have hfz18_3 := blk_frozen BK225.out 3; have hfz18_4 := blk_frozen BK225.out 4; have hfz18_5 := blk_frozen BK225.out 5))
            go_ret
            exact ⟨by first | rfl | (simp [errW_none, errW_some] <;> rfl) | (simp [*, errW_none, errW_some] <;> rfl), by repeat (first | (with_reducible first | exact HB.out | apply below_alloc | apply pw_below_drewN | apply below_drew1 | refine below_set ?_ GE224.out | refine below_set ?_ GE225.out) | exact HB.out)⟩
        · rw [if_neg c6] at H
          have c6b0 : (a0_4.toList == a1_4.toList) = false := beq_eq_false_iff_ne.mpr c6
          have c6b1 : (a0_4.toList != a1_4.toList) = true := bne_iff_ne.mpr c6
          obtain rfl := Option.some.inj H
          go_enter Tryz.func27, Tryz.ntmps27
          go_wp2_with (first | ((with_reducible refine gate_dst (N := 2) rfl ?_); refine box_event ?hg (N := 2) ?hd (cs := #[.int .i64 a0_0, .string a0_1, .string a0_2, .slice A0_3 l0_3.length c0_3, .string a0_4, .string a0_5]) (t := 33) ?hr ?_; (case hd => rfl); (case hg => rfl); (case hr => first | (go_simp; done) | (go_simp; rfl)); intro gb224 hg w19 hbox hb; have n0_ := Aside0.mk (below_step (by repeat (first | (with_reducible first | exact HB.out | apply below_alloc | apply pw_below_drewN | apply below_drew1) | exact HB.out)) hb); have n1_ := Aside0.mk (hbox); have n2_ := Aside0.mk ((by rw [hg]; exact (below_size (by repeat (first | (with_reducible first | exact HB.out | apply below_alloc | apply pw_below_drewN | apply below_drew1) | exact HB.out))) : w.heap.size ≤ gb224)); have n3_ := Aside0.mk ((by rw [hg]; exact (below_size (by repeat (first | (with_reducible first | exact HB.out | apply below_alloc | apply pw_below_drewN | apply below_drew1) | exact HB.out))) : w.heap.size ≤ gb224)); clear HB; have HB := n0_; have BK224 := n1_; have GW224 := n2_; have GE224 := n3_; clear n0_ n1_ n2_ n3_; clear hb hbox hg) | ((with_reducible refine gate_dst (N := 3) rfl ?_); refine box_event ?hg (N := 3) ?hd (cs := #[.int .i64 a1_0, .string a1_1, .string a1_2, .slice A1_3 l1_3.length c1_3, .string a1_4, .string a1_5]) (t := 33) ?hr ?_; (case hd => rfl); (case hg => rfl); (case hr => first | (go_simp; done) | (go_simp; rfl)); intro gb225 hg w20 hbox hb; have n0_ := Aside0.mk (blk_below (g := gb224) (o := .cells #[.int .i64 a0_0, .string a0_1, .string a0_2, .slice A0_3 l0_3.length c0_3, .string a0_4, .string a0_5] 33 (0, 0)) (by (with_reducible repeat (first | refine blk_drewN ?_ _ | refine blk_drew ?_ | refine blk_alloc ?_ _)); exact BK224.out) hb); have n1_ := Aside0.mk (below_step (by repeat (first | (with_reducible first | exact HB.out | apply below_alloc | apply pw_below_drewN | apply below_drew1 | refine below_set ?_ GE224.out) | exact HB.out)) hb); have n2_ := Aside0.mk (hbox); have n3_ := Aside0.mk ((by rw [hg]; exact (below_size (by repeat (first | (with_reducible first | exact HB.out | apply below_alloc | apply pw_below_drewN | apply below_drew1 | refine below_set ?_ GE224.out) | exact HB.out))) : w.heap.size ≤ gb225)); have n4_ := Aside0.mk ((by rw [hg]; exact (below_size (by repeat (first | (with_reducible first | exact HB.out | apply below_alloc | apply pw_below_drewN | apply below_drew1 | refine below_set ?_ GE224.out) | exact HB.out))) : w.heap.size ≤ gb225)); have n5_ := Aside0.mk ((by rw [hg]; exact Nat.ne_of_lt (blk_lt (g := gb224) (o := .cells #[.int .i64 a0_0, .string a0_1, .string a0_2, .slice A0_3 l0_3.length c0_3, .string a0_4, .string a0_5] 33 (0, 0)) (by (with_reducible repeat (first | refine blk_drewN ?_ _ | refine blk_drew ?_ | refine blk_alloc ?_ _)); exact BK224.out)) : gb224 ≠ gb225)); have n6_ := Aside0.mk ((by rw [hg]; exact Nat.ne_of_gt (blk_lt (g := gb224) (o := .cells #[.int .i64 a0_0, .string a0_1, .string a0_2, .slice A0_3 l0_3.length c0_3, .string a0_4, .string a0_5] 33 (0, 0)) (by (with_reducible repeat (first | refine blk_drewN ?_ _ | refine blk_drew ?_ | refine blk_alloc ?_ _)); exact BK224.out)) : gb225 ≠ gb224)); clear BK224; clear HB; have BK224 := n0_; have HB := n1_; have BK225 := n2_; have GW225 := n3_; have GE225 := n4_; have NB224_225 := n5_; have NB225_224 := n6_; clear n0_ n1_ n2_ n3_ n4_ n5_ n6_; clear hb hbox hg; have hnb21 := NB224_225.out; have hnc21 := NB225_224.out; have hcz22_0 : w20.cell? ⟨gb224, 0, none⟩ = some (.int .i64 a0_0) := (blk_cell BK224.out 0).trans rfl; have hcz22_1 : w20.cell? ⟨gb224, 1, none⟩ = some (.string a0_1) := (blk_cell BK224.out 1).trans rfl; have hcz22_2 : w20.cell? ⟨gb224, 2, none⟩ = some (.string a0_2) := (blk_cell BK224.out 2).trans rfl; have hcz22_3 : w20.cell? ⟨gb224, 3, none⟩ = some (.slice A0_3 l0_3.length c0_3) := (blk_cell BK224.out 3).trans rfl; have hcz22_4 : w20.cell? ⟨gb224, 4, none⟩ = some (.string a0_4) := (blk_cell BK224.out 4).trans rfl; have hcz22_5 : w20.cell? ⟨gb224, 5, none⟩ = some (.string a0_5) := (blk_cell BK224.out 5).trans rfl; have hfz22_0 := blk_frozen BK224.out 0; have hfz22_1 := blk_frozen BK224.out 1; have hfz22_2 := blk_frozen BK224.out 2; have hfz22_3 := blk_frozen BK224.out 3; have hfz22_4 := blk_frozen BK224.out 4; have hfz22_5 := blk_frozen BK224.out 5; have hcz23_0 : w20.cell? ⟨gb225, 0, none⟩ = some (.int .i64 a1_0) := (blk_cell BK225.out 0).trans rfl; have hcz23_1 : w20.cell? ⟨gb225, 1, none⟩ = some (.string a1_1) := (blk_cell BK225.out 1).trans rfl; have hcz23_2 : w20.cell? ⟨gb225, 2, none⟩ = some (.string a1_2) := (blk_cell BK225.out 2).trans rfl; have hcz23_3 : w20.cell? ⟨gb225, 3, none⟩ = some (.slice A1_3 l1_3.length c1_3) := (blk_cell BK225.out 3).trans rfl; have hcz23_4 : w20.cell? ⟨gb225, 4, none⟩ = some (.string a1_4) := (blk_cell BK225.out 4).trans rfl; have hcz23_5 : w20.cell? ⟨gb225, 5, none⟩ = some (.string a1_5) := (blk_cell BK225.out 5).trans rfl; have hfz23_0 := blk_frozen BK225.out 0; have hfz23_1 := blk_frozen BK225.out 1; have hfz23_2 := blk_frozen BK225.out 2; have hfz23_3 := blk_frozen BK225.out 3; have hfz23_4 := blk_frozen BK225.out 4; have hfz23_5 := blk_frozen BK225.out 5))
          go_ret
          exact ⟨by first | rfl | (simp [errW_none, errW_some] <;> rfl) | (simp [*, errW_none, errW_some] <;> rfl), by repeat (first | (with_reducible first | exact HB.out | apply below_alloc | apply pw_below_drewN | apply below_drew1 | refine below_set ?_ GE224.out | refine below_set ?_ GE225.out) | exact HB.out)⟩
      · rw [if_neg c5] at H
        have c5b0 : (a0_2.toList == a1_2.toList) = false := beq_eq_false_iff_ne.mpr c5
        have c5b1 : (a0_2.toList != a1_2.toList) = true := bne_iff_ne.mpr c5
        obtain rfl := Option.some.inj H
        go_enter Tryz.func27, Tryz.ntmps27
        go_wp2_with (first | ((with_reducible refine gate_dst (N := 2) rfl ?_); refine box_event ?hg (N := 2) ?hd (cs := #[.int .i64 a0_0, .string a0_1, .string a0_2, .slice A0_3 l0_3.length c0_3, .string a0_4, .string a0_5]) (t := 33) ?hr ?_; (case hd => rfl); (case hg => rfl); (case hr => first | (go_simp; done) | (go_simp; rfl)); intro gb224 hg w24 hbox hb; have n0_ := Aside0.mk (below_step (by repeat (first | (with_reducible first | exact HB.out | apply below_alloc | apply pw_below_drewN | apply below_drew1) | exact HB.out)) hb); have n1_ := Aside0.mk (hbox); have n2_ := Aside0.mk ((by rw [hg]; exact (below_size (by repeat (first | (with_reducible first | exact HB.out | apply below_alloc | apply pw_below_drewN | apply below_drew1) | exact HB.out))) : w.heap.size ≤ gb224)); have n3_ := Aside0.mk ((by rw [hg]; exact (below_size (by repeat (first | (with_reducible first | exact HB.out | apply below_alloc | apply pw_below_drewN | apply below_drew1) | exact HB.out))) : w.heap.size ≤ gb224)); clear HB; have HB := n0_; have BK224 := n1_; have GW224 := n2_; have GE224 := n3_; clear n0_ n1_ n2_ n3_; clear hb hbox hg) | ((with_reducible refine gate_dst (N := 3) rfl ?_); refine box_event ?hg (N := 3) ?hd (cs := #[.int .i64 a1_0, .string a1_1, .string a1_2, .slice A1_3 l1_3.length c1_3, .string a1_4, .string a1_5]) (t := 33) ?hr ?_; (case hd => rfl); (case hg => rfl); (case hr => first | (go_simp; done) | (go_simp; rfl)); intro gb225 hg w25 hbox hb; have n0_ := Aside0.mk (blk_below (g := gb224) (o := .cells #[.int .i64 a0_0, .string a0_1, .string a0_2, .slice A0_3 l0_3.length c0_3, .string a0_4, .string a0_5] 33 (0, 0)) (by (with_reducible repeat (first | refine blk_drewN ?_ _ | refine blk_drew ?_ | refine blk_alloc ?_ _)); exact BK224.out) hb); have n1_ := Aside0.mk (below_step (by repeat (first | (with_reducible first | exact HB.out | apply below_alloc | apply pw_below_drewN | apply below_drew1 | refine below_set ?_ GE224.out) | exact HB.out)) hb); have n2_ := Aside0.mk (hbox); have n3_ := Aside0.mk ((by rw [hg]; exact (below_size (by repeat (first | (with_reducible first | exact HB.out | apply below_alloc | apply pw_below_drewN | apply below_drew1 | refine below_set ?_ GE224.out) | exact HB.out))) : w.heap.size ≤ gb225)); have n4_ := Aside0.mk ((by rw [hg]; exact (below_size (by repeat (first | (with_reducible first | exact HB.out | apply below_alloc | apply pw_below_drewN | apply below_drew1 | refine below_set ?_ GE224.out) | exact HB.out))) : w.heap.size ≤ gb225)); have n5_ := Aside0.mk ((by rw [hg]; exact Nat.ne_of_lt (blk_lt (g := gb224) (o := .cells #[.int .i64 a0_0, .string a0_1, .string a0_2, .slice A0_3 l0_3.length c0_3, .string a0_4, .string a0_5] 33 (0, 0)) (by (with_reducible repeat (first | refine blk_drewN ?_ _ | refine blk_drew ?_ | refine blk_alloc ?_ _)); exact BK224.out)) : gb224 ≠ gb225)); have n6_ := Aside0.mk ((by rw [hg]; exact Nat.ne_of_gt (blk_lt (g := gb224) (o := .cells #[.int .i64 a0_0, .string a0_1, .string a0_2, .slice A0_3 l0_3.length c0_3, .string a0_4, .string a0_5] 33 (0, 0)) (by (with_reducible repeat (first | refine blk_drewN ?_ _ | refine blk_drew ?_ | refine blk_alloc ?_ _)); exact BK224.out)) : gb225 ≠ gb224)); clear BK224; clear HB; have BK224 := n0_; have HB := n1_; have BK225 := n2_; have GW225 := n3_; have GE225 := n4_; have NB224_225 := n5_; have NB225_224 := n6_; clear n0_ n1_ n2_ n3_ n4_ n5_ n6_; clear hb hbox hg; have hnb26 := NB224_225.out; have hnc26 := NB225_224.out; have hcz27_0 : w25.cell? ⟨gb224, 0, none⟩ = some (.int .i64 a0_0) := (blk_cell BK224.out 0).trans rfl; have hcz27_1 : w25.cell? ⟨gb224, 1, none⟩ = some (.string a0_1) := (blk_cell BK224.out 1).trans rfl; have hcz27_2 : w25.cell? ⟨gb224, 2, none⟩ = some (.string a0_2) := (blk_cell BK224.out 2).trans rfl; have hcz27_3 : w25.cell? ⟨gb224, 3, none⟩ = some (.slice A0_3 l0_3.length c0_3) := (blk_cell BK224.out 3).trans rfl; have hcz27_4 : w25.cell? ⟨gb224, 4, none⟩ = some (.string a0_4) := (blk_cell BK224.out 4).trans rfl; have hcz27_5 : w25.cell? ⟨gb224, 5, none⟩ = some (.string a0_5) := (blk_cell BK224.out 5).trans rfl; have hfz27_0 := blk_frozen BK224.out 0; have hfz27_1 := blk_frozen BK224.out 1; have hfz27_2 := blk_frozen BK224.out 2; have hfz27_3 := blk_frozen BK224.out 3; have hfz27_4 := blk_frozen BK224.out 4; have hfz27_5 := blk_frozen BK224.out 5; have hcz28_0 : w25.cell? ⟨gb225, 0, none⟩ = some (.int .i64 a1_0) := (blk_cell BK225.out 0).trans rfl; have hcz28_1 : w25.cell? ⟨gb225, 1, none⟩ = some (.string a1_1) := (blk_cell BK225.out 1).trans rfl; have hcz28_2 : w25.cell? ⟨gb225, 2, none⟩ = some (.string a1_2) := (blk_cell BK225.out 2).trans rfl; have hcz28_3 : w25.cell? ⟨gb225, 3, none⟩ = some (.slice A1_3 l1_3.length c1_3) := (blk_cell BK225.out 3).trans rfl; have hcz28_4 : w25.cell? ⟨gb225, 4, none⟩ = some (.string a1_4) := (blk_cell BK225.out 4).trans rfl; have hcz28_5 : w25.cell? ⟨gb225, 5, none⟩ = some (.string a1_5) := (blk_cell BK225.out 5).trans rfl; have hfz28_0 := blk_frozen BK225.out 0; have hfz28_1 := blk_frozen BK225.out 1; have hfz28_2 := blk_frozen BK225.out 2; have hfz28_3 := blk_frozen BK225.out 3; have hfz28_4 := blk_frozen BK225.out 4; have hfz28_5 := blk_frozen BK225.out 5))
        go_ret
        exact ⟨by first | rfl | (simp [errW_none, errW_some] <;> rfl) | (simp [*, errW_none, errW_some] <;> rfl), by repeat (first | (with_reducible first | exact HB.out | apply below_alloc | apply pw_below_drewN | apply below_drew1 | refine below_set ?_ GE224.out | refine below_set ?_ GE225.out) | exact HB.out)⟩
    · rw [if_neg c4] at H
      have c4b0 : (a0_1.toList == a1_1.toList) = false := beq_eq_false_iff_ne.mpr c4
      have c4b1 : (a0_1.toList != a1_1.toList) = true := bne_iff_ne.mpr c4
      obtain rfl := Option.some.inj H
      go_enter Tryz.func27, Tryz.ntmps27
      go_wp2_with (first | ((with_reducible refine gate_dst (N := 2) rfl ?_); refine box_event ?hg (N := 2) ?hd (cs := #[.int .i64 a0_0, .string a0_1, .string a0_2, .slice A0_3 l0_3.length c0_3, .string a0_4, .string a0_5]) (t := 33) ?hr ?_; (case hd => rfl); (case hg => rfl); (case hr => first | (go_simp; done) | (go_simp; rfl)); intro gb224 hg w29 hbox hb; have n0_ := Aside0.mk (below_step (by repeat (first | (with_reducible first | exact HB.out | apply below_alloc | apply pw_below_drewN | apply below_drew1) | exact HB.out)) hb); have n1_ := Aside0.mk (hbox); have n2_ := Aside0.mk ((by rw [hg]; exact (below_size (by repeat (first | (with_reducible first | exact HB.out | apply below_alloc | apply pw_below_drewN | apply below_drew1) | exact HB.out))) : w.heap.size ≤ gb224)); have n3_ := Aside0.mk ((by rw [hg]; exact (below_size (by repeat (first | (with_reducible first | exact HB.out | apply below_alloc | apply pw_below_drewN | apply below_drew1) | exact HB.out))) : w.heap.size ≤ gb224)); clear HB; have HB := n0_; have BK224 := n1_; have GW224 := n2_; have GE224 := n3_; clear n0_ n1_ n2_ n3_; clear hb hbox hg) | ((with_reducible refine gate_dst (N := 3) rfl ?_); refine box_event ?hg (N := 3) ?hd (cs := #[.int .i64 a1_0, .string a1_1, .string a1_2, .slice A1_3 l1_3.length c1_3, .string a1_4, .string a1_5]) (t := 33) ?hr ?_; (case hd => rfl); (case hg => rfl); (case hr => first | (go_simp; done) | (go_simp; rfl)); intro gb225 hg w30 hbox hb; have n0_ := Aside0.mk (blk_below (g := gb224) (o := .cells #[.int .i64 a0_0, .string a0_1, .string a0_2, .slice A0_3 l0_3.length c0_3, .string a0_4, .string a0_5] 33 (0, 0)) (by (with_reducible repeat (first | refine blk_drewN ?_ _ | refine blk_drew ?_ | refine blk_alloc ?_ _)); exact BK224.out) hb); have n1_ := Aside0.mk (below_step (by repeat (first | (with_reducible first | exact HB.out | apply below_alloc | apply pw_below_drewN | apply below_drew1 | refine below_set ?_ GE224.out) | exact HB.out)) hb); have n2_ := Aside0.mk (hbox); have n3_ := Aside0.mk ((by rw [hg]; exact (below_size (by repeat (first | (with_reducible first | exact HB.out | apply below_alloc | apply pw_below_drewN | apply below_drew1 | refine below_set ?_ GE224.out) | exact HB.out))) : w.heap.size ≤ gb225)); have n4_ := Aside0.mk ((by rw [hg]; exact (below_size (by repeat (first | (with_reducible first | exact HB.out | apply below_alloc | apply pw_below_drewN | apply below_drew1 | refine below_set ?_ GE224.out) | exact HB.out))) : w.heap.size ≤ gb225)); have n5_ := Aside0.mk ((by rw [hg]; exact Nat.ne_of_lt (blk_lt (g := gb224) (o := .cells #[.int .i64 a0_0, .string a0_1, .string a0_2, .slice A0_3 l0_3.length c0_3, .string a0_4, .string a0_5] 33 (0, 0)) (by (with_reducible repeat (first | refine blk_drewN ?_ _ | refine blk_drew ?_ | refine blk_alloc ?_ _)); exact BK224.out)) : gb224 ≠ gb225)); have n6_ := Aside0.mk ((by rw [hg]; exact Nat.ne_of_gt (blk_lt (g := gb224) (o := .cells #[.int .i64 a0_0, .string a0_1, .string a0_2, .slice A0_3 l0_3.length c0_3, .string a0_4, .string a0_5] 33 (0, 0)) (by (with_reducible repeat (first | refine blk_drewN ?_ _ | refine blk_drew ?_ | refine blk_alloc ?_ _)); exact BK224.out)) : gb225 ≠ gb224)); clear BK224; clear HB; have BK224 := n0_; have HB := n1_; have BK225 := n2_; have GW225 := n3_; have GE225 := n4_; have NB224_225 := n5_; have NB225_224 := n6_; clear n0_ n1_ n2_ n3_ n4_ n5_ n6_; clear hb hbox hg; have hnb31 := NB224_225.out; have hnc31 := NB225_224.out; have hcz32_0 : w30.cell? ⟨gb224, 0, none⟩ = some (.int .i64 a0_0) := (blk_cell BK224.out 0).trans rfl; have hcz32_1 : w30.cell? ⟨gb224, 1, none⟩ = some (.string a0_1) := (blk_cell BK224.out 1).trans rfl; have hcz32_2 : w30.cell? ⟨gb224, 2, none⟩ = some (.string a0_2) := (blk_cell BK224.out 2).trans rfl; have hcz32_3 : w30.cell? ⟨gb224, 3, none⟩ = some (.slice A0_3 l0_3.length c0_3) := (blk_cell BK224.out 3).trans rfl; have hcz32_4 : w30.cell? ⟨gb224, 4, none⟩ = some (.string a0_4) := (blk_cell BK224.out 4).trans rfl; have hcz32_5 : w30.cell? ⟨gb224, 5, none⟩ = some (.string a0_5) := (blk_cell BK224.out 5).trans rfl; have hfz32_0 := blk_frozen BK224.out 0; have hfz32_1 := blk_frozen BK224.out 1; have hfz32_2 := blk_frozen BK224.out 2; have hfz32_3 := blk_frozen BK224.out 3; have hfz32_4 := blk_frozen BK224.out 4; have hfz32_5 := blk_frozen BK224.out 5; have hcz33_0 : w30.cell? ⟨gb225, 0, none⟩ = some (.int .i64 a1_0) := (blk_cell BK225.out 0).trans rfl; have hcz33_1 : w30.cell? ⟨gb225, 1, none⟩ = some (.string a1_1) := (blk_cell BK225.out 1).trans rfl; have hcz33_2 : w30.cell? ⟨gb225, 2, none⟩ = some (.string a1_2) := (blk_cell BK225.out 2).trans rfl; have hcz33_3 : w30.cell? ⟨gb225, 3, none⟩ = some (.slice A1_3 l1_3.length c1_3) := (blk_cell BK225.out 3).trans rfl; have hcz33_4 : w30.cell? ⟨gb225, 4, none⟩ = some (.string a1_4) := (blk_cell BK225.out 4).trans rfl; have hcz33_5 : w30.cell? ⟨gb225, 5, none⟩ = some (.string a1_5) := (blk_cell BK225.out 5).trans rfl; have hfz33_0 := blk_frozen BK225.out 0; have hfz33_1 := blk_frozen BK225.out 1; have hfz33_2 := blk_frozen BK225.out 2; have hfz33_3 := blk_frozen BK225.out 3; have hfz33_4 := blk_frozen BK225.out 4; have hfz33_5 := blk_frozen BK225.out 5))
      go_ret
      exact ⟨by first | rfl | (simp [errW_none, errW_some] <;> rfl) | (simp [*, errW_none, errW_some] <;> rfl), by repeat (first | (with_reducible first | exact HB.out | apply below_alloc | apply pw_below_drewN | apply below_drew1 | refine below_set ?_ GE224.out | refine below_set ?_ GE225.out) | exact HB.out)⟩
  · rw [if_neg c3] at H
    have c3b0 : (a0_0 == a1_0) = false := beq_eq_false_iff_ne.mpr c3
    have c3b1 : (a0_0 != a1_0) = true := bne_iff_ne.mpr c3
    obtain rfl := Option.some.inj H
    go_enter Tryz.func27, Tryz.ntmps27
    go_wp2_with (first | ((with_reducible refine gate_dst (N := 2) rfl ?_); refine box_event ?hg (N := 2) ?hd (cs := #[.int .i64 a0_0, .string a0_1, .string a0_2, .slice A0_3 l0_3.length c0_3, .string a0_4, .string a0_5]) (t := 33) ?hr ?_; (case hd => rfl); (case hg => rfl); (case hr => first | (go_simp; done) | (go_simp; rfl)); intro gb224 hg w34 hbox hb; have n0_ := Aside0.mk (below_step (by repeat (first | (with_reducible first | exact HB.out | apply below_alloc | apply pw_below_drewN | apply below_drew1) | exact HB.out)) hb); have n1_ := Aside0.mk (hbox); have n2_ := Aside0.mk ((by rw [hg]; exact (below_size (by repeat (first | (with_reducible first | exact HB.out | apply below_alloc | apply pw_below_drewN | apply below_drew1) | exact HB.out))) : w.heap.size ≤ gb224)); have n3_ := Aside0.mk ((by rw [hg]; exact (below_size (by repeat (first | (with_reducible first | exact HB.out | apply below_alloc | apply pw_below_drewN | apply below_drew1) | exact HB.out))) : w.heap.size ≤ gb224)); clear HB; have HB := n0_; have BK224 := n1_; have GW224 := n2_; have GE224 := n3_; clear n0_ n1_ n2_ n3_; clear hb hbox hg) | ((with_reducible refine gate_dst (N := 3) rfl ?_); refine box_event ?hg (N := 3) ?hd (cs := #[.int .i64 a1_0, .string a1_1, .string a1_2, .slice A1_3 l1_3.length c1_3, .string a1_4, .string a1_5]) (t := 33) ?hr ?_; (case hd => rfl); (case hg => rfl); (case hr => first | (go_simp; done) | (go_simp; rfl)); intro gb225 hg w35 hbox hb; have n0_ := Aside0.mk (blk_below (g := gb224) (o := .cells #[.int .i64 a0_0, .string a0_1, .string a0_2, .slice A0_3 l0_3.length c0_3, .string a0_4, .string a0_5] 33 (0, 0)) (by (with_reducible repeat (first | refine blk_drewN ?_ _ | refine blk_drew ?_ | refine blk_alloc ?_ _)); exact BK224.out) hb); have n1_ := Aside0.mk (below_step (by repeat (first | (with_reducible first | exact HB.out | apply below_alloc | apply pw_below_drewN | apply below_drew1 | refine below_set ?_ GE224.out) | exact HB.out)) hb); have n2_ := Aside0.mk (hbox); have n3_ := Aside0.mk ((by rw [hg]; exact (below_size (by repeat (first | (with_reducible first | exact HB.out | apply below_alloc | apply pw_below_drewN | apply below_drew1 | refine below_set ?_ GE224.out) | exact HB.out))) : w.heap.size ≤ gb225)); have n4_ := Aside0.mk ((by rw [hg]; exact (below_size (by repeat (first | (with_reducible first | exact HB.out | apply below_alloc | apply pw_below_drewN | apply below_drew1 | refine below_set ?_ GE224.out) | exact HB.out))) : w.heap.size ≤ gb225)); have n5_ := Aside0.mk ((by rw [hg]; exact Nat.ne_of_lt (blk_lt (g := gb224) (o := .cells #[.int .i64 a0_0, .string a0_1, .string a0_2, .slice A0_3 l0_3.length c0_3, .string a0_4, .string a0_5] 33 (0, 0)) (by (with_reducible repeat (first | refine blk_drewN ?_ _ | refine blk_drew ?_ | refine blk_alloc ?_ _)); exact BK224.out)) : gb224 ≠ gb225)); have n6_ := Aside0.mk ((by rw [hg]; exact Nat.ne_of_gt (blk_lt (g := gb224) (o := .cells #[.int .i64 a0_0, .string a0_1, .string a0_2, .slice A0_3 l0_3.length c0_3, .string a0_4, .string a0_5] 33 (0, 0)) (by (with_reducible repeat (first | refine blk_drewN ?_ _ | refine blk_drew ?_ | refine blk_alloc ?_ _)); exact BK224.out)) : gb225 ≠ gb224)); clear BK224; clear HB; have BK224 := n0_; have HB := n1_; have BK225 := n2_; have GW225 := n3_; have GE225 := n4_; have NB224_225 := n5_; have NB225_224 := n6_; clear n0_ n1_ n2_ n3_ n4_ n5_ n6_; clear hb hbox hg; have hnb36 := NB224_225.out; have hnc36 := NB225_224.out; have hcz37_0 : w35.cell? ⟨gb224, 0, none⟩ = some (.int .i64 a0_0) := (blk_cell BK224.out 0).trans rfl; have hcz37_1 : w35.cell? ⟨gb224, 1, none⟩ = some (.string a0_1) := (blk_cell BK224.out 1).trans rfl; have hcz37_2 : w35.cell? ⟨gb224, 2, none⟩ = some (.string a0_2) := (blk_cell BK224.out 2).trans rfl; have hcz37_3 : w35.cell? ⟨gb224, 3, none⟩ = some (.slice A0_3 l0_3.length c0_3) := (blk_cell BK224.out 3).trans rfl; have hcz37_4 : w35.cell? ⟨gb224, 4, none⟩ = some (.string a0_4) := (blk_cell BK224.out 4).trans rfl; have hcz37_5 : w35.cell? ⟨gb224, 5, none⟩ = some (.string a0_5) := (blk_cell BK224.out 5).trans rfl; have hfz37_0 := blk_frozen BK224.out 0; have hfz37_1 := blk_frozen BK224.out 1; have hfz37_2 := blk_frozen BK224.out 2; have hfz37_3 := blk_frozen BK224.out 3; have hfz37_4 := blk_frozen BK224.out 4; have hfz37_5 := blk_frozen BK224.out 5; have hcz38_0 : w35.cell? ⟨gb225, 0, none⟩ = some (.int .i64 a1_0) := (blk_cell BK225.out 0).trans rfl; have hcz38_1 : w35.cell? ⟨gb225, 1, none⟩ = some (.string a1_1) := (blk_cell BK225.out 1).trans rfl; have hcz38_2 : w35.cell? ⟨gb225, 2, none⟩ = some (.string a1_2) := (blk_cell BK225.out 2).trans rfl; have hcz38_3 : w35.cell? ⟨gb225, 3, none⟩ = some (.slice A1_3 l1_3.length c1_3) := (blk_cell BK225.out 3).trans rfl; have hcz38_4 : w35.cell? ⟨gb225, 4, none⟩ = some (.string a1_4) := (blk_cell BK225.out 4).trans rfl; have hcz38_5 : w35.cell? ⟨gb225, 5, none⟩ = some (.string a1_5) := (blk_cell BK225.out 5).trans rfl; have hfz38_0 := blk_frozen BK225.out 0; have hfz38_1 := blk_frozen BK225.out 1; have hfz38_2 := blk_frozen BK225.out 2; have hfz38_3 := blk_frozen BK225.out 3; have hfz38_4 := blk_frozen BK225.out 4; have hfz38_5 := blk_frozen BK225.out 5))
    go_ret
    exact ⟨by first | rfl | (simp [errW_none, errW_some] <;> rfl) | (simp [*, errW_none, errW_some] <;> rfl), by repeat (first | (with_reducible first | exact HB.out | apply below_alloc | apply pw_below_drewN | apply below_drew1 | refine below_set ?_ GE224.out | refine below_set ?_ GE225.out) | exact HB.out)⟩

end Go.Proofs.YtodpdlpncgkkdaaGreatDoor.P
end
section
namespace Go.Proofs.YtodpdlpncgkkdaaGreatDoor.P
open Go.RowKit Go.Proofs.YtodpdlpncgkkdaaGreatDoorW.PrintWords Go.Proofs.YtodpdlpncgkkdaaGreatDoorW.PrintLast Go.Proofs.YtodpdlpncgkkdaaGreatDoorW.PrintMore
attribute [local go_sem] max2_int min2_int max_two min_two max_three min_three max_four min_four   -- for this text's walks alone
set_option linter.unusedVariables false
set_option linter.unusedSimpArgs false

/-! ### slices_Equal_string_string: function 140 -/
def slices_Equal_string_string.l0 : Nat → List ByteArray → List ByteArray → Int → Int → Option (Bool)
  | 0, _, _, _, _ => none
  | k + 1, x0, x1, x12, x13 => if x13 < x12 then (if 0 ≤ x13 then (if x13 < (x0.length : Int) then (if x13 < (x1.length : Int) then (if (rdOf ByteArray.empty x0 x13).toList = (rdOf ByteArray.empty x1 x13).toList then (slices_Equal_string_string.l0 k x0 x1 x12 (wrap64 (x13 + 1))) else (some false)) else (none)) else (none)) else (none)) else (some true)
def slices_Equal_string_string.f (k : Nat) (l0 : List ByteArray) (l1 : List ByteArray) : Option (Bool) := if (l0.length : Int) = (l1.length : Int) then (slices_Equal_string_string.l0 k l0 l1 (l0.length : Int) 0) else (some false)
theorem slices_Equal_string_string.mono_l : ∀ k, (∀ y0 y1 y2 y3, LeO (slices_Equal_string_string.l0 k y0 y1 y2 y3) (slices_Equal_string_string.l0 (k + 1) y0 y1 y2 y3))
  | 0 => fun _ _ _ _ r h => by simp [slices_Equal_string_string.l0] at h
  | k + 1 => by
    have ih0 := slices_Equal_string_string.mono_l k
    · intro y0 y1 y2 y3
      unfold slices_Equal_string_string.l0
      repeat' first
      | (with_reducible exact ih0 _ _ _ _)
      | (with_reducible exact LeO.refl _)
      | (with_reducible exact LeO.none _)
      | (with_reducible refine LeO.ite ?_ ?_)
      | (with_reducible refine LeO.bind ?_ (fun _ => ?_))
      | exact ih0 _ _ _ _
      | exact LeO.none _
      | refine LeO.ite ?_ ?_
      | refine LeO.bind ?_ (fun _ => ?_)
theorem slices_Equal_string_string.mono : ∀ a0 a1 k, LeO (slices_Equal_string_string.f k a0 a1) (slices_Equal_string_string.f (k + 1) a0 a1) := by
  intro a0 a1 k
  have ih0 := slices_Equal_string_string.mono_l k
  unfold slices_Equal_string_string.f
  repeat' first
      | (with_reducible exact ih0 _ _ _ _)
      | (with_reducible exact LeO.refl _)
      | (with_reducible exact LeO.none _)
      | (with_reducible refine LeO.ite ?_ ?_)
      | (with_reducible refine LeO.bind ?_ (fun _ => ?_))
      | exact ih0 _ _ _ _
      | exact LeO.none _
      | refine LeO.ite ?_ ?_
      | refine LeO.bind ?_ (fun _ => ?_)
set_option maxHeartbeats 8000000 in
set_option maxRecDepth 100000 in
theorem slices_Equal_string_string.calls (k : Nat) (A0 : Option Addr) (c0 : Nat) (l0 : List ByteArray) (A1 : Option Addr) (c1 : Nat) (l1 : List ByteArray) (r : Bool) (w : World) (hr0 : Kd.C Kd.string w A0 l0.length l0) (hc0 : l0.length ≤ c0) (hr1 : Kd.C Kd.string w A1 l1.length l1) (hc1 : l1.length ≤ c1) (h : slices_Equal_string_string.f k l0 l1 = some r) :
    Calls Tryz.prog 140 #[.slice A0 l0.length c0, .slice A1 l1.length c1] w fun e w' => e = .returned (.bool r) ∧ Drawn0 w w' := by
  have HR0 := Aside0.mk hr0
  have HC0 := Aside0.mk hc0
  clear hr0 hc0
  have HR1 := Aside0.mk hr1
  have HC1 := Aside0.mk hc1
  clear hr1 hc1
  have H : (if (l0.length : Int) = (l1.length : Int) then (slices_Equal_string_string.l0 k l0 l1 (l0.length : Int) 0) else (some false)) = some r := h
  clear h
  by_cases c3 : (l0.length : Int) = (l1.length : Int)
  · rw [if_pos c3] at H
    have c3b0 : ((l0.length : Int) == (l1.length : Int)) = true := beq_iff_eq.mpr c3
    have c3b1 : ((l0.length : Int) != (l1.length : Int)) = false := bne_eq_false_iff_eq.mpr c3
    have c3b2 : (l0.length == l1.length) = true := by first | simpa using c3 | (simp at c3 ⊢; omega)
    clear c3
    have H' := Aside0.mk H
    clear H
    go_enter Tryz.func140, Tryz.ntmps140
    go_wp2
    repeat (go_quiet (fail); try go_wp2)
    go_loopg [13] k (fun kq v13 w' => ∃ (x13_1 : Int), v13 = .int .i64 x13_1 ∧ Aside0 (slices_Equal_string_string.l0 kq l0 l1 (l0.length : Int) x13_1 = some r) ∧ Aside0 (kq ≤ k) ∧ Drawn0 w w')
    case atStart => exact ⟨(0), (by first | rfl | (simp; done) | (simp [*]; done)), H', ⟨Nat.le_refl _⟩, by repeat (first | exact Drawn0.refl _ | apply Drawn0.step)⟩
    case round =>
      clear H'
      try clear c1
      try clear p2
      try clear c3
      try clear c3b0
      try clear c3b1
      try clear c3b2
      obtain ⟨x13_1, rfl, HA, HK1, ⟨m1, rfl⟩⟩ := hrel
      cases gk with
      | zero => exact absurd HA.out (by simp [slices_Equal_string_string.l0])
      | succ k1 =>
        have H := HA.out
        clear HA
        simp only [slices_Equal_string_string.l0] at H
        by_cases c4 : x13_1 < (l0.length : Int)
        · rw [if_pos c4] at H
          have c4b0 : decide (x13_1 < (l0.length : Int)) = true := decide_eq_true c4
          clear c4
          by_cases c5 : 0 ≤ x13_1
          · rw [if_pos c5] at H
            have c5b0 : decide (0 ≤ x13_1) = true := decide_eq_true c5
            clear c5
            by_cases c6 : x13_1 < (l0.length : Int)
            · rw [if_pos c6] at H
              have c6b0 : decide (x13_1 < (l0.length : Int)) = true := decide_eq_true c6
              clear c6
              by_cases c7 : x13_1 < (l1.length : Int)
              · rw [if_pos c7] at H
                have c7b0 : decide (x13_1 < (l1.length : Int)) = true := decide_eq_true c7
                clear c7
                by_cases c8 : (rdOf ByteArray.empty l0 x13_1).toList = (rdOf ByteArray.empty l1 x13_1).toList
                · rw [if_pos c8] at H
                  have c8b0 : ((rdOf ByteArray.empty l0 x13_1).toList == (rdOf ByteArray.empty l1 x13_1).toList) = true := beq_iff_eq.mpr c8
                  have c8b1 : ((rdOf ByteArray.empty l0 x13_1).toList != (rdOf ByteArray.empty l1 x13_1).toList) = false := bne_eq_false_iff_eq.mpr c8
                  clear c8
                  have H' := Aside0.mk H
                  clear H
                  have p227 : 0 ≤ (x13_1 : Int) := of_decide_eq_true (by first | (with_reducible assumption) | assumption)
                  have q227 : x13_1 < (l0.length : Int) := of_decide_eq_true (by first | (with_reducible assumption) | assumption)
                  obtain ⟨ad227, e227, hx227_0⟩ := Kd.at_string HR0.out x13_1 p227 q227
                  cases e227
                  replace p227 := eq_true p227
                  replace q227 := eq_true q227
                  have p228 : 0 ≤ (x13_1 : Int) := of_decide_eq_true (by first | (with_reducible assumption) | assumption)
                  have q228 : x13_1 < (l1.length : Int) := of_decide_eq_true (by first | (with_reducible assumption) | assumption)
                  obtain ⟨ad228, e228, hx228_0⟩ := Kd.at_string HR1.out x13_1 p228 q228
                  cases e228
                  replace p228 := eq_true p228
                  replace q228 := eq_true q228
                  go_wp2
                  repeat (go_quiet (fail); try go_wp2)
                  go_roundg k1
                  case measure => have := HK1.out; omega
                  case rel => exact ⟨(wrap64 (x13_1 + 1)), (by first | rfl | (simp; done) | (simp [*]; done)), H', ⟨by have := HK1.out; omega⟩, by repeat (first | exact Drawn0.refl _ | apply Drawn0.step)⟩
                · rw [if_neg c8] at H
                  have c8b0 : ((rdOf ByteArray.empty l0 x13_1).toList == (rdOf ByteArray.empty l1 x13_1).toList) = false := beq_eq_false_iff_ne.mpr c8
                  have c8b1 : ((rdOf ByteArray.empty l0 x13_1).toList != (rdOf ByteArray.empty l1 x13_1).toList) = true := bne_iff_ne.mpr c8
                  obtain rfl := Option.some.inj H
                  have p227 : 0 ≤ (x13_1 : Int) := of_decide_eq_true (by first | (with_reducible assumption) | assumption)
                  have q227 : x13_1 < (l0.length : Int) := of_decide_eq_true (by first | (with_reducible assumption) | assumption)
                  obtain ⟨ad227, e227, hx227_0⟩ := Kd.at_string HR0.out x13_1 p227 q227
                  cases e227
                  replace p227 := eq_true p227
                  replace q227 := eq_true q227
                  have p228 : 0 ≤ (x13_1 : Int) := of_decide_eq_true (by first | (with_reducible assumption) | assumption)
                  have q228 : x13_1 < (l1.length : Int) := of_decide_eq_true (by first | (with_reducible assumption) | assumption)
                  obtain ⟨ad228, e228, hx228_0⟩ := Kd.at_string HR1.out x13_1 p228 q228
                  cases e228
                  replace p228 := eq_true p228
                  replace q228 := eq_true q228
                  go_wp2
                  repeat (go_quiet (fail); try go_wp2)
                  go_ret
                  exact ⟨by first | rfl | (simp; done) | (simp [*]; done), by repeat (first | exact Drawn0.refl _ | apply Drawn0.step)⟩
              · rw [if_neg c7] at H
                exact absurd H (by simp)
            · rw [if_neg c6] at H
              exact absurd H (by simp)
          · rw [if_neg c5] at H
            exact absurd H (by simp)
        · rw [if_neg c4] at H
          have c4b0 : decide (x13_1 < (l0.length : Int)) = false := decide_eq_false c4
          clear c4
          obtain rfl := Option.some.inj H
          go_wp2
          repeat (go_quiet (fail); try go_wp2)
          go_ret
          exact ⟨by first | rfl | (simp; done) | (simp [*]; done), by repeat (first | exact Drawn0.refl _ | apply Drawn0.step)⟩
  · rw [if_neg c3] at H
    have c3b0 : ((l0.length : Int) == (l1.length : Int)) = false := beq_eq_false_iff_ne.mpr c3
    have c3b1 : ((l0.length : Int) != (l1.length : Int)) = true := bne_iff_ne.mpr c3
    have c3b2 : (l0.length == l1.length) = false := by first | simpa using c3 | (simp at c3 ⊢; omega)
    obtain rfl := Option.some.inj H
    go_enter Tryz.func140, Tryz.ntmps140
    go_wp2
    repeat (go_quiet (fail); try go_wp2)
    go_ret
    exact ⟨by first | rfl | (simp; done) | (simp [*]; done), by repeat (first | exact Drawn0.refl _ | apply Drawn0.step)⟩

end Go.Proofs.YtodpdlpncgkkdaaGreatDoor.P
end
section
namespace Go.Proofs.YtodpdlpncgkkdaaGreatDoor.P
open Go.RowKit Go.Proofs.YtodpdlpncgkkdaaGreatDoorW.PrintWords Go.Proofs.YtodpdlpncgkkdaaGreatDoorW.PrintLast Go.Proofs.YtodpdlpncgkkdaaGreatDoorW.PrintMore
attribute [local go_sem] max2_int min2_int max_two min_two max_three min_three max_four min_four   -- for this text's walks alone
set_option linter.unusedVariables false
set_option linter.unusedSimpArgs false

/-! ### def_Same: function 92 -/
def def_Same.f (k : Nat) (a0_0 : Int) (a0_1 : ByteArray) (a0_2 : ByteArray) (l0_3 : List ByteArray) (a0_4 : ByteArray) (a0_5 : ByteArray) (a1_0 : Int) (a1_1 : ByteArray) (a1_2 : ByteArray) (l1_3 : List ByteArray) (a1_4 : ByteArray) (a1_5 : ByteArray) : Option (Bool) := if a0_0 = a1_0 then (if a0_1.toList = a1_1.toList then (if a0_2.toList = a1_2.toList then ((slices_Equal_string_string.f k l0_3 l1_3).bind fun t231 => (if t231 = true then (if a0_4.toList = a1_4.toList then (some (a0_5.toList == a1_5.toList)) else (some false)) else (some false))) else (some false)) else (some false)) else (some false)
theorem def_Same.mono : ∀ a0 a1 a2 a3 a4 a5 a6 a7 a8 a9 a10 a11 k, LeO (def_Same.f k a0 a1 a2 a3 a4 a5 a6 a7 a8 a9 a10 a11) (def_Same.f (k + 1) a0 a1 a2 a3 a4 a5 a6 a7 a8 a9 a10 a11) := by
  intro a0 a1 a2 a3 a4 a5 a6 a7 a8 a9 a10 a11 k
  unfold def_Same.f
  repeat' first
      | (with_reducible exact slices_Equal_string_string.mono _ _ _)
      | (with_reducible exact LeO.refl _)
      | (with_reducible exact LeO.none _)
      | (with_reducible refine LeO.ite ?_ ?_)
      | (with_reducible refine LeO.bind ?_ (fun _ => ?_))
      | exact slices_Equal_string_string.mono _ _ _
      | exact LeO.none _
      | refine LeO.ite ?_ ?_
      | refine LeO.bind ?_ (fun _ => ?_)
set_option maxHeartbeats 8000000 in
set_option maxRecDepth 100000 in
theorem def_Same.calls (k : Nat) (a0_0 : Int) (a0_1 : ByteArray) (a0_2 : ByteArray) (A0_3 : Option Addr) (c0_3 : Nat) (l0_3 : List ByteArray) (a0_4 : ByteArray) (a0_5 : ByteArray) (a1_0 : Int) (a1_1 : ByteArray) (a1_2 : ByteArray) (A1_3 : Option Addr) (c1_3 : Nat) (l1_3 : List ByteArray) (a1_4 : ByteArray) (a1_5 : ByteArray) (r : Bool) (w : World) (hr0_3 : Kd.C Kd.string w A0_3 l0_3.length l0_3) (hc0_3 : l0_3.length ≤ c0_3) (hr1_3 : Kd.C Kd.string w A1_3 l1_3.length l1_3) (hc1_3 : l1_3.length ≤ c1_3) (h : def_Same.f k a0_0 a0_1 a0_2 l0_3 a0_4 a0_5 a1_0 a1_1 a1_2 l1_3 a1_4 a1_5 = some r) :
    Calls Tryz.prog 92 #[.agg #[.int .i64 a0_0, .string a0_1, .string a0_2, .slice A0_3 l0_3.length c0_3, .string a0_4, .string a0_5], .agg #[.int .i64 a1_0, .string a1_1, .string a1_2, .slice A1_3 l1_3.length c1_3, .string a1_4, .string a1_5]] w fun e w' => e = .returned (.bool r) ∧ Below w.heap.size w w' := by
  have hu33 := Tryz.underlying33
  have HR0_3 := Aside0.mk hr0_3
  have HC0_3 := Aside0.mk hc0_3
  clear hr0_3 hc0_3
  have HR1_3 := Aside0.mk hr1_3
  have HC1_3 := Aside0.mk hc1_3
  clear hr1_3 hc1_3
  have HB := Aside0.mk (Below.refl w.heap.size w)
  have H : (if a0_0 = a1_0 then (if a0_1.toList = a1_1.toList then (if a0_2.toList = a1_2.toList then ((slices_Equal_string_string.f k l0_3 l1_3).bind fun t231 => (if t231 = true then (if a0_4.toList = a1_4.toList then (some (a0_5.toList == a1_5.toList)) else (some false)) else (some false))) else (some false)) else (some false)) else (some false)) = some r := h
  clear h
  by_cases c3 : a0_0 = a1_0
  · rw [if_pos c3] at H
    have c3b0 : (a0_0 == a1_0) = true := beq_iff_eq.mpr c3
    have c3b1 : (a0_0 != a1_0) = false := bne_eq_false_iff_eq.mpr c3
    clear c3
    by_cases c4 : a0_1.toList = a1_1.toList
    · rw [if_pos c4] at H
      have c4b0 : (a0_1.toList == a1_1.toList) = true := beq_iff_eq.mpr c4
      have c4b1 : (a0_1.toList != a1_1.toList) = false := bne_eq_false_iff_eq.mpr c4
      clear c4
      by_cases c5 : a0_2.toList = a1_2.toList
      · rw [if_pos c5] at H
        have c5b0 : (a0_2.toList == a1_2.toList) = true := beq_iff_eq.mpr c5
        have c5b1 : (a0_2.toList != a1_2.toList) = false := bne_eq_false_iff_eq.mpr c5
        clear c5
        replace H := Option.bind_eq_some_iff.mp H
        obtain ⟨t231, A60, H⟩ := H
        replace H : (if t231 = true then (if a0_4.toList = a1_4.toList then (some (a0_5.toList == a1_5.toList)) else (some false)) else (some false)) = some r := H
        have A6 := Aside0.mk A60
        clear A60
        by_cases c7 : t231 = true
        · subst c7
          have H1 : (if a0_4.toList = a1_4.toList then (some (a0_5.toList == a1_5.toList)) else (some false)) = some r := by rw [if_pos rfl] at H; exact H
          clear H
          have H := H1
          clear H1
          by_cases c8 : a0_4.toList = a1_4.toList
          · rw [if_pos c8] at H
            have c8b0 : (a0_4.toList == a1_4.toList) = true := beq_iff_eq.mpr c8
            have c8b1 : (a0_4.toList != a1_4.toList) = false := bne_eq_false_iff_eq.mpr c8
            clear c8
            obtain rfl := Option.some.inj H
            go_enter Tryz.func92, Tryz.ntmps92
            go_wp2_with (first | ((with_reducible refine gate_dst (N := 2) rfl ?_); refine box_event ?hg (N := 2) ?hd (cs := #[.int .i64 a0_0, .string a0_1, .string a0_2, .slice A0_3 l0_3.length c0_3, .string a0_4, .string a0_5]) (t := 33) ?hr ?_; (case hd => rfl); (case hg => rfl); (case hr => first | (go_simp; done) | (go_simp; rfl)); intro gb229 hg w9 hbox hb; have n0_ := Aside0.mk (below_step (by repeat (first | (with_reducible first | exact HB.out | apply below_alloc | apply pw_below_drewN | apply below_drew1) | exact HB.out)) hb); have n1_ := Aside0.mk (hbox); have n2_ := Aside0.mk ((by rw [hg]; exact (below_size (by repeat (first | (with_reducible first | exact HB.out | apply below_alloc | apply pw_below_drewN | apply below_drew1) | exact HB.out))) : w.heap.size ≤ gb229)); have n3_ := Aside0.mk ((by rw [hg]; exact (below_size (by repeat (first | (with_reducible first | exact HB.out | apply below_alloc | apply pw_below_drewN | apply below_drew1) | exact HB.out))) : w.heap.size ≤ gb229)); clear HB; have HB := n0_; have BK229 := n1_; have GW229 := n2_; have GE229 := n3_; clear n0_ n1_ n2_ n3_; clear hb hbox hg) | ((with_reducible refine gate_dst (N := 3) rfl ?_); refine box_event ?hg (N := 3) ?hd (cs := #[.int .i64 a1_0, .string a1_1, .string a1_2, .slice A1_3 l1_3.length c1_3, .string a1_4, .string a1_5]) (t := 33) ?hr ?_; (case hd => rfl); (case hg => rfl); (case hr => first | (go_simp; done) | (go_simp; rfl)); intro gb230 hg w10 hbox hb; have n0_ := Aside0.mk (blk_below (g := gb229) (o := .cells #[.int .i64 a0_0, .string a0_1, .string a0_2, .slice A0_3 l0_3.length c0_3, .string a0_4, .string a0_5] 33 (0, 0)) (by (with_reducible repeat (first | refine blk_drewN ?_ _ | refine blk_drew ?_ | refine blk_alloc ?_ _)); exact BK229.out) hb); have n1_ := Aside0.mk (below_step (by repeat (first | (with_reducible first | exact HB.out | apply below_alloc | apply pw_below_drewN | apply below_drew1 | refine below_set ?_ GE229.out) | exact HB.out)) hb); have n2_ := Aside0.mk (hbox); have n3_ := Aside0.mk ((by rw [hg]; exact (below_size (by repeat (first | (with_reducible first | exact HB.out | apply below_alloc | apply pw_below_drewN | apply below_drew1 | refine below_set ?_ GE229.out) | exact HB.out))) : w.heap.size ≤ gb230)); have n4_ := Aside0.mk ((by rw [hg]; exact (below_size (by repeat (first | (with_reducible first | exact HB.out | apply below_alloc | apply pw_below_drewN | apply below_drew1 | refine below_set ?_ GE229.out) | exact HB.out))) : w.heap.size ≤ gb230)); have n5_ := Aside0.mk ((by rw [hg]; exact Nat.ne_of_lt (blk_lt (g := gb229) (o := .cells #[.int .i64 a0_0, .string a0_1, .string a0_2, .slice A0_3 l0_3.length c0_3, .string a0_4, .string a0_5] 33 (0, 0)) (by (with_reducible repeat (first | refine blk_drewN ?_ _ | refine blk_drew ?_ | refine blk_alloc ?_ _)); exact BK229.out)) : gb229 ≠ gb230)); have n6_ := Aside0.mk ((by rw [hg]; exact Nat.ne_of_gt (blk_lt (g := gb229) (o := .cells #[.int .i64 a0_0, .string a0_1, .string a0_2, .slice A0_3 l0_3.length c0_3, .string a0_4, .string a0_5] 33 (0, 0)) (by (with_reducible repeat (first | refine blk_drewN ?_ _ | refine blk_drew ?_ | refine blk_alloc ?_ _)); exact BK229.out)) : gb230 ≠ gb229)); clear BK229; clear HB; have BK229 := n0_; have HB := n1_; have BK230 := n2_; have GW230 := n3_; have GE230 := n4_; have NB229_230 := n5_; have NB230_229 := n6_; clear n0_ n1_ n2_ n3_ n4_ n5_ n6_; clear hb hbox hg; have hnb11 := NB229_230.out; have hnc11 := NB230_229.out; have hcz12_0 : w10.cell? ⟨gb229, 0, none⟩ = some (.int .i64 a0_0) := (blk_cell BK229.out 0).trans rfl; have hcz12_1 : w10.cell? ⟨gb229, 1, none⟩ = some (.string a0_1) := (blk_cell BK229.out 1).trans rfl; have hcz12_2 : w10.cell? ⟨gb229, 2, none⟩ = some (.string a0_2) := (blk_cell BK229.out 2).trans rfl; have hcz12_3 : w10.cell? ⟨gb229, 3, none⟩ = some (.slice A0_3 l0_3.length c0_3) := (blk_cell BK229.out 3).trans rfl; have hcz12_4 : w10.cell? ⟨gb229, 4, none⟩ = some (.string a0_4) := (blk_cell BK229.out 4).trans rfl; have hcz12_5 : w10.cell? ⟨gb229, 5, none⟩ = some (.string a0_5) := (blk_cell BK229.out 5).trans rfl; have hfz12_0 := blk_frozen BK229.out 0; have hfz12_1 := blk_frozen BK229.out 1; have hfz12_2 := blk_frozen BK229.out 2; have hfz12_3 := blk_frozen BK229.out 3; have hfz12_4 := blk_frozen BK229.out 4; have hfz12_5 := blk_frozen BK229.out 5; have hcz13_0 : w10.cell? ⟨gb230, 0, none⟩ = some (.int .i64 a1_0) := (blk_cell BK230.out 0).trans rfl; have hcz13_1 : w10.cell? ⟨gb230, 1, none⟩ = some (.string a1_1) := (blk_cell BK230.out 1).trans rfl; have hcz13_2 : w10.cell? ⟨gb230, 2, none⟩ = some (.string a1_2) := (blk_cell BK230.out 2).trans rfl; have hcz13_3 : w10.cell? ⟨gb230, 3, none⟩ = some (.slice A1_3 l1_3.length c1_3) := (blk_cell BK230.out 3).trans rfl; have hcz13_4 : w10.cell? ⟨gb230, 4, none⟩ = some (.string a1_4) := (blk_cell BK230.out 4).trans rfl; have hcz13_5 : w10.cell? ⟨gb230, 5, none⟩ = some (.string a1_5) := (blk_cell BK230.out 5).trans rfl; have hfz13_0 := blk_frozen BK230.out 0; have hfz13_1 := blk_frozen BK230.out 1; have hfz13_2 := blk_frozen BK230.out 2; have hfz13_3 := blk_frozen BK230.out 3; have hfz13_4 := blk_frozen BK230.out 4; have hfz13_5 := blk_frozen BK230.out 5) | (go_at_call 140; (with_reducible refine (slices_Equal_string_string.calls k _ _ l0_3 _ _ l1_3 true _ ?side1 ?side2 ?side3 ?side4 A6.out).mono ?_); (case side1 => repeat (first | exact (Kd.C_below HR0_3.out HB.out) | (with_reducible refine Kd.C_alloc ?_ _) | (with_reducible refine Kd.C_drewN ?_ _) | (with_reducible refine Kd.C_drew ?_))); (case side2 => exact HC0_3.out); (case side3 => repeat (first | exact (Kd.C_below HR1_3.out HB.out) | (with_reducible refine Kd.C_alloc ?_ _) | (with_reducible refine Kd.C_drewN ?_ _) | (with_reducible refine Kd.C_drew ?_))); (case side4 => exact HC1_3.out); rintro e w' ⟨rfl, ⟨nd, rfl⟩⟩))
            go_ret
            exact ⟨by first | rfl | (simp [errW_none, errW_some] <;> rfl) | (simp [*, errW_none, errW_some] <;> rfl), by repeat (first | (with_reducible first | exact HB.out | apply below_alloc | apply pw_below_drewN | apply below_drew1 | refine below_set ?_ GE229.out | refine below_set ?_ GE230.out) | exact HB.out)⟩
          · rw [if_neg c8] at H
            have c8b0 : (a0_4.toList == a1_4.toList) = false := beq_eq_false_iff_ne.mpr c8
            have c8b1 : (a0_4.toList != a1_4.toList) = true := bne_iff_ne.mpr c8
            obtain rfl := Option.some.inj H
            go_enter Tryz.func92, Tryz.ntmps92
            go_wp2_with (first | ((with_reducible refine gate_dst (N := 2) rfl ?_); refine box_event ?hg (N := 2) ?hd (cs := #[.int .i64 a0_0, .string a0_1, .string a0_2, .slice A0_3 l0_3.length c0_3, .string a0_4, .string a0_5]) (t := 33) ?hr ?_; (case hd => rfl); (case hg => rfl); (case hr => first | (go_simp; done) | (go_simp; rfl)); intro gb229 hg w14 hbox hb; have n0_ := Aside0.mk (below_step (by repeat (first | (with_reducible first | exact HB.out | apply below_alloc | apply pw_below_drewN | apply below_drew1) | exact HB.out)) hb); have n1_ := Aside0.mk (hbox); have n2_ := Aside0.mk ((by rw [hg]; exact (below_size (by repeat (first | (with_reducible first | exact HB.out | apply below_alloc | apply pw_below_drewN | apply below_drew1) | exact HB.out))) : w.heap.size ≤ gb229)); have n3_ := Aside0.mk ((by rw [hg]; exact (below_size (by repeat (first | (with_reducible first | exact HB.out | apply below_alloc | apply pw_below_drewN | apply below_drew1) | exact HB.out))) : w.heap.size ≤ gb229)); clear HB; have HB := n0_; have BK229 := n1_; have GW229 := n2_; have GE229 := n3_; clear n0_ n1_ n2_ n3_; clear hb hbox hg) | ((with_reducible refine gate_dst (N := 3) rfl ?_); refine box_event ?hg (N := 3) ?hd (cs := #[.int .i64 a1_0, .string a1_1, .string a1_2, .slice A1_3 l1_3.length c1_3, .string a1_4, .string a1_5]) (t := 33) ?hr ?_; (case hd => rfl); (case hg => rfl); (case hr => first | (go_simp; done) | (go_simp; rfl)); intro gb230 hg w15 hbox hb; have n0_ := Aside0.mk (blk_below (g := gb229) (o := .cells #[.int .i64 a0_0, .string a0_1, .string a0_2, .slice A0_3 l0_3.length c0_3, .string a0_4, .string a0_5] 33 (0, 0)) (by (with_reducible repeat (first | refine blk_drewN ?_ _ | refine blk_drew ?_ | refine blk_alloc ?_ _)); exact BK229.out) hb); have n1_ := Aside0.mk (below_step (by repeat (first | (with_reducible first | exact HB.out | apply below_alloc | apply pw_below_drewN | apply below_drew1 | refine below_set ?_ GE229.out) | exact HB.out)) hb); have n2_ := Aside0.mk (hbox); have n3_ := Aside0.mk ((by rw [hg]; exact (below_size (by repeat (first | (with_reducible first | exact HB.out | apply below_alloc | apply pw_below_drewN | apply below_drew1 | refine below_set ?_ GE229.out) | exact HB.out))) : w.heap.size ≤ gb230)); have n4_ := Aside0.mk ((by rw [hg]; exact (below_size (by repeat (first | (with_reducible first | exact HB.out | apply below_alloc | apply pw_below_drewN | apply below_drew1 | refine below_set ?_ GE229.out) | exact HB.out))) : w.heap.size ≤ gb230)); have n5_ := Aside0.mk ((by rw [hg]; exact Nat.ne_of_lt (blk_lt (g := gb229) (o := .cells #[.int .i64 a0_0, .string a0_1, .string a0_2, .slice A0_3 l0_3.length c0_3, .string a0_4, .string a0_5] 33 (0, 0)) (by (with_reducible repeat (first | refine blk_drewN ?_ _ | refine blk_drew ?_ | refine blk_alloc ?_ _)); exact BK229.out)) : gb229 ≠ gb230)); have n6_ := Aside0.mk ((by rw [hg]; exact Nat.ne_of_gt (blk_lt (g := gb229) (o := .cells #[.int .i64 a0_0, .string a0_1, .string a0_2, .slice A0_3 l0_3.length c0_3, .string a0_4, .string a0_5] 33 (0, 0)) (by (with_reducible repeat (first | refine blk_drewN ?_ _ | refine blk_drew ?_ | refine blk_alloc ?_ _)); exact BK229.out)) : gb230 ≠ gb229)); clear BK229; clear HB; have BK229 := n0_; have HB := n1_; have BK230 := n2_; have GW230 := n3_; have GE230 := n4_; have NB229_230 := n5_; have NB230_229 := n6_; clear n0_ n1_ n2_ n3_ n4_ n5_ n6_; clear hb hbox hg; have hnb16 := NB229_230.out; have hnc16 := NB230_229.out; have hcz17_0 : w15.cell? ⟨gb229, 0, none⟩ = some (.int .i64 a0_0) := (blk_cell BK229.out 0).trans rfl; have hcz17_1 : w15.cell? ⟨gb229, 1, none⟩ = some (.string a0_1) := (blk_cell BK229.out 1).trans rfl; have hcz17_2 : w15.cell? ⟨gb229, 2, none⟩ = some (.string a0_2) := (blk_cell BK229.out 2).trans rfl; have hcz17_3 : w15.cell? ⟨gb229, 3, none⟩ = some (.slice A0_3 l0_3.length c0_3) := (blk_cell BK229.out 3).trans rfl; have hcz17_4 : w15.cell? ⟨gb229, 4, none⟩ = some (.string a0_4) := (blk_cell BK229.out 4).trans rfl; have hcz17_5 : w15.cell? ⟨gb229, 5, none⟩ = some (.string a0_5) := (blk_cell BK229.out 5).trans rfl; have hfz17_0 := blk_frozen BK229.out 0; have hfz17_1 := blk_frozen BK229.out 1; have hfz17_2 := blk_frozen BK229.out 2; have hfz17_3 := blk_frozen BK229.out 3; have hfz17_4 := blk_frozen BK229.out 4; have hfz17_5 := blk_frozen BK229.out 5; have hcz18_0 : w15.cell? ⟨gb230, 0, none⟩ = some (.int .i64 a1_0) := (blk_cell BK230.out 0).trans rfl; have hcz18_1 : w15.cell? ⟨gb230, 1, none⟩ = some (.string a1_1) := (blk_cell BK230.out 1).trans rfl; have hcz18_2 : w15.cell? ⟨gb230, 2, none⟩ = some (.string a1_2) := (blk_cell BK230.out 2).trans rfl; have hcz18_3 : w15.cell? ⟨gb230, 3, none⟩ = some (.slice A1_3 l1_3.length c1_3) := (blk_cell BK230.out 3).trans rfl; have hcz18_4 : w15.cell? ⟨gb230, 4, none⟩ = some (.string a1_4) := (blk_cell BK230.out 4).trans rfl; have hcz18_5 : w15.cell? ⟨gb230, 5, none⟩ = some (.string a1_5) := (blk_cell BK230.out 5).trans rfl; have hfz18_0 := blk_frozen BK230.out 0; have hfz18_1 := blk_frozen BK230.out 1; have hfz18_2 := blk_frozen BK230.out 2; have hfz18_3 := blk_frozen BK230.out 3; have hfz18_4 := blk_frozen BK230.out 4; have hfz18_5 := blk_frozen BK230.out 5) | (go_at_call 140; (with_reducible refine (slices_Equal_string_string.calls k _ _ l0_3 _ _ l1_3 true _ ?side1 ?side2 ?side3 ?side4 A6.out).mono ?_); (case side1 => repeat (first | exact (Kd.C_below HR0_3.out HB.out) | (with_reducible refine Kd.C_alloc ?_ _) | (with_reducible refine Kd.C_drewN ?_ _) | (with_reducible refine Kd.C_drew ?_))); (case side2 => exact HC0_3.out); (case side3 => repeat (first | exact (Kd.C_below HR1_3.out HB.out) | (with_reducible refine Kd.C_alloc ?_ _) | (with_reducible refine Kd.C_drewN ?_ _) | (with_reducible refine Kd.C_drew ?_))); (case side4 => exact HC1_3.out); rintro e w' ⟨rfl, ⟨nd, rfl⟩⟩))
            go_ret
            exact ⟨by first | rfl | (simp [errW_none, errW_some] <;> rfl) | (simp [*, errW_none, errW_some] <;> rfl), by repeat (first | (with_reducible first | exact HB.out | apply below_alloc | apply pw_below_drewN | apply below_drew1 | refine below_set ?_ GE229.out | refine below_set ?_ GE230.out) | exact HB.out)⟩
        · replace c7 := Bool.eq_false_iff.mpr c7
          subst c7
          have H1 : (some false) = some r := by rw [if_neg (show ¬ (false = true) by decide)] at H; exact H
          clear H
          have H := H1
          clear H1
          obtain rfl := Option.some.inj H
          go_enter Tryz.func92, Tryz.ntmps92
          go_wp2_with (first | ((with_reducible refine gate_dst (N := 2) rfl ?_); refine box_event ?hg (N := 2) ?hd (cs := #[.int .i64 a0_0, .string a0_1, .string a0_2, .slice A0_3 l0_3.length c0_3, .string a0_4, .string a0_5]) (t := 33) ?hr ?_; (case hd => rfl); (case hg => rfl); (case hr => first | (go_simp; done) | (go_simp; rfl)); intro gb229 hg w19 hbox hb; have n0_ := Aside0.mk (below_step (by repeat (first | (with_reducible first | exact HB.out | apply below_alloc | apply pw_below_drewN | apply below_drew1) | exact HB.out)) hb); have n1_ := Aside0.mk (hbox); have n2_ := Aside0.mk ((by rw [hg]; exact (below_size (by repeat (first | (with_reducible first | exact HB.out | apply below_alloc | apply pw_below_drewN | apply below_drew1) | exact HB.out))) : w.heap.size ≤ gb229)); have n3_ := Aside0.mk ((by rw [hg]; exact (below_size (by repeat (first | (with_reducible first | exact HB.out | apply below_alloc | apply pw_below_drewN | apply below_drew1) | exact HB.out))) : w.heap.size ≤ gb229)); clear HB; have HB := n0_; have BK229 := n1_; have GW229 := n2_; have GE229 := n3_; clear n0_ n1_ n2_ n3_; clear hb hbox hg) | ((with_reducible refine gate_dst (N := 3) rfl ?_); refine box_event ?hg (N := 3) ?hd (cs := #[.int .i64 a1_0, .string a1_1, .string a1_2, .slice A1_3 l1_3.length c1_3, .string a1_4, .string a1_5]) (t := 33) ?hr ?_; (case hd => rfl); (case hg => rfl); (case hr => first | (go_simp; done) | (go_simp; rfl)); intro gb230 hg w20 hbox hb; have n0_ := Aside0.mk (blk_below (g := gb229) (o := .cells #[.int .i64 a0_0, .string a0_1, .string a0_2, .slice A0_3 l0_3.length c0_3, .string a0_4, .string a0_5] 33 (0, 0)) (by (with_reducible repeat (first | refine blk_drewN ?_ _ | refine blk_drew ?_ | refine blk_alloc ?_ _)); exact BK229.out) hb); have n1_ := Aside0.mk (below_step (by repeat (first | (with_reducible first | exact HB.out | apply below_alloc | apply pw_below_drewN | apply below_drew1 | refine below_set ?_ GE229.out) | exact HB.out)) hb); have n2_ := Aside0.mk (hbox); have n3_ := Aside0.mk ((by rw [hg]; exact (below_size (by repeat (first | (with_reducible first | exact HB.out | apply below_alloc | apply pw_below_drewN | apply below_drew1 | refine below_set ?_ GE229.out) | exact HB.out))) : w.heap.size ≤ gb230)); have n4_ := Aside0.mk ((by rw [hg]; exact (below_size (by repeat (first | (with_reducible first | exact HB.out | apply below_alloc | apply pw_below_drewN | apply below_drew1 | refine below_set ?_ GE229.out) | exact HB.out))) : w.heap.size ≤ gb230)); have n5_ := Aside0.mk ((by rw [hg]; exact Nat.ne_of_lt (blk_lt (g := gb229) (o := .cells #[.int .i64 a0_0, .string a0_1, .string a0_2, .slice A0_3 l0_3.length c0_3, .string a0_4, .string a0_5] 33 (0, 0)) (by (with_reducible repeat (first | refine blk_drewN ?_ _ | refine blk_drew ?_ | refine blk_alloc ?_ _)); exact BK229.out)) : gb229 ≠ gb230)); have n6_ := Aside0.mk ((by rw [hg]; exact Nat.ne_of_gt (blk_lt (g := gb229) (o := .cells #[.int .i64 a0_0, .string a0_1, .string a0_2, .slice A0_3 l0_3.length c0_3, .string a0_4, .string a0_5] 33 (0, 0)) (by (with_reducible repeat (first | refine blk_drewN ?_ _ | refine blk_drew ?_ | refine blk_alloc ?_ _)); exact BK229.out)) : gb230 ≠ gb229)); clear BK229; clear HB; have BK229 := n0_; have HB := n1_; have BK230 := n2_; have GW230 := n3_; have GE230 := n4_; have NB229_230 := n5_; have NB230_229 := n6_; clear n0_ n1_ n2_ n3_ n4_ n5_ n6_; clear hb hbox hg; have hnb21 := NB229_230.out; have hnc21 := NB230_229.out; have hcz22_0 : w20.cell? ⟨gb229, 0, none⟩ = some (.int .i64 a0_0) := (blk_cell BK229.out 0).trans rfl; have hcz22_1 : w20.cell? ⟨gb229, 1, none⟩ = some (.string a0_1) := (blk_cell BK229.out 1).trans rfl; have hcz22_2 : w20.cell? ⟨gb229, 2, none⟩ = some (.string a0_2) := (blk_cell BK229.out 2).trans rfl; have hcz22_3 : w20.cell? ⟨gb229, 3, none⟩ = some (.slice A0_3 l0_3.length c0_3) := (blk_cell BK229.out 3).trans rfl; have hcz22_4 : w20.cell? ⟨gb229, 4, none⟩ = some (.string a0_4) := (blk_cell BK229.out 4).trans rfl; have hcz22_5 : w20.cell? ⟨gb229, 5, none⟩ = some (.string a0_5) := (blk_cell BK229.out 5).trans rfl; have hfz22_0 := blk_frozen BK229.out 0; have hfz22_1 := blk_frozen BK229.out 1; have hfz22_2 := blk_frozen BK229.out 2; have hfz22_3 := blk_frozen BK229.out 3; have hfz22_4 := blk_frozen BK229.out 4; have hfz22_5 := blk_frozen BK229.out 5; have hcz23_0 : w20.cell? ⟨gb230, 0, none⟩ = some (.int .i64 a1_0) := (blk_cell BK230.out 0).trans rfl; have hcz23_1 : w20.cell? ⟨gb230, 1, none⟩ = some (.string a1_1) := (blk_cell BK230.out 1).trans rfl; have hcz23_2 : w20.cell? ⟨gb230, 2, none⟩ = some (.string a1_2) := (blk_cell BK230.out 2).trans rfl; have hcz23_3 : w20.cell? ⟨gb230, 3, none⟩ = some (.slice A1_3 l1_3.length c1_3) := (blk_cell BK230.out 3).trans rfl; have hcz23_4 : w20.cell? ⟨gb230, 4, none⟩ = some (.string a1_4) := (blk_cell BK230.out 4).trans rfl; have hcz23_5 : w20.cell? ⟨gb230, 5, none⟩ = some (.string a1_5) := (blk_cell BK230.out 5).trans rfl; have hfz23_0 := blk_frozen BK230.out 0; have hfz23_1 := blk_frozen BK230.out 1; have hfz23_2 := blk_frozen BK230.out 2; have hfz23_3 := blk_frozen BK230.out 3; have hfz23_4 := blk_frozen BK230.out 4; have hfz23_5 := blk_frozen BK230.out 5) | (go_at_call 140; (with_reducible refine (slices_Equal_string_string.calls k _ _ l0_3 _ _ l1_3 false _ ?side1 ?side2 ?side3 ?side4 A6.out).mono ?_); (case side1 => repeat (first | exact (Kd.C_below HR0_3.out HB.out) | (with_reducible refine Kd.C_alloc ?_ _) | (with_reducible refine Kd.C_drewN ?_ _) | (with_reducible refine Kd.C_drew ?_))); (case side2 => exact HC0_3.out); (case side3 => repeat (first | exact (Kd.C_below HR1_3.out HB.out) | (with_reducible refine Kd.C_alloc ?_ _) | (with_reducible refine Kd.C_drewN ?_ _) | (with_reducible refine Kd.C_drew ?_))); (case side4 => exact HC1_3.out); rintro e w' ⟨rfl, ⟨nd, rfl⟩⟩))
          go_ret
          exact ⟨by first | rfl | (simp [errW_none, errW_some] <;> rfl) | (simp [*, errW_none, errW_some] <;> rfl), by repeat (first | (with_reducible first | exact HB.out | apply below_alloc | apply pw_below_drewN | apply below_drew1 | refine below_set ?_ GE229.out | refine below_set ?_ GE230.out) | exact HB.out)⟩
      · rw [if_neg c5] at H
        have c5b0 : (a0_2.toList == a1_2.toList) = false := beq_eq_false_iff_ne.mpr c5
        have c5b1 : (a0_2.toList != a1_2.toList) = true := bne_iff_ne.mpr c5
        obtain rfl := Option.some.inj H
        go_enter Tryz.func92, Tryz.ntmps92
        go_wp2_with (first | ((with_reducible refine gate_dst (N := 2) rfl ?_); refine box_event ?hg (N := 2) ?hd (cs := #[.int .i64 a0_0, .string a0_1, .string a0_2, .slice A0_3 l0_3.length c0_3, .string a0_4, .string a0_5]) (t := 33) ?hr ?_; (case hd => rfl); (case hg => rfl); (case hr => first | (go_simp; done) | (go_simp; rfl)); intro gb229 hg w24 hbox hb; have n0_ := Aside0.mk (below_step (by repeat (first | (with_reducible first | exact HB.out | apply below_alloc | apply pw_below_drewN | apply below_drew1) | exact HB.out)) hb); have n1_ := Aside0.mk (hbox); have n2_ := Aside0.mk ((by rw [hg]; exact (below_size (by repeat (first | (with_reducible first | exact HB.out | apply below_alloc | apply pw_below_drewN | apply below_drew1) | exact HB.out))) : w.heap.size ≤ gb229)); have n3_ := Aside0.mk ((by rw [hg]; exact (below_size (by repeat (first | (with_reducible first | exact HB.out | apply below_alloc | apply pw_below_drewN | apply below_drew1) | exact HB.out))) : w.heap.size ≤ gb229)); clear HB; have HB := n0_; have BK229 := n1_; have GW229 := n2_; have GE229 := n3_; clear n0_ n1_ n2_ n3_; clear hb hbox hg) | ((with_reducible refine gate_dst (N := 3) rfl ?_); refine box_event ?hg (N := 3) ?hd (cs := #[.int .i64 a1_0, .string a1_1, .string a1_2, .slice A1_3 l1_3.length c1_3, .string a1_4, .string a1_5]) (t := 33) ?hr ?_; (case hd => rfl); (case hg => rfl); (case hr => first | (go_simp; done) | (go_simp; rfl)); intro gb230 hg w25 hbox hb; have n0_ := Aside0.mk (blk_below (g := gb229) (o := .cells #[.int .i64 a0_0, .string a0_1, .string a0_2, .slice A0_3 l0_3.length c0_3, .string a0_4, .string a0_5] 33 (0, 0)) (by (with_reducible repeat (first | refine blk_drewN ?_ _ | refine blk_drew ?_ | refine blk_alloc ?_ _)); exact BK229.out) hb); have n1_ := Aside0.mk (below_step (by repeat (first | (with_reducible first | exact HB.out | apply below_alloc | apply pw_below_drewN | apply below_drew1 | refine below_set ?_ GE229.out) | exact HB.out)) hb); have n2_ := Aside0.mk (hbox); have n3_ := Aside0.mk ((by rw [hg]; exact (below_size (by repeat (first | (with_reducible first | exact HB.out | apply below_alloc | apply pw_below_drewN | apply below_drew1 | refine below_set ?_ GE229.out) | exact HB.out))) : w.heap.size ≤ gb230)); have n4_ := Aside0.mk ((by rw [hg]; exact (below_size (by repeat (first | (with_reducible first | exact HB.out | apply below_alloc | apply pw_below_drewN | apply below_drew1 | refine below_set ?_ GE229.out) | exact HB.out))) : w.heap.size ≤ gb230)); have n5_ := Aside0.mk ((by rw [hg]; exact Nat.ne_of_lt (blk_lt (g := gb229) (o := .cells #[.int .i64 a0_0, .string a0_1, .string a0_2, .slice A0_3 l0_3.length c0_3, .string a0_4, .string a0_5] 33 (0, 0)) (by (with_reducible repeat (first | refine blk_drewN ?_ _ | refine blk_drew ?_ | refine blk_alloc ?_ _)); exact BK229.out)) : gb229 ≠ gb230)); have n6_ := Aside0.mk ((by rw [hg]; exact Nat.ne_of_gt (blk_lt (g := gb229) (o := .cells #[.int .i64 a0_0, .string a0_1, .string a0_2, .slice A0_3 l0_3.length c0_3, .string a0_4, .string a0_5] 33 (0, 0)) (by (with_reducible repeat (first | refine blk_drewN ?_ _ | refine blk_drew ?_ | refine blk_alloc ?_ _)); exact BK229.out)) : gb230 ≠ gb229)); clear BK229; clear HB; have BK229 := n0_; have HB := n1_; have BK230 := n2_; have GW230 := n3_; have GE230 := n4_; have NB229_230 := n5_; have NB230_229 := n6_; clear n0_ n1_ n2_ n3_ n4_ n5_ n6_; clear hb hbox hg; have hnb26 := NB229_230.out; have hnc26 := NB230_229.out; have hcz27_0 : w25.cell? ⟨gb229, 0, none⟩ = some (.int .i64 a0_0) := (blk_cell BK229.out 0).trans rfl; have hcz27_1 : w25.cell? ⟨gb229, 1, none⟩ = some (.string a0_1) := (blk_cell BK229.out 1).trans rfl; have hcz27_2 : w25.cell? ⟨gb229, 2, none⟩ = some (.string a0_2) := (blk_cell BK229.out 2).trans rfl; have hcz27_3 : w25.cell? ⟨gb229, 3, none⟩ = some (.slice A0_3 l0_3.length c0_3) := (blk_cell BK229.out 3).trans rfl; have hcz27_4 : w25.cell? ⟨gb229, 4, none⟩ = some (.string a0_4) := (blk_cell BK229.out 4).trans rfl; have hcz27_5 : w25.cell? ⟨gb229, 5, none⟩ = some (.string a0_5) := (blk_cell BK229.out 5).trans rfl; have hfz27_0 := blk_frozen BK229.out 0; have hfz27_1 := blk_frozen BK229.out 1; have hfz27_2 := blk_frozen BK229.out 2; have hfz27_3 := blk_frozen BK229.out 3; have hfz27_4 := blk_frozen BK229.out 4; have hfz27_5 := blk_frozen BK229.out 5; have hcz28_0 : w25.cell? ⟨gb230, 0, none⟩ = some (.int .i64 a1_0) := (blk_cell BK230.out 0).trans rfl; have hcz28_1 : w25.cell? ⟨gb230, 1, none⟩ = some (.string a1_1) := (blk_cell BK230.out 1).trans rfl; have hcz28_2 : w25.cell? ⟨gb230, 2, none⟩ = some (.string a1_2) := (blk_cell BK230.out 2).trans rfl; have hcz28_3 : w25.cell? ⟨gb230, 3, none⟩ = some (.slice A1_3 l1_3.length c1_3) := (blk_cell BK230.out 3).trans rfl; have hcz28_4 : w25.cell? ⟨gb230, 4, none⟩ = some (.string a1_4) := (blk_cell BK230.out 4).trans rfl; have hcz28_5 : w25.cell? ⟨gb230, 5, none⟩ = some (.string a1_5) := (blk_cell BK230.out 5).trans rfl; have hfz28_0 := blk_frozen BK230.out 0; have hfz28_1 := blk_frozen BK230.out 1; have hfz28_2 := blk_frozen BK230.out 2; have hfz28_3 := blk_frozen BK230.out 3; have hfz28_4 := blk_frozen BK230.out 4; have hfz28_5 := blk_frozen BK230.out 5))
        go_ret
        exact ⟨by first | rfl | (simp [errW_none, errW_some] <;> rfl) | (simp [*, errW_none, errW_some] <;> rfl), by repeat (first | (with_reducible first | exact HB.out | apply below_alloc | apply pw_below_drewN | apply below_drew1 | refine below_set ?_ GE229.out | refine below_set ?_ GE230.out) | exact HB.out)⟩
    · rw [if_neg c4] at H
      have c4b0 : (a0_1.toList == a1_1.toList) = false := beq_eq_false_iff_ne.mpr c4
      have c4b1 : (a0_1.toList != a1_1.toList) = true := bne_iff_ne.mpr c4
      obtain rfl := Option.some.inj H
      go_enter Tryz.func92, Tryz.ntmps92
      go_wp2_with (first | ((with_reducible refine gate_dst (N := 2) rfl ?_); refine box_event ?hg (N := 2) ?hd (cs := #[.int .i64 a0_0, .string a0_1, .string a0_2, .slice A0_3 l0_3.length c0_3, .string a0_4, .string a0_5]) (t := 33) ?hr ?_; (case hd => rfl); (case hg => rfl); (case hr => first | (go_simp; done) | (go_simp; rfl)); intro gb229 hg w29 hbox hb; have n0_ := Aside0.mk (below_step (by repeat (first | (with_reducible first | exact HB.out | apply below_alloc | apply pw_below_drewN | apply below_drew1) | exact HB.out)) hb); have n1_ := Aside0.mk (hbox); have n2_ := Aside0.mk ((by rw [hg]; exact (below_size (by repeat (first | (with_reducible first | exact HB.out | apply below_alloc | apply pw_below_drewN | apply below_drew1) | exact HB.out))) : w.heap.size ≤ gb229)); have n3_ := Aside0.mk ((by rw [hg]; exact (below_size (by repeat (first | (with_reducible first | exact HB.out | apply below_alloc | apply pw_below_drewN | apply below_drew1) | exact HB.out))) : w.heap.size ≤ gb229)); clear HB; have HB := n0_; have BK229 := n1_; have GW229 := n2_; have GE229 := n3_; clear n0_ n1_ n2_ n3_; clear hb hbox hg) | ((with_reducible refine gate_dst (N := 3) rfl ?_); refine box_event ?hg (N := 3) ?hd (cs := #[.int .i64 a1_0, .string a1_1, .string a1_2, .slice A1_3 l1_3.length c1_3, .string a1_4, .string a1_5]) (t := 33) ?hr ?_; (case hd => rfl); (case hg => rfl); (case hr => first | (go_simp; done) | (go_simp; rfl)); intro gb230 hg w30 hbox hb; have n0_ := Aside0.mk (blk_below (g := gb229) (o := .cells #[.int .i64 a0_0, .string a0_1, .string a0_2, .slice A0_3 l0_3.length c0_3, .string a0_4, .string a0_5] 33 (0, 0)) (by (with_reducible repeat (first | refine blk_drewN ?_ _ | refine blk_drew ?_ | refine blk_alloc ?_ _)); exact BK229.out) hb); have n1_ := Aside0.mk (below_step (by repeat (first | (with_reducible first | exact HB.out | apply below_alloc | apply pw_below_drewN | apply below_drew1 | refine below_set ?_ GE229.out) | exact HB.out)) hb); have n2_ := Aside0.mk (hbox); have n3_ := Aside0.mk ((by rw [hg]; exact (below_size (by repeat (first | (with_reducible first | exact HB.out | apply below_alloc | apply pw_below_drewN | apply below_drew1 | refine below_set ?_ GE229.out) | exact HB.out))) : w.heap.size ≤ gb230)); have n4_ := Aside0.mk ((by rw [hg]; exact (below_size (by repeat (first | (with_reducible first | exact HB.out | apply below_alloc | apply pw_below_drewN | apply below_drew1 | refine below_set ?_ GE229.out) | exact HB.out))) : w.heap.size ≤ gb230)); have n5_ := Aside0.mk ((by rw [hg]; exact Nat.ne_of_lt (blk_lt (g := gb229) (o := .cells #[.int .i64 a0_0, .string a0_1, .string a0_2, .slice A0_3 l0_3.length c0_3, .string a0_4, .string a0_5] 33 (0, 0)) (by (with_reducible repeat (first | refine blk_drewN ?_ _ | refine blk_drew ?_ | refine blk_alloc ?_ _)); exact BK229.out)) : gb229 ≠ gb230)); have n6_ := Aside0.mk ((by rw [hg]; exact Nat.ne_of_gt (blk_lt (g := gb229) (o := .cells #[.int .i64 a0_0, .string a0_1, .string a0_2, .slice A0_3 l0_3.length c0_3, .string a0_4, .string a0_5] 33 (0, 0)) (by (with_reducible repeat (first | refine blk_drewN ?_ _ | refine blk_drew ?_ | refine blk_alloc ?_ _)); exact BK229.out)) : gb230 ≠ gb229)); clear BK229; clear HB; have BK229 := n0_; have HB := n1_; have BK230 := n2_; have GW230 := n3_; have GE230 := n4_; have NB229_230 := n5_; have NB230_229 := n6_; clear n0_ n1_ n2_ n3_ n4_ n5_ n6_; clear hb hbox hg; have hnb31 := NB229_230.out; have hnc31 := NB230_229.out; have hcz32_0 : w30.cell? ⟨gb229, 0, none⟩ = some (.int .i64 a0_0) := (blk_cell BK229.out 0).trans rfl; have hcz32_1 : w30.cell? ⟨gb229, 1, none⟩ = some (.string a0_1) := (blk_cell BK229.out 1).trans rfl; have hcz32_2 : w30.cell? ⟨gb229, 2, none⟩ = some (.string a0_2) := (blk_cell BK229.out 2).trans rfl; have hcz32_3 : w30.cell? ⟨gb229, 3, none⟩ = some (.slice A0_3 l0_3.length c0_3) := (blk_cell BK229.out 3).trans rfl; have hcz32_4 : w30.cell? ⟨gb229, 4, none⟩ = some (.string a0_4) := (blk_cell BK229.out 4).trans rfl; have hcz32_5 : w30.cell? ⟨gb229, 5, none⟩ = some (.string a0_5) := (blk_cell BK229.out 5).trans rfl; have hfz32_0 := blk_frozen BK229.out 0; have hfz32_1 := blk_frozen BK229.out 1; have hfz32_2 := blk_frozen BK229.out 2; have hfz32_3 := blk_frozen BK229.out 3; have hfz32_4 := blk_frozen BK229.out 4; have hfz32_5 := blk_frozen BK229.out 5; have hcz33_0 : w30.cell? ⟨gb230, 0, none⟩ = some (.int .i64 a1_0) := (blk_cell BK230.out 0).trans rfl; have hcz33_1 : w30.cell? ⟨gb230, 1, none⟩ = some (.string a1_1) := (blk_cell BK230.out 1).trans rfl; have hcz33_2 : w30.cell? ⟨gb230, 2, none⟩ = some (.string a1_2) := (blk_cell BK230.out 2).trans rfl; have hcz33_3 : w30.cell? ⟨gb230, 3, none⟩ = some (.slice A1_3 l1_3.length c1_3) := (blk_cell BK230.out 3).trans rfl; have hcz33_4 : w30.cell? ⟨gb230, 4, none⟩ = some (.string a1_4) := (blk_cell BK230.out 4).trans rfl; have hcz33_5 : w30.cell? ⟨gb230, 5, none⟩ = some (.string a1_5) := (blk_cell BK230.out 5).trans rfl; have hfz33_0 := blk_frozen BK230.out 0; have hfz33_1 := blk_frozen BK230.out 1; have hfz33_2 := blk_frozen BK230.out 2; have hfz33_3 := blk_frozen BK230.out 3; have hfz33_4 := blk_frozen BK230.out 4; have hfz33_5 := blk_frozen BK230.out 5))
      go_ret
      exact ⟨by first | rfl | (simp [errW_none, errW_some] <;> rfl) | (simp [*, errW_none, errW_some] <;> rfl), by repeat (first | (with_reducible first | exact HB.out | apply below_alloc | apply pw_below_drewN | apply below_drew1 | refine below_set ?_ GE229.out | refine below_set ?_ GE230.out) | exact HB.out)⟩
  · rw [if_neg c3] at H
    have c3b0 : (a0_0 == a1_0) = false := beq_eq_false_iff_ne.mpr c3
    have c3b1 : (a0_0 != a1_0) = true := bne_iff_ne.mpr c3
    obtain rfl := Option.some.inj H
    go_enter Tryz.func92, Tryz.ntmps92
    go_wp2_with (first | ((with_reducible refine gate_dst (N := 2) rfl ?_); refine box_event ?hg (N := 2) ?hd (cs := #[.int .i64 a0_0, .string a0_1, .string a0_2, .slice A0_3 l0_3.length c0_3, .string a0_4, .string a0_5]) (t := 33) ?hr ?_; (case hd => rfl); (case hg => rfl); (case hr => first | (go_simp; done) | (go_simp; rfl)); intro gb229 hg w34 hbox hb; have n0_ := Aside0.mk (below_step (by repeat (first | (with_reducible first | exact HB.out | apply below_alloc | apply pw_below_drewN | apply below_drew1) | exact HB.out)) hb); have n1_ := Aside0.mk (hbox); have n2_ := Aside0.mk ((by rw [hg]; exact (below_size (by repeat (first | (with_reducible first | exact HB.out | apply below_alloc | apply pw_below_drewN | apply below_drew1) | exact HB.out))) : w.heap.size ≤ gb229)); have n3_ := Aside0.mk ((by rw [hg]; exact (below_size (by repeat (first | (with_reducible first | exact HB.out | apply below_alloc | apply pw_below_drewN | apply below_drew1) | exact HB.out))) : w.heap.size ≤ gb229)); clear HB; have HB := n0_; have BK229 := n1_; have GW229 := n2_; have GE229 := n3_; clear n0_ n1_ n2_ n3_; clear hb hbox hg) | ((with_reducible refine gate_dst (N := 3) rfl ?_); refine box_event ?hg (N := 3) ?hd (cs := #[.int .i64 a1_0, .string a1_1, .string a1_2, .slice A1_3 l1_3.length c1_3, .string a1_4, .string a1_5]) (t := 33) ?hr ?_; (case hd => rfl); (case hg => rfl); (case hr => first | (go_simp; done) | (go_simp; rfl)); intro gb230 hg w35 hbox hb; have n0_ := Aside0.mk (blk_below (g := gb229) (o := .cells #[.int .i64 a0_0, .string a0_1, .string a0_2, .slice A0_3 l0_3.length c0_3, .string a0_4, .string a0_5] 33 (0, 0)) (by (with_reducible repeat (first | refine blk_drewN ?_ _ | refine blk_drew ?_ | refine blk_alloc ?_ _)); exact BK229.out) hb); have n1_ := Aside0.mk (below_step (by repeat (first | (with_reducible first | exact HB.out | apply below_alloc | apply pw_below_drewN | apply below_drew1 | refine below_set ?_ GE229.out) | exact HB.out)) hb); have n2_ := Aside0.mk (hbox); have n3_ := Aside0.mk ((by rw [hg]; exact (below_size (by repeat (first | (with_reducible first | exact HB.out | apply below_alloc | apply pw_below_drewN | apply below_drew1 | refine below_set ?_ GE229.out) | exact HB.out))) : w.heap.size ≤ gb230)); have n4_ := Aside0.mk ((by rw [hg]; exact (below_size (by repeat (first | (with_reducible first | exact HB.out | apply below_alloc | apply pw_below_drewN | apply below_drew1 | refine below_set ?_ GE229.out) | exact HB.out))) : w.heap.size ≤ gb230)); have n5_ := Aside0.mk ((by rw [hg]; exact Nat.ne_of_lt (blk_lt (g := gb229) (o := .cells #[.int .i64 a0_0, .string a0_1, .string a0_2, .slice A0_3 l0_3.length c0_3, .string a0_4, .string a0_5] 33 (0, 0)) (by (with_reducible repeat (first | refine blk_drewN ?_ _ | refine blk_drew ?_ | refine blk_alloc ?_ _)); exact BK229.out)) : gb229 ≠ gb230)); have n6_ := Aside0.mk ((by rw [hg]; exact Nat.ne_of_gt (blk_lt (g := gb229) (o := .cells #[.int .i64 a0_0, .string a0_1, .string a0_2, .slice A0_3 l0_3.length c0_3, .string a0_4, .string a0_5] 33 (0, 0)) (by (with_reducible repeat (first | refine blk_drewN ?_ _ | refine blk_drew ?_ | refine blk_alloc ?_ _)); exact BK229.out)) : gb230 ≠ gb229)); clear BK229; clear HB; have BK229 := n0_; have HB := n1_; have BK230 := n2_; have GW230 := n3_; have GE230 := n4_; have NB229_230 := n5_; have NB230_229 := n6_; clear n0_ n1_ n2_ n3_ n4_ n5_ n6_; clear hb hbox hg; have hnb36 := NB229_230.out; have hnc36 := NB230_229.out; have hcz37_0 : w35.cell? ⟨gb229, 0, none⟩ = some (.int .i64 a0_0) := (blk_cell BK229.out 0).trans rfl; have hcz37_1 : w35.cell? ⟨gb229, 1, none⟩ = some (.string a0_1) := (blk_cell BK229.out 1).trans rfl; have hcz37_2 : w35.cell? ⟨gb229, 2, none⟩ = some (.string a0_2) := (blk_cell BK229.out 2).trans rfl; have hcz37_3 : w35.cell? ⟨gb229, 3, none⟩ = some (.slice A0_3 l0_3.length c0_3) := (blk_cell BK229.out 3).trans rfl; have hcz37_4 : w35.cell? ⟨gb229, 4, none⟩ = some (.string a0_4) := (blk_cell BK229.out 4).trans rfl; have hcz37_5 : w35.cell? ⟨gb229, 5, none⟩ = some (.string a0_5) := (blk_cell BK229.out 5).trans rfl; have hfz37_0 := blk_frozen BK229.out 0; have hfz37_1 := blk_frozen BK229.out 1; have hfz37_2 := blk_frozen BK229.out 2; have hfz37_3 := blk_frozen BK229.out 3; have hfz37_4 := blk_frozen BK229.out 4; have hfz37_5 := blk_frozen BK229.out 5; have hcz38_0 : w35.cell? ⟨gb230, 0, none⟩ = some (.int .i64 a1_0) := (blk_cell BK230.out 0).trans rfl; have hcz38_1 : w35.cell? ⟨gb230, 1, none⟩ = some (.string a1_1) := (blk_cell BK230.out 1).trans rfl; have hcz38_2 : w35.cell? ⟨gb230, 2, none⟩ = some (.string a1_2) := (blk_cell BK230.out 2).trans rfl; have hcz38_3 : w35.cell? ⟨gb230, 3, none⟩ = some (.slice A1_3 l1_3.length c1_3) := (blk_cell BK230.out 3).trans rfl; have hcz38_4 : w35.cell? ⟨gb230, 4, none⟩ = some (.string a1_4) := (blk_cell BK230.out 4).trans rfl; have hcz38_5 : w35.cell? ⟨gb230, 5, none⟩ = some (.string a1_5) := (blk_cell BK230.out 5).trans rfl; have hfz38_0 := blk_frozen BK230.out 0; have hfz38_1 := blk_frozen BK230.out 1; have hfz38_2 := blk_frozen BK230.out 2; have hfz38_3 := blk_frozen BK230.out 3; have hfz38_4 := blk_frozen BK230.out 4; have hfz38_5 := blk_frozen BK230.out 5))
    go_ret
    exact ⟨by first | rfl | (simp [errW_none, errW_some] <;> rfl) | (simp [*, errW_none, errW_some] <;> rfl), by repeat (first | (with_reducible first | exact HB.out | apply below_alloc | apply pw_below_drewN | apply below_drew1 | refine below_set ?_ GE229.out | refine below_set ?_ GE230.out) | exact HB.out)⟩

end Go.Proofs.YtodpdlpncgkkdaaGreatDoor.P
end
section
namespace Go.Proofs.YtodpdlpncgkkdaaGreatDoor
open Go.RowKit Go.Proofs.YtodpdlpncgkkdaaGreatDoorW.PrintWords Go.Shelf Go.Maps
deriving instance DecidableEq for P.S33

theorem text_eq {a b : ByteArray} : a.toList = b.toList ↔ a = b := toList_eq
theorem same_step {x0 x1 : List ByteArray} {i : Nat} (h0 : i < x0.length) (h1 : i < x1.length) : decide (x0.drop i = x1.drop i) = if (rdOf ByteArray.empty x0 (i : Int)).toList = (rdOf ByteArray.empty x1 (i : Int)).toList then decide (x0.drop (i + 1) = x1.drop (i + 1)) else false := by
  have d0 : x0.drop i = x0[i] :: x0.drop (i + 1) := List.drop_eq_getElem_cons h0
  have d1 : x1.drop i = x1[i] :: x1.drop (i + 1) := List.drop_eq_getElem_cons h1
  have e0 : rdOf ByteArray.empty x0 (i : Int) = x0[i] := by simp [rdOf, h0]
  have e1 : rdOf ByteArray.empty x1 (i : Int) = x1[i] := by simp [rdOf, h1]
  rw [e0, e1, Bool.eq_iff_iff, decide_eq_true_iff, d0, d1, List.cons.injEq]
  by_cases h : x0[i] = x1[i]
  · rw [if_pos (text_eq.2 h), decide_eq_true_iff]; exact ⟨fun h => h.2, fun k => ⟨h, k⟩⟩
  · rw [if_neg (fun e => h (text_eq.1 e))]; exact ⟨fun k => absurd k.1 h, fun k => by cases k⟩
theorem ref_same_l (x0 x1 : List ByteArray) (hl : x0.length = x1.length) (hb : x0.length ≤ 9223372036854775807) : ∀ (k i : Nat), i ≤ x0.length → x0.length - i < k → P.monticuleref01_Same.l0 k x0 x1 (i : Int) = some (decide (x0.drop i = x1.drop i))
  | 0, i, _, h => by omega
  | k + 1, i, hi, h => by
    rw [P.monticuleref01_Same.l0]
    by_cases hlt : i < x0.length
    · rw [if_pos (by omega), if_pos (by omega), if_pos (by omega), same_step hlt (by omega)]
      split
      · have : wrap64 ((i : Int) + 1) = ((i + 1 : Nat) : Int) := by rw [show ((i : Int) + 1) = ((i + 1 : Nat) : Int) by omega]; exact (by unfold wrap64; omega)
        rw [this]
        exact ref_same_l x0 x1 hl hb k (i + 1) (by omega) (by omega)
      · rfl
    · rw [if_neg (by omega), List.drop_of_length_le (by omega), List.drop_of_length_le (by omega)]
      rfl
theorem equal_l (x0 x1 : List ByteArray) (hl : x0.length = x1.length) (hb : x0.length ≤ 9223372036854775807) : ∀ (k i : Nat), i ≤ x0.length → x0.length - i < k → P.slices_Equal_string_string.l0 k x0 x1 (x0.length : Int) (i : Int) = some (decide (x0.drop i = x1.drop i))
  | 0, i, _, h => by omega
  | k + 1, i, hi, h => by
    rw [P.slices_Equal_string_string.l0]
    by_cases hlt : i < x0.length
    · rw [if_pos (by omega), if_pos (by omega), if_pos (by omega), if_pos (by omega), same_step hlt (by omega)]
      split
      · have : wrap64 ((i : Int) + 1) = ((i + 1 : Nat) : Int) := by rw [show ((i : Int) + 1) = ((i + 1 : Nat) : Int) by omega]; exact (by unfold wrap64; omega)
        rw [this]
        exact equal_l x0 x1 hl hb k (i + 1) (by omega) (by omega)
      · rfl
    · rw [if_neg (by omega), List.drop_of_length_le (by omega), List.drop_of_length_le (by omega)]
      rfl
theorem ref_same (x0 x1 : List ByteArray) (hb : x0.length ≤ 9223372036854775807) : P.monticuleref01_Same.f (x0.length + 1) x0 x1 = some (decide (x0 = x1)) := by
  unfold P.monticuleref01_Same.f
  by_cases hl : x0.length = x1.length
  · rw [if_pos (by omega)]
    have := ref_same_l x0 x1 hl hb (x0.length + 1) 0 (by omega) (by omega)
    simpa using this
  · rw [if_neg (by omega)]
    have : x0 ≠ x1 := fun e => hl (by rw [e])
    simp [this]
theorem equal_f (x0 x1 : List ByteArray) (hb : x0.length ≤ 9223372036854775807) : P.slices_Equal_string_string.f (x0.length + 1) x0 x1 = some (decide (x0 = x1)) := by
  unfold P.slices_Equal_string_string.f
  by_cases hl : x0.length = x1.length
  · rw [if_pos (by omega)]
    have := equal_l x0 x1 hl hb (x0.length + 1) 0 (by omega) (by omega)
    simpa using this
  · rw [if_neg (by omega)]
    have : x0 ≠ x1 := fun e => hl (by rw [e])
    simp [this]
theorem def_eq (d e : Def) : d = e ↔ d.f0 = e.f0 ∧ d.f1 = e.f1 ∧ d.f2 = e.f2 ∧ d.f3 = e.f3 ∧ d.f4 = e.f4 ∧ d.f5 = e.f5 :=
  ⟨fun h => by subst h; exact ⟨rfl, rfl, rfl, rfl, rfl, rfl⟩, fun ⟨a, b, c, x, y, z⟩ => def_ext a b c x y z⟩
theorem ref_def_same (d e : Def) (hb : d.f3.length ≤ 9223372036854775807) : P.monticuleref07_Same.f (d.f3.length + 1) d.f0 d.f1 d.f2 d.f3 d.f4 d.f5 e.f0 e.f1 e.f2 e.f3 e.f4 e.f5 = some (decide (d = e)) := by
  unfold P.monticuleref07_Same.f
  rw [ref_same _ _ hb]
  simp only [text_eq, def_eq]
  by_cases h0 : d.f0 = e.f0 <;> by_cases h1 : d.f1 = e.f1 <;> by_cases h2 : d.f2 = e.f2 <;> by_cases h4 : d.f4 = e.f4 <;> by_cases h5 : d.f5 = e.f5 <;> simp [h0, h1, h2, h4, h5]
theorem def_same (d e : Def) (hb : d.f3.length ≤ 9223372036854775807) : P.def_Same.f (d.f3.length + 1) d.f0 d.f1 d.f2 d.f3 d.f4 d.f5 e.f0 e.f1 e.f2 e.f3 e.f4 e.f5 = some (decide (d = e)) := by
  unfold P.def_Same.f
  rw [equal_f _ _ hb]
  have hb5 : (d.f5.toList == e.f5.toList) = decide (d.f5 = e.f5) := by
    rw [Bool.eq_iff_iff]; simp [text_eq]
  simp only [text_eq, def_eq, hb5]
  by_cases h0 : d.f0 = e.f0 <;> by_cases h1 : d.f1 = e.f1 <;> by_cases h2 : d.f2 = e.f2 <;> by_cases h3 : d.f3 = e.f3 <;> by_cases h4 : d.f4 = e.f4 <;> simp [h0, h1, h2, h3, h4]
theorem ref_same_calls (v1 v2 : Value) (d e : Def) (w : World) (h1 : DefAt w v1 d) (h2 : DefAt w v2 e) : Calls Tryz.prog 27 #[v1, v2] w fun x w' => x = .returned (.bool (decide (d = e))) ∧ Below w.heap.size w w' := by
  obtain ⟨A, c, rfl, hl, hC⟩ := h1
  obtain ⟨B, c', rfl, hl', hC'⟩ := h2
  exact P.monticuleref07_Same.calls _ _ _ _ A c d.f3 _ _ _ _ _ B c' e.f3 _ _ _ w hC hl hC' hl' (ref_def_same d e hC.2.1)
theorem def_same_calls (v1 v2 : Value) (d e : Def) (w : World) (h1 : DefAt w v1 d) (h2 : DefAt w v2 e) : Calls Tryz.prog 92 #[v1, v2] w fun x w' => x = .returned (.bool (decide (d = e))) ∧ Below w.heap.size w w' := by
  obtain ⟨A, c, rfl, hl, hC⟩ := h1
  obtain ⟨B, c', rfl, hl', hC'⟩ := h2
  exact P.def_Same.calls _ _ _ _ A c d.f3 _ _ _ _ _ B c' e.f3 _ _ _ w hC hl hC' hl' (def_same d e hC.2.1)
end Go.Proofs.YtodpdlpncgkkdaaGreatDoor
end
section
namespace Go.Proofs.YtodpdlpncgkkdaaGreatDoor.P
open Go.RowKit Go.Proofs.YtodpdlpncgkkdaaGreatDoorW.PrintWords Go.Proofs.YtodpdlpncgkkdaaGreatDoorW.PrintLast Go.Proofs.YtodpdlpncgkkdaaGreatDoorW.PrintMore
attribute [local go_sem] max2_int min2_int max_two min_two max_three min_three max_four min_four   -- for this text's walks alone
set_option linter.unusedVariables false
set_option linter.unusedSimpArgs false

/-! ### monticuleref08_Find: function 24 -/
def monticuleref08_Find.l0 : Nat → List (S33) → ByteArray → Int → Option (Int)
  | 0, _, _, _ => none
  | k + 1, x0, x1, x5 => if x5 < (x0.length : Int) then (if 0 ≤ x5 then ((monticuleref07_Key.f k ((rd_T33 x0 x5).f0) ((rd_T33 x0 x5).f1) ((rd_T33 x0 x5).f2) ((rd_T33 x0 x5).f3) ((rd_T33 x0 x5).f4) ((rd_T33 x0 x5).f5)).bind fun t196 => (if t196.toList = x1.toList then (some x5) else (monticuleref08_Find.l0 k x0 x1 (wrap64 (x5 + 1))))) else (none)) else (some (-1))
def monticuleref08_Find.f (k : Nat) (l0 : List (S33)) (a1 : ByteArray) : Option (Int) := monticuleref08_Find.l0 k l0 a1 0
theorem monticuleref08_Find.mono_l : ∀ k, (∀ y0 y1 y2, LeO (monticuleref08_Find.l0 k y0 y1 y2) (monticuleref08_Find.l0 (k + 1) y0 y1 y2))
  | 0 => fun _ _ _ r h => by simp [monticuleref08_Find.l0] at h
  | k + 1 => by
    have ih0 := monticuleref08_Find.mono_l k
    · intro y0 y1 y2
      unfold monticuleref08_Find.l0
      repeat' first
      | (with_reducible exact ih0 _ _ _)
      | (with_reducible exact monticuleref07_Key.mono _ _ _ _ _ _ _)
      | (with_reducible exact LeO.refl _)
      | (with_reducible exact LeO.none _)
      | (with_reducible refine LeO.ite ?_ ?_)
      | (with_reducible refine LeO.bind ?_ (fun _ => ?_))
      | exact ih0 _ _ _
      | exact monticuleref07_Key.mono _ _ _ _ _ _ _
      | exact LeO.none _
      | refine LeO.ite ?_ ?_
      | refine LeO.bind ?_ (fun _ => ?_)
theorem monticuleref08_Find.mono : ∀ a0 a1 k, LeO (monticuleref08_Find.f k a0 a1) (monticuleref08_Find.f (k + 1) a0 a1) := by
  intro a0 a1 k
  have ih0 := monticuleref08_Find.mono_l k
  unfold monticuleref08_Find.f
  repeat' first
      | (with_reducible exact ih0 _ _ _)
      | (with_reducible exact monticuleref07_Key.mono _ _ _ _ _ _ _)
      | (with_reducible exact LeO.refl _)
      | (with_reducible exact LeO.none _)
      | (with_reducible refine LeO.ite ?_ ?_)
      | (with_reducible refine LeO.bind ?_ (fun _ => ?_))
      | exact ih0 _ _ _
      | exact monticuleref07_Key.mono _ _ _ _ _ _ _
      | exact LeO.none _
      | refine LeO.ite ?_ ?_
      | refine LeO.bind ?_ (fun _ => ?_)
set_option maxHeartbeats 8000000 in
set_option maxRecDepth 100000 in
theorem monticuleref08_Find.calls (k : Nat) (A0 : Option Addr) (c0 : Nat) (l0 : List (S33)) (a1 : ByteArray) (r : Int) (w : World) (hr0 : Kd.C k33 w A0 l0.length l0) (hc0 : l0.length ≤ c0) (h : monticuleref08_Find.f k l0 a1 = some r) :
    Calls Tryz.prog 24 #[.slice A0 l0.length c0, .string a1] w fun e w' => e = .returned (.int .i64 r) ∧ Below w.heap.size w w' := by
  have hu33 := Tryz.underlying33
  have HR0 := Aside0.mk hr0
  have HC0 := Aside0.mk hc0
  clear hr0 hc0
  have HB := Aside0.mk (Below.refl w.heap.size w)
  have H : (monticuleref08_Find.l0 k l0 a1 0) = some r := h
  clear h
  have H' := Aside0.mk H
  clear H
  go_enter Tryz.func24, Tryz.ntmps24
  go_wp2
  go_loopg [5] k (fun kq v5 w' => ∃ (x5_1 : Int), v5 = .int .i64 x5_1 ∧ Aside0 (monticuleref08_Find.l0 kq l0 a1 x5_1 = some r) ∧ Aside0 (kq ≤ k) ∧ Aside0 (Below w.heap.size w w'))
  case atStart => exact ⟨(0), (by first | rfl | (simp; done) | (simp [*]; done)), H', ⟨Nat.le_refl _⟩, ⟨by repeat (first | (with_reducible first | exact HB.out | apply below_alloc | apply pw_below_drewN | apply below_drew1) | exact HB.out)⟩⟩
  case round =>
    clear H'
    try clear c2
    try clear p2
    obtain ⟨x5_1, rfl, HA, HK1, HB⟩ := hrel
    cases gk with
    | zero => exact absurd HA.out (by simp [monticuleref08_Find.l0])
    | succ k1 =>
      have H := HA.out
      clear HA
      simp only [monticuleref08_Find.l0] at H
      by_cases c3 : x5_1 < (l0.length : Int)
      · rw [if_pos c3] at H
        have c3b0 : decide (x5_1 < (l0.length : Int)) = true := decide_eq_true c3
        clear c3
        by_cases c4 : 0 ≤ x5_1
        · rw [if_pos c4] at H
          have c4b0 : decide (0 ≤ x5_1) = true := decide_eq_true c4
          clear c4
          replace H := Option.bind_eq_some_iff.mp H
          obtain ⟨t196, A50, H⟩ := H
          replace H : (if t196.toList = a1.toList then (some x5_1) else (monticuleref08_Find.l0 k1 l0 a1 (wrap64 (x5_1 + 1)))) = some r := H
          have A5 := Aside0.mk A50
          clear A50
          by_cases c6 : t196.toList = a1.toList
          · rw [if_pos c6] at H
            have c6b0 : (t196.toList == a1.toList) = true := beq_iff_eq.mpr c6
            have c6b1 : (t196.toList != a1.toList) = false := bne_eq_false_iff_eq.mpr c6
            clear c6
            obtain rfl := Option.some.inj H
            have p195 : 0 ≤ (x5_1 : Int) := of_decide_eq_true (by first | (with_reducible assumption) | assumption)
            have q195 : x5_1 < (l0.length : Int) := of_decide_eq_true (by first | (with_reducible assumption) | assumption)
            obtain ⟨ad195, A195_3, c195_3, e195, hx195_0, hx195_1, hx195_2, hx195_3, hx195_4, hx195_5, hl195_3, hi195_3⟩ := at_T33 HR0.out x5_1 p195 q195
            cases e195
            replace hx195_0 := (HB.out.cell (World.block_lt_of_cell? w _ hx195_0)).trans hx195_0
            replace hx195_1 := (HB.out.cell (World.block_lt_of_cell? w _ hx195_1)).trans hx195_1
            replace hx195_2 := (HB.out.cell (World.block_lt_of_cell? w _ hx195_2)).trans hx195_2
            replace hx195_3 := (HB.out.cell (World.block_lt_of_cell? w _ hx195_3)).trans hx195_3
            replace hx195_4 := (HB.out.cell (World.block_lt_of_cell? w _ hx195_4)).trans hx195_4
            replace hx195_5 := (HB.out.cell (World.block_lt_of_cell? w _ hx195_5)).trans hx195_5
            have HR195_3 := Aside0.mk hi195_3
            have HC195_3 := Aside0.mk hl195_3
            clear hi195_3 hl195_3
            replace p195 := eq_true p195
            replace q195 := eq_true q195
            go_wp2_with (first | ((with_reducible refine gate_callee (f := 71) rfl ?_); refine goesL_ (some 16) rfl rfl Tryz.func71 (by kernel_rfl) rfl #[.agg #[.int .i64 ((rd_T33 l0 x5_1).f0), .string ((rd_T33 l0 x5_1).f1), .string ((rd_T33 l0 x5_1).f2), .slice A195_3 ((rd_T33 l0 x5_1).f3).length c195_3, .string ((rd_T33 l0 x5_1).f4), .string ((rd_T33 l0 x5_1).f5)]] rfl (by (try simp only [List.map_toArray, List.map_cons, List.map_nil]); first | done | rfl | (simp only [List.length_drop, List.length_take]; rfl)) ?_; (with_reducible refine (monticuleref07_Key.calls k1 ((rd_T33 l0 x5_1).f0) ((rd_T33 l0 x5_1).f1) ((rd_T33 l0 x5_1).f2) _ _ ((rd_T33 l0 x5_1).f3) ((rd_T33 l0 x5_1).f4) ((rd_T33 l0 x5_1).f5) t196 _ ?side1 ?side2 A5.out).mono ?_); (case side1 => repeat (first | exact (Kd.C_below HR195_3.out HB.out) | (with_reducible refine Kd.C_alloc ?_ _) | (with_reducible refine Kd.C_drewN ?_ _) | (with_reducible refine Kd.C_drew ?_))); (case side2 => exact HC195_3.out); rintro e w7 ⟨rfl, hb⟩; refine ⟨_, rfl, ?_⟩; have n0_ := Aside0.mk (below_step (by repeat (first | (with_reducible first | exact HB.out | apply below_alloc | apply pw_below_drewN | apply below_drew1) | exact HB.out)) hb); clear HB; have HB := n0_; clear n0_; (try clear hb); (try clear hb2); (try clear hk); (try clear hi)))
            go_ret
            exact ⟨by first | rfl | (simp [errW_none, errW_some] <;> rfl) | (simp [*, errW_none, errW_some] <;> rfl), by repeat (first | (with_reducible first | exact HB.out | apply below_alloc | apply pw_below_drewN | apply below_drew1) | exact HB.out)⟩
          · rw [if_neg c6] at H
            have c6b0 : (t196.toList == a1.toList) = false := beq_eq_false_iff_ne.mpr c6
            have c6b1 : (t196.toList != a1.toList) = true := bne_iff_ne.mpr c6
            have H' := Aside0.mk H
            clear H
            have p195 : 0 ≤ (x5_1 : Int) := of_decide_eq_true (by first | (with_reducible assumption) | assumption)
            have q195 : x5_1 < (l0.length : Int) := of_decide_eq_true (by first | (with_reducible assumption) | assumption)
            obtain ⟨ad195, A195_3, c195_3, e195, hx195_0, hx195_1, hx195_2, hx195_3, hx195_4, hx195_5, hl195_3, hi195_3⟩ := at_T33 HR0.out x5_1 p195 q195
            cases e195
            replace hx195_0 := (HB.out.cell (World.block_lt_of_cell? w _ hx195_0)).trans hx195_0
            replace hx195_1 := (HB.out.cell (World.block_lt_of_cell? w _ hx195_1)).trans hx195_1
            replace hx195_2 := (HB.out.cell (World.block_lt_of_cell? w _ hx195_2)).trans hx195_2
            replace hx195_3 := (HB.out.cell (World.block_lt_of_cell? w _ hx195_3)).trans hx195_3
            replace hx195_4 := (HB.out.cell (World.block_lt_of_cell? w _ hx195_4)).trans hx195_4
            replace hx195_5 := (HB.out.cell (World.block_lt_of_cell? w _ hx195_5)).trans hx195_5
            have HR195_3 := Aside0.mk hi195_3
            have HC195_3 := Aside0.mk hl195_3
            clear hi195_3 hl195_3
            replace p195 := eq_true p195
            replace q195 := eq_true q195
            go_wp2_with (first | ((with_reducible refine gate_callee (f := 71) rfl ?_); refine goesL_ (some 16) rfl rfl Tryz.func71 (by kernel_rfl) rfl #[.agg #[.int .i64 ((rd_T33 l0 x5_1).f0), .string ((rd_T33 l0 x5_1).f1), .string ((rd_T33 l0 x5_1).f2), .slice A195_3 ((rd_T33 l0 x5_1).f3).length c195_3, .string ((rd_T33 l0 x5_1).f4), .string ((rd_T33 l0 x5_1).f5)]] rfl (by (try simp only [List.map_toArray, List.map_cons, List.map_nil]); first | done | rfl | (simp only [List.length_drop, List.length_take]; rfl)) ?_; (with_reducible refine (monticuleref07_Key.calls k1 ((rd_T33 l0 x5_1).f0) ((rd_T33 l0 x5_1).f1) ((rd_T33 l0 x5_1).f2) _ _ ((rd_T33 l0 x5_1).f3) ((rd_T33 l0 x5_1).f4) ((rd_T33 l0 x5_1).f5) t196 _ ?side1 ?side2 A5.out).mono ?_); (case side1 => repeat (first | exact (Kd.C_below HR195_3.out HB.out) | (with_reducible refine Kd.C_alloc ?_ _) | (with_reducible refine Kd.C_drewN ?_ _) | (with_reducible refine Kd.C_drew ?_))); (case side2 => exact HC195_3.out); rintro e w8 ⟨rfl, hb⟩; refine ⟨_, rfl, ?_⟩; have n0_ := Aside0.mk (below_step (by repeat (first | (with_reducible first | exact HB.out | apply below_alloc | apply pw_below_drewN | apply below_drew1) | exact HB.out)) hb); clear HB; have HB := n0_; clear n0_; (try clear hb); (try clear hb2); (try clear hk); (try clear hi)))
            go_roundg k1
            case measure => have := HK1.out; omega
            case rel => exact ⟨(wrap64 (x5_1 + 1)), (by first | rfl | (simp; done) | (simp [*]; done)), H', ⟨by have := HK1.out; omega⟩, ⟨by repeat (first | (with_reducible first | exact HB.out | apply below_alloc | apply pw_below_drewN | apply below_drew1) | exact HB.out)⟩⟩
        · rw [if_neg c4] at H
          exact absurd H (by simp)
      · rw [if_neg c3] at H
        have c3b0 : decide (x5_1 < (l0.length : Int)) = false := decide_eq_false c3
        clear c3
        obtain rfl := Option.some.inj H
        go_wp2
        go_ret
        exact ⟨by first | rfl | (simp [errW_none, errW_some] <;> rfl) | (simp [*, errW_none, errW_some] <;> rfl), by repeat (first | (with_reducible first | exact HB.out | apply below_alloc | apply pw_below_drewN | apply below_drew1) | exact HB.out)⟩

end Go.Proofs.YtodpdlpncgkkdaaGreatDoor.P
end
