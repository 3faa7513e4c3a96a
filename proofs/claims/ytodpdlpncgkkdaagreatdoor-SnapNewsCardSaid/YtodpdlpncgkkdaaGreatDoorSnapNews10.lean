/- For every input law08.SnapNews answers true: New, Get and All agree with the reference, and the order of definitions does not matter; no condition. (Part 10 of what it rests on.) -/
import Derived.Test.YtodpdlpncgkkdaaGreatDoorSnapNews1
import Derived.Test.YtodpdlpncgkkdaaGreatDoorSnapNews9
import Derived.Test.YtodpdlpncgkkdaaGreatDoorSnapNews5
set_option linter.unusedVariables false
set_option linter.unusedSimpArgs false
section
namespace Go.Proofs.YtodpdlpncgkkdaaGreatDoor.P
open Go.RowKit Go.Proofs.YtodpdlpncgkkdaaGreatDoorW.PrintWords Go.Proofs.YtodpdlpncgkkdaaGreatDoorW.PrintLast Go.Proofs.YtodpdlpncgkkdaaGreatDoorW.PrintMore
attribute [local go_sem] max2_int min2_int max_two min_two max_three min_three max_four min_four   -- for this text's walks alone
set_option linter.unusedVariables false
set_option linter.unusedSimpArgs false

/-! ### monticuleref08_Write: function 29 -/
def monticuleref08_Write.l0 : Nat → List (S33) → ByteArray → Int → Option (ByteArray)
  | 0, _, _, _ => none
  | k + 1, x0, x3, x5 => if x5 < (x0.length : Int) then (if 0 ≤ x5 then ((monticuleref07_Octets.f k ((rd_T33 x0 x5).f0) ((rd_T33 x0 x5).f1) ((rd_T33 x0 x5).f2) ((rd_T33 x0 x5).f3) ((rd_T33 x0 x5).f4) ((rd_T33 x0 x5).f5)).bind fun t256 => (if x3.size + t256.size ≤ 9223372036854775807 then (monticuleref08_Write.l0 k x0 (x3 ++ t256) (wrap64 (x5 + 1))) else (none))) else (none)) else (some x3)
def monticuleref08_Write.f (k : Nat) (l0 : List (S33)) : Option (ByteArray) := (monticuleref01_Num.f k (l0.length : Int)).bind fun bt253 => (monticuleref08_Write.l0 k l0 bt253.1 0)
theorem monticuleref08_Write.mono_l : ∀ k, (∀ y0 y1 y2, LeO (monticuleref08_Write.l0 k y0 y1 y2) (monticuleref08_Write.l0 (k + 1) y0 y1 y2))
  | 0 => fun _ _ _ r h => by simp [monticuleref08_Write.l0] at h
  | k + 1 => by
    have ih0 := monticuleref08_Write.mono_l k
    · intro y0 y1 y2
      unfold monticuleref08_Write.l0
      repeat' first
      | (with_reducible exact ih0 _ _ _)
      | (with_reducible exact monticuleref01_Num.mono _ _)
      | (with_reducible exact monticuleref07_Octets.mono _ _ _ _ _ _ _)
      | (with_reducible exact LeO.refl _)
      | (with_reducible exact LeO.none _)
      | (with_reducible refine LeO.ite ?_ ?_)
      | (with_reducible refine LeO.bind ?_ (fun _ => ?_))
      | exact ih0 _ _ _
      | exact monticuleref01_Num.mono _ _
      | exact monticuleref07_Octets.mono _ _ _ _ _ _ _
      | exact LeO.none _
      | refine LeO.ite ?_ ?_
      | refine LeO.bind ?_ (fun _ => ?_)
theorem monticuleref08_Write.mono : ∀ a0 k, LeO (monticuleref08_Write.f k a0) (monticuleref08_Write.f (k + 1) a0) := by
  intro a0 k
  have ih0 := monticuleref08_Write.mono_l k
  unfold monticuleref08_Write.f
  repeat' first
      | (with_reducible exact ih0 _ _ _)
      | (with_reducible exact monticuleref01_Num.mono _ _)
      | (with_reducible exact monticuleref07_Octets.mono _ _ _ _ _ _ _)
      | (with_reducible exact LeO.refl _)
      | (with_reducible exact LeO.none _)
      | (with_reducible refine LeO.ite ?_ ?_)
      | (with_reducible refine LeO.bind ?_ (fun _ => ?_))
      | exact ih0 _ _ _
      | exact monticuleref01_Num.mono _ _
      | exact monticuleref07_Octets.mono _ _ _ _ _ _ _
      | exact LeO.none _
      | refine LeO.ite ?_ ?_
      | refine LeO.bind ?_ (fun _ => ?_)
set_option maxHeartbeats 8000000 in
set_option maxRecDepth 100000 in
theorem monticuleref08_Write.calls (k : Nat) (A0 : Option Addr) (c0 : Nat) (l0 : List (S33)) (r : ByteArray) (w : World) (hr0 : Kd.C k33 w A0 l0.length l0) (hc0 : l0.length ≤ c0) (h : monticuleref08_Write.f k l0 = some r) :
    Calls Tryz.prog 29 #[.slice A0 l0.length c0] w fun e w' => e = .returned (.string r) ∧ Below w.heap.size w w' := by
  have hu33 := Tryz.underlying33
  have HR0 := Aside0.mk hr0
  have HC0 := Aside0.mk hc0
  clear hr0 hc0
  have HB := Aside0.mk (Below.refl w.heap.size w)
  have H : ((monticuleref01_Num.f k (l0.length : Int)).bind fun bt253 => (monticuleref08_Write.l0 k l0 bt253.1 0)) = some r := h
  clear h
  replace H := Option.bind_eq_some_iff.mp H
  obtain ⟨⟨t253, t254⟩, A20, H⟩ := H
  replace H : (monticuleref08_Write.l0 k l0 t253 0) = some r := H
  have A2 := Aside0.mk A20
  clear A20
  have H' := Aside0.mk H
  clear H
  go_enter Tryz.func29, Tryz.ntmps29
  go_wp2_with (first | ((with_reducible refine gate_callee (f := 96) rfl ?_); refine goesL_ (some 9) rfl rfl Tryz.func96 (by kernel_rfl) rfl #[.int .i64 (l0.length : Int)] rfl (by (try simp only [List.map_toArray, List.map_cons, List.map_nil]); first | done | rfl | (simp only [List.length_drop, List.length_take]; rfl)) ?_; (with_reducible refine (monticuleref01_Num.calls k (l0.length : Int) t253 t254 _ A2.out).mono ?_); rintro e w3 ⟨rfl, hb⟩; refine ⟨_, rfl, ?_⟩; have n0_ := Aside0.mk (below_step (by repeat (first | (with_reducible first | exact HB.out | apply below_alloc | apply pw_below_drewN | apply below_drew1) | exact HB.out)) hb); clear HB; have HB := n0_; clear n0_; (try clear hb); (try clear hb2); (try clear hk); (try clear hi)))
  go_loopg [3, 5] k (fun kq v3 v5 w' => ∃ (x3_1 : ByteArray) (x5_1 : Int), v3 = .string x3_1 ∧ v5 = .int .i64 x5_1 ∧ Aside0 (monticuleref08_Write.l0 kq l0 x3_1 x5_1 = some r) ∧ Aside0 (kq ≤ k) ∧ Aside0 (Below w.heap.size w w'))
  case atStart => exact ⟨(t253), (0), (by first | rfl | (simp; done) | (simp [*]; done)), (by first | rfl | (simp; done) | (simp [*]; done)), H', ⟨Nat.le_refl _⟩, ⟨by repeat (first | (with_reducible first | exact HB.out | apply below_alloc | apply pw_below_drewN | apply below_drew1) | exact HB.out)⟩⟩
  case round =>
    clear H'
    try clear c2
    try clear p2
    obtain ⟨x3_1, x5_1, rfl, rfl, HA, HK1, HB⟩ := hrel
    cases gk with
    | zero => exact absurd HA.out (by simp [monticuleref08_Write.l0])
    | succ k1 =>
      have H := HA.out
      clear HA
      simp only [monticuleref08_Write.l0] at H
      by_cases c4 : x5_1 < (l0.length : Int)
      · rw [if_pos c4] at H
        have c4b0 : decide (x5_1 < (l0.length : Int)) = true := decide_eq_true c4
        clear c4
        by_cases c5 : 0 ≤ x5_1
        · rw [if_pos c5] at H
          have c5b0 : decide (0 ≤ x5_1) = true := decide_eq_true c5
          clear c5
          replace H := Option.bind_eq_some_iff.mp H
          obtain ⟨t256, A60, H⟩ := H
          replace H : (if x3_1.size + t256.size ≤ 9223372036854775807 then (monticuleref08_Write.l0 k1 l0 (x3_1 ++ t256) (wrap64 (x5_1 + 1))) else (none)) = some r := H
          have A6 := Aside0.mk A60
          clear A60
          by_cases c7 : x3_1.size + t256.size ≤ 9223372036854775807
          · rw [if_pos c7] at H
            have c7b0 := eq_true c7
            have c7b1 : decide (x3_1.size + t256.size ≤ 9223372036854775807) = true := decide_eq_true c7
            try have c7b2 : (9223372036854775807 < x3_1.size + t256.size) = False := eq_false (Nat.not_lt.2 c7)
            have H' := Aside0.mk H
            clear H
            have p255 : 0 ≤ (x5_1 : Int) := of_decide_eq_true (by first | (with_reducible assumption) | assumption)
            have q255 : x5_1 < (l0.length : Int) := of_decide_eq_true (by first | (with_reducible assumption) | assumption)
            obtain ⟨ad255, A255_3, c255_3, e255, hx255_0, hx255_1, hx255_2, hx255_3, hx255_4, hx255_5, hl255_3, hi255_3⟩ := at_T33 HR0.out x5_1 p255 q255
            cases e255
            replace hx255_0 := (HB.out.cell (World.block_lt_of_cell? w _ hx255_0)).trans hx255_0
            replace hx255_1 := (HB.out.cell (World.block_lt_of_cell? w _ hx255_1)).trans hx255_1
            replace hx255_2 := (HB.out.cell (World.block_lt_of_cell? w _ hx255_2)).trans hx255_2
            replace hx255_3 := (HB.out.cell (World.block_lt_of_cell? w _ hx255_3)).trans hx255_3
            replace hx255_4 := (HB.out.cell (World.block_lt_of_cell? w _ hx255_4)).trans hx255_4
            replace hx255_5 := (HB.out.cell (World.block_lt_of_cell? w _ hx255_5)).trans hx255_5
            have HR255_3 := Aside0.mk hi255_3
            have HC255_3 := Aside0.mk hl255_3
            clear hi255_3 hl255_3
            replace p255 := eq_true p255
            replace q255 := eq_true q255
            go_wp2_with (first | ((with_reducible refine gate_callee (f := 97) rfl ?_); refine goesL_ (some 23) rfl rfl Tryz.func97 (by kernel_rfl) rfl #[.agg #[.int .i64 ((rd_T33 l0 x5_1).f0), .string ((rd_T33 l0 x5_1).f1), .string ((rd_T33 l0 x5_1).f2), .slice A255_3 ((rd_T33 l0 x5_1).f3).length c255_3, .string ((rd_T33 l0 x5_1).f4), .string ((rd_T33 l0 x5_1).f5)]] rfl (by (try simp only [List.map_toArray, List.map_cons, List.map_nil]); first | done | rfl | (simp only [List.length_drop, List.length_take]; rfl)) ?_; (with_reducible refine (monticuleref07_Octets.calls k1 ((rd_T33 l0 x5_1).f0) ((rd_T33 l0 x5_1).f1) ((rd_T33 l0 x5_1).f2) _ _ ((rd_T33 l0 x5_1).f3) ((rd_T33 l0 x5_1).f4) ((rd_T33 l0 x5_1).f5) t256 _ ?side1 ?side2 A6.out).mono ?_); (case side1 => repeat (first | exact (Kd.C_below HR255_3.out HB.out) | (with_reducible refine Kd.C_alloc ?_ _) | (with_reducible refine Kd.C_drewN ?_ _) | (with_reducible refine Kd.C_drew ?_))); (case side2 => exact HC255_3.out); rintro e w8 ⟨rfl, hb⟩; refine ⟨_, rfl, ?_⟩; have n0_ := Aside0.mk (below_step (by repeat (first | (with_reducible first | exact HB.out | apply below_alloc | apply pw_below_drewN | apply below_drew1) | exact HB.out)) hb); clear HB; have HB := n0_; clear n0_; (try clear hb); (try clear hb2); (try clear hk); (try clear hi)))
            go_roundg k1
            case measure => have := HK1.out; omega
            case rel => exact ⟨(x3_1 ++ t256), (wrap64 (x5_1 + 1)), (by first | rfl | (simp; done) | (simp [*]; done)), (by first | rfl | (simp; done) | (simp [*]; done)), H', ⟨by have := HK1.out; omega⟩, ⟨by repeat (first | (with_reducible first | exact HB.out | apply below_alloc | apply pw_below_drewN | apply below_drew1) | exact HB.out)⟩⟩
          · rw [if_neg c7] at H
            exact absurd H (by simp)
        · rw [if_neg c5] at H
          exact absurd H (by simp)
      · rw [if_neg c4] at H
        have c4b0 : decide (x5_1 < (l0.length : Int)) = false := decide_eq_false c4
        clear c4
        obtain rfl := Option.some.inj H
        go_wp2
        go_ret
        exact ⟨by first | rfl | (simp [errW_none, errW_some] <;> rfl) | (simp [*, errW_none, errW_some] <;> rfl), by repeat (first | (with_reducible first | exact HB.out | apply below_alloc | apply pw_below_drewN | apply below_drew1) | exact HB.out)⟩

end Go.Proofs.YtodpdlpncgkkdaaGreatDoor.P
end
section
namespace Go.Proofs.YtodpdlpncgkkdaaGreatDoor
open Go.RowKit Go.Proofs.YtodpdlpncgkkdaaGreatDoorW.PrintWords Go.Shelf

theorem bytesOf_append (a b : ByteArray) : bytesOf (a ++ b) = bytesOf a ++ bytesOf b := by
  unfold bytesOf
  rw [ByteArray.data_append]
  simp
theorem str_bytes (s : ByteArray) : strOfNums (bytesOf s) = s := by
  unfold strOfNums bytesOf
  rw [List.map_map]
  have : (fun n : Int => UInt8.ofNat n.toNat) ∘ (fun b : UInt8 => (b.toNat : Int)) = id := by
    funext b
    simp
  rw [this, List.map_id]
theorem bytes_str (xs : List Int) (h : ∀ x ∈ xs, 0 ≤ x ∧ x < 256) : bytesOf (strOfNums xs) = xs := by
  unfold strOfNums bytesOf
  simp only [List.map_map]
  conv => rhs; rw [← List.map_id xs]
  refine List.map_congr_left fun x hx => ?_
  have := h x hx
  simp only [Function.comp, id]
  rw [UInt8.toNat_ofNat_of_lt' (by have : x.toNat < 256 := by omega
                                   simpa using this)]
  omega
theorem size_bytes (s : ByteArray) : s.size = (bytesOf s).length := (bytesOf_length s).symm
theorem oct_one (x : Int) : bytesOf (strOfNums [Int.tmod x 256 % 256]) = [Int.tmod x 256 % 256] := bytes_str _ fun y hy => by
  rw [List.mem_singleton.1 hy]; omega
theorem refOctets_f (x : Int) (h0 : 0 ≤ x) (h1 : x < 4294967296) : ∃ R, (∃ K, ∀ k, K ≤ k → P.monticuleref01_octets.f k x 4 = some R) ∧ bytesOf R = be4 x := by
  have hw : ∀ y : Int, 0 ≤ y → y < 4294967296 → IntKind.u64.wrap (Int.tdiv y 256) = y / 256 := fun y a b => by
    rw [show IntKind.u64.wrap (Int.tdiv y 256) = Int.tdiv y 256 % 18446744073709551616 from rfl, Int.tdiv_eq_ediv_of_nonneg a]
    omega
  have hm : ∀ y : Int, 0 ≤ y → Int.tmod y 256 % 256 = y % 256 := fun y a => by
    rw [Int.tmod_eq_emod_of_nonneg a]; omega
  have w1 : wrap64 ((0 : Int) + 1) = 1 := wrap_up (i := 0) (n := 10) (by omega) (by omega) (by omega)
  have w2 : wrap64 ((1 : Int) + 1) = 2 := wrap_up (i := 1) (n := 10) (by omega) (by omega) (by omega)
  have w3 : wrap64 ((2 : Int) + 1) = 3 := wrap_up (i := 2) (n := 10) (by omega) (by omega) (by omega)
  have w4 : wrap64 ((3 : Int) + 1) = 4 := wrap_up (i := 3) (n := 10) (by omega) (by omega) (by omega)
  have e0 := hw x h0 h1
  have e1 := hw (x / 256) (by omega) (by omega)
  have e2 := hw (x / 256 / 256) (by omega) (by omega)
  have e3 := hw (x / 256 / 256 / 256) (by omega) (by omega)
  have s1 : ∀ v : Int, (strOfNums [v]).size = 1 := fun v => strOfNums_size _
  have s0 : (⟨#[]⟩ : ByteArray).size = 0 := rfl
  refine ⟨strOfNums [Int.tmod (x / 256 / 256 / 256) 256 % 256] ++ (strOfNums [Int.tmod (x / 256 / 256) 256 % 256] ++ (strOfNums [Int.tmod (x / 256) 256 % 256] ++ (strOfNums [Int.tmod x 256 % 256] ++ ⟨#[]⟩))), ⟨5, fun k hk => ?_⟩, ?_⟩
  · obtain ⟨k, rfl⟩ : ∃ m, k = m + 1 + 1 + 1 + 1 + 1 := ⟨k - 5, by omega⟩
    unfold P.monticuleref01_octets.f
    simp only [P.monticuleref01_octets.l0, Option.bind_some, w1, w2, w3, w4, e0, e1, e2, e3, s1, s0, ByteArray.size_append]
    rw [if_pos (by decide), if_pos (by decide), if_pos (by decide), if_pos (by decide), if_pos (by decide), if_pos (by decide), if_pos (by decide), if_pos (by decide), if_neg (by decide)]
  · have hnil : bytesOf (⟨#[]⟩ : ByteArray) = [] := rfl
    simp only [bytesOf_append, oct_one, hnil]
    rw [hm _ (by omega), hm _ (by omega), hm _ (by omega), hm _ h0]
    simp only [List.append_nil, List.singleton_append, be4]
    have a1 : x / 256 / 256 / 256 % 256 = x / 16777216 % 256 := by omega
    have a2 : x / 256 / 256 % 256 = x / 65536 % 256 := by omega
    rw [a1, a2]
theorem refNum_f (x : Int) (h0 : 0 ≤ x) (h1 : x ≤ 2147483647) : ∃ R, (∃ K, ∀ k, K ≤ k → P.monticuleref01_Num.f k x = some (R, true)) ∧ bytesOf R = be4 x := by
  obtain ⟨R, ⟨K, hK⟩, hR⟩ := refOctets_f x h0 (by omega)
  have hw : IntKind.u64.wrap x = x := by rw [show IntKind.u64.wrap x = x % 18446744073709551616 by rfl]; omega
  refine ⟨R, ⟨K, fun k hk => ?_⟩, hR⟩
  unfold P.monticuleref01_Num.f
  rw [if_neg (by omega), if_neg (by omega), hw, hK k hk]
  rfl
theorem refText_f (t : ByteArray) (h : t.size ≤ 2147483647) : ∃ R, (∃ K, ∀ k, K ≤ k → P.monticuleref01_Text.f k t = some R) ∧ bytesOf R = txtB t := by
  obtain ⟨R, ⟨K, hK⟩, hR⟩ := refNum_f t.size (by omega) (by omega)
  refine ⟨R ++ t, ⟨K, fun k hk => ?_⟩, by rw [bytesOf_append, hR]; rfl⟩
  unfold P.monticuleref01_Text.f
  rw [hK k hk]
  simp only [Option.bind_some]
  have : R.size = 4 := by rw [size_bytes, hR]; rfl
  rw [if_pos (by omega)]
theorem refTexts_loop (l : List ByteArray) (hl : l.length ≤ 2147483647) (ht : ∀ t ∈ l, t.size ≤ 2147483647) : ∀ n i : Nat, ∀ S : ByteArray, i ≤ l.length → l.length - i = n → S.size + ((l.drop i).map txtB).flatten.length ≤ 9223372036854775807 →
    ∃ R, (∃ K, ∀ k, K ≤ k → P.monticuleref01_Texts.l0 k l S (i : Int) = some R) ∧ bytesOf R = bytesOf S ++ ((l.drop i).map txtB).flatten := by
  intro n
  induction n with
  | zero =>
    intro i S hi hn hb
    refine ⟨S, ⟨1, fun k hk => ?_⟩, by rw [List.drop_eq_nil_of_le (by omega)]; simp⟩
    obtain ⟨k, rfl⟩ : ∃ m, k = m + 1 := ⟨k - 1, by omega⟩
    simp only [P.monticuleref01_Texts.l0]
    rw [if_neg (by omega)]
  | succ n ih =>
    intro i S hi hn hb
    have hlt : i < l.length := by omega
    have hrd : rdOf ByteArray.empty l (i : Int) = l[i] := by simp [rdOf, hlt]
    have hcast : ((i : Int) + 1) = ((i + 1 : Nat) : Int) := by omega
    have hw : wrap64 ((i : Int) + 1) = ((i + 1 : Nat) : Int) := by rw [wrap_up (by omega) (n := l.length) (by omega) (by omega), hcast]
    obtain ⟨R1, ⟨K1, hK1⟩, hR1⟩ := refText_f l[i] (ht _ (List.getElem_mem hlt))
    have hfl : ((l.drop i).map txtB).flatten = txtB l[i] ++ ((l.drop (i + 1)).map txtB).flatten := by rw [List.drop_eq_getElem_cons hlt]; rfl
    rw [hfl, List.length_append] at hb
    have hR1s : R1.size = (txtB l[i]).length := by rw [size_bytes, hR1]
    obtain ⟨R, ⟨K2, hK2⟩, hR⟩ := ih (i + 1) (S ++ R1) (by omega) (by omega) (by rw [ByteArray.size_append]; omega)
    refine ⟨R, ⟨max K1 K2 + 1, fun k hk => ?_⟩, by rw [hR, bytesOf_append, hR1, hfl, List.append_assoc]⟩
    obtain ⟨k, rfl⟩ : ∃ m, k = m + 1 := ⟨k - 1, by omega⟩
    simp only [P.monticuleref01_Texts.l0]
    rw [if_pos (by omega), if_pos (by omega), hrd, hK1 k (by omega)]
    simp only [Option.bind_some]
    rw [if_pos (by omega), hw, hK2 k (by omega)]
theorem refTexts_f (l : List ByteArray) (hl : l.length ≤ 2147483647) (ht : ∀ t ∈ l, t.size ≤ 2147483647) (hb : (txtsB l).length ≤ 140737488355328) : ∃ R, (∃ K, ∀ k, K ≤ k → P.monticuleref01_Texts.f k l = some R) ∧ bytesOf R = txtsB l := by
  obtain ⟨R1, ⟨K1, hK1⟩, hR1⟩ := refNum_f l.length (by omega) (by omega)
  have hs : R1.size = 4 := by rw [size_bytes, hR1]; rfl
  have hb2 : (txtsB l).length = 4 + ((l.map txtB).flatten).length := by simp [txtsB, be4]; omega
  obtain ⟨R, ⟨K2, hK2⟩, hR⟩ := refTexts_loop l hl ht l.length 0 R1 (Nat.zero_le _) (by omega) (by rw [List.drop_zero]; omega)
  refine ⟨R, ⟨max K1 K2, fun k hk => ?_⟩, by rw [hR, hR1]; rfl⟩
  unfold P.monticuleref01_Texts.f
  rw [hK1 k (by omega)]
  exact hK2 k (by omega)
theorem right_kind {d : Def} (h : defRight d = true) : d.f0 = 1 ∨ d.f0 = 2 := by
  unfold defRight at h
  by_cases h1 : d.f0 = 1
  · exact .inl h1
  · by_cases h2 : d.f0 = 2
    · exact .inr h2
    · rw [if_neg h1, if_neg h2] at h; cases h
theorem refDef_f (d : Def) (hz : Sized d) (hd : defRight d = true) (hb : (defB d).length ≤ 140737488355328) : ∃ R, (∃ K, ∀ k, K ≤ k → P.monticuleref07_Octets.f k d.f0 d.f1 d.f2 d.f3 d.f4 d.f5 = some R) ∧ bytesOf R = defB d := by
  obtain ⟨z1, z2, ⟨z3, z3'⟩, z4, z5⟩ := hz
  have hk := right_kind hd
  obtain ⟨R0, ⟨K0, hK0⟩, hR0⟩ := refNum_f d.f0 (by omega) (by omega)
  obtain ⟨R1, ⟨K1, hK1⟩, hR1⟩ := refText_f d.f1 z1
  obtain ⟨R2, ⟨K2, hK2⟩, hR2⟩ := refText_f d.f2 z2
  obtain ⟨R4, ⟨K4, hK4⟩, hR4⟩ := refText_f d.f4 z4
  obtain ⟨R5, ⟨K5, hK5⟩, hR5⟩ := refText_f d.f5 z5
  have s0 : R0.size = 4 := by rw [size_bytes, hR0]; rfl
  have s1 : R1.size = 4 + d.f1.size := by rw [size_bytes, hR1, txtB_length]
  have s2 : R2.size = 4 + d.f2.size := by rw [size_bytes, hR2, txtB_length]
  have s4 : R4.size = 4 + d.f4.size := by rw [size_bytes, hR4, txtB_length]
  have s5 : R5.size = 4 + d.f5.size := by rw [size_bytes, hR5, txtB_length]
  unfold defB at hb ⊢
  by_cases h1 : d.f0 = 1
  · rw [if_pos h1] at hb ⊢
    simp only [List.length_append, txtB_length] at hb
    obtain ⟨R3, ⟨K3, hK3⟩, hR3⟩ := refTexts_f d.f3 z3 z3' (by omega)
    have s3 : R3.size = (txtsB d.f3).length := by rw [size_bytes, hR3]
    refine ⟨R0 ++ R1 ++ R2 ++ R3, ⟨max K0 (max K1 (max K2 K3)), fun k hk => ?_⟩, by simp only [bytesOf_append, hR0, hR1, hR2, hR3, List.append_assoc]⟩
    unfold P.monticuleref07_Octets.f
    rw [hK0 k (by omega)]
    simp only [Option.bind_some]
    rw [if_pos h1, hK1 k (by omega)]
    simp only [Option.bind_some]
    rw [if_pos (by omega), hK2 k (by omega)]
    simp only [Option.bind_some]
    rw [if_pos (by rw [ByteArray.size_append]; omega), hK3 k (by omega)]
    simp only [Option.bind_some]
    rw [if_pos (by rw [ByteArray.size_append, ByteArray.size_append]; omega)]
  · rw [if_neg h1] at hb ⊢
    refine ⟨R0 ++ R1 ++ R4 ++ R5, ⟨max K0 (max K1 (max K4 K5)), fun k hk => ?_⟩, by simp only [bytesOf_append, hR0, hR1, hR4, hR5, List.append_assoc]⟩
    unfold P.monticuleref07_Octets.f
    rw [hK0 k (by omega)]
    simp only [Option.bind_some]
    rw [if_neg h1, hK1 k (by omega)]
    simp only [Option.bind_some]
    rw [if_pos (by omega), hK4 k (by omega)]
    simp only [Option.bind_some]
    rw [if_pos (by rw [ByteArray.size_append]; omega), hK5 k (by omega)]
    simp only [Option.bind_some]
    rw [if_pos (by rw [ByteArray.size_append, ByteArray.size_append]; omega)]
theorem refWrite_loop (l : List Def) (hl : l.length ≤ 2147483647) (hz : ∀ d ∈ l, defRight d = true ∧ Sized d ∧ (defB d).length ≤ 140737488355328) : ∀ n i : Nat, ∀ S : ByteArray, i ≤ l.length → l.length - i = n → S.size + ((l.drop i).map defB).flatten.length ≤ 9223372036854775807 →
    ∃ R, (∃ K, ∀ k, K ≤ k → P.monticuleref08_Write.l0 k l S (i : Int) = some R) ∧ bytesOf R = bytesOf S ++ ((l.drop i).map defB).flatten := by
  intro n
  induction n with
  | zero =>
    intro i S hi hn hb
    refine ⟨S, ⟨1, fun k hk => ?_⟩, by rw [List.drop_eq_nil_of_le (by omega)]; simp⟩
    obtain ⟨k, rfl⟩ : ∃ m, k = m + 1 := ⟨k - 1, by omega⟩
    simp only [P.monticuleref08_Write.l0]
    rw [if_neg (by omega)]
  | succ n ih =>
    intro i S hi hn hb
    have hlt : i < l.length := by omega
    have hrd : P.rd_T33 l (i : Int) = l[i] := by simp [P.rd_T33, hlt]
    have hcast : ((i : Int) + 1) = ((i + 1 : Nat) : Int) := by omega
    have hw : wrap64 ((i : Int) + 1) = ((i + 1 : Nat) : Int) := by rw [wrap_up (by omega) (n := l.length) (by omega) (by omega), hcast]
    obtain ⟨y1, y2, y3⟩ := hz _ (List.getElem_mem hlt)
    obtain ⟨R1, ⟨K1, hK1⟩, hR1⟩ := refDef_f l[i] y2 y1 y3
    have hfl : ((l.drop i).map defB).flatten = defB l[i] ++ ((l.drop (i + 1)).map defB).flatten := by rw [List.drop_eq_getElem_cons hlt]; rfl
    rw [hfl, List.length_append] at hb
    have hR1s : R1.size = (defB l[i]).length := by rw [size_bytes, hR1]
    obtain ⟨R, ⟨K2, hK2⟩, hR⟩ := ih (i + 1) (S ++ R1) (by omega) (by omega) (by rw [ByteArray.size_append]; omega)
    refine ⟨R, ⟨max K1 K2 + 1, fun k hk => ?_⟩, by rw [hR, bytesOf_append, hR1, hfl, List.append_assoc]⟩
    obtain ⟨k, rfl⟩ : ∃ m, k = m + 1 := ⟨k - 1, by omega⟩
    simp only [P.monticuleref08_Write.l0]
    rw [if_pos (by omega), if_pos (by omega), hrd, hK1 k (by omega)]
    simp only [Option.bind_some]
    rw [if_pos (by omega), hw, hK2 k (by omega)]
theorem refWrite_f (l : List Def) (hl : l.length ≤ 2147483647) (hz : ∀ d ∈ l, defRight d = true ∧ Sized d) (hb : (snapB l).length ≤ 140737488355328) : ∃ R, (∃ K, ∀ k, K ≤ k → P.monticuleref08_Write.f k l = some R) ∧ bytesOf R = snapB l := by
  obtain ⟨R1, ⟨K1, hK1⟩, hR1⟩ := refNum_f l.length (by omega) (by omega)
  have hs : R1.size = 4 := by rw [size_bytes, hR1]; rfl
  have hb2 : (snapB l).length = 4 + ((l.map defB).flatten).length := by simp [snapB, be4]; omega
  have hone : ∀ d ∈ l, (defB d).length ≤ 140737488355328 := fun d hd => by
    have : (defB d).length ≤ ((l.map defB).flatten).length := (List.sublist_flatten_of_mem (List.mem_map.2 ⟨d, hd, rfl⟩)).length_le
    omega
  obtain ⟨R, ⟨K2, hK2⟩, hR⟩ := refWrite_loop l hl (fun d hd => ⟨(hz d hd).1, (hz d hd).2, hone d hd⟩) l.length 0 R1 (Nat.zero_le _) (by omega) (by rw [List.drop_zero]; omega)
  refine ⟨R, ⟨max K1 K2, fun k hk => ?_⟩, by rw [hR, hR1]; rfl⟩
  unfold P.monticuleref08_Write.f
  rw [hK1 k (by omega)]
  exact hK2 k (by omega)
end Go.Proofs.YtodpdlpncgkkdaaGreatDoor
end
section
namespace Go.Proofs.YtodpdlpncgkkdaaGreatDoor
open Go.RowKit Go.Proofs.YtodpdlpncgkkdaaGreatDoorW.PrintWords Go.Shelf

/-- A snapshot's map of few small definitions. -/
structure GoodM (m : Keyed2) : Prop where
  rising : Rising m
  keyed : KeyedM m
  len : m.length ≤ 500
  small : ∀ d ∈ defsL m, smallD d = true
  right : ∀ d ∈ defsL m, defRight d = true
theorem small_parts {d : Def} (h : smallD d = true) : (d.f1.size ≤ 100 ∧ d.f2.size ≤ 100 ∧ d.f3.length ≤ 30 ∧ d.f4.size ≤ 600 ∧ d.f5.size ≤ 5000) ∧ ∀ t ∈ d.f3, t.size ≤ 100 := by
  simp only [smallD, Bool.and_eq_true, decide_eq_true_eq, List.all_eq_true] at h
  exact ⟨h.1, h.2⟩
theorem small_sized {d : Def} (h : smallD d = true) : Sized d := by
  obtain ⟨⟨h1, h2, h3, h4, h5⟩, h6⟩ := small_parts h
  exact ⟨by omega, by omega, ⟨by omega, fun t ht => by have := h6 t ht; omega⟩, by omega, by omega⟩
theorem key_right {d : Def} (h : defKey d ≠ ByteArray.empty) : defRight d = true := by
  cases hr : defRight d
  · exfalso; apply h; unfold defKey; rw [if_neg (by rw [hr]; decide)]
  · rfl
theorem key_some {d : Def} (h : defRight d = true) : defKey d ≠ ByteArray.empty := by
  have hc := right_class h
  have hp : 0 < d.f1.size := by
    unfold isClass at hc
    split at hc
    · assumption
    · cases hc
  intro e
  have h0 : (defKey d).size = 0 := by rw [e]; rfl
  unfold defKey at h0
  rw [if_pos h] at h0
  split at h0
  · omega
  · simp only [ByteArray.size_append] at h0; omega
theorem defs_mem {m : Keyed2} {d : Def} (h : d ∈ defsL m) : ∃ p ∈ m, p.2 = d := by
  obtain ⟨p, hp, e⟩ := List.mem_map.1 h
  exact ⟨p, hp, e⟩
theorem good_new {l : List Def} {m : Keyed2} {c : Int} (h : newFrom [] l = (some m, c)) (hl : l.length ≤ 500) (hs : ∀ d ∈ l, smallD d = true) : GoodM m := by
  obtain ⟨_, h2, h3, h4, h5, h6⟩ := new_some h
  have hmem : ∀ d ∈ defsL m, d ∈ l := fun d hd => by
    obtain ⟨p, hp, rfl⟩ := defs_mem hd
    obtain ⟨x, hx, rfl⟩ := (h6 p).1 hp
    exact hx
  exact ⟨h2, h3, by omega, fun d hd => hs d (hmem d hd), fun d hd => key_right (h4.1 d (hmem d hd))⟩
theorem GoodM.vars {m : Keyed2} (h : GoodM m) : ∀ d ∈ defsL m, d.f3.length * 16 ≤ 140737488355328 := fun d hd => by
  have := (small_parts (h.small d hd)).1.2.2.1; omega
theorem kd_le {d : Def} (h : smallD d = true) : (kd d).length ≤ 702 := by
  obtain ⟨⟨h1, h2, h3, h4, h5⟩, _⟩ := small_parts h
  have hsz : (kd d).length = (defKey d).size := by unfold kd; simp
  have h2' : (⟨#[62, 62]⟩ : ByteArray).size = 2 := rfl
  have h0 : ByteArray.empty.size = 0 := rfl
  rw [hsz]
  unfold defKey
  split
  · split
    · omega
    · simp only [ByteArray.size_append]; omega
  · omega
theorem GoodM.keys {m : Keyed2} (h : GoodM m) : ∀ k ∈ keysL m, k.length ≤ maxLen := fun k hk => by
  obtain ⟨p, hp, rfl⟩ := List.mem_map.1 hk
  rw [h.keyed p hp]
  have := kd_le (h.small p.2 (List.mem_map.2 ⟨p, hp, rfl⟩))
  unfold maxLen
  omega
theorem GoodM.told {m : Keyed2} (h : GoodM m) : ∀ d ∈ defsL m, Told d := fun d hd => small_told (h.small d hd)
theorem GoodM.sized {m : Keyed2} (h : GoodM m) : ∀ d ∈ defsL m, defRight d = true ∧ Sized d := fun d hd => ⟨h.right d hd, small_sized (h.small d hd)⟩
theorem defsL_length (m : Keyed2) : (defsL m).length = m.length := by simp [defsL]
theorem flat_le {α : Type} (f : α → List Int) (B : Nat) : ∀ l : List α, (∀ x ∈ l, (f x).length ≤ B) → ((l.map f).flatten).length ≤ l.length * B
  | [], _ => by simp
  | x :: l, h => by
    have h1 := h x (List.mem_cons_self ..)
    have h2 := flat_le f B l fun y hy => h y (List.mem_cons_of_mem _ hy)
    rw [List.map_cons, List.flatten_cons, List.length_append, List.length_cons, Nat.add_mul]
    omega
theorem defB_le {d : Def} (h : smallD d = true) : (defB d).length ≤ 20000 := by
  obtain ⟨⟨h1, h2, h3, h4, h5⟩, h6⟩ := small_parts h
  have ht : (txtsB d.f3).length ≤ 4 + 30 * 104 := by
    have := flat_le txtB 104 d.f3 fun t ht => by rw [txtB_length]; have := h6 t ht; omega
    unfold txtsB
    rw [List.length_append, be4_length]
    have : d.f3.length * 104 ≤ 30 * 104 := Nat.mul_le_mul_right _ h3
    omega
  unfold defB
  split
  · simp only [List.length_append, be4_length, txtB_length]; omega
  · simp only [List.length_append, be4_length, txtB_length]; omega
theorem GoodM.octets {m : Keyed2} (h : GoodM m) : (snapB (defsL m)).length ≤ 140737488355328 := by
  have h1 := flat_le defB 20000 (defsL m) fun d hd => defB_le (h.small d hd)
  have h2 : (defsL m).length ≤ 500 := by rw [defsL_length]; exact h.len
  have h3 : (defsL m).length * 20000 ≤ 500 * 20000 := Nat.mul_le_mul_right _ h2
  unfold snapB
  rw [List.length_append, be4_length]
  omega
theorem few_parts {l : List Def} {n : Nat} (h : fewD l n = true) : l.length ≤ n ∧ ∀ d ∈ l, smallD d = true := by
  simp only [fewD, Bool.and_eq_true, decide_eq_true_eq, List.all_eq_true] at h
  exact h
/-- Definitions that came in may be handed to the reference's New. -/
theorem V_of_C {W : World} {A : Option Addr} {c : Nat} {l : List Def} (h : Kd.C P.k33 W A l.length l) (hc : l.length ≤ c) (base : Nat) : Kd.V P.k33 33 W base (fun k_ => k_ < W.heap.size) (.slice A l.length c) l :=
  Kd.V_mk hc (Kd.C_F P.k33_heap h)
theorem mget_find {m : Keyed2} (h : GoodM m) {key : List UInt8} {j : Nat} (hj : j < (defsL m).length) (hf : kd (defsL m)[j] = key) : mget m key = (defsL m)[j] := by
  have hj' : j < m.length := by rwa [defsL_length] at hj
  have e : (defsL m)[j] = m[j].2 := by simp [defsL]
  have hk : m[j].1 = key := by rw [h.keyed _ (List.getElem_mem hj'), ← e]; exact hf
  rw [e, ← hk]
  exact mget_at h.rising hj'
theorem nokey_nil {m : Keyed2} (h : GoodM m) : mhas m [] = false := by
  cases hh : mhas m []
  · rfl
  · exfalso
    have hm := mem_of_mget hh
    have hk := h.keyed _ hm
    exact key_some (h.right _ (List.mem_map.2 ⟨_, hm, rfl⟩)) ((kd_nil _).1 hk.symm)
end Go.Proofs.YtodpdlpncgkkdaaGreatDoor
end
section
namespace Go.Proofs.YtodpdlpncgkkdaaGreatDoor.P
open Go.RowKit Go.Proofs.YtodpdlpncgkkdaaGreatDoorW.PrintWords Go.Proofs.YtodpdlpncgkkdaaGreatDoorW.PrintLast Go.Proofs.YtodpdlpncgkkdaaGreatDoorW.PrintMore
attribute [local go_sem] max2_int min2_int max_two min_two max_three min_three max_four min_four   -- for this text's walks alone
set_option linter.unusedVariables false
set_option linter.unusedSimpArgs false

/-! ### monticuleref01_Rest: function 22 -/
def monticuleref01_Rest.f (a0 : Int) (a1 : Int) : Option (Int) := if a1 = 0 then (none) else (some (Int.tmod (wrap64 ((Int.tmod a0 a1) + a1)) a1))
set_option maxHeartbeats 8000000 in
set_option maxRecDepth 100000 in
theorem monticuleref01_Rest.calls (a0 : Int) (a1 : Int) (r : Int) (w : World) (h : monticuleref01_Rest.f a0 a1 = some r) :
    Calls Tryz.prog 22 #[.int .i64 a0, .int .i64 a1] w fun e w' => e = .returned (.int .i64 r) ∧ Drawn0 w w' := by
  have H : (if a1 = 0 then (none) else (some (Int.tmod (wrap64 ((Int.tmod a0 a1) + a1)) a1))) = some r := h
  clear h
  by_cases c3 : a1 = 0
  · rw [if_pos c3] at H
    exact absurd H (by simp)
  · rw [if_neg c3] at H
    have c3b0 : (a1 == 0) = false := beq_eq_false_iff_ne.mpr c3
    have c3b1 : (a1 != 0) = true := bne_iff_ne.mpr c3
    obtain rfl := Option.some.inj H
    go_enter Tryz.func22, Tryz.ntmps22
    go_wp2
    go_ret
    exact ⟨by first | rfl | (simp; done) | (simp [*]; done), by repeat (first | exact Drawn0.refl _ | apply Drawn0.step)⟩

end Go.Proofs.YtodpdlpncgkkdaaGreatDoor.P
end
