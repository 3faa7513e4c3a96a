/- For every input law08.SnapNews answers true: New, Get and All agree with the reference, and the order of definitions does not matter; no condition. (Part 9 of what it rests on.) -/
import Derived.Test.YtodpdlpncgkkdaaGreatDoorSnapNews8
import Derived.Test.YtodpdlpncgkkdaaGreatDoorSnapNews7
import Derived.Test.YtodpdlpncgkkdaaGreatDoorSnapNews5
import Derived.Test.YtodpdlpncgkkdaaGreatDoorSnapNews1
import Derived.Test.YtodpdlpncgkkdaaGreatDoorSnapNews2
import Derived.Test.YtodpdlpncgkkdaaGreatDoorSnapNews6
import Derived.WalkKit
import Derived.LoopTactic
import Derived.Deep.RegionLaw
import Derived.RangeFuncOwn
set_option linter.unusedVariables false
set_option linter.unusedSimpArgs false
section
namespace Go.Proofs.YtodpdlpncgkkdaaGreatDoor
open Go.RowKit Go.Proofs.YtodpdlpncgkkdaaGreatDoorW.PrintWords Go.Shelf Go.Maps
attribute [local go_sem] Oper.semAt_some

def Rising (m : Keyed2) : Prop := (keysL m).Pairwise (fun x y => bytesBefore x y = true)
theorem rising_lt {m : Keyed2} (h : Rising m) : m.Pairwise fun p q => p.1 < q.1 := by
  have := List.pairwise_map.1 h
  refine this.imp ?_
  intro a b hab
  rw [before_less, bytesLess_eq] at hab
  exact of_decide_eq_true hab
theorem rising_sub : ∀ (m2 m1 : Keyed2), m2.Pairwise (fun p q => p.1 < q.1) → m1.Pairwise (fun p q => p.1 < q.1) → (∀ p ∈ m1, p ∈ m2) → m1.Sublist m2
  | [], [], _, _, _ => List.Sublist.refl _
  | [], a :: m1, _, _, h => by cases h a (List.mem_cons_self ..)
  | b :: m2, [], _, _, _ => List.nil_sublist _
  | b :: m2, a :: m1, h2, h1, h => by
    obtain ⟨hb, h2'⟩ := List.pairwise_cons.1 h2
    obtain ⟨ha, h1'⟩ := List.pairwise_cons.1 h1
    by_cases e : a = b
    · subst e
      refine List.Sublist.cons_cons _ (rising_sub m2 m1 h2' h1' fun p hp => ?_)
      rcases List.mem_cons.1 (h p (List.mem_cons_of_mem _ hp)) with rfl | hm
      · exact absurd (ha p hp) (List.lt_irrefl _)
      · exact hm
    · have ham : a ∈ m2 := by
        rcases List.mem_cons.1 (h a (List.mem_cons_self ..)) with rfl | hm
        · exact absurd rfl e
        · exact hm
      have hba := hb a ham
      refine List.Sublist.cons _ (rising_sub m2 (a :: m1) h2' h1 fun p hp => ?_)
      rcases List.mem_cons.1 (h p hp) with rfl | hm
      · rcases List.mem_cons.1 hp with rfl | hp'
        · exact absurd rfl e
        · exact absurd (List.lt_trans hba (ha p hp')) (List.lt_irrefl _)
      · exact hm
theorem mem_of_mget {m : Keyed2} {k : List UInt8} (h : mhas m k = true) : (k, mget m k) ∈ m := by
  unfold mhas at h
  unfold mget
  obtain ⟨p, hp, hk⟩ := List.any_eq_true.1 h
  cases hf : m.find? (fun p => p.1 == k) with
  | none => exact absurd hk (by simpa using List.find?_eq_none.1 hf p hp)
  | some q =>
    have h1 := List.mem_of_find?_eq_some hf
    have h2 := List.find?_some hf
    have : q.1 = k := by simpa using h2
    subst this
    exact h1
theorem mhas_mem {m : Keyed2} {p : List UInt8 × Def} (h : p ∈ m) : mhas m p.1 = true := List.any_eq_true.2 ⟨p, h, by simp⟩
theorem mget_mem {m : Keyed2} (hr : Rising m) {p : List UInt8 × Def} (h : p ∈ m) : mget m p.1 = p.2 := by
  obtain ⟨i, hi, rfl⟩ := List.getElem_of_mem h
  exact mget_at hr hi
theorem maps_equal {m1 m2 : Keyed2} (h1 : Rising m1) (h2 : Rising m2) (hl : m1.length = m2.length) (h : ∀ p ∈ m1, mhas m2 p.1 = true ∧ mget m2 p.1 = p.2) : m1 = m2 := by
  refine (rising_sub m2 m1 (rising_lt h2) (rising_lt h1) fun p hp => ?_).eq_of_length hl
  obtain ⟨ha, hb⟩ := h p hp
  have := mem_of_mget ha
  rwa [hb] at this
theorem look_held {m : Keyed2} {x : List UInt8} {d : Def} (h : ∀ zd, (sd m).atKey (.string x) zd = .held d) : mhas m x = true ∧ mget m x = d := by
  have h1 := h (.held P.z33)
  rw [sd_at] at h1
  injection h1 with h1
  refine ⟨?_, h1⟩
  have h2 := h (.map [])
  unfold sd DataW.atKey at h2
  simp only [List.find?_map] at h2
  have e : ((fun p : Lit × DataW Def => p.1.sameKey (.string x)) ∘ fun p : List UInt8 × Def => (Lit.string p.1, DataW.held p.2)) = fun p => p.1 == x := rfl
  rw [e] at h2
  cases hf : m.find? (fun p => p.1 == x) with
  | none => rw [hf] at h2; cases h2
  | some p =>
    have a := List.mem_of_find?_eq_some hf
    have b := List.find?_some hf
    exact List.any_eq_true.2 ⟨p, a, b⟩

set_option maxHeartbeats 4000000 in
set_option maxRecDepth 100000 in
theorem equalFunc_calls (mb1 mb2 : Option Nat) (m1 m2 : Keyed2) (w : World) (h1 : MapVal w mb1 m1) (h2 : MapVal w mb2 m2) (r1 : Rising m1) (r2 : Rising m2) :
    Calls Tryz.prog 91 #[.map mb1, .map mb2, .func (.func 92) #[] #[]] w fun e w' => e = .returned (.bool (decide (m1 = m2))) ∧ Below w.heap.size w w' := by
  have hn1 := h1.run_len
  have hn2 := h2.run_len
  have hne : ((m1.length : Int) != (m2.length : Int)) = (!decide (m1.length = m2.length)) := by
    rw [Bool.eq_iff_iff]; simp; omega
  by_cases hl : m1.length = m2.length
  · rw [decide_eq_true hl] at hne
    rcases h1 with ⟨rfl, rfl⟩ | ⟨b, rfl, ho⟩
    · have H2 := Lib.hid h2
      have hrg := run_range_nilMap (P := Tryz.prog) w 121 9 33 Tryz.underlying121
      have hnx : ∀ ty, (Instr.next (.pointer (some ⟨w.heap.size, 0, none⟩)) false ty).run Tryz.prog (w.alloc (.mapIter none 0 #[] 0)) = _ := fun ty => run_next_nilMap _ ty 0 0 #[]
      clear h2
      go_enter Tryz.func91, Tryz.ntmps91
      go_wp2
      refine wp_loop_rounds 1 ?_
      rw [rounds_succ]
      go_wp2
      go_ret
      have : m2 = [] := List.length_eq_zero_iff.1 hl.symm
      exact ⟨by simp [this], (Below.refl _ _).alloc (Nat.le_refl _) _⟩
    · have HO := Lib.hid ho
      have H2 := Lib.hid h2
      clear h2 ho
      go_enter Tryz.func91, Tryz.ntmps91
      go_wp2_with (at_range; refine wpList_range_own _ rfl _ 121 rfl 9 33 law Tryz.underlying121 (RD w) b m1.length _ rfl HO.out ?_; intro w0 hrg0 hg0 hs0)
      go_frame
      go_loopw [7, 8, 9, 10] (fun _ _ _ _ wr => ∃ (left : Lit → Bool) (cnt : Nat), Hid (wr.ranges Tryz.prog 9 (RD w) b w.heap.size m1.length (sd m1) left cnt) ∧
        Hid (∀ p ∈ m1, left (.string p.1) = true ∨ (mhas m2 p.1 = true ∧ mget m2 p.1 = p.2)) ∧ Hid (Below w.heap.size w wr))
        (fun _ _ _ _ wr => wr.rangeLeft b w.heap.size)
      case atStart => exact ⟨_, _, hrg0, fun p hp => .inl (by rw [sd_has]; exact mhas_mem hp), (Below.refl _ w).grown hg0 (Nat.le_refl _) (fun k e => by cases e)⟩
      case round =>
        obtain ⟨left, cnt, hrg, hseen, hb⟩ := hrel
        go_wp2_with (at_next; refine next_defs (w0 := w) rfl _ rfl b w.heap.size m1.length _ _ _ rfl hrg.out ?_ ?_)
        · intro hc0 hl0
          have HL0 := Lib.hid hl0
          clear hc0 hl0
          go_wp2
          go_ret
          have : m1 = m2 := maps_equal r1 r2 hl fun p hp => by
            rcases hseen.out p hp with h | h
            · rw [HL0.out] at h; cases h
            · exact h
          exact ⟨by simp [this], hb.out⟩
        · intro x d A c w1 cnt1 hx hlx hlc hC hat hrg1 hcl hg1 hs1 hen
          have hwr : w.heap.size < wr.heap.size := by
            obtain ⟨_, _, _, _, _, _, _, _, _, hh, _⟩ := hrg.out
            exact (Array.getElem?_eq_some_iff.1 hh).1
          have hB1 : Below w.heap.size w w1 := hb.out.grown hg1 (by omega) (fun k e => by cases e; exact Nat.le_refl _)
          have hBa := hB1.alloc hB1.size (.cells #[.int .i64 d.f0, .string d.f1, .string d.f2, .slice A d.f3.length c, .string d.f4, .string d.f5] 33)
          obtain ⟨A2, c2, hlook, hl2, hC2⟩ := (H2.out.below hBa).run_look x hx
          obtain ⟨hm1, hg1x⟩ := look_held hat
          obtain ⟨d2, hd2⟩ : ∃ d2, mget m2 x.data.toList = d2 := ⟨_, rfl⟩
          rw [hd2] at hlook hl2 hC2
          have HB1 := Lib.hid hB1
          have HBa := Lib.hid hBa
          have HC := Lib.hid hC
          have HC2 := Lib.hid hC2
          have HR1 := Lib.hid hrg1
          have HG1 := Lib.hid hg1
          have HD2 := Lib.hid hd2
          clear hB1 hBa hC hC2 hrg1 hg1 hat hd2
          have HBb := Lib.hid (HBa.out.alloc HBa.out.size (.cells #[.int .i64 d2.f0, .string d2.f1, .string d2.f2, .slice A2 d2.f3.length c2, .string d2.f4, .string d2.f5] 33))
          cases hk : mhas m2 x.data.toList with
          | false =>
            rw [hk] at hlook
            go_wp2_with fail
            go_ret
            have : m1 ≠ m2 := by
              rintro rfl
              rw [hm1] at hk
              cases hk
            exact ⟨by simp [this], HBb.out⟩
          | true =>
            rw [hk] at hlook
            go_wp2_with fail
            refine (def_same_calls _ _ d d2 _ ⟨_, _, rfl, hlc, ?_⟩ ⟨_, _, rfl, hl2, ?_⟩).mono ?_
            · exact Kd.C_below HC.out HBb.out
            · exact Kd.C_alloc HC2.out _
            rintro e w4 ⟨rfl, hb4⟩
            by_cases hdd : d = d2
            · have hdt : decide (d = d2) = true := decide_eq_true hdd
              rw [hdt]
              have hbb : Below w1.heap.size w1 w4 := below_then (((Below.refl _ w1).alloc (Nat.le_refl _) (.cells #[.int .i64 d.f0, .string d.f1, .string d.f2, .slice A d.f3.length c, .string d.f4, .string d.f5] 33)).alloc (by simp) (.cells #[.int .i64 d2.f0, .string d2.f1, .string d2.f2, .slice A2 d2.f3.length c2, .string d2.f4, .string d2.f5] 33)) (by simp; omega) hb4
              have hrg2 := HR1.out.kept (grown_of_below hbb none) (by intro e; cases e) (by intro e; cases e)
              go_wp2_with fail
              go_roundw
              case rel =>
                refine ⟨_, cnt1, (by first | exact hrg2 | (rw [hl]; exact hrg2) | (have h9 := hrg2; rw [← hl] at h9; exact h9)), fun p hp => ?_, below_then HBb.out HBb.out.size hb4⟩
                by_cases hpx : p.1 = x.data.toList
                · right
                  rw [hpx]
                  exact ⟨hk, by rw [HD2.out, ← hdd, ← hg1x, ← hpx]; exact mget_mem r1 hp⟩
                · rcases hseen.out p hp with h | h
                  · left
                    have : Lit.sameKey (.string p.1) (.string x.data.toList) = false := beq_eq_false_iff_ne.2 hpx
                    simp [h, this]
                  · exact .inr h
              case measure =>
                rw [hrg2.left_eq, hrg.out.left_eq]
                exact hcl
            · have hdf : decide (d = d2) = false := decide_eq_false hdd
              rw [hdf]
              go_wp2_with fail
              go_ret
              have : m1 ≠ m2 := by
                rintro rfl
                exact hdd (hg1x.symm.trans HD2.out)
              exact ⟨by simp [this], below_then HBb.out HBb.out.size hb4⟩
  · rw [decide_eq_false hl] at hne
    clear h1 h2
    go_enter Tryz.func91, Tryz.ntmps91
    go_wp2
    go_ret
    have : m1 ≠ m2 := fun e => hl (by rw [e])
    exact ⟨by simp [this], Below.refl _ _⟩

set_option maxRecDepth 100000 in
theorem snap_same_calls (v1 v2 : Value) (m1 m2 : Keyed2) (w : World) (h1 : SnapAt w v1 m1) (h2 : SnapAt w v2 m2) :
    Calls Tryz.prog 26 #[v1, v2] w fun e w' => e = .returned (.bool (decide (m1 = m2))) ∧ Below w.heap.size w w' := by
  have H1 := Lib.hid h1
  have H2 := Lib.hid h2
  clear h1 h2
  go_enter Tryz.func26, Tryz.ntmps26
  go_wp2_with fail
  refine (all_calls v1 m1 w H1.out).mono ?_
  rintro e w1 ⟨mb1, rfl, hmv1, rfl⟩
  have HM1 := Lib.hid hmv1
  clear hmv1
  go_wp2_with fail
  refine (all_calls v2 m2 w H2.out).mono ?_
  rintro e w1 ⟨mb2, rfl, hmv2, rfl⟩
  have HM2 := Lib.hid hmv2
  clear hmv2
  go_wp2_with fail
  refine (equalFunc_calls mb1 mb2 m1 m2 w HM1.out HM2.out HM1.out.rising HM2.out.rising).mono ?_
  rintro e w1 ⟨rfl, hb⟩
  go_wp2_with fail
  go_ret
  exact ⟨rfl, hb⟩
end Go.Proofs.YtodpdlpncgkkdaaGreatDoor
end
section
namespace Go.Proofs.YtodpdlpncgkkdaaGreatDoor
open Go.RowKit Go.Proofs.YtodpdlpncgkkdaaGreatDoorW.PrintWords Go.Shelf

def KeyedM (m : Keyed2) : Prop := ∀ p ∈ m, p.1 = kd p.2
theorem less_lt (a b : List UInt8) : Op.bytesLess a b = decide (a < b) := bytesLess_eq a b
theorem before_lt (a b : List UInt8) : bytesBefore a b = decide (a < b) := by rw [before_less, less_lt]
theorem lt_ne {a b : List UInt8} (h : a < b) : a ≠ b := fun e => by subst e; exact List.lt_irrefl _ h
theorem lt_cases (a b : List UInt8) : a < b ∨ a = b ∨ b < a := by
  by_cases h1 : a < b
  · exact .inl h1
  · by_cases h2 : b < a
    · exact .inr (.inr h2)
    · exact .inr (.inl (List.le_antisymm (List.not_lt.1 h2) (List.not_lt.1 h1)))
theorem rising_iff {m : Keyed2} : Rising m ↔ m.Pairwise fun p q => p.1 < q.1 := by
  unfold Rising keysL
  rw [List.pairwise_map]
  constructor
  · intro h; exact h.imp fun {a b} h => by rw [before_lt] at h; exact of_decide_eq_true h
  · intro h; exact h.imp fun {a b} h => by rw [before_lt]; exact decide_eq_true h
theorem mins_mem (x : List UInt8 × Def) : ∀ (m : Keyed2) (p : List UInt8 × Def), p ∈ mins x m ↔ p = x ∨ p ∈ m
  | [], p => by simp [mins]
  | y :: r, p => by
    unfold mins
    split
    · simp
    · simp only [List.mem_cons, mins_mem x r p]
      constructor
      · rintro (h | h | h)
        · exact .inr (.inl h)
        · exact .inl h
        · exact .inr (.inr h)
      · rintro (h | h | h)
        · exact .inr (.inl h)
        · exact .inl h
        · exact .inr (.inr h)
theorem mins_cons (x y : List UInt8 × Def) (r : Keyed2) : mins x (y :: r) = if bytesBefore x.1 y.1 = true then x :: y :: r else y :: mins x r := rfl
theorem mput_mem (m : Keyed2) (k : List UInt8) (d : Def) (p : List UInt8 × Def) : p ∈ mput m k d ↔ p = (k, d) ∨ (p ∈ m ∧ p.1 ≠ k) := by
  unfold mput
  rw [mins_mem, List.mem_filter]
  simp
theorem mins_rising (x : List UInt8 × Def) : ∀ m : Keyed2, m.Pairwise (fun p q => p.1 < q.1) → (∀ p ∈ m, p.1 ≠ x.1) → (mins x m).Pairwise (fun p q => p.1 < q.1)
  | [], _, _ => by simp [mins]
  | y :: r, h, hn => by
    obtain ⟨h1, h2⟩ := List.pairwise_cons.1 h
    unfold mins
    split
    · rename_i hb
      rw [before_lt] at hb
      have hb := of_decide_eq_true hb
      refine List.pairwise_cons.2 ⟨fun p hp => ?_, h⟩
      rcases List.mem_cons.1 hp with rfl | hp
      · exact hb
      · exact List.lt_trans hb (h1 p hp)
    · rename_i hb
      rw [before_lt] at hb
      have hxy : y.1 < x.1 := by
        rcases lt_cases x.1 y.1 with h | h | h
        · exact absurd (decide_eq_true h) hb
        · exact absurd h.symm (hn y (List.mem_cons_self ..))
        · exact h
      refine List.pairwise_cons.2 ⟨fun p hp => ?_, mins_rising x r h2 fun p hp => hn p (List.mem_cons_of_mem _ hp)⟩
      rcases (mins_mem x r p).1 hp with rfl | hp
      · exact hxy
      · exact h1 p hp
theorem mput_rising {m : Keyed2} (h : Rising m) (k : List UInt8) (d : Def) : Rising (mput m k d) := by
  rw [rising_iff] at h ⊢
  exact mins_rising _ _ (h.sublist List.filter_sublist) fun p hp => by
    have := (List.mem_filter.1 hp).2
    simpa using this
theorem mput_keyed {m : Keyed2} (h : KeyedM m) (d : Def) : KeyedM (mput m (kd d) d) := fun p hp => by
  rcases (mput_mem m (kd d) d p).1 hp with rfl | ⟨hp, _⟩
  · rfl
  · exact h p hp
theorem putFrom_true (d : Def) : ∀ l : List Def, (∀ x ∈ l, kd x ≠ kd d) → putFrom d true l = l
  | [], _ => rfl
  | x :: r, h => by
    unfold putFrom
    rw [if_neg (h x (List.mem_cons_self ..)), Bool.true_or, putFrom_true d r fun y hy => h y (List.mem_cons_of_mem _ hy)]
    rfl
theorem put_from (d : Def) : ∀ m : Keyed2, m.Pairwise (fun p q => p.1 < q.1) → KeyedM m → defsL (mput m (kd d) d) = putFrom d false (defsL m)
  | [], _, _ => rfl
  | y :: r, h, hk => by
    obtain ⟨h1, h2⟩ := List.pairwise_cons.1 h
    have hy : y.1 = kd y.2 := hk y (List.mem_cons_self ..)
    have hkr : KeyedM r := fun p hp => hk p (List.mem_cons_of_mem _ hp)
    have hdef : defsL (y :: r) = y.2 :: defsL r := rfl
    have ih := put_from d r h2 hkr
    rw [hdef, putFrom, less_lt]
    have hall : kd d < y.1 ∨ kd d = y.1 → ∀ p ∈ r, p.1 ≠ kd d := by
      intro hle p hp e
      have := h1 p hp
      rw [e] at this
      rcases hle with hle | hle
      · exact List.lt_irrefl _ (List.lt_trans hle this)
      · rw [hle] at this; exact List.lt_irrefl _ this
    have hfr : (∀ p ∈ r, p.1 ≠ kd d) → r.filter (fun p => !(p.1 == kd d)) = r := fun hn => List.filter_eq_self.2 fun p hp => by simpa using hn p hp
    have htr : (∀ p ∈ r, p.1 ≠ kd d) → putFrom d true (defsL r) = defsL r := fun hn => putFrom_true d _ fun x hx => by
      obtain ⟨p, hp, rfl⟩ := List.mem_map.1 hx
      rw [← hkr p hp]; exact hn p hp
    rcases lt_cases y.1 (kd d) with hlt | heq | hgt
    · have hne := lt_ne hlt
      have hb : bytesBefore (kd d) y.1 = false := by rw [before_lt]; exact decide_eq_false fun h => List.lt_irrefl _ (List.lt_trans h hlt)
      have hm : mput (y :: r) (kd d) d = y :: mput r (kd d) d := by
        unfold mput
        rw [List.filter_cons, if_pos (by simpa using hne)]
        rw [mins_cons, if_neg (by rw [hb]; decide)]
      rw [hm, ← hy, decide_eq_true hlt, if_neg hne, show defsL (y :: mput r (kd d) d) = y.2 :: defsL (mput r (kd d) d) from rfl, ih]
      simp
    · have hn := hall (.inr heq.symm)
      have hm : mput (y :: r) (kd d) d = (kd d, d) :: r := by
        unfold mput
        rw [List.filter_cons, if_neg (by simpa using heq), hfr hn]
        cases r with
        | nil => rfl
        | cons z r =>
          rw [mins_cons, if_pos (by rw [before_lt, ← heq]; exact decide_eq_true (h1 z (List.mem_cons_self ..)))]
      rw [hm, ← hy, heq, decide_eq_false (List.lt_irrefl _)]
      simp only [Bool.not_false, Bool.and_self, ↓reduceIte, Bool.or_true, List.append_nil, htr hn]
      rfl
    · have hn := hall (.inl hgt)
      have hne : y.1 ≠ kd d := fun e => lt_ne hgt e.symm
      have hm : mput (y :: r) (kd d) d = (kd d, d) :: y :: r := by
        unfold mput
        rw [List.filter_cons, if_pos (by simpa using hne), hfr hn]
        rw [mins_cons, if_pos (by rw [before_lt]; exact decide_eq_true hgt)]
      rw [hm, ← hy, if_neg hne, decide_eq_false (fun h => List.lt_irrefl _ (List.lt_trans h hgt))]
      simp only [Bool.not_false, Bool.and_self, ↓reduceIte, Bool.or_true, htr hn]
      rfl
theorem mhas_find {m : Keyed2} (hk : KeyedM m) (k : List UInt8) : mhas m k = decide (findD (defsL m) k ≥ 0) := by
  rw [Bool.eq_iff_iff, decide_eq_true_iff, findD_ge]
  unfold mhas defsL
  rw [List.any_eq_true]
  constructor
  · rintro ⟨p, hp, e⟩
    exact ⟨p.2, List.mem_map.2 ⟨p, hp, rfl⟩, by rw [← hk p hp]; exact beq_iff_eq.1 e⟩
  · rintro ⟨d, hd, e⟩
    obtain ⟨p, hp, rfl⟩ := List.mem_map.1 hd
    exact ⟨p, hp, beq_iff_eq.2 (by rw [hk p hp]; exact e)⟩
/-- New's answer as the reference gives it. -/
def newL : Option Keyed2 × Int → List Def × Int
  | (some m, c) => (defsL m, c)
  | (none, c) => ([], c)
theorem kd_nil (d : Def) : kd d = [] ↔ defKey d = ByteArray.empty := by
  unfold kd
  rw [← Lib.toList_data]
  exact empty_toList
theorem refNew_loop (l : List Def) (hl : l.length ≤ 9223372036854775807) (ht : ∀ d ∈ l, Told d) : ∀ n i : Nat, ∀ m : Keyed2, i ≤ l.length → l.length - i = n → Rising m → KeyedM m → (∀ d ∈ defsL m, Told d) → m.length ≤ 500 →
    ∃ K, ∀ k, K ≤ k → P.monticuleref08_New.l0 k l (defsL m) (i : Int) = some (newL (newFrom m (l.drop i))) := by
  intro n
  induction n with
  | zero =>
    intro i m hi hn _ _ _ _
    refine ⟨1, fun k hk => ?_⟩
    obtain ⟨k, rfl⟩ : ∃ m, k = m + 1 := ⟨k - 1, by omega⟩
    simp only [P.monticuleref08_New.l0]
    rw [if_neg (by omega), List.drop_eq_nil_of_le (by omega)]
    rfl
  | succ n ih =>
    intro i m hi hn hr hkm htm h5
    have hlt : i < l.length := by omega
    have hcast : ((i : Int) + 1) = ((i + 1 : Nat) : Int) := by omega
    have hw : wrap64 ((i : Int) + 1) = ((i + 1 : Nat) : Int) := by rw [wrap_up (by omega) (n := l.length) (by omega) (by omega), hcast]
    have hlen : (defsL m).length = m.length := by simp [defsL]
    have htd := ht _ (List.getElem_mem hlt)
    obtain ⟨K1, hK1⟩ := refKey_f l[i] htd
    obtain ⟨K2, hK2⟩ := refFind_f (defsL m) (defKey l[i]) (by omega) htm
    obtain ⟨K3, hK3⟩ := refPut_f (defsL m) l[i] (by omega) htm htd
    have hdr : l.drop i = l[i] :: l.drop (i + 1) := List.drop_eq_getElem_cons hlt
    have hkd : (defKey l[i]).data.toList = kd l[i] := rfl
    rw [hkd] at hK2
    have hrest : ∃ K, ∀ k, K ≤ k → m.length < 500 → P.monticuleref08_New.l0 k l (putFrom l[i] false (defsL m)) ((i + 1 : Nat) : Int) = some (newL (newFrom (mput m (kd l[i]) l[i]) (l.drop (i + 1)))) := by
      by_cases h : m.length < 500
      · obtain ⟨K, hK⟩ := ih (i + 1) (mput m (kd l[i]) l[i]) (by omega) (by omega) (mput_rising hr _ _) (mput_keyed hkm _) (fun d hd => by
          obtain ⟨p, hp, rfl⟩ := List.mem_map.1 hd
          rcases (mput_mem m _ _ p).1 hp with rfl | ⟨hp, _⟩
          · exact htd
          · exact htm _ (List.mem_map.2 ⟨p, hp, rfl⟩)) (by have := mput_length m (kd l[i]) l[i]; omega)
        refine ⟨K, fun k hk _ => ?_⟩
        rw [← put_from l[i] m (rising_iff.1 hr) hkm]
        exact hK k hk
      · exact ⟨0, fun _ _ h' => absurd h' h⟩
    obtain ⟨K4, hK4⟩ := hrest
    refine ⟨max K1 (max K2 (max K3 K4)) + 1, fun k hk => ?_⟩
    obtain ⟨k, rfl⟩ : ∃ m, k = m + 1 := ⟨k - 1, by omega⟩
    simp only [P.monticuleref08_New.l0]
    rw [if_pos (by omega), if_pos (by omega), rd_def l i hlt, hK1 k (by omega), hdr, newFrom]
    simp only [Option.bind_some, empty_toList]
    by_cases h1 : defKey l[i] = ByteArray.empty
    · rw [if_pos h1, if_pos h1]; rfl
    · rw [if_neg h1, if_neg h1, hK2 k (by omega), hkd, mhas_find hkm]
      simp only [Option.bind_some]
      by_cases h2 : findD (defsL m) (kd l[i]) ≥ 0
      · rw [if_pos h2, if_pos (decide_eq_true h2)]; rfl
      · rw [if_neg h2, if_neg (show ¬ decide (findD (defsL m) (kd l[i]) ≥ 0) = true by simpa using h2), hlen]
        by_cases h3 : m.length = 500
        · rw [if_pos (by omega), if_pos h3]; rfl
        · rw [if_neg (by omega), if_neg h3, hK3 k (by omega)]
          simp only [Option.bind_some]
          rw [hw, hK4 k (by omega) (by omega)]
theorem refNew_f (l : List Def) (hl : l.length ≤ 9223372036854775807) (ht : ∀ d ∈ l, Told d) : ∃ K, ∀ k, K ≤ k → P.monticuleref08_New.f k l = some (newL (newFrom [] l)) := by
  obtain ⟨K, hK⟩ := refNew_loop l hl ht l.length 0 [] (Nat.zero_le _) (by omega) List.Pairwise.nil (fun _ h => by cases h) (fun _ h => by cases h) (Nat.zero_le _)
  exact ⟨K, fun k hk => hK k hk⟩

/-- Definitions of which New makes a snapshot. -/
def OkL (l : List Def) : Prop := (∀ d ∈ l, defKey d ≠ ByteArray.empty) ∧ l.Pairwise fun a b => kd a ≠ kd b
theorem newFrom_spec : ∀ (l : List Def) (m : Keyed2), Rising m → KeyedM m →
    (∀ m' c, newFrom m l = (some m', c) → c = 0 ∧ Rising m' ∧ KeyedM m' ∧ OkL l ∧ (∀ d ∈ l, ∀ p ∈ m, p.1 ≠ kd d) ∧ m'.length = m.length + l.length ∧ ∀ p, p ∈ m' ↔ p ∈ m ∨ ∃ d ∈ l, p = (kd d, d)) ∧
    (OkL l → (∀ d ∈ l, ∀ p ∈ m, p.1 ≠ kd d) → m.length + l.length ≤ 500 → ∃ m', newFrom m l = (some m', 0)) ∧ (∀ c, newFrom m l = (none, c) → c ≠ 0)
  | [], m, hr, hk => by
    refine ⟨fun m' c h => ?_, fun _ _ _ => ⟨m, rfl⟩, fun c h => ?_⟩
    · unfold newFrom at h
      injection h with h1 h2
      injection h1 with h1
      subst h1; subst h2
      exact ⟨rfl, hr, hk, ⟨(fun _ h => by cases h), List.Pairwise.nil⟩, (fun _ h => by cases h), rfl, (fun p => by simp)⟩
    · unfold newFrom at h
      injection h with h1 h2
      cases h1
  | d :: l, m, hr, hk => by
    have ih := newFrom_spec l (mput m (kd d) d) (mput_rising hr _ _) (mput_keyed hk _)
    have hkd : (defKey d).data.toList = kd d := rfl
    have hhas : mhas m (kd d) = true ↔ ∃ p ∈ m, p.1 = kd d := by unfold mhas; rw [List.any_eq_true]; exact ⟨fun ⟨p, hp, e⟩ => ⟨p, hp, beq_iff_eq.1 e⟩, fun ⟨p, hp, e⟩ => ⟨p, hp, beq_iff_eq.2 e⟩⟩
    have hlen : mhas m (kd d) = false → (mput m (kd d) d).length = m.length + 1 := fun h => by
      unfold mput
      rw [mins_length, List.filter_eq_self.2]
      intro p hp
      have : ¬ p.1 = kd d := fun e => by rw [hhas.2 ⟨p, hp, e⟩] at h; cases h
      simpa using this
    unfold newFrom
    rw [hkd]
    by_cases h1 : defKey d = ByteArray.empty
    · rw [if_pos h1]
      refine ⟨(fun m' c h => by injection h with h _; cases h), fun h => absurd h1 (h.1 d (List.mem_cons_self ..)), fun c h => ?_⟩
      injection h with _ h; omega
    · rw [if_neg h1]
      by_cases h2 : mhas m (kd d) = true
      · rw [if_pos h2]
        refine ⟨(fun m' c h => by injection h with h _; cases h), fun _ h => ?_, fun c h => ?_⟩
        · obtain ⟨p, hp, e⟩ := hhas.1 h2
          exact absurd e (h d (List.mem_cons_self ..) p hp)
        · injection h with _ h; omega
      · have h2' : mhas m (kd d) = false := by simpa using h2
        have hno : ∀ p ∈ m, p.1 ≠ kd d := fun p hp e => h2 (hhas.2 ⟨p, hp, e⟩)
        rw [if_neg h2]
        by_cases h3 : m.length = 500
        · rw [if_pos h3]
          refine ⟨(fun m' c h => by injection h with h _; cases h), fun _ _ h => ?_, fun c h => ?_⟩
          · simp at h; omega
          · injection h with _ h; omega
        · rw [if_neg h3]
          refine ⟨fun m' c h => ?_, fun hok hd hl5 => ?_, ih.2.2⟩
          · obtain ⟨i1, i2, i3, i4, i5, i6, i7⟩ := ih.1 m' c h
            have hdl : ∀ x ∈ l, kd x ≠ kd d := fun x hx e => i5 x hx (kd d, d) ((mput_mem m _ _ _).2 (.inl rfl)) e.symm
            refine ⟨i1, i2, i3, ⟨fun x hx => ?_, List.pairwise_cons.2 ⟨fun x hx e => hdl x hx e.symm, i4.2⟩⟩, fun x hx p hp => ?_, by rw [i6, hlen h2']; simp; omega, fun p => ?_⟩
            · rcases List.mem_cons.1 hx with rfl | hx
              · exact h1
              · exact i4.1 x hx
            · rcases List.mem_cons.1 hx with rfl | hx
              · exact hno p hp
              · exact i5 x hx p ((mput_mem m _ _ _).2 (.inr ⟨hp, hno p hp⟩))
            · rw [i7 p, mput_mem]
              constructor
              · rintro ((h | h) | ⟨x, hx, h⟩)
                · exact .inr ⟨d, List.mem_cons_self .., h⟩
                · exact .inl h.1
                · exact .inr ⟨x, List.mem_cons_of_mem _ hx, h⟩
              · rintro (hp | ⟨x, hx, hp⟩)
                · exact .inl (.inr ⟨hp, hno p hp⟩)
                · rcases List.mem_cons.1 hx with rfl | hx
                  · exact .inl (.inl hp)
                  · exact .inr ⟨x, hx, hp⟩
          · refine ih.2.1 ⟨fun x hx => hok.1 x (List.mem_cons_of_mem _ hx), (List.pairwise_cons.1 hok.2).2⟩ (fun x hx p hp => ?_) (by rw [hlen h2']; simp at hl5; omega)
            rcases (mput_mem m _ _ p).1 hp with rfl | ⟨hp, _⟩
            · exact (List.pairwise_cons.1 hok.2).1 x hx
            · exact hd x (List.mem_cons_of_mem _ hx) p hp
theorem new_some {l : List Def} {m : Keyed2} {c : Int} (h : newFrom [] l = (some m, c)) : c = 0 ∧ Rising m ∧ KeyedM m ∧ OkL l ∧ m.length = l.length ∧ ∀ p, p ∈ m ↔ ∃ d ∈ l, p = (kd d, d) := by
  obtain ⟨h1, h2, h3, h4, _, h6, h7⟩ := (newFrom_spec l [] List.Pairwise.nil (fun _ h => by cases h)).1 m c h
  exact ⟨h1, h2, h3, h4, by simpa using h6, fun p => by simpa using h7 p⟩
theorem new_none {l : List Def} {c : Int} (h : newFrom [] l = (none, c)) : c ≠ 0 := (newFrom_spec l [] List.Pairwise.nil (fun _ h => by cases h)).2.2 c h
theorem new_ok {l : List Def} (h : OkL l) (hl : l.length ≤ 500) : ∃ m, newFrom [] l = (some m, 0) := (newFrom_spec l [] List.Pairwise.nil (fun _ h => by cases h)).2.1 h (fun _ _ _ h => by cases h) (by simpa using hl)
theorem keyed_ext {m1 m2 : Keyed2} (h1 : Rising m1) (h2 : Rising m2) (hl : m1.length = m2.length) (h : ∀ p, p ∈ m1 → p ∈ m2) : m1 = m2 := maps_equal h1 h2 hl fun p hp => ⟨mhas_mem (h p hp), mget_mem h2 (h p hp)⟩
/-- The order doesn't matter. -/
theorem new_perm {l l' : List Def} {m : Keyed2} {c : Int} (hp : l'.Perm l) (hl : l.length ≤ 500) (h : newFrom [] l = (some m, c)) : newFrom [] l' = (some m, 0) := by
  obtain ⟨_, h2, _, h4, h5, h6⟩ := new_some h
  have hok : OkL l' := ⟨fun d hd => h4.1 d (hp.subset hd), (hp.pairwise_iff (fun h e => h e.symm)).2 h4.2⟩
  obtain ⟨m', hm'⟩ := new_ok hok (by rw [hp.length_eq]; exact hl)
  obtain ⟨_, i2, _, _, i5, i6⟩ := new_some hm'
  rw [hm', keyed_ext i2 h2 (by rw [i5, h5, hp.length_eq]) fun p hpm => (h6 p).2 (by
    obtain ⟨d, hd, e⟩ := (i6 p).1 hpm
    exact ⟨d, hp.subset hd, e⟩)]
end Go.Proofs.YtodpdlpncgkkdaaGreatDoor
end
section
namespace Go.Proofs.YtodpdlpncgkkdaaGreatDoor
open Go.RowKit Go.Proofs.YtodpdlpncgkkdaaGreatDoorW.PrintWords Go.Shelf

def cells6 (x : Elem) : List Value := [.int .i64 x.1.f0, .string x.1.f1, .string x.1.f2, .slice x.2.1 x.1.f3.length x.2.2, .string x.1.f4, .string x.1.f5]
theorem flat6 : ∀ (l : List Elem) (j i : Nat) (x : Elem), l[j]? = some x → i < 6 → (l.map cells6).flatten[j * 6 + i]? = (cells6 x)[i]?
  | [], j, i, x, h, _ => by simp at h
  | y :: l, 0, i, x, h, hi => by
    simp at h
    subst h
    rw [List.map_cons, List.flatten_cons, Nat.zero_mul, Nat.zero_add, List.getElem?_append_left (by simp [cells6]; omega)]
  | y :: l, j + 1, i, x, h, hi => by
    have h' : l[j]? = some x := by simpa using h
    have h6 : (cells6 y).length = 6 := rfl
    rw [List.map_cons, List.flatten_cons, List.getElem?_append_right (by rw [h6]; omega), h6, ← flat6 l j i x h' hi]
    congr 1
    omega
theorem C_defs (w : World) (l : List Elem) (h : ∀ x ∈ l, x.1.f3.length ≤ x.2.2 ∧ Kd.C Kd.string w x.2.1 x.1.f3.length x.1.f3) (hl : l.length ≤ 9223372036854775807) :
    Kd.C P.k33 (w.alloc (.cells (l.map cells6).flatten.toArray 33)) (some ⟨w.heap.size, 0, none⟩) l.length (l.map (·.1)) := by
  refine ⟨by simp, hl, fun _ => ⟨_, rfl, fun j p hj => ?_⟩⟩
  rw [List.getElem?_map] at hj
  obtain ⟨x, hx, rfl⟩ := Option.map_eq_some_iff.1 hj
  obtain ⟨h1, h2⟩ := h x (List.mem_of_getElem? hx)
  refine ⟨cells6 x, rfl, P.k33_mk _ x.1 h1 (Kd.C_alloc h2 _), fun i u hu => ?_⟩
  have hi : i < 6 := by
    have := (List.getElem?_eq_some_iff.1 hu).1
    exact this
  have hsz : P.k33.sz = 6 := rfl
  rw [hsz]
  have hadd : ∀ n : Nat, (⟨w.heap.size, 0, none⟩ : Addr).add n = ⟨w.heap.size, n, none⟩ := fun n => by unfold Addr.add; split <;> simp_all
  have hc : ∀ (cs : Array Value) (t : TypeId) (n : Nat), (w.alloc (.cells cs t)).cell? ⟨w.heap.size, n, none⟩ = cs[n]? := fun cs t n => by
    have h1 : (w.alloc (.cells cs t)).heap[(⟨w.heap.size, n, none⟩ : Addr).block]? = some (.cells cs t) := heap_alloc_new w _
    unfold World.cell?
    rw [h1]
    rfl
  rw [hadd, hc, List.getElem?_toArray]
  rw [flat6 l j i x hx hi, hu]

def defA : Def := ⟨1, ⟨#[65]⟩, ⟨#[79, 98, 106, 101, 99, 116]⟩, [], ⟨#[]⟩, ⟨#[]⟩⟩
def defB2 : Def := ⟨2, ⟨#[65]⟩, ⟨#[]⟩, [], ⟨#[98]⟩, ⟨#[]⟩⟩
theorem awake_new : newFrom [] [defA, defB2] = (some [([65], defA), ([65, 62, 62, 98], defB2)], 0) := by kernel_rfl
theorem awake_drop : (mdels [([65], defA), ([65, 62, 62, 98], defB2)] [⟨#[65]⟩]).length = 1 := by kernel_rfl

set_option maxHeartbeats 2000000 in
set_option maxRecDepth 100000 in
theorem awake08_calls (w : World) : Calls Tryz.prog 18 #[] w fun e w' => e = .returned (.bool true) ∧ Below w.heap.size w w' := by
  have HN := Lib.hid (new_calls (some ⟨w.heap.size, 0, none⟩) 2 [defA, defB2] (w.alloc (.cells ([(defA, none, 0), (defB2, none, 0)].map cells6).flatten.toArray 33)) (C_defs w [(defA, none, 0), (defB2, none, 0)] (by
    intro x hx
    simp only [List.mem_cons, List.not_mem_nil, or_false] at hx
    rcases hx with rfl | rfl <;> exact ⟨Nat.le_refl _, C_none w⟩) (by decide)) (by
    intro d hd
    simp only [List.mem_cons, List.not_mem_nil, or_false] at hd
    rcases hd with rfl | rfl <;> exact ⟨by decide, by decide⟩))
  rw [awake_new] at HN
  go_enter Tryz.func18, Tryz.ntmps18
  go_wp2_with fail
  refine HN.out.mono ?_
  rintro e w1 ⟨v, rfl, ⟨hv, hs⟩, hb⟩
  obtain ⟨a, b, rfl, hca, hmb⟩ : ∃ a b, v = .pointer (some ⟨a, 0, none⟩) ∧ w1.cell? ⟨a, 0, none⟩ = some (.map (some b)) ∧ MapOf w1 b _ := by
    rcases hs with ⟨e, _⟩ | h
    · exact absurd e hv
    · exact h
  have hS : SnapAt w1 (.pointer (some ⟨a, 0, none⟩)) [([65], defA), ([65, 62, 62, 98], defB2)] := .inr ⟨a, b, rfl, hca, hmb⟩
  have HS := Lib.hid hS
  have HB : Hid (Below w.heap.size w w1) := below_then ((Below.refl _ w).alloc (Nat.le_refl _) _) (by simp) hb
  clear hv hs hca hmb hS hb HN
  go_wp2_with fail
  refine (len_calls _ _ w1 HS.out).mono ?_
  rintro e w2 ⟨rfl, rfl⟩
  go_wp2_with fail
  have hC : Kd.C Kd.string (w1.alloc (.cells #[.string ⟨#[65]⟩] 9)) (some ⟨w1.heap.size, 0, none⟩) 1 [⟨#[65]⟩] := (Kd.R_reads' (encs_R w1 w1.heap.size [⟨#[65]⟩] (Nat.le_refl _) (by decide))).2.2
  have hb2 : Below w1.heap.size w1 (w1.alloc (.cells #[.string ⟨#[65]⟩] 9)) := (Below.refl _ _).alloc (Nat.le_refl _) _
  have HD := Lib.hid (drop_calls _ _ (some ⟨w1.heap.size, 0, none⟩) 1 [⟨#[65]⟩] _ (HS.out.below hb2) (by decide) hC (by decide))
  have HB2 := Lib.hid (below_then HB.out HB.out.size hb2)
  clear hC hb2
  refine HD.out.mono ?_
  rintro e w3 ⟨u, rfl, hs, hu, hb⟩
  have HS3 := Lib.hid hs
  have HB3 := Lib.hid (below_then HB2.out HB2.out.size hb)
  clear hs hu hb
  go_wp2_with fail
  refine (len_calls _ _ w3 HS3.out).mono ?_
  rintro e w4 ⟨rfl, rfl⟩
  rw [awake_drop]
  go_wp2_with fail
  go_ret
  exact ⟨rfl, HB3.out⟩
end Go.Proofs.YtodpdlpncgkkdaaGreatDoor
end
section
namespace Go.Proofs.YtodpdlpncgkkdaaGreatDoor
open Go.RowKit Go.Proofs.YtodpdlpncgkkdaaGreatDoorW.PrintWords Go.Shelf Go.Maps
attribute [local go_sem] Oper.semAt_some

/-- The writer at block p, with no error, holds s; its row lies from base on. -/
def WrAt (W : World) (p base : Nat) (s : List Int) : Prop :=
  ∃ v, W.heap[p]? = some (.cells #[v, .int .i64 0] 131 (0, 0)) ∧ Kd.R (Kd.int .u8) 5 W base (fun k => k ≠ p) v s
/-- A number's four octets, the highest first. -/
def be4 (x : Int) : List Int := [x / 16777216 % 256, x / 65536 % 256, x / 256 % 256, x % 256]
theorem u8_wrap (y : Int) : IntKind.u8.wrap y = y % 256 := by rfl
theorem wr_cells {W : World} {p : Nat} {v u : Value} {t : TypeId} (hb : W.heap[p]? = some (.cells #[v, u] t (0, 0))) :
    W.cell? ⟨p, 0, none⟩ = some v ∧ W.cell? ⟨p, 1, none⟩ = some u ∧ W.frozen? ⟨p, 0, none⟩ = false ∧ W.frozen? ⟨p, 1, none⟩ = false := by
  simp [World.cell?, World.frozen?, hb]
theorem wr_grown {W W2 : World} {p : Nat} {v v1 u : Value} {t : TypeId} {ok : Nat → Prop} (hb : W.heap[p]? = some (.cells #[v, u] t (0, 0))) (hv : ∀ k, v1.ownBlock = some k → k ≠ p) (hg : W.grownBy W2 v1.ownBlock) :
    W2.heap[p]? = some (.cells #[v, u] t (0, 0)) :=
  (hg.block p (Array.getElem?_eq_some_iff.1 hb).1 (fun e => hv p e.symm rfl)).trans hb
theorem WrAt.put {W : World} {p base : Nat} {v v2 : Value} {s : List Int} (hb : W.heap[p]? = some (.cells #[v, .int .i64 0] 131 (0, 0))) (hR : Kd.R (Kd.int .u8) 5 W base (fun k => k ≠ p) v2 s) : WrAt (W.setCell ⟨p, 0, none⟩ v2) p base s :=
  ⟨v2, blk_put hb 0 v2 rfl, Kd.R_far (p := ⟨p, 0, none⟩) hR (fun _ h => h) v2⟩
theorem WrAt.below {w w1 : World} {p base : Nat} {s : List Int} (h : WrAt w p base s) (hb : Below w.heap.size w w1) : WrAt w1 p base s := by
  obtain ⟨v, h1, h2⟩ := h
  exact ⟨v, (hb.block p (Array.getElem?_eq_some_iff.1 h1).1).trans h1, Kd.R_below h2 hb⟩

/-- A writer, or a row of octets. -/
def WrObj : Obj → Prop
  | .cells _ q _ => q = 131 ∨ q = 5
  | _ => False
/-- What a writer's step keeps: what lay below base; all that is neither a writer nor a row of octets. -/
structure WrStep (base : Nat) (w w' : World) : Prop where
  size : w.heap.size ≤ w'.heap.size
  old : Below base w w'
  keep : ∀ (k : Nat) (o : Obj), w.heap[k]? = some o → ¬ WrObj o → w'.heap[k]? = some o
theorem WrStep.cells {base : Nat} {w w' : World} (h : WrStep base w w') (k : Nat) (c : Array Value) (q : TypeId) (fr : Nat × Nat) (hk : w.heap[k]? = some (Obj.cells c q fr)) (h1 : q ≠ 131) (h2 : q ≠ 5) : w'.heap[k]? = some (Obj.cells c q fr) :=
  h.keep k _ hk (fun e => by rcases e with e | e; exact h1 e; exact h2 e)
theorem WrStep.others {base : Nat} {w w' : World} (h : WrStep base w w') (k : Nat) (o : Obj) (hk : w.heap[k]? = some o) (ho : o.isCells = false) : w'.heap[k]? = some o :=
  h.keep k o hk (fun e => by cases o <;> first | exact e | cases ho)
theorem WrStep.trans {base : Nat} {a b c : World} (h : WrStep base a b) (h' : WrStep base b c) : WrStep base a c :=
  ⟨Nat.le_trans h.size h'.size, h.old.trans h'.old, fun k o hk ho => h'.keep k o (h.keep k o hk ho) ho⟩
theorem WrStep.of_below {base : Nat} {w w' : World} (hb : base ≤ w.heap.size) (h : Below w.heap.size w w') : WrStep base w w' :=
  ⟨h.size, h.mono hb, fun k _ hk _ => (h.block k (Array.getElem?_eq_some_iff.1 hk).1).trans hk⟩
theorem WrStep.refl (base : Nat) (w : World) : WrStep base w w := ⟨Nat.le_refl _, Below.refl _ _, fun _ _ h _ => h⟩
theorem WrStep.drew {base : Nat} {w W : World} (h : WrStep base w W) : WrStep base w W.drew := ⟨h.size, h.old.drew, h.keep⟩
theorem WrStep.grown {base : Nat} {w W W2 : World} {v : Value} (h : WrStep base w W) (hg : W.grownBy W2 v.ownBlock) (hv : ∀ k, v.ownBlock = some k → ∃ cells, W.heap[k]? = some (.cells cells 5 (0, 0))) (hb : Below base w W2) : WrStep base w W2 :=
  ⟨Nat.le_trans h.size hg.size, hb, fun k o hk ho => by
    have h3 := h.keep k o hk ho
    refine (hg.block k (Array.getElem?_eq_some_iff.1 h3).1 ?_).trans h3
    intro e
    obtain ⟨cells, hc⟩ := hv k e.symm
    rw [h3] at hc
    cases hc
    exact ho (.inr rfl)⟩
theorem WrStep.set {base : Nat} {w W : World} (h : WrStep base w W) {p : Nat} {cs : Array Value} (hp : base ≤ p) (hb : W.heap[p]? = some (.cells cs 131 (0, 0))) (i : Nat) (u : Value) : WrStep base w (W.setCell ⟨p, i, none⟩ u) :=
  ⟨Nat.le_trans h.size (by simp [World.setCell]), h.old.setCell (p := ⟨p, i, none⟩) hp u, fun k o hk ho => by
    have h3 := h.keep k o hk ho
    refine (Below.heap_setCell W ⟨p, i, none⟩ u k ?_).trans h3
    intro e
    simp only at e
    subst e
    rw [h3] at hb
    cases hb
    exact ho (.inl rfl)⟩
theorem R_typed {w : World} {base : Nat} {ok : Nat → Prop} {v : Value} {s : List Int} (h : Kd.R (Kd.int .u8) 5 w base ok v s) : ∀ k, v.ownBlock = some k → ∃ cells, w.heap[k]? = some (.cells cells 5 (0, 0)) := own_typed (Kd.own_of_R h)
/-- A row of texts of the call's own stays. -/
theorem R_wr {base b0 : Nat} {ok : Nat → Prop} {w w' : World} {v : Value} {l : List ByteArray} (h : Kd.R Kd.string 9 w b0 ok v l) (hk : WrStep base w w') : Kd.R Kd.string 9 w' b0 ok v l :=
  Kd.R_mono (Kd.R_step (Kd.R_bound h) fun k ho _ => by
    obtain ⟨_, hb, _, q, hq, cells, hc⟩ := ho
    have : q = 9 := by
      rcases List.mem_cons.1 hq with h | h
      · exact h
      · cases h
    subst this
    exact (hk.cells k cells _ (0, 0) hc (by decide) (by decide)).trans hc.symm) fun _ h => h.1
set_option maxHeartbeats 2000000 in
set_option maxRecDepth 100000 in
theorem put_calls (p base : Nat) (s : List Int) (x : Int) (w : World) (h : WrAt w p base s) (hx : 0 ≤ x ∧ x < 4294967296) (hp : base ≤ p) (hbs : base ≤ w.heap.size) (hl : s.length + 4 ≤ 140737488355328) :
    Calls Tryz.prog 157 #[.pointer (some ⟨p, 0, none⟩), .int .u64 x, .int .i64 4] w fun e w' => e = .returned (.tuple #[]) ∧ WrAt w' p base (s ++ be4 x) ∧ WrStep base w w' := by
  obtain ⟨v, hb, hR⟩ := h
  have HR := Lib.hid hR
  clear hR
  go_enter Tryz.func157, Tryz.ntmps157
  go_wp2_with fail
  go_loopw [6] (fun t6 wr => ∃ (k : Nat), k ≤ 4 ∧ t6 = .int .i64 ((k : Int) - 1) ∧ Hid (WrAt wr p base (s ++ (be4 x).take (4 - k))) ∧ Hid (WrStep base w wr)) (fun t6 _ => (intOf t6 + 1).toNat)
  case atStart => exact ⟨4, by omega, by rfl, by show WrAt _ _ _ _; rw [show 4 - 4 = 0 from rfl, List.take_zero, List.append_nil]; exact ⟨v, hb, HR.out⟩, WrStep.refl _ _⟩
  case round =>
    obtain ⟨k, hk, rfl, hW, hB⟩ := hrel
    obtain ⟨v1, hb1, hR1⟩ := hW.out
    have HR1 := Lib.hid hR1
    have hc1 : wr.cell? ⟨p, 1, none⟩ = some (.int .i64 0) := by simp [World.cell?, hb1]
    have hc0 : wr.cell? ⟨p, 0, none⟩ = some v1 := by simp [World.cell?, hb1]
    clear hR1
    by_cases hk0 : k = 0
    · subst hk0
      go_wp2_with fail
      go_end0
      exact ⟨rfl, by simpa [be4] using hW.out, hB.out⟩
    · have HL := Lib.hid (show (s ++ (be4 x).take (4 - k)).length ≤ s.length + 3 by simp [be4]; omega)
      obtain rfl | rfl | rfl | rfl : k = 1 ∨ k = 2 ∨ k = 3 ∨ k = 4 := by omega
      all_goals
        clear hk hk0
        have q0 : IntKind.i64.wrap 0 = 0 := by rfl
        have q8 : IntKind.i64.wrap 8 = 8 := by rfl
        have q16 : IntKind.i64.wrap 16 = 16 := by rfl
        have q24 : IntKind.i64.wrap 24 = 24 := by rfl
        go_wp2_with fail
        have hps : p < wr.heap.size := (Array.getElem?_eq_some_iff.1 hb1).1
        have hRd : Kd.R (Kd.int .u8) 5 wr.drew base (fun k => k ≠ p) v1 _ := HR1.out
        have hBd : WrStep base w wr.drew := hB.out.drew
        have hbd : wr.drew.heap[p]? = some (.cells #[v1, .int .i64 0] 131 (0, 0)) := hb1
        have HRd := Lib.hid hRd
        have Hbd := Lib.hid hbd
        have HBd := Lib.hid hBd
        clear hRd hbd hBd hb1
        have HNE : ∀ k, wr.drew.heap.size ≤ k → k ≠ p := fun k hk e => by subst e; exact absurd hps (Nat.not_lt.2 hk)
        have HBZ : ∀ {W : World}, Below base w W → base ≤ W.heap.size := fun h => Nat.le_trans hbs h.size
        have HLN : ∀ {n : Nat}, n ≤ s.length + 3 → (n + 1) * 1 ≤ 140737488355328 := fun h => by omega
        go_region_law (refine Kd.R_append_step (Kd.int .u8) base rfl (.tmp 24) (.tmp 30) 41 5 (.int .u8 0) 1 rfl Tryz.underlying41 (by kernel_rfl) rfl (by decide) (by decide) v1 _ _ _ (fun k => k ≠ p) (fun _ => False) (by simp [Act.eval, Act.put]) (by simp [Act.eval, Act.put]) rfl (fun _ h => h.elim) (fun k hk => HNE k hk) HRd.out HBd.out.old (HBZ HBd.out.old) (HLN HL.out) ?_; intro v2 w2 hR2 hB2 hg2 hat2; obtain ⟨A2, c2, rfl⟩ := Kd.R_slice hR2; have Hb2 := Lib.hid (wr_grown (ok := fun _ => True) Hbd.out HRd.out.1 hg2); have HR2 := Lib.hid hR2; have HB2 := Lib.hid (HBd.out.grown hg2 (R_typed HRd.out) hB2); obtain ⟨z0, z1, z2, z3⟩ := wr_cells Hb2.out; clear hR2 hB2 hg2 hat2)
        all_goals go_wp2_with fail
        all_goals
          go_roundw
          case rel =>
            have hput := WrAt.put Hb2.out HR2.out
            have hq := fun u => HB2.out.set hp Hb2.out 0 u
            first
            | exact ⟨3, by omega, by rfl, by show WrAt _ _ _ _; simpa [be4, u8_wrap] using hput, hq _⟩
            | exact ⟨2, by omega, by rfl, by show WrAt _ _ _ _; simpa [be4, u8_wrap] using hput, hq _⟩
            | exact ⟨1, by omega, by rfl, by show WrAt _ _ _ _; simpa [be4, u8_wrap] using hput, hq _⟩
            | exact ⟨0, by omega, by rfl, by show WrAt _ _ _ _; simpa [be4, u8_wrap] using hput, hq _⟩
          case measure => simp [intOf]
end Go.Proofs.YtodpdlpncgkkdaaGreatDoor
end
section
namespace Go.Proofs.YtodpdlpncgkkdaaGreatDoor
open Go.RowKit Go.Proofs.YtodpdlpncgkkdaaGreatDoorW.PrintWords Go.Shelf Go.Maps
attribute [local go_sem] Oper.semAt_some

def txtB (t : ByteArray) : List Int := be4 t.size ++ bytesOf t
def txtsB (l : List ByteArray) : List Int := be4 l.length ++ (l.map txtB).flatten
theorem txtB_length (t : ByteArray) : (txtB t).length = 4 + t.size := by simp [txtB, be4, bytesOf_length]; omega
theorem be4_length (x : Int) : (be4 x).length = 4 := rfl
theorem txtsB_snoc (l : List ByteArray) (i : Nat) (h : i < l.length) : ((l.take (i + 1)).map txtB).flatten = ((l.take i).map txtB).flatten ++ txtB l[i] := by
  rw [List.take_succ_eq_append_getElem h, List.map_append, List.flatten_append]; congr 1; simp

theorem num_calls (p base : Nat) (s : List Int) (x : Int) (w : World) (h : WrAt w p base s) (hx : 0 ≤ x ∧ x ≤ 2147483647) (hp : base ≤ p) (hbs : base ≤ w.heap.size) (hl : s.length + 4 ≤ 140737488355328) :
    Calls Tryz.prog 93 #[.pointer (some ⟨p, 0, none⟩), .int .i64 x] w fun e w' => e = .returned (.tuple #[]) ∧ WrAt w' p base (s ++ be4 x) ∧ WrStep base w w' := by
  have HC := Lib.hid (put_calls p base s x w h ⟨hx.1, by omega⟩ hp hbs hl)
  have h0 : ¬ x < 0 := by omega
  have h1 : ¬ 2147483647 < x := by omega
  obtain ⟨hx0, hx1⟩ := hx
  have hu : IntKind.u64.wrap x = x := by rw [show IntKind.u64.wrap x = x % 18446744073709551616 by rfl]; omega
  clear h
  go_enter Tryz.func93, Tryz.ntmps93
  go_wp2_with fail
  refine HC.out.mono ?_
  rintro e w' ⟨rfl, hW, hB⟩
  have HW := Lib.hid hW
  clear hW
  go_wp2_with fail
  go_end0
  exact ⟨rfl, HW.out, hB⟩

set_option maxHeartbeats 1000000 in
theorem text_calls (p base : Nat) (s : List Int) (t : ByteArray) (w : World) (h : WrAt w p base s) (hx : t.size ≤ 2147483647) (hp : base ≤ p) (hbs : base ≤ w.heap.size) (hl : s.length + 4 + t.size ≤ 140737488355328) :
    Calls Tryz.prog 135 #[.pointer (some ⟨p, 0, none⟩), .string t] w fun e w' => e = .returned (.tuple #[]) ∧ WrAt w' p base (s ++ txtB t) ∧ WrStep base w w' := by
  have HC := Lib.hid (num_calls p base s t.size w h ⟨by omega, by omega⟩ hp hbs (by omega))
  clear h
  go_enter Tryz.func135, Tryz.ntmps135
  go_wp2_with fail
  refine HC.out.mono ?_
  rintro e w' ⟨rfl, hW, hB⟩
  have hle : (s ++ be4 t.size).length + t.size ≤ 140737488355328 := by simp [be4]; omega
  obtain ⟨s2, hs2⟩ : ∃ s2, s ++ be4 t.size = s2 := ⟨_, rfl⟩
  have HS2 := Lib.hid hs2
  rw [hs2] at hW hle
  clear hs2
  obtain ⟨v, hb, hR⟩ := hW
  obtain ⟨A, c, rfl⟩ := Kd.R_slice hR
  have HB := Lib.hid hB
  have HR := Lib.hid hR
  have HO := Lib.hid (show w'.ownsRow base 5 1 (.slice A _ c) _ (nums .u8 s2) from Kd.own_of_R hR)
  have Hb := Lib.hid hb
  obtain ⟨z0, z1, z2, z3⟩ := wr_cells hb
  have hbw : base ≤ w'.heap.size := Nat.le_trans hbs hB.size
  clear hR hB hb HC
  go_wp2_with (at_builtin; go_loud (refine print_append_str (w0 := w) base rfl (.tmp 17) (.tmp 18) 41 9 5 rfl Tryz.underlying41 Tryz.underlying9 (by kernel_rfl) _ _ t rfl rfl HO.out HB.out.old hbw hle ?_; intro v1 w1 hown1 hB1 hg1; have Hb1 := Lib.hid (wr_grown (ok := fun _ => True) Hb.out HR.out.1 hg1); obtain ⟨A1, c1, rfl⟩ : ∃ A1 c1, v1 = .slice A1 (s2 ++ bytesOf t).length c1 := Kd.R_slice (Kd.R_of_own (h1 := fun _ => rfl) hown1 (fun _ _ => trivial) : Kd.R (Kd.int .u8) 5 w1 base (fun _ => True) v1 _); have HO1 := Lib.hid hown1; have HB1 := Lib.hid (HB.out.grown hg1 (R_typed HR.out) hB1); obtain ⟨y0, y1, y2, y3⟩ := wr_cells Hb1.out; clear hown1 hB1 hg1))
  go_end0
  have hne : ∀ k, (Value.slice A1 (s2 ++ bytesOf t).length c1).ownBlock = some k → k ≠ p := by
    intro k hk e
    subst e
    obtain ⟨cells, hc⟩ := own_typed HO1.out k hk
    rw [Hb1.out] at hc
    cases hc
  refine ⟨rfl, ?_, HB1.out.set hp Hb1.out 0 _⟩
  have := WrAt.put Hb1.out (Kd.R_of_own (h1 := fun _ => rfl) HO1.out hne : Kd.R (Kd.int .u8) 5 w1 base (fun k => k ≠ p) _ _)
  have e : s2 ++ bytesOf t = s ++ txtB t := by rw [← HS2.out, List.append_assoc]; rfl
  rw [List.length_append, e] at this
  exact this

set_option maxHeartbeats 1000000 in
theorem texts_calls (p base : Nat) (s : List Int) (A : Option Addr) (c : Nat) (l : List ByteArray) (w : World) (h : WrAt w p base s) (hn : l.length ≤ 2147483647) (hx : ∀ t ∈ l, t.size ≤ 2147483647) (hp : base ≤ p) (hbs : base ≤ w.heap.size) (hc0 : ∀ W, WrStep base w W → Kd.C Kd.string W A l.length l) (hl : s.length + (txtsB l).length ≤ 140737488355328) :
    Calls Tryz.prog 136 #[.pointer (some ⟨p, 0, none⟩), .slice A l.length c] w fun e w' => e = .returned (.tuple #[]) ∧ WrAt w' p base (s ++ txtsB l) ∧ WrStep base w w' := by
  have hl4 : s.length + 4 ≤ 140737488355328 := by simp [txtsB, be4] at hl; omega
  have HC := Lib.hid (num_calls p base s l.length w h ⟨by omega, by omega⟩ hp hbs hl4)
  have HC0 := Lib.hid hc0
  have HX := Lib.hid hx
  have HL := Lib.hid hl
  clear h hc0 hx hl
  go_enter Tryz.func136, Tryz.ntmps136
  go_wp2_with fail
  refine HC.out.mono ?_
  rintro e w' ⟨rfl, hW, hB⟩
  have HW := Lib.hid hW
  have HB := Lib.hid hB
  clear hW hB HC
  go_wp2_with fail
  go_loopw [12] (fun t12 wr => ∃ (i : Nat), i ≤ l.length ∧ t12 = .int .i64 i ∧ Hid (WrAt wr p base (s ++ (be4 l.length ++ ((l.take i).map txtB).flatten))) ∧ Hid (WrStep base w wr)) (fun t12 _ => l.length - (intOf t12).toNat)
  case atStart => exact ⟨0, Nat.zero_le _, rfl, by show WrAt _ _ _ _; simpa using HW.out, HB.out⟩
  case round =>
    obtain ⟨i, hi, rfl, hW, hB⟩ := hrel
    by_cases hlt : i < l.length
    · have hC := HC0.out wr hB.out
      obtain ⟨ad, hA, hcell⟩ := Kd.at_string hC (i : Int) (by omega) (by omega)
      subst hA
      have hd : rdOf ByteArray.empty l (i : Int) = l[i] := by simp [rdOf, hlt]
      rw [hd] at hcell
      rw [Int.toNat_natCast] at hcell
      have hsz := HX.out l[i] (List.getElem_mem hlt)
      have hlen : (s ++ (be4 l.length ++ ((l.take i).map txtB).flatten)).length + 4 + l[i].size ≤ 140737488355328 := by
        have h1 := HL.out
        have h2 : (txtsB l).length = 4 + ((l.map txtB).flatten).length := by simp [txtsB, be4]; omega
        have h3 : ((l.take (i + 1)).map txtB).flatten.length ≤ ((l.map txtB).flatten).length := by
          rw [List.map_take]
          have h5 := congrArg (fun x => x.flatten.length) (List.take_append_drop (i + 1) (l.map txtB))
          simp only [List.flatten_append, List.length_append] at h5
          omega
        rw [txtsB_snoc l i hlt] at h3
        simp only [List.length_append, txtB_length] at h3 ⊢
        have h4 : (be4 (l.length : Int)).length = 4 := rfl
        omega
      obtain ⟨t, ht⟩ : ∃ t, l[i] = t := ⟨_, rfl⟩
      have HS := Lib.hid (txtsB_snoc l i hlt)
      rw [ht] at hcell hsz hlen HS
      have HT := Lib.hid (fun W hW hb => text_calls p base (s ++ (be4 l.length ++ ((l.take i).map txtB).flatten)) t W hW hsz hp hb hlen)
      clear hd ht hC hlen
      go_wp2_with fail
      refine (HT.out _ hW.out (Nat.le_trans hbs hB.out.size)).mono ?_
      rintro e w2 ⟨rfl, hW2, hB2⟩
      have HW2 := Lib.hid hW2
      have HB2 := Lib.hid hB2
      clear hW2 hB2 HT hcell
      go_wp2_with fail
      go_roundw
      case rel => exact ⟨i + 1, by omega, by go_num, by show WrAt _ _ _ _; rw [HS.out]; simpa using HW2.out, hB.out.trans HB2.out⟩
      case measure => simp [intOf]; omega
    · obtain rfl : i = l.length := by omega
      go_wp2_with fail
      go_end0
      exact ⟨rfl, by have := hW.out; rw [List.take_length] at this; exact this, hB.out⟩

/-- A definition's octets. -/
def defB (d : Def) : List Int :=
  if d.f0 = 1 then be4 d.f0 ++ (txtB d.f1 ++ (txtB d.f2 ++ txtsB d.f3)) else be4 d.f0 ++ (txtB d.f1 ++ (txtB d.f4 ++ txtB d.f5))
/-- A definition of sizes that can be written. -/
def Sized (d : Def) : Prop := d.f1.size ≤ 2147483647 ∧ d.f2.size ≤ 2147483647 ∧ (d.f3.length ≤ 2147483647 ∧ ∀ t ∈ d.f3, t.size ≤ 2147483647) ∧ d.f4.size ≤ 2147483647 ∧ d.f5.size ≤ 2147483647
set_option maxHeartbeats 4000000 in
set_option maxRecDepth 100000 in
theorem write_calls (p base : Nat) (s : List Int) (A : Option Addr) (c : Nat) (d : Def) (w : World) (h : WrAt w p base s) (hc : d.f3.length ≤ c) (hd : defRight d = true) (hz : Sized d) (hp : base ≤ p) (hps : p < w.heap.size) (hc0 : ∀ W, WrStep base w W → Kd.C Kd.string W A d.f3.length d.f3) (hl : s.length + (defB d).length ≤ 140737488355328) :
    Calls Tryz.prog 94 #[.pointer (some ⟨p, 0, none⟩), .agg #[.int .i64 d.f0, .string d.f1, .string d.f2, .slice A d.f3.length c, .string d.f4, .string d.f5]] w fun e w' => e = .returned (.tuple #[]) ∧ WrAt w' p base (s ++ defB d) ∧ WrStep base w w' := by
  obtain ⟨z1, z2, ⟨z3, z3'⟩, z4, z5⟩ := hz
  have hbs : base ≤ w.heap.size := by omega
  have HC0 := Lib.hid hc0
  have HZ3 := Lib.hid z3'
  have hsz : d.f4.size < 4294967281 := by omega
  have HW := Lib.hid h
  obtain ⟨W0, hW0⟩ : ∃ W0, W0 = w.alloc (.cells #[.int .i64 d.f0, .string d.f1, .string d.f2, .slice A d.f3.length c, .string d.f4, .string d.f5] 33) := ⟨_, rfl⟩
  have hb0 : Below w.heap.size w W0 := by rw [hW0]; exact (Below.refl _ _).alloc (Nat.le_refl _) _
  have HRt := Lib.hid (P.def_Right.calls d.f0 d.f1 d.f2 A c d.f3 d.f4 d.f5 true W0 (hc0 _ (WrStep.of_below hbs hb0)) hc (by rw [right_f d hsz, hd]))
  have hbox : W0.heap[w.heap.size]? = some (.cells #[.int .i64 d.f0, .string d.f1, .string d.f2, .slice A d.f3.length c, .string d.f4, .string d.f5] 33 (0, 0)) := by rw [hW0]; exact heap_alloc_new w _
  have HBX := Lib.hid hbox
  have HB0 := Lib.hid hb0
  have hk : d.f0 = 1 ∨ d.f0 = 2 := by
    unfold defRight at hd
    by_cases h1 : d.f0 = 1
    · exact .inl h1
    · by_cases h2 : d.f0 = 2
      · exact .inr h2
      · rw [if_neg h1, if_neg h2] at hd; cases hd
  have HL := Lib.hid hl
  have HW0 := Lib.hid hW0
  clear hc0 z3' hd hl h hbox hb0 hW0
  go_enter Tryz.func94, Tryz.ntmps94
  go_wp2_with fail
  rw [← HW0.out]
  refine HRt.out.mono ?_
  rintro e w1 ⟨rfl, hb1⟩
  have hbw1 : Below w.heap.size w w1 := HB0.out.trans (hb1.mono HB0.out.size)
  have HS1 := Lib.hid (WrStep.of_below hbs hbw1)
  have HW1 := Lib.hid (HW.out.below hbw1)
  have hlt0 : w.heap.size < W0.heap.size := (Array.getElem?_eq_some_iff.1 HBX.out).1
  have HBX1 := Lib.hid ((hb1.block _ hlt0).trans HBX.out)
  have hn1 : p < w1.heap.size := Nat.lt_of_lt_of_le hps hbw1.size
  obtain ⟨x0, x1, x2, x3, x4, x5⟩ := box6 HBX1.out
  clear hb1 hbw1 hlt0 HRt
  rcases hk with hk | hk
  · have hq : (d.f0 == 1) = true := beq_iff_eq.2 hk
    have HDB := Lib.hid (show defB d = be4 d.f0 ++ (txtB d.f1 ++ (txtB d.f2 ++ txtsB d.f3)) by unfold defB; rw [if_pos hk])
    have HLn : s.length + (4 + ((4 + d.f1.size) + ((4 + d.f2.size) + (txtsB d.f3).length))) ≤ 140737488355328 := by
      have := HL.out
      rw [HDB.out] at this
      simp only [List.length_append, txtB_length, be4_length] at this
      exact this
    have hk0 : 0 ≤ d.f0 ∧ d.f0 ≤ 2147483647 := by omega
    clear hk
    go_wp2_with fail
    refine (num_calls p base (s) d.f0 w1 HW1.out hk0 hp (by omega) (by first | omega | (simp only [List.length_append, txtB_length, be4_length]; omega))).mono ?_
    rintro e w2 ⟨rfl, hW, hS⟩
    have HW2 := Lib.hid hW
    have HS2 := Lib.hid (HS1.out.trans hS)
    have HBX2 := Lib.hid (hS.cells _ _ _ _ HBX1.out (by decide) (by decide))
    have hn2 : p < w2.heap.size := Nat.lt_of_lt_of_le hn1 hS.size
    obtain ⟨x0, x1, x2, x3, x4, x5⟩ := box6 HBX2.out
    clear hW hS
    go_wp2_with fail
    refine (text_calls p base (s ++ be4 d.f0) d.f1 w2 HW2.out z1 hp (by omega) (by first | omega | (simp only [List.length_append, txtB_length, be4_length]; omega))).mono ?_
    rintro e w3 ⟨rfl, hW, hS⟩
    have HW3 := Lib.hid hW
    have HS3 := Lib.hid (HS2.out.trans hS)
    have HBX3 := Lib.hid (hS.cells _ _ _ _ HBX2.out (by decide) (by decide))
    have hn3 : p < w3.heap.size := Nat.lt_of_lt_of_le hn2 hS.size
    obtain ⟨x0, x1, x2, x3, x4, x5⟩ := box6 HBX3.out
    clear hW hS
    go_wp2_with fail
    refine (text_calls p base (s ++ be4 d.f0 ++ txtB d.f1) d.f2 w3 HW3.out z2 hp (by omega) (by first | omega | (simp only [List.length_append, txtB_length, be4_length]; omega))).mono ?_
    rintro e w4 ⟨rfl, hW, hS⟩
    have HW4 := Lib.hid hW
    have HS4 := Lib.hid (HS3.out.trans hS)
    have HBX4 := Lib.hid (hS.cells _ _ _ _ HBX3.out (by decide) (by decide))
    have hn4 : p < w4.heap.size := Nat.lt_of_lt_of_le hn3 hS.size
    obtain ⟨x0, x1, x2, x3, x4, x5⟩ := box6 HBX4.out
    clear hW hS
    go_wp2_with fail
    refine (texts_calls p base (s ++ be4 d.f0 ++ txtB d.f1 ++ txtB d.f2) A c d.f3 w4 HW4.out z3 HZ3.out hp (by omega) (fun W hW => HC0.out W (HS4.out.trans hW)) (by first | omega | (simp only [List.length_append, txtB_length, be4_length]; omega))).mono ?_
    rintro e w5 ⟨rfl, hW, hS⟩
    have HW5 := Lib.hid hW
    have HS5 := Lib.hid (HS4.out.trans hS)
    have HBX5 := Lib.hid (hS.cells _ _ _ _ HBX4.out (by decide) (by decide))
    have hn5 : p < w5.heap.size := Nat.lt_of_lt_of_le hn4 hS.size
    obtain ⟨x0, x1, x2, x3, x4, x5⟩ := box6 HBX5.out
    clear hW hS
    go_wp2_with fail
    refine bodyPost_ret (results_none rfl _ _ _) rfl ?_
    exact ⟨rfl, by rw [HDB.out]; simpa only [List.append_assoc] using HW5.out, HS5.out⟩
  · have hq : (d.f0 == 1) = false := beq_eq_false_iff_ne.2 (by omega)
    have HDB := Lib.hid (show defB d = be4 d.f0 ++ (txtB d.f1 ++ (txtB d.f4 ++ txtB d.f5)) by unfold defB; rw [if_neg (by omega)])
    have HLn : s.length + (4 + ((4 + d.f1.size) + ((4 + d.f4.size) + (4 + d.f5.size)))) ≤ 140737488355328 := by
      have := HL.out
      rw [HDB.out] at this
      simp only [List.length_append, txtB_length, be4_length] at this
      exact this
    have hk0 : 0 ≤ d.f0 ∧ d.f0 ≤ 2147483647 := by omega
    clear hk
    go_wp2_with fail
    refine (num_calls p base (s) d.f0 w1 HW1.out hk0 hp (by omega) (by first | omega | (simp only [List.length_append, txtB_length, be4_length]; omega))).mono ?_
    rintro e w2 ⟨rfl, hW, hS⟩
    have HW2 := Lib.hid hW
    have HS2 := Lib.hid (HS1.out.trans hS)
    have HBX2 := Lib.hid (hS.cells _ _ _ _ HBX1.out (by decide) (by decide))
    have hn2 : p < w2.heap.size := Nat.lt_of_lt_of_le hn1 hS.size
    obtain ⟨x0, x1, x2, x3, x4, x5⟩ := box6 HBX2.out
    clear hW hS
    go_wp2_with fail
    refine (text_calls p base (s ++ be4 d.f0) d.f1 w2 HW2.out z1 hp (by omega) (by first | omega | (simp only [List.length_append, txtB_length, be4_length]; omega))).mono ?_
    rintro e w3 ⟨rfl, hW, hS⟩
    have HW3 := Lib.hid hW
    have HS3 := Lib.hid (HS2.out.trans hS)
    have HBX3 := Lib.hid (hS.cells _ _ _ _ HBX2.out (by decide) (by decide))
    have hn3 : p < w3.heap.size := Nat.lt_of_lt_of_le hn2 hS.size
    obtain ⟨x0, x1, x2, x3, x4, x5⟩ := box6 HBX3.out
    clear hW hS
    go_wp2_with fail
    refine (text_calls p base (s ++ be4 d.f0 ++ txtB d.f1) d.f4 w3 HW3.out z4 hp (by omega) (by first | omega | (simp only [List.length_append, txtB_length, be4_length]; omega))).mono ?_
    rintro e w4 ⟨rfl, hW, hS⟩
    have HW4 := Lib.hid hW
    have HS4 := Lib.hid (HS3.out.trans hS)
    have HBX4 := Lib.hid (hS.cells _ _ _ _ HBX3.out (by decide) (by decide))
    have hn4 : p < w4.heap.size := Nat.lt_of_lt_of_le hn3 hS.size
    obtain ⟨x0, x1, x2, x3, x4, x5⟩ := box6 HBX4.out
    clear hW hS
    go_wp2_with fail
    refine (text_calls p base (s ++ be4 d.f0 ++ txtB d.f1 ++ txtB d.f4) d.f5 w4 HW4.out z5 hp (by omega) (by first | omega | (simp only [List.length_append, txtB_length, be4_length]; omega))).mono ?_
    rintro e w5 ⟨rfl, hW, hS⟩
    have HW5 := Lib.hid hW
    have HS5 := Lib.hid (HS4.out.trans hS)
    have HBX5 := Lib.hid (hS.cells _ _ _ _ HBX4.out (by decide) (by decide))
    have hn5 : p < w5.heap.size := Nat.lt_of_lt_of_le hn4 hS.size
    obtain ⟨x0, x1, x2, x3, x4, x5⟩ := box6 HBX5.out
    clear hW hS
    go_wp2_with fail
    go_end0
    exact ⟨rfl, by rw [HDB.out]; simpa only [List.append_assoc] using HW5.out, HS5.out⟩
end Go.Proofs.YtodpdlpncgkkdaaGreatDoor
end
section
namespace Go.Proofs.YtodpdlpncgkkdaaGreatDoor
open Go.RowKit Go.Proofs.YtodpdlpncgkkdaaGreatDoorW.PrintWords Go.Shelf Go.Maps
attribute [local go_sem] Oper.semAt_some

theorem bytes_calls (p base : Nat) (s : List Int) (w : World) (h : WrAt w p base s) (hl : s.length ≤ 140737488355328) :
    Calls Tryz.prog 95 #[.pointer (some ⟨p, 0, none⟩)] w fun e w' => ∃ v, e = .returned v ∧ Kd.R (Kd.int .u8) 5 w' w.heap.size (fun _ => True) v s ∧ Below w.heap.size w w' := by
  obtain ⟨v, hb, hR⟩ := h
  obtain ⟨A, c, rfl, hc, hC⟩ := Kd.R_reads hR
  obtain ⟨z0, z1, z2, z3⟩ := wr_cells hb
  have HC := Lib.hid (cloneBytes_calls A c s w hC hc hl)
  clear hR hC hb
  go_enter Tryz.func95, Tryz.ntmps95
  go_wp2_with fail
  refine HC.out.mono ?_
  rintro e w' ⟨v2, rfl, hR2, hb2⟩
  have HR2 := Lib.hid hR2
  have HB2 := Lib.hid hb2
  clear hR2 hb2
  go_wp2_with fail
  go_ret
  exact ⟨_, rfl, HR2.out, HB2.out⟩

/-- A snapshot's octets. -/
def snapB (l : List Def) : List Int := be4 l.length ++ (l.map defB).flatten
theorem snapB_take (l : List Def) (i : Nat) (h : i < l.length) : (be4 l.length ++ ((l.take i).map defB).flatten).length + (defB l[i]).length ≤ (snapB l).length := by
  have h5 := congrArg (fun x => x.flatten.length) (List.take_append_drop (i + 1) (l.map defB))
  have h6 : ((l.take (i + 1)).map defB).flatten = ((l.take i).map defB).flatten ++ defB l[i] := by
    rw [List.take_succ_eq_append_getElem h, List.map_append, List.flatten_append]; congr 1; simp
  simp only [List.flatten_append, List.length_append] at h5
  rw [← List.map_take, h6, List.length_append] at h5
  simp only [snapB, List.length_append]
  omega
theorem WrAt.own (p base : Nat) (s : List Elem → List Int) : Own (fun pre W => WrAt W p base (s pre)) := fun pre X Y row hs hg hrow => by
  obtain ⟨v, hb, hR⟩ := hs
  have hne : ∀ (k : Nat) (c : Array Value) (q : TypeId), X.heap[k]? = some (.cells c q (0, 0)) → some k ≠ row := fun k c q hk e => by
    obtain ⟨o, ho, hn⟩ := hrow k e.symm
    rw [hk] at ho
    cases ho
    cases hn
  refine ⟨v, (hg.block p (Array.getElem?_eq_some_iff.1 hb).1 (hne p _ _ hb)).trans hb, Kd.R_mono (Kd.R_step (Kd.R_bound hR) fun k hk hlt => ?_) fun k hk => hk.1⟩
  obtain ⟨_, _, _, q, _, cells, hc⟩ := hk
  exact hg.block k hlt (hne k _ _ hc)

set_option maxHeartbeats 20000000 in
set_option maxRecDepth 100000 in
theorem snap_write_calls (v : Value) (m : Keyed2) (w : World) (h : SnapAt w v m) (hm : m.length ≤ 500) (hv : ∀ d ∈ defsL m, d.f3.length * 16 ≤ 140737488355328) (hk : ∀ k ∈ keysL m, k.length ≤ maxLen) (hd : ∀ d ∈ defsL m, defRight d = true ∧ Sized d) (hl : (snapB (defsL m)).length ≤ 140737488355328) :
    Calls Tryz.prog 28 #[v] w fun e w' => ∃ v', e = .returned v' ∧ Kd.R (Kd.int .u8) 5 w' w.heap.size (fun _ => True) v' (snapB (defsL m)) ∧ Below w.heap.size w w' := by
  obtain ⟨p, rfl⟩ : ∃ p, v = .pointer p := by
    rcases h with ⟨e, _⟩ | ⟨a, b, e, _⟩
    · exact ⟨_, e⟩
    · exact ⟨_, e⟩
  have HS := Lib.hid h
  have HD := Lib.hid hd
  have HL := Lib.hid hl
  clear h hd hl
  refine callsIn_wide (n := 6).1 (callsIn_of_wp_marks Tryz.func28 rfl trivial ?_ rfl)
  simp only [Tryz.ntmps28, List.size_toArray, List.length_cons, List.length_nil, Nat.reduceAdd, Nat.reduceSub, Array.replicate_succ, Array.replicate_zero, List.push_toArray, List.append_toArray, List.nil_append, List.cons_append]
  gi_wp2_with fail
  obtain ⟨W0, hW0⟩ : ∃ W0, w.alloc (.cells #[.slice none 0 0, .int .i64 0] 131) = W0 := ⟨_, rfl⟩
  have hb0 : Below w.heap.size w W0 := by rw [← hW0]; exact (Below.refl _ _).alloc (Nat.le_refl _) _
  have hwr0 : WrAt W0 w.heap.size w.heap.size [] := by rw [← hW0]; exact ⟨_, heap_alloc_new w _, Kd.R_nil _ _ _ _ _⟩
  have hsz0 : W0.heap.size = w.heap.size + 1 := by rw [← hW0]; simp
  rw [hW0]
  clear hW0
  refine ⟨trivial, (callsIn_wide.2 (len_calls (.pointer p) m W0 (HS.out.below hb0))).mono ?_⟩
  rintro e w' ⟨rfl, rfl⟩
  have HWR0 := Lib.hid hwr0
  have HB0 := Lib.hid hb0
  clear hwr0 hb0
  gi_wp2_with fail
  refine ⟨trivial, (callsIn_wide.2 (num_calls w.heap.size w.heap.size [] m.length W0 HWR0.out ⟨by omega, by omega⟩ (Nat.le_refl _) (by omega) (by simp))).mono ?_⟩
  rintro e W1 ⟨rfl, hwr1, hs1⟩
  rw [List.nil_append] at hwr1
  have HWR1 := Lib.hid hwr1
  have HB1 := Lib.hid (HB0.out.trans hs1.old)
  have hsz1 : w.heap.size < W1.heap.size := by have := hs1.size; omega
  clear hwr1 hs1 HWR0 HB0
  gi_wp2_with fail
  refine ⟨trivial, (callsIn_wide.2 (all_make p W1)).mono ?_⟩
  rintro e w' ⟨rfl, rfl⟩
  have bB := Boxed.new W1 25 (.pointer p)
  have hwr2 := HWR1.out.below ((Below.refl _ W1).alloc (Nat.le_refl _) (.cells #[.pointer p] 25))
  have hb2 : Below w.heap.size w (W1.alloc (.cells #[.pointer p] 25)) := HB1.out.alloc (by omega) _
  have hsz2 : (W1.alloc (.cells #[.pointer p] 25)).heap.size = W1.heap.size + 1 := by simp
  obtain ⟨W2, hW2⟩ : ∃ W2, W1.alloc (.cells #[.pointer p] 25) = W2 := ⟨_, rfl⟩
  obtain ⟨B1, hB1⟩ : ∃ B1, W1.heap.size = B1 := ⟨_, rfl⟩
  rw [hW2] at bB hwr2 hb2 hsz2 ⊢
  rw [hB1] at bB hsz2 hsz1 ⊢
  have HB2 := Lib.hid hb2
  have HWR2 := Lib.hid hwr2
  clear hW2 hB1 hb2 hwr2 HWR1 HB1
  gi_wp2_with fail
  refine rangeFunc_pre rfl (by omega) (gf := 155) (lb := #[.pointer (some ⟨B1, 0, none⟩)]) rfl trivial (enters_of Tryz.func155 (by kernel_rfl) rfl)
    (all_seq _ m B1 w W2 _ HS.out HB2.out bB (by omega) hm hv hk) RoundKeeps.trans (fun W l o o' hl h hc hw => RoundKeeps.book (w := W2) (by omega) W l o o' hl h hc hw) (Below.refl _ _) (fun _ => rfl)
    (fun pre W => WrAt W w.heap.size w.heap.size (be4 m.length ++ (pre.map fun x => defB x.1).flatten) ∧ Below w.heap.size w W ∧ pre.map (·.1) = (defsL m).take pre.length)
    (fun _ _ _ => False)
    (OwnFrom.and (Own.from (WrAt.own _ _ _) _) (OwnFrom.and (ownFrom_below (Nat.le_refl _) (by omega)) (ownFrom_pure _ _)))
    (fun _ _ _ _ _ h => h.elim)
    ⟨by simpa using HWR2.out, HB2.out, by simp⟩
    (fun pre x a' W => ∃ Bx b0, W.heap[Bx]? = some (.cells #[.int .i64 x.1.f0, .string x.1.f1, .string x.1.f2, .slice x.2.1 x.1.f3.length x.2.2, .string x.1.f4, .string x.1.f5] 33 (0, 0)) ∧ Kd.R Kd.string 9 W b0 (fun _ => True) (.slice x.2.1 x.1.f3.length x.2.2) x.1.f3 ∧ (∃ h : pre.length < m.length, x.1 = (m[pre.length]'h).2) ∧ a' = { tmps := #[.pointer p, undef, .slice none 0 0, .pointer (some ⟨w.heap.size, 0, none⟩), .pointer (some ⟨Bx, 0, none⟩), .pointer p, .int .i64 m.length, .tuple #[], .pointer p, .func (.func 155) #[] #[.pointer (some ⟨B1, 0, none⟩)], elemV x, undef, undef, undef], defers := [] })
    ?_ ?_ ?_ ?_ ?_
  · rintro pre x a' _ X Y row ⟨Bx, b0, h1, h2, h3, h5⟩ hg hr
    have hne : ∀ (k : Nat) (c : Array Value) (q : TypeId), X.heap[k]? = some (.cells c q (0, 0)) → some k ≠ row := fun k c q hk e => by
      obtain ⟨_, o, ho, hn⟩ := hr k e.symm
      rw [hk] at ho
      cases ho
      cases hn
    refine ⟨Bx, b0, (hg.block Bx (Array.getElem?_eq_some_iff.1 h1).1 (hne _ _ _ h1)).trans h1, Kd.R_mono (Kd.R_step (Kd.R_bound h2) fun k hk hlt => ?_) (fun _ h => h.1), h3, h5⟩
    obtain ⟨_, _, _, q, _, cells, hc⟩ := hk
    exact hg.block k hlt (hne k _ _ hc)
  · rintro ln pre x W K ⟨hW, hB, hp⟩ ⟨he, hl5, hC, b0, hR⟩ hK
    dsimp only [elemV]
    have HA := below_then hB hB.size ((Below.refl _ W).alloc (Nat.le_refl _) (.cells #[.int .i64 x.1.f0, .string x.1.f1, .string x.1.f2, .slice x.2.1 x.1.f3.length x.2.2, .string x.1.f4, .string x.1.f5] 33))
    have HWa := Lib.hid (hW.below ((Below.refl _ W).alloc (Nat.le_refl _) (.cells #[.int .i64 x.1.f0, .string x.1.f1, .string x.1.f2, .slice x.2.1 x.1.f3.length x.2.2, .string x.1.f4, .string x.1.f5] 33)))
    have HRa := Lib.hid (Kd.R_below hR ((Below.refl _ W).alloc (Nat.le_refl _) (.cells #[.int .i64 x.1.f0, .string x.1.f1, .string x.1.f2, .slice x.2.1 x.1.f3.length x.2.2, .string x.1.f4, .string x.1.f5] 33)))
    have hsz := hB.size
    clear hW hR hC
    gi_wp2
    refine hK _ _ ((KeepsOthers.alloc _ _).from _) (RoundKeeps.of_below hsz ((Below.refl _ W).alloc (Nat.le_refl _) _)) ⟨HWa.out, HA, hp⟩ ⟨W.heap.size, b0, heap_alloc_new W _, HRa.out, he, rfl⟩
  · rintro ln pre x a' W hln ⟨r, hr⟩ ⟨hW, hB, hp⟩ ⟨Bx, b0, hbox, hR, ⟨hlt, he⟩, rfl⟩
    have hlt' : pre.length < (defsL m).length := by simpa [defsL] using hlt
    have hx : (defsL m)[pre.length] = x.1 := by rw [he]; simp [defsL]
    have hs : (pre.map fun x => defB x.1).flatten = (((defsL m).take pre.length).map defB).flatten := by rw [← hp, List.map_map]; rfl
    have hmem : x.1 ∈ defsL m := by rw [← hx]; exact List.getElem_mem hlt'
    obtain ⟨hrt, hzd⟩ := HD.out x.1 hmem
    have hbd := snapB_take (defsL m) pre.length hlt'
    rw [hx, ← hs] at hbd
    have hbd2 := Nat.le_trans hbd HL.out
    have hlen : (defsL m).length = m.length := by simp [defsL]
    rw [hlen] at hbd2
    have hpw : w.heap.size < W.heap.size := by
      obtain ⟨v, h1, _⟩ := hW
      exact (Array.getElem?_eq_some_iff.1 h1).1
    have HC := Lib.hid (write_calls w.heap.size w.heap.size (be4 m.length ++ (pre.map fun x => defB x.1).flatten) x.2.1 x.2.2 x.1 W hW ((Kd.R_reads' hR).2.1) hrt hzd (Nat.le_refl _) hpw (fun W' hW' => (Kd.R_reads' (R_wr hR hW')).2.2) hbd2)
    obtain ⟨x0, x1, x2, x3, x4, x5⟩ := box6 hbox
    have HB := Lib.hid hB
    have HN : Hid ((pre ++ [x]).map (·.1) = (defsL m).take (pre ++ [x]).length) := by
      show (pre ++ [x]).map (·.1) = (defsL m).take (pre ++ [x]).length
      rw [List.map_append, hp, List.length_append, List.length_singleton, List.take_succ_eq_append_getElem hlt', hx]
      rfl
    clear hW hB hp hR hs hx he hmem hrt hzd hbd hbd2 hlen hbox
    dsimp only [elemV]
    gi_wp2_with fail
    refine ⟨trivial, (callsIn_wide.2 HC.out).mono ?_⟩
    rintro e W' ⟨rfl, hW', hS⟩
    have HW' := Lib.hid hW'
    have HS' := Lib.hid hS
    clear hW' hS HC
    gi_wp2_with fail
    refine ⟨⟨HS'.out.size, fun k o _ hk ho => HS'.out.others k o hk ho⟩, ⟨HS'.out.size, HS'.out.old, fun k c fr _ hk => HS'.out.cells k c _ fr hk (by decide) (by decide), fun k c fr _ hk => HS'.out.cells k c _ fr hk (by decide) (by decide)⟩, ?_, HB.out.trans HS'.out.old, HN.out⟩
    have := HW'.out
    rw [List.append_assoc] at this
    simpa using this
  · rintro D xs W hD hS ⟨hW, hB, hp⟩ hK
    have hs : be4 m.length ++ (xs.map fun x => defB x.1).flatten = snapB (defsL m) := by
      have hlen : (defsL m).length = m.length := by simp [defsL]
      unfold snapB
      rw [hlen, ← hS, List.map_map]
      rfl
    rw [hs] at hW
    have HC := Lib.hid (bytes_calls w.heap.size w.heap.size (snapB (defsL m)) W hW HL.out)
    have HB := Lib.hid hB
    clear hW hB hs hp hS
    gi_wp2_with fail
    refine ⟨trivial, (callsIn_wide.2 HC.out).mono ?_⟩
    rintro e W' ⟨v', rfl, hR, hb⟩
    have hK2 : W'.heap[D]? = some (.deferred (some [])) := (hb.block D (Array.getElem?_eq_some_iff.1 hK).1).trans hK
    have hbW : Below w.heap.size w W' := HB.out.trans (hb.mono HB.out.size)
    have HR : Hid (Kd.R (Kd.int .u8) 5 (W'.putObj D (.deferred none)) w.heap.size (fun _ => True) v' (snapB (defsL m))) :=
      Kd.R_lower (Kd.R_mono (Kd.R_step (Kd.R_bound hR) fun k hk hlt => by
        obtain ⟨_, _, _, q, _, cells, hc⟩ := hk
        refine World.putObj_heap_other ?_
        intro e
        subst e
        rw [hK2] at hc
        cases hc) fun _ h => h.1) HB.out.size
    obtain ⟨A, c, rfl⟩ := Kd.R_slice hR
    clear hR hb
    gi_wp2_with fail
    refine ⟨by simp, .inl ⟨_, _, rfl, run_takeDeferred hK2, ?_⟩⟩
    exact ⟨.slice A (snapB (defsL m)).length c, (results_tmp (t := 2) rfl _ _ _), _, rfl, HR.out, hbW.trans (belowK_b (w := w) (Nat.le_refl _) _ D _ _ (by omega) hK2 rfl rfl)⟩
  · rintro D cc pre W hD hS h hK
    exact h.elim
end Go.Proofs.YtodpdlpncgkkdaaGreatDoor
end
section
namespace Go.Proofs.YtodpdlpncgkkdaaGreatDoor.P
open Go.RowKit Go.Proofs.YtodpdlpncgkkdaaGreatDoorW.PrintWords Go.Proofs.YtodpdlpncgkkdaaGreatDoorW.PrintLast Go.Proofs.YtodpdlpncgkkdaaGreatDoorW.PrintMore
attribute [local go_sem] max2_int min2_int max_two min_two max_three min_three max_four min_four   -- for this text's walks alone
set_option linter.unusedVariables false
set_option linter.unusedSimpArgs false

/-! ### monticuleref01_octets: function 159 -/
def monticuleref01_octets.l0 : Nat → Int → Int → ByteArray → Int → Option (ByteArray)
  | 0, _, _, _, _ => none
  | k + 1, x0, x1, x5, x6 => if x6 < x1 then ((some (([(Int.tmod x0 256) % 256] : List Int) : List Int)).bind fun y234 => (if (strOfNums y234).size + x5.size ≤ 9223372036854775807 then (monticuleref01_octets.l0 k (IntKind.u64.wrap (Int.tdiv x0 256)) x1 ((strOfNums y234) ++ x5) (wrap64 (x6 + 1))) else (none))) else (some x5)
def monticuleref01_octets.f (k : Nat) (a0 : Int) (a1 : Int) : Option (ByteArray) := monticuleref01_octets.l0 k a0 a1 (⟨#[]⟩ : ByteArray) 0
theorem monticuleref01_octets.mono_l : ∀ k, (∀ y0 y1 y2 y3, LeO (monticuleref01_octets.l0 k y0 y1 y2 y3) (monticuleref01_octets.l0 (k + 1) y0 y1 y2 y3))
  | 0 => fun _ _ _ _ r h => by simp [monticuleref01_octets.l0] at h
  | k + 1 => by
    have ih0 := monticuleref01_octets.mono_l k
    · intro y0 y1 y2 y3
      unfold monticuleref01_octets.l0
      repeat' first
      | (with_reducible exact ih0 _ _ _ _)
      | (with_reducible exact LeO.refl _)
      | (with_reducible exact LeO.none _)
      | (with_reducible refine LeO.ite ?_ ?_)
      | (with_reducible refine LeO.bind ?_ (fun _ => ?_))
      | exact ih0 _ _ _ _
      | exact LeO.none _
      | refine LeO.ite ?_ ?_
      | refine LeO.bind ?_ (fun _ => ?_)
theorem monticuleref01_octets.mono : ∀ a0 a1 k, LeO (monticuleref01_octets.f k a0 a1) (monticuleref01_octets.f (k + 1) a0 a1) := by
  intro a0 a1 k
  have ih0 := monticuleref01_octets.mono_l k
  unfold monticuleref01_octets.f
  repeat' first
      | (with_reducible exact ih0 _ _ _ _)
      | (with_reducible exact LeO.refl _)
      | (with_reducible exact LeO.none _)
      | (with_reducible refine LeO.ite ?_ ?_)
      | (with_reducible refine LeO.bind ?_ (fun _ => ?_))
      | exact ih0 _ _ _ _
      | exact LeO.none _
      | refine LeO.ite ?_ ?_
      | refine LeO.bind ?_ (fun _ => ?_)
set_option maxHeartbeats 8000000 in
set_option maxRecDepth 100000 in
theorem monticuleref01_octets.calls (k : Nat) (a0 : Int) (a1 : Int) (r : ByteArray) (w : World) (h : monticuleref01_octets.f k a0 a1 = some r) :
    Calls Tryz.prog 159 #[.int .u64 a0, .int .i64 a1] w fun e w' => e = .returned (.string r) ∧ Below w.heap.size w w' := by
  have HB := Aside0.mk (Below.refl w.heap.size w)
  have H : (monticuleref01_octets.l0 k a0 a1 (⟨#[]⟩ : ByteArray) 0) = some r := h
  clear h
  have H' := Aside0.mk H
  clear H
  go_enter Tryz.func159, Tryz.ntmps159
  go_wp2
  go_loopg [0, 5, 6] k (fun kq v0 v5 v6 w' => ∃ (x0_1 : Int) (x5_1 : ByteArray) (x6_1 : Int), v0 = .int .u64 x0_1 ∧ v5 = .string x5_1 ∧ v6 = .int .i64 x6_1 ∧ Aside0 (monticuleref01_octets.l0 kq x0_1 a1 x5_1 x6_1 = some r) ∧ Aside0 (kq ≤ k) ∧ Aside0 (Below w.heap.size w w'))
  case atStart => exact ⟨(a0), ((⟨#[]⟩ : ByteArray)), (0), (by first | rfl | (simp; done) | (simp [*]; done)), (by first | rfl | (simp; done) | (simp [*]; done)), (by first | rfl | (simp; done) | (simp [*]; done)), H', ⟨Nat.le_refl _⟩, ⟨by repeat (first | (with_reducible first | exact HB.out | apply below_alloc | apply pw_below_drewN | apply below_drew1) | exact HB.out)⟩⟩
  case round =>
    clear H'
    try clear c1
    try clear p2
    obtain ⟨x0_1, x5_1, x6_1, rfl, rfl, rfl, HA, HK1, HB⟩ := hrel
    cases gk with
    | zero => exact absurd HA.out (by simp [monticuleref01_octets.l0])
    | succ k1 =>
      have H := HA.out
      clear HA
      simp only [monticuleref01_octets.l0] at H
      by_cases c3 : x6_1 < a1
      · rw [if_pos c3] at H
        have c3b0 : decide (x6_1 < a1) = true := decide_eq_true c3
        clear c3
        obtain ⟨y234, hy234⟩ : ∃ y_ : List Int, y_ = (([(Int.tmod x0_1 256) % 256] : List Int)) := ⟨_, rfl⟩
        replace H : (if (strOfNums y234).size + x5_1.size ≤ 9223372036854775807 then (monticuleref01_octets.l0 k1 (IntKind.u64.wrap (Int.tdiv x0_1 256)) a1 ((strOfNums y234) ++ x5_1) (wrap64 (x6_1 + 1))) else (none)) = some r := by first | (rw [hy234]; with_reducible exact H) | (have H2_ := (Option.bind_some _ _).symm.trans H; rw [hy234]; with_reducible exact H2_) | (have H2_ := (Option.bind_some _ _).symm.trans H; with_reducible exact H2_) | with_reducible exact H | (rw [hy234]; exact H) | exact H
        have Ny234 := Aside0.mk hy234
        clear hy234
        by_cases c4 : (strOfNums y234).size + x5_1.size ≤ 9223372036854775807
        · rw [if_pos c4] at H
          have c4b0 := eq_true c4
          have c4b1 : decide ((strOfNums y234).size + x5_1.size ≤ 9223372036854775807) = true := decide_eq_true c4
          try have c4b2 : (9223372036854775807 < (strOfNums y234).size + x5_1.size) = False := eq_false (Nat.not_lt.2 c4)
          have H' := Aside0.mk H
          clear H
          go_wp2_with (first | ((with_reducible refine gate_dst (N := 15) rfl ?_); refine Kd.R_lit (Kd.int .u8) _ 5 ?hg (N := 15) ?hd (xs := ([(Int.tmod x0_1 256) % 256] : List Int)) (inner := [.int .u8 ((Int.tmod x0_1 256) % 256)]) (ok := fun _ => True) (okp := fun _ => True) ?hr ?hp (fun _ hk => hk) trivial (Below.refl _ _) (Nat.le_refl _) (by simp) ?_; (case hd => rfl); (case hg => rfl); (case hr => first | (go_simp; done) | (go_simp; rfl)); (case hp => exact (Reps.one (show Kd.M (Kd.int .u8) _ _ _ ((Int.tmod x0_1 256) % 256) [.int .u8 ((Int.tmod x0_1 256) % 256)] from rfl) (Reps.none _ _))); intro v235 w5 ho6 hb hg_ hnew_; clear hg_ hnew_; (first | rw [← Ny234.out] at ho6 | (simp only [Int.reduceToNat] at ho6; rw [← Ny234.out] at ho6)); have n0_ := Aside0.mk (Kd.R_lower ho6 (below_size (by repeat (first | (with_reducible first | exact HB.out | apply below_alloc | apply pw_below_drewN | apply below_drew1) | exact HB.out)))); have n1_ := Aside0.mk (below_step (by repeat (first | (with_reducible first | exact HB.out | apply below_alloc | apply pw_below_drewN | apply below_drew1) | exact HB.out)) hb); clear HB; have HO236 := n0_; have HB := n1_; clear n0_ n1_; clear hb ho6; have hcv7 := own_string (P := Tryz.prog) Tryz.underlying41 Tryz.underlying5 Tryz.underlying9 (Kd.own_of_R HO236.out)))
          go_roundg k1
          case measure => have := HK1.out; omega
          case rel => exact ⟨(IntKind.u64.wrap (Int.tdiv x0_1 256)), ((strOfNums y234) ++ x5_1), (wrap64 (x6_1 + 1)), (by first | rfl | (simp; done) | (simp [*]; done)), (by first | rfl | (simp; done) | (simp [*]; done)), (by first | rfl | (simp; done) | (simp [*]; done)), H', ⟨by have := HK1.out; omega⟩, ⟨by repeat (first | (with_reducible first | exact HB.out | apply below_alloc | apply pw_below_drewN | apply below_drew1) | exact HB.out)⟩⟩
        · rw [if_neg c4] at H
          exact absurd H (by simp)
      · rw [if_neg c3] at H
        have c3b0 : decide (x6_1 < a1) = false := decide_eq_false c3
        clear c3
        obtain rfl := Option.some.inj H
        go_wp2
        go_ret
        exact ⟨by first | rfl | (simp [errW_none, errW_some] <;> rfl) | (simp [*, errW_none, errW_some] <;> rfl), by repeat (first | (with_reducible first | exact HB.out | apply below_alloc | apply pw_below_drewN | apply below_drew1) | exact HB.out)⟩

end Go.Proofs.YtodpdlpncgkkdaaGreatDoor.P
end
section
namespace Go.Proofs.YtodpdlpncgkkdaaGreatDoor.P
open Go.RowKit Go.Proofs.YtodpdlpncgkkdaaGreatDoorW.PrintWords Go.Proofs.YtodpdlpncgkkdaaGreatDoorW.PrintLast Go.Proofs.YtodpdlpncgkkdaaGreatDoorW.PrintMore
attribute [local go_sem] max2_int min2_int max_two min_two max_three min_three max_four min_four   -- for this text's walks alone
set_option linter.unusedVariables false
set_option linter.unusedSimpArgs false

/-! ### monticuleref01_Num: function 96 -/
def monticuleref01_Num.f (k : Nat) (a0 : Int) : Option (ByteArray × Bool) := if a0 < 0 then (some ((⟨#[]⟩ : ByteArray), false)) else (if a0 > 2147483647 then (some ((⟨#[]⟩ : ByteArray), false)) else ((monticuleref01_octets.f k (IntKind.u64.wrap (a0)) 4).bind fun t237 => (some (t237, true))))
theorem monticuleref01_Num.mono : ∀ a0 k, LeO (monticuleref01_Num.f k a0) (monticuleref01_Num.f (k + 1) a0) := by
  intro a0 k
  unfold monticuleref01_Num.f
  repeat' first
      | (with_reducible exact monticuleref01_octets.mono _ _ _)
      | (with_reducible exact LeO.refl _)
      | (with_reducible exact LeO.none _)
      | (with_reducible refine LeO.ite ?_ ?_)
      | (with_reducible refine LeO.bind ?_ (fun _ => ?_))
      | exact monticuleref01_octets.mono _ _ _
      | exact LeO.none _
      | refine LeO.ite ?_ ?_
      | refine LeO.bind ?_ (fun _ => ?_)
set_option maxHeartbeats 8000000 in
set_option maxRecDepth 100000 in
theorem monticuleref01_Num.calls (k : Nat) (a0 : Int) (r1 : ByteArray) (r2 : Bool) (w : World) (h : monticuleref01_Num.f k a0 = some (r1, r2)) :
    Calls Tryz.prog 96 #[.int .i64 a0] w fun e w' => e = .returned (.tuple #[.string r1, .bool r2]) ∧ Below w.heap.size w w' := by
  have HB := Aside0.mk (Below.refl w.heap.size w)
  have H : (if a0 < 0 then (some ((⟨#[]⟩ : ByteArray), false)) else (if a0 > 2147483647 then (some ((⟨#[]⟩ : ByteArray), false)) else ((monticuleref01_octets.f k (IntKind.u64.wrap (a0)) 4).bind fun t237 => (some (t237, true))))) = some (r1, r2) := h
  clear h
  by_cases c2 : a0 < 0
  · rw [if_pos c2] at H
    have c2b0 : decide (a0 < 0) = true := decide_eq_true c2
    clear c2
    simp only [Option.some.injEq, Prod.mk.injEq] at H
    obtain ⟨rfl, rfl⟩ := H
    go_enter Tryz.func96, Tryz.ntmps96
    go_wp2
    go_ret2
    exact ⟨by first | rfl | (simp [errW_none, errW_some] <;> rfl) | (simp [*, errW_none, errW_some] <;> rfl), by repeat (first | (with_reducible first | exact HB.out | apply below_alloc | apply pw_below_drewN | apply below_drew1) | exact HB.out)⟩
  · rw [if_neg c2] at H
    have c2b0 : decide (a0 < 0) = false := decide_eq_false c2
    clear c2
    by_cases c3 : a0 > 2147483647
    · rw [if_pos c3] at H
      have c3b0 : decide (2147483647 < a0) = true := decide_eq_true c3
      clear c3
      simp only [Option.some.injEq, Prod.mk.injEq] at H
      obtain ⟨rfl, rfl⟩ := H
      go_enter Tryz.func96, Tryz.ntmps96
      go_wp2
      go_ret2
      exact ⟨by first | rfl | (simp [errW_none, errW_some] <;> rfl) | (simp [*, errW_none, errW_some] <;> rfl), by repeat (first | (with_reducible first | exact HB.out | apply below_alloc | apply pw_below_drewN | apply below_drew1) | exact HB.out)⟩
    · rw [if_neg c3] at H
      have c3b0 : decide (2147483647 < a0) = false := decide_eq_false c3
      clear c3
      replace H := Option.bind_eq_some_iff.mp H
      obtain ⟨t237, A40, H⟩ := H
      replace H : (some (t237, true)) = some (r1, r2) := H
      have A4 := Aside0.mk A40
      clear A40
      simp only [Option.some.injEq, Prod.mk.injEq] at H
      obtain ⟨rfl, rfl⟩ := H
      go_enter Tryz.func96, Tryz.ntmps96
      go_wp2_with (first | ((with_reducible refine gate_callee (f := 159) rfl ?_); refine goesL_ (some 12) rfl rfl Tryz.func159 (by kernel_rfl) rfl #[.int .u64 (IntKind.u64.wrap (a0)), .int .i64 4] rfl (by (try simp only [List.map_toArray, List.map_cons, List.map_nil]); first | done | rfl | (simp only [List.length_drop, List.length_take]; rfl)) ?_; (with_reducible refine (monticuleref01_octets.calls k (IntKind.u64.wrap (a0)) 4 t237 _ A4.out).mono ?_); rintro e w5 ⟨rfl, hb⟩; refine ⟨_, rfl, ?_⟩; have n0_ := Aside0.mk (below_step (by repeat (first | (with_reducible first | exact HB.out | apply below_alloc | apply pw_below_drewN | apply below_drew1) | exact HB.out)) hb); clear HB; have HB := n0_; clear n0_; (try clear hb); (try clear hb2); (try clear hk); (try clear hi)))
      go_ret2
      exact ⟨by first | rfl | (simp [errW_none, errW_some] <;> rfl) | (simp [*, errW_none, errW_some] <;> rfl), by repeat (first | (with_reducible first | exact HB.out | apply below_alloc | apply pw_below_drewN | apply below_drew1) | exact HB.out)⟩

end Go.Proofs.YtodpdlpncgkkdaaGreatDoor.P
end
section
namespace Go.Proofs.YtodpdlpncgkkdaaGreatDoor.P
open Go.RowKit Go.Proofs.YtodpdlpncgkkdaaGreatDoorW.PrintWords Go.Proofs.YtodpdlpncgkkdaaGreatDoorW.PrintLast Go.Proofs.YtodpdlpncgkkdaaGreatDoorW.PrintMore
attribute [local go_sem] max2_int min2_int max_two min_two max_three min_three max_four min_four   -- for this text's walks alone
set_option linter.unusedVariables false
set_option linter.unusedSimpArgs false

/-! ### monticuleref01_Text: function 148 -/
def monticuleref01_Text.f (k : Nat) (a0 : ByteArray) : Option (ByteArray) := (monticuleref01_Num.f k (a0.size : Int)).bind fun bt238 => (if bt238.1.size + a0.size ≤ 9223372036854775807 then (some (bt238.1 ++ a0)) else (none))
theorem monticuleref01_Text.mono : ∀ a0 k, LeO (monticuleref01_Text.f k a0) (monticuleref01_Text.f (k + 1) a0) := by
  intro a0 k
  unfold monticuleref01_Text.f
  repeat' first
      | (with_reducible exact monticuleref01_Num.mono _ _)
      | (with_reducible exact LeO.refl _)
      | (with_reducible exact LeO.none _)
      | (with_reducible refine LeO.ite ?_ ?_)
      | (with_reducible refine LeO.bind ?_ (fun _ => ?_))
      | exact monticuleref01_Num.mono _ _
      | exact LeO.none _
      | refine LeO.ite ?_ ?_
      | refine LeO.bind ?_ (fun _ => ?_)
set_option maxHeartbeats 8000000 in
set_option maxRecDepth 100000 in
theorem monticuleref01_Text.calls (k : Nat) (a0 : ByteArray) (r : ByteArray) (w : World) (h : monticuleref01_Text.f k a0 = some r) :
    Calls Tryz.prog 148 #[.string a0] w fun e w' => e = .returned (.string r) ∧ Below w.heap.size w w' := by
  have HB := Aside0.mk (Below.refl w.heap.size w)
  have H : ((monticuleref01_Num.f k (a0.size : Int)).bind fun bt238 => (if bt238.1.size + a0.size ≤ 9223372036854775807 then (some (bt238.1 ++ a0)) else (none))) = some r := h
  clear h
  replace H := Option.bind_eq_some_iff.mp H
  obtain ⟨⟨t238, t239⟩, A20, H⟩ := H
  replace H : (if t238.size + a0.size ≤ 9223372036854775807 then (some (t238 ++ a0)) else (none)) = some r := H
  have A2 := Aside0.mk A20
  clear A20
  by_cases c3 : t238.size + a0.size ≤ 9223372036854775807
  · rw [if_pos c3] at H
    have c3b0 := eq_true c3
    have c3b1 : decide (t238.size + a0.size ≤ 9223372036854775807) = true := decide_eq_true c3
    try have c3b2 : (9223372036854775807 < t238.size + a0.size) = False := eq_false (Nat.not_lt.2 c3)
    obtain rfl := Option.some.inj H
    go_enter Tryz.func148, Tryz.ntmps148
    go_wp2_with (first | ((with_reducible refine gate_callee (f := 96) rfl ?_); refine goesL_ (some 8) rfl rfl Tryz.func96 (by kernel_rfl) rfl #[.int .i64 (a0.size : Int)] rfl (by (try simp only [List.map_toArray, List.map_cons, List.map_nil]); first | done | rfl | (simp only [List.length_drop, List.length_take]; rfl)) ?_; (with_reducible refine (monticuleref01_Num.calls k (a0.size : Int) t238 t239 _ A2.out).mono ?_); rintro e w4 ⟨rfl, hb⟩; refine ⟨_, rfl, ?_⟩; have n0_ := Aside0.mk (below_step (by repeat (first | (with_reducible first | exact HB.out | apply below_alloc | apply pw_below_drewN | apply below_drew1) | exact HB.out)) hb); clear HB; have HB := n0_; clear n0_; (try clear hb); (try clear hb2); (try clear hk); (try clear hi)))
    go_ret
    exact ⟨by first | rfl | (simp [errW_none, errW_some] <;> rfl) | (simp [*, errW_none, errW_some] <;> rfl), by repeat (first | (with_reducible first | exact HB.out | apply below_alloc | apply pw_below_drewN | apply below_drew1) | exact HB.out)⟩
  · rw [if_neg c3] at H
    exact absurd H (by simp)

end Go.Proofs.YtodpdlpncgkkdaaGreatDoor.P
end
section
namespace Go.Proofs.YtodpdlpncgkkdaaGreatDoor.P
open Go.RowKit Go.Proofs.YtodpdlpncgkkdaaGreatDoorW.PrintWords Go.Proofs.YtodpdlpncgkkdaaGreatDoorW.PrintLast Go.Proofs.YtodpdlpncgkkdaaGreatDoorW.PrintMore
attribute [local go_sem] max2_int min2_int max_two min_two max_three min_three max_four min_four   -- for this text's walks alone
set_option linter.unusedVariables false
set_option linter.unusedSimpArgs false

/-! ### monticuleref01_Texts: function 149 -/
def monticuleref01_Texts.l0 : Nat → List ByteArray → ByteArray → Int → Option (ByteArray)
  | 0, _, _, _ => none
  | k + 1, x0, x3, x5 => if x5 < (x0.length : Int) then (if 0 ≤ x5 then ((monticuleref01_Text.f k (rdOf ByteArray.empty x0 x5)).bind fun t243 => (if x3.size + t243.size ≤ 9223372036854775807 then (monticuleref01_Texts.l0 k x0 (x3 ++ t243) (wrap64 (x5 + 1))) else (none))) else (none)) else (some x3)
def monticuleref01_Texts.f (k : Nat) (l0 : List ByteArray) : Option (ByteArray) := (monticuleref01_Num.f k (l0.length : Int)).bind fun bt240 => (monticuleref01_Texts.l0 k l0 bt240.1 0)
theorem monticuleref01_Texts.mono_l : ∀ k, (∀ y0 y1 y2, LeO (monticuleref01_Texts.l0 k y0 y1 y2) (monticuleref01_Texts.l0 (k + 1) y0 y1 y2))
  | 0 => fun _ _ _ r h => by simp [monticuleref01_Texts.l0] at h
  | k + 1 => by
    have ih0 := monticuleref01_Texts.mono_l k
    · intro y0 y1 y2
      unfold monticuleref01_Texts.l0
      repeat' first
      | (with_reducible exact ih0 _ _ _)
      | (with_reducible exact monticuleref01_Num.mono _ _)
      | (with_reducible exact monticuleref01_Text.mono _ _)
      | (with_reducible exact LeO.refl _)
      | (with_reducible exact LeO.none _)
      | (with_reducible refine LeO.ite ?_ ?_)
      | (with_reducible refine LeO.bind ?_ (fun _ => ?_))
      | exact ih0 _ _ _
      | exact monticuleref01_Num.mono _ _
      | exact monticuleref01_Text.mono _ _
      | exact LeO.none _
      | refine LeO.ite ?_ ?_
      | refine LeO.bind ?_ (fun _ => ?_)
theorem monticuleref01_Texts.mono : ∀ a0 k, LeO (monticuleref01_Texts.f k a0) (monticuleref01_Texts.f (k + 1) a0) := by
  intro a0 k
  have ih0 := monticuleref01_Texts.mono_l k
  unfold monticuleref01_Texts.f
  repeat' first
      | (with_reducible exact ih0 _ _ _)
      | (with_reducible exact monticuleref01_Num.mono _ _)
      | (with_reducible exact monticuleref01_Text.mono _ _)
      | (with_reducible exact LeO.refl _)
      | (with_reducible exact LeO.none _)
      | (with_reducible refine LeO.ite ?_ ?_)
      | (with_reducible refine LeO.bind ?_ (fun _ => ?_))
      | exact ih0 _ _ _
      | exact monticuleref01_Num.mono _ _
      | exact monticuleref01_Text.mono _ _
      | exact LeO.none _
      | refine LeO.ite ?_ ?_
      | refine LeO.bind ?_ (fun _ => ?_)
set_option maxHeartbeats 8000000 in
set_option maxRecDepth 100000 in
theorem monticuleref01_Texts.calls (k : Nat) (A0 : Option Addr) (c0 : Nat) (l0 : List ByteArray) (r : ByteArray) (w : World) (hr0 : Kd.C Kd.string w A0 l0.length l0) (hc0 : l0.length ≤ c0) (h : monticuleref01_Texts.f k l0 = some r) :
    Calls Tryz.prog 149 #[.slice A0 l0.length c0] w fun e w' => e = .returned (.string r) ∧ Below w.heap.size w w' := by
  have HR0 := Aside0.mk hr0
  have HC0 := Aside0.mk hc0
  clear hr0 hc0
  have HB := Aside0.mk (Below.refl w.heap.size w)
  have H : ((monticuleref01_Num.f k (l0.length : Int)).bind fun bt240 => (monticuleref01_Texts.l0 k l0 bt240.1 0)) = some r := h
  clear h
  replace H := Option.bind_eq_some_iff.mp H
  obtain ⟨⟨t240, t241⟩, A20, H⟩ := H
  replace H : (monticuleref01_Texts.l0 k l0 t240 0) = some r := H
  have A2 := Aside0.mk A20
  clear A20
  have H' := Aside0.mk H
  clear H
  go_enter Tryz.func149, Tryz.ntmps149
  go_wp2_with (first | ((with_reducible refine gate_callee (f := 96) rfl ?_); refine goesL_ (some 9) rfl rfl Tryz.func96 (by kernel_rfl) rfl #[.int .i64 (l0.length : Int)] rfl (by (try simp only [List.map_toArray, List.map_cons, List.map_nil]); first | done | rfl | (simp only [List.length_drop, List.length_take]; rfl)) ?_; (with_reducible refine (monticuleref01_Num.calls k (l0.length : Int) t240 t241 _ A2.out).mono ?_); rintro e w3 ⟨rfl, hb⟩; refine ⟨_, rfl, ?_⟩; have n0_ := Aside0.mk (below_step (by repeat (first | (with_reducible first | exact HB.out | apply below_alloc | apply pw_below_drewN | apply below_drew1) | exact HB.out)) hb); clear HB; have HB := n0_; clear n0_; (try clear hb); (try clear hb2); (try clear hk); (try clear hi)))
  go_loopg [3, 5] k (fun kq v3 v5 w' => ∃ (x3_1 : ByteArray) (x5_1 : Int), v3 = .string x3_1 ∧ v5 = .int .i64 x5_1 ∧ Aside0 (monticuleref01_Texts.l0 kq l0 x3_1 x5_1 = some r) ∧ Aside0 (kq ≤ k) ∧ Aside0 (Below w.heap.size w w'))
  case atStart => exact ⟨(t240), (0), (by first | rfl | (simp; done) | (simp [*]; done)), (by first | rfl | (simp; done) | (simp [*]; done)), H', ⟨Nat.le_refl _⟩, ⟨by repeat (first | (with_reducible first | exact HB.out | apply below_alloc | apply pw_below_drewN | apply below_drew1) | exact HB.out)⟩⟩
  case round =>
    clear H'
    try clear c1
    try clear p2
    obtain ⟨x3_1, x5_1, rfl, rfl, HA, HK1, HB⟩ := hrel
    cases gk with
    | zero => exact absurd HA.out (by simp [monticuleref01_Texts.l0])
    | succ k1 =>
      have H := HA.out
      clear HA
      simp only [monticuleref01_Texts.l0] at H
      by_cases c4 : x5_1 < (l0.length : Int)
      · rw [if_pos c4] at H
        have c4b0 : decide (x5_1 < (l0.length : Int)) = true := decide_eq_true c4
        clear c4
        by_cases c5 : 0 ≤ x5_1
        · rw [if_pos c5] at H
          have c5b0 : decide (0 ≤ x5_1) = true := decide_eq_true c5
          clear c5
          replace H := Option.bind_eq_some_iff.mp H
          obtain ⟨t243, A60, H⟩ := H
          replace H : (if x3_1.size + t243.size ≤ 9223372036854775807 then (monticuleref01_Texts.l0 k1 l0 (x3_1 ++ t243) (wrap64 (x5_1 + 1))) else (none)) = some r := H
          have A6 := Aside0.mk A60
          clear A60
          by_cases c7 : x3_1.size + t243.size ≤ 9223372036854775807
          · rw [if_pos c7] at H
            have c7b0 := eq_true c7
            have c7b1 : decide (x3_1.size + t243.size ≤ 9223372036854775807) = true := decide_eq_true c7
            try have c7b2 : (9223372036854775807 < x3_1.size + t243.size) = False := eq_false (Nat.not_lt.2 c7)
            have H' := Aside0.mk H
            clear H
            have p242 : 0 ≤ (x5_1 : Int) := of_decide_eq_true (by first | (with_reducible assumption) | assumption)
            have q242 : x5_1 < (l0.length : Int) := of_decide_eq_true (by first | (with_reducible assumption) | assumption)
            obtain ⟨ad242, e242, hx242_0⟩ := Kd.at_string HR0.out x5_1 p242 q242
            cases e242
            replace hx242_0 := (HB.out.cell (World.block_lt_of_cell? w _ hx242_0)).trans hx242_0
            replace p242 := eq_true p242
            replace q242 := eq_true q242
            go_wp2_with (first | ((with_reducible refine gate_callee (f := 148) rfl ?_); refine goesL_ (some 23) rfl rfl Tryz.func148 (by kernel_rfl) rfl #[.string (rdOf ByteArray.empty l0 x5_1)] rfl (by (try simp only [List.map_toArray, List.map_cons, List.map_nil]); first | done | rfl | (simp only [List.length_drop, List.length_take]; rfl)) ?_; (with_reducible refine (monticuleref01_Text.calls k1 (rdOf ByteArray.empty l0 x5_1) t243 _ A6.out).mono ?_); rintro e w8 ⟨rfl, hb⟩; refine ⟨_, rfl, ?_⟩; have n0_ := Aside0.mk (below_step (by repeat (first | (with_reducible first | exact HB.out | apply below_alloc | apply pw_below_drewN | apply below_drew1) | exact HB.out)) hb); clear HB; have HB := n0_; clear n0_; (try clear hb); (try clear hb2); (try clear hk); (try clear hi)))
            go_roundg k1
            case measure => have := HK1.out; omega
            case rel => exact ⟨(x3_1 ++ t243), (wrap64 (x5_1 + 1)), (by first | rfl | (simp; done) | (simp [*]; done)), (by first | rfl | (simp; done) | (simp [*]; done)), H', ⟨by have := HK1.out; omega⟩, ⟨by repeat (first | (with_reducible first | exact HB.out | apply below_alloc | apply pw_below_drewN | apply below_drew1) | exact HB.out)⟩⟩
          · rw [if_neg c7] at H
            exact absurd H (by simp)
        · rw [if_neg c5] at H
          exact absurd H (by simp)
      · rw [if_neg c4] at H
        have c4b0 : decide (x5_1 < (l0.length : Int)) = false := decide_eq_false c4
        clear c4
        obtain rfl := Option.some.inj H
        go_wp2
        go_ret
        exact ⟨by first | rfl | (simp [errW_none, errW_some] <;> rfl) | (simp [*, errW_none, errW_some] <;> rfl), by repeat (first | (with_reducible first | exact HB.out | apply below_alloc | apply pw_below_drewN | apply below_drew1) | exact HB.out)⟩

end Go.Proofs.YtodpdlpncgkkdaaGreatDoor.P
end
section
namespace Go.Proofs.YtodpdlpncgkkdaaGreatDoor.P
open Go.RowKit Go.Proofs.YtodpdlpncgkkdaaGreatDoorW.PrintWords Go.Proofs.YtodpdlpncgkkdaaGreatDoorW.PrintLast Go.Proofs.YtodpdlpncgkkdaaGreatDoorW.PrintMore
attribute [local go_sem] max2_int min2_int max_two min_two max_three min_three max_four min_four   -- for this text's walks alone
set_option linter.unusedVariables false
set_option linter.unusedSimpArgs false

/-! ### monticuleref07_Octets: function 97 -/
def monticuleref07_Octets.f (k : Nat) (a0_0 : Int) (a0_1 : ByteArray) (a0_2 : ByteArray) (l0_3 : List ByteArray) (a0_4 : ByteArray) (a0_5 : ByteArray) : Option (ByteArray) := (monticuleref01_Num.f k a0_0).bind fun bt245 => (if a0_0 = 1 then ((monticuleref01_Text.f k a0_1).bind fun t247 => (if bt245.1.size + t247.size ≤ 9223372036854775807 then ((monticuleref01_Text.f k a0_2).bind fun t248 => (if (bt245.1 ++ t247).size + t248.size ≤ 9223372036854775807 then ((monticuleref01_Texts.f k l0_3).bind fun t249 => (if ((bt245.1 ++ t247) ++ t248).size + t249.size ≤ 9223372036854775807 then (some (((bt245.1 ++ t247) ++ t248) ++ t249)) else (none))) else (none))) else (none))) else ((monticuleref01_Text.f k a0_1).bind fun t250 => (if bt245.1.size + t250.size ≤ 9223372036854775807 then ((monticuleref01_Text.f k a0_4).bind fun t251 => (if (bt245.1 ++ t250).size + t251.size ≤ 9223372036854775807 then ((monticuleref01_Text.f k a0_5).bind fun t252 => (if ((bt245.1 ++ t250) ++ t251).size + t252.size ≤ 9223372036854775807 then (some (((bt245.1 ++ t250) ++ t251) ++ t252)) else (none))) else (none))) else (none))))
theorem monticuleref07_Octets.mono : ∀ a0 a1 a2 a3 a4 a5 k, LeO (monticuleref07_Octets.f k a0 a1 a2 a3 a4 a5) (monticuleref07_Octets.f (k + 1) a0 a1 a2 a3 a4 a5) := by
  intro a0 a1 a2 a3 a4 a5 k
  unfold monticuleref07_Octets.f
  repeat' first
      | (with_reducible exact monticuleref01_Num.mono _ _)
      | (with_reducible exact monticuleref01_Text.mono _ _)
      | (with_reducible exact monticuleref01_Texts.mono _ _)
      | (with_reducible exact LeO.refl _)
      | (with_reducible exact LeO.none _)
      | (with_reducible refine LeO.ite ?_ ?_)
      | (with_reducible refine LeO.bind ?_ (fun _ => ?_))
      | exact monticuleref01_Num.mono _ _
      | exact monticuleref01_Text.mono _ _
      | exact monticuleref01_Texts.mono _ _
      | exact LeO.none _
      | refine LeO.ite ?_ ?_
      | refine LeO.bind ?_ (fun _ => ?_)
def monticuleref07_Octets.T3 : Bool × List (List Nat × List Nat) := (true, [([], []), ([], []), ([1], [1]), ([2], [2]), ([0, 3], [0, 3]), ([], []), ([5], [5]), ([6, 3], [6]), ([4, 7], [4, 7]), ([], []), ([9], [9]), ([10, 7], [10]), ([8, 11], [8, 11]), ([12, 11, 0, 1, 2, 3, 4, 5, 6, 7, 8, 9, 10, 11, 12], [12])])
def monticuleref07_Octets.B3 : List Nat := [0, 0, 2, 6, 15, 0, 32, 110, 255, 0, 512, 1774, 4095, 8191]
theorem monticuleref07_Octets.tab3 : rtab .any (opsOf Tryz.f97 3) = monticuleref07_Octets.T3 := by kernel_rfl
theorem monticuleref07_Octets.bits3 : waitsOk monticuleref07_Octets.T3.2 monticuleref07_Octets.B3 = true := by kernel_rfl
def monticuleref07_Octets.T4 : Bool × List (List Nat × List Nat) := (true, [([], []), ([], []), ([1], [1]), ([2], [2]), ([0, 3], [0, 3]), ([], []), ([5], [5]), ([6, 3], [6]), ([4, 7], [4, 7]), ([], []), ([9], [9]), ([10, 7], [10]), ([8, 11], [8, 11]), ([12, 11, 0, 1, 2, 3, 4, 5, 6, 7, 8, 9, 10, 11, 12], [12])])
def monticuleref07_Octets.B4 : List Nat := [0, 0, 2, 6, 15, 0, 32, 110, 255, 0, 512, 1774, 4095, 8191]
theorem monticuleref07_Octets.tab4 : rtab .any (opsOf Tryz.f97 4) = monticuleref07_Octets.T4 := by kernel_rfl
theorem monticuleref07_Octets.bits4 : waitsOk monticuleref07_Octets.T4.2 monticuleref07_Octets.B4 = true := by kernel_rfl
set_option maxHeartbeats 8000000 in
set_option maxRecDepth 100000 in
theorem monticuleref07_Octets.calls (k : Nat) (a0_0 : Int) (a0_1 : ByteArray) (a0_2 : ByteArray) (A0_3 : Option Addr) (c0_3 : Nat) (l0_3 : List ByteArray) (a0_4 : ByteArray) (a0_5 : ByteArray) (r : ByteArray) (w : World) (hr0_3 : Kd.C Kd.string w A0_3 l0_3.length l0_3) (hc0_3 : l0_3.length ≤ c0_3) (h : monticuleref07_Octets.f k a0_0 a0_1 a0_2 l0_3 a0_4 a0_5 = some r) :
    Calls Tryz.prog 97 #[.agg #[.int .i64 a0_0, .string a0_1, .string a0_2, .slice A0_3 l0_3.length c0_3, .string a0_4, .string a0_5]] w fun e w' => e = .returned (.string r) ∧ Below w.heap.size w w' := by
  have hu33 := Tryz.underlying33
  have HR0_3 := Aside0.mk hr0_3
  have HC0_3 := Aside0.mk hc0_3
  clear hr0_3 hc0_3
  have HB := Aside0.mk (Below.refl w.heap.size w)
  have H : ((monticuleref01_Num.f k a0_0).bind fun bt245 => (if a0_0 = 1 then ((monticuleref01_Text.f k a0_1).bind fun t247 => (if bt245.1.size + t247.size ≤ 9223372036854775807 then ((monticuleref01_Text.f k a0_2).bind fun t248 => (if (bt245.1 ++ t247).size + t248.size ≤ 9223372036854775807 then ((monticuleref01_Texts.f k l0_3).bind fun t249 => (if ((bt245.1 ++ t247) ++ t248).size + t249.size ≤ 9223372036854775807 then (some (((bt245.1 ++ t247) ++ t248) ++ t249)) else (none))) else (none))) else (none))) else ((monticuleref01_Text.f k a0_1).bind fun t250 => (if bt245.1.size + t250.size ≤ 9223372036854775807 then ((monticuleref01_Text.f k a0_4).bind fun t251 => (if (bt245.1 ++ t250).size + t251.size ≤ 9223372036854775807 then ((monticuleref01_Text.f k a0_5).bind fun t252 => (if ((bt245.1 ++ t250) ++ t251).size + t252.size ≤ 9223372036854775807 then (some (((bt245.1 ++ t250) ++ t251) ++ t252)) else (none))) else (none))) else (none))))) = some r := h
  clear h
  replace H := Option.bind_eq_some_iff.mp H
  obtain ⟨⟨t245, t246⟩, A20, H⟩ := H
  replace H : (if a0_0 = 1 then ((monticuleref01_Text.f k a0_1).bind fun t247 => (if t245.size + t247.size ≤ 9223372036854775807 then ((monticuleref01_Text.f k a0_2).bind fun t248 => (if (t245 ++ t247).size + t248.size ≤ 9223372036854775807 then ((monticuleref01_Texts.f k l0_3).bind fun t249 => (if ((t245 ++ t247) ++ t248).size + t249.size ≤ 9223372036854775807 then (some (((t245 ++ t247) ++ t248) ++ t249)) else (none))) else (none))) else (none))) else ((monticuleref01_Text.f k a0_1).bind fun t250 => (if t245.size + t250.size ≤ 9223372036854775807 then ((monticuleref01_Text.f k a0_4).bind fun t251 => (if (t245 ++ t250).size + t251.size ≤ 9223372036854775807 then ((monticuleref01_Text.f k a0_5).bind fun t252 => (if ((t245 ++ t250) ++ t251).size + t252.size ≤ 9223372036854775807 then (some (((t245 ++ t250) ++ t251) ++ t252)) else (none))) else (none))) else (none)))) = some r := H
  have A2 := Aside0.mk A20
  clear A20
  by_cases c3 : a0_0 = 1
  · rw [if_pos c3] at H
    have c3b0 : (a0_0 == 1) = true := beq_iff_eq.mpr c3
    have c3b1 : (a0_0 != 1) = false := bne_eq_false_iff_eq.mpr c3
    clear c3
    replace H := Option.bind_eq_some_iff.mp H
    obtain ⟨t247, A40, H⟩ := H
    replace H : (if t245.size + t247.size ≤ 9223372036854775807 then ((monticuleref01_Text.f k a0_2).bind fun t248 => (if (t245 ++ t247).size + t248.size ≤ 9223372036854775807 then ((monticuleref01_Texts.f k l0_3).bind fun t249 => (if ((t245 ++ t247) ++ t248).size + t249.size ≤ 9223372036854775807 then (some (((t245 ++ t247) ++ t248) ++ t249)) else (none))) else (none))) else (none)) = some r := H
    have A4 := Aside0.mk A40
    clear A40
    by_cases c5 : t245.size + t247.size ≤ 9223372036854775807
    · rw [if_pos c5] at H
      have c5b0 := eq_true c5
      have c5b1 : decide (t245.size + t247.size ≤ 9223372036854775807) = true := decide_eq_true c5
      try have c5b2 : (9223372036854775807 < t245.size + t247.size) = False := eq_false (Nat.not_lt.2 c5)
      replace H := Option.bind_eq_some_iff.mp H
      obtain ⟨t248, A60, H⟩ := H
      replace H : (if (t245 ++ t247).size + t248.size ≤ 9223372036854775807 then ((monticuleref01_Texts.f k l0_3).bind fun t249 => (if ((t245 ++ t247) ++ t248).size + t249.size ≤ 9223372036854775807 then (some (((t245 ++ t247) ++ t248) ++ t249)) else (none))) else (none)) = some r := H
      have A6 := Aside0.mk A60
      clear A60
      by_cases c7 : (t245 ++ t247).size + t248.size ≤ 9223372036854775807
      · rw [if_pos c7] at H
        have c7b0 := eq_true c7
        have c7b1 : decide ((t245 ++ t247).size + t248.size ≤ 9223372036854775807) = true := decide_eq_true c7
        try have c7b2 : (9223372036854775807 < (t245 ++ t247).size + t248.size) = False := eq_false (Nat.not_lt.2 c7)
        try have c7b3 := c7b2
        try simp only [ByteArray.size_append] at c7b3
        replace H := Option.bind_eq_some_iff.mp H
        obtain ⟨t249, A80, H⟩ := H
        replace H : (if ((t245 ++ t247) ++ t248).size + t249.size ≤ 9223372036854775807 then (some (((t245 ++ t247) ++ t248) ++ t249)) else (none)) = some r := H
        have A8 := Aside0.mk A80
        clear A80
        by_cases c9 : ((t245 ++ t247) ++ t248).size + t249.size ≤ 9223372036854775807
        · rw [if_pos c9] at H
          have c9b0 := eq_true c9
          have c9b1 : decide (((t245 ++ t247) ++ t248).size + t249.size ≤ 9223372036854775807) = true := decide_eq_true c9
          try have c9b2 : (9223372036854775807 < ((t245 ++ t247) ++ t248).size + t249.size) = False := eq_false (Nat.not_lt.2 c9)
          try have c9b3 := c9b2
          try simp only [ByteArray.size_append] at c9b3
          obtain rfl := Option.some.inj H
          go_enter Tryz.func97, Tryz.ntmps97
          try go_wp2_with (first | ((with_reducible refine gate_dst (N := 1) rfl ?_); refine box_event ?hg (N := 1) ?hd (cs := #[.int .i64 a0_0, .string a0_1, .string a0_2, .slice A0_3 l0_3.length c0_3, .string a0_4, .string a0_5]) (t := 33) ?hr ?_; (case hd => rfl); (case hg => rfl); (case hr => first | (go_simp; done) | (go_simp; rfl)); intro gb244 hg w10 hbox hb; have n0_ := Aside0.mk (below_step (by repeat (first | (with_reducible first | exact HB.out | apply below_alloc | apply pw_below_drewN | apply below_drew1) | exact HB.out)) hb); have n1_ := Aside0.mk (hbox); have n2_ := Aside0.mk ((by rw [hg]; exact (below_size (by repeat (first | (with_reducible first | exact HB.out | apply below_alloc | apply pw_below_drewN | apply below_drew1) | exact HB.out))) : w.heap.size ≤ gb244)); have n3_ := Aside0.mk ((by rw [hg]; exact (below_size (by repeat (first | (with_reducible first | exact HB.out | apply below_alloc | apply pw_below_drewN | apply below_drew1) | exact HB.out))) : w.heap.size ≤ gb244)); clear HB; have HB := n0_; have BK244 := n1_; have GW244 := n2_; have GE244 := n3_; clear n0_ n1_ n2_ n3_; clear hb hbox hg; have hcz11_0 : w10.cell? ⟨gb244, 0, none⟩ = some (.int .i64 a0_0) := (blk_cell BK244.out 0).trans rfl; have hcz11_1 : w10.cell? ⟨gb244, 1, none⟩ = some (.string a0_1) := (blk_cell BK244.out 1).trans rfl; have hcz11_2 : w10.cell? ⟨gb244, 2, none⟩ = some (.string a0_2) := (blk_cell BK244.out 2).trans rfl; have hcz11_3 : w10.cell? ⟨gb244, 3, none⟩ = some (.slice A0_3 l0_3.length c0_3) := (blk_cell BK244.out 3).trans rfl; have hcz11_4 : w10.cell? ⟨gb244, 4, none⟩ = some (.string a0_4) := (blk_cell BK244.out 4).trans rfl; have hcz11_5 : w10.cell? ⟨gb244, 5, none⟩ = some (.string a0_5) := (blk_cell BK244.out 5).trans rfl; have hfz11_0 := blk_frozen BK244.out 0; have hfz11_1 := blk_frozen BK244.out 1; have hfz11_2 := blk_frozen BK244.out 2; have hfz11_3 := blk_frozen BK244.out 3; have hfz11_4 := blk_frozen BK244.out 4; have hfz11_5 := blk_frozen BK244.out 5) | ((with_reducible refine gate_callee (f := 96) rfl ?_); refine goesL_ (some 8) rfl rfl Tryz.func96 (by kernel_rfl) rfl #[.int .i64 a0_0] rfl (by (try simp only [List.map_toArray, List.map_cons, List.map_nil]); first | done | rfl | (simp only [List.length_drop, List.length_take]; rfl)) ?_; (with_reducible refine (monticuleref01_Num.calls k a0_0 t245 t246 _ A2.out).mono ?_); rintro e w12 ⟨rfl, hb⟩; refine ⟨_, rfl, ?_⟩; have n0_ := Aside0.mk (blk_below (g := gb244) (o := .cells #[.int .i64 a0_0, .string a0_1, .string a0_2, .slice A0_3 l0_3.length c0_3, .string a0_4, .string a0_5] 33 (0, 0)) (by (with_reducible repeat (first | refine blk_drewN ?_ _ | refine blk_drew ?_ | refine blk_alloc ?_ _)); exact BK244.out) hb); have n1_ := Aside0.mk (below_step (by repeat (first | (with_reducible first | exact HB.out | apply below_alloc | apply pw_below_drewN | apply below_drew1 | refine below_set ?_ GE244.out) | exact HB.out)) hb); clear BK244; clear HB; have BK244 := n0_; have HB := n1_; clear n0_ n1_; (try clear hb); (try clear hb2); (try clear hk); (try clear hi); have hcz13_0 : w12.cell? ⟨gb244, 0, none⟩ = some (.int .i64 a0_0) := (blk_cell BK244.out 0).trans rfl; have hcz13_1 : w12.cell? ⟨gb244, 1, none⟩ = some (.string a0_1) := (blk_cell BK244.out 1).trans rfl; have hcz13_2 : w12.cell? ⟨gb244, 2, none⟩ = some (.string a0_2) := (blk_cell BK244.out 2).trans rfl; have hcz13_3 : w12.cell? ⟨gb244, 3, none⟩ = some (.slice A0_3 l0_3.length c0_3) := (blk_cell BK244.out 3).trans rfl; have hcz13_4 : w12.cell? ⟨gb244, 4, none⟩ = some (.string a0_4) := (blk_cell BK244.out 4).trans rfl; have hcz13_5 : w12.cell? ⟨gb244, 5, none⟩ = some (.string a0_5) := (blk_cell BK244.out 5).trans rfl; have hfz13_0 := blk_frozen BK244.out 0; have hfz13_1 := blk_frozen BK244.out 1; have hfz13_2 := blk_frozen BK244.out 2; have hfz13_3 := blk_frozen BK244.out 3; have hfz13_4 := blk_frozen BK244.out 4; have hfz13_5 := blk_frozen BK244.out 5))
          have n0_ := Aside0.mk (blk_drew BK244.out)
          have n1_ := Aside0.mk (below_drew1 HB.out)
          clear BK244
          clear HB
          have BK244 := n0_
          have HB := n1_
          clear n0_ n1_
          refine start_ (n := 14) (S := fun w' => w'.cell? ⟨gb244, 0, none⟩ = some (.int .i64 a0_0) ∧ w'.cell? ⟨gb244, 1, none⟩ = some (.string a0_1) ∧ w'.cell? ⟨gb244, 2, none⟩ = some (.string a0_2) ∧ w'.cell? ⟨gb244, 3, none⟩ = some (.slice A0_3 l0_3.length c0_3) ∧ w'.cell? ⟨gb244, 4, none⟩ = some (.string a0_4) ∧ w'.cell? ⟨gb244, 5, none⟩ = some (.string a0_5)) (ds := []) #[false, false, false, false, false, false, false, false, false, false, false, false, false, false] (by kernel_rfl) rfl rfl ⟨(blk_cell BK244.out 0).trans rfl, (blk_cell BK244.out 1).trans rfl, (blk_cell BK244.out 2).trans rfl, (blk_cell BK244.out 3).trans rfl, (blk_cell BK244.out 4).trans rfl, (blk_cell BK244.out 5).trans rfl⟩ (fun hHeld => ?_); refine with_tabW monticuleref07_Octets.tab3 monticuleref07_Octets.bits3 (fun HT_ HW_ => ?_)
          generalize w12.drew = w14 at BK244 HB hHeld ⊢
          refine pure_ (i := 0) (N := some 14) (v := ?_) (a' := ?_) #[true, false, false, false, false, false, false, false, false, false, false, false, false, false] rfl rfl (any_of HT_.out (by kernel_rfl)) (fun _ _ _ h => h) (Or.inl ⟨by rfl, ?_⟩) ?_ ?_
          rotate_left
          · intro w'
            go_simp
            with_reducible rfl
          rotate_left
          · simp only [Act.put, List.setIfInBounds_toArray, List.set_cons_zero, List.set_cons_succ, i64_w, i32_w]
            rfl
          refine pure_ (i := 1) (N := some 15) (v := ?_) (a' := ?_) #[true, true, false, false, false, false, false, false, false, false, false, false, false, false] rfl rfl (any_of HT_.out (by kernel_rfl)) (fun _ _ _ h => h) (Or.inl ⟨by rfl, ?_⟩) ?_ ?_
          rotate_left
          · intro w'
            go_simp
            with_reducible rfl
          rotate_left
          · simp only [Act.put, List.setIfInBounds_toArray, List.set_cons_zero, List.set_cons_succ, i64_w, i32_w]
            rfl
          refine pure_ (i := 5) (N := some 19) (v := ?_) (a' := ?_) #[true, true, false, false, false, true, false, false, false, false, false, false, false, false] rfl rfl (any_of HT_.out (by kernel_rfl)) (fun _ _ _ h => h) (Or.inl ⟨by rfl, ?_⟩) ?_ ?_
          rotate_left
          · intro w'
            go_simp
            with_reducible rfl
          rotate_left
          · simp only [Act.put, List.setIfInBounds_toArray, List.set_cons_zero, List.set_cons_succ, i64_w, i32_w]
            rfl
          refine pure_ (i := 9) (N := some 23) (v := ?_) (a' := ?_) #[true, true, false, false, false, true, false, false, false, true, false, false, false, false] rfl rfl (any_of HT_.out (by kernel_rfl)) (fun _ _ _ h => h) (Or.inl ⟨by rfl, ?_⟩) ?_ ?_
          rotate_left
          · intro w'
            go_simp
            with_reducible rfl
          rotate_left
          · simp only [Act.put, List.setIfInBounds_toArray, List.set_cons_zero, List.set_cons_succ, i64_w, i32_w]
            rfl
          refine take_ (i := 2) (N := some 16) (v := ?_) (a' := ?_) #[true, true, true, false, false, true, false, false, false, true, false, false, false, false] rfl rfl (take_ofW HT_.out HW_.out (by kernel_rfl)) (fun _ _ _ h => h) (Or.inl ⟨by rfl, ?_⟩) hHeld ?_ ?_
          rotate_left
          · rintro w' ⟨s0, s1, s2, s3, s4, s5⟩
            go_simp
            with_reducible rfl
          rotate_left
          · simp only [Act.put, List.setIfInBounds_toArray, List.set_cons_zero, List.set_cons_succ, i64_w, i32_w]
            rfl
          refine take_ (i := 6) (N := some 20) (v := ?_) (a' := ?_) #[true, true, true, false, false, true, true, false, false, true, false, false, false, false] rfl rfl (take_ofW HT_.out HW_.out (by kernel_rfl)) (fun _ _ _ h => h) (Or.inl ⟨by rfl, ?_⟩) hHeld ?_ ?_
          rotate_left
          · rintro w' ⟨s0, s1, s2, s3, s4, s5⟩
            go_simp
            with_reducible rfl
          rotate_left
          · simp only [Act.put, List.setIfInBounds_toArray, List.set_cons_zero, List.set_cons_succ, i64_w, i32_w]
            rfl
          refine take_ (i := 10) (N := some 24) (v := ?_) (a' := ?_) #[true, true, true, false, false, true, true, false, false, true, true, false, false, false] rfl rfl (take_ofW HT_.out HW_.out (by kernel_rfl)) (fun _ _ _ h => h) (Or.inl ⟨by rfl, ?_⟩) hHeld ?_ ?_
          rotate_left
          · rintro w' ⟨s0, s1, s2, s3, s4, s5⟩
            go_simp
            with_reducible rfl
          rotate_left
          · simp only [Act.put, List.setIfInBounds_toArray, List.set_cons_zero, List.set_cons_succ, i64_w, i32_w]
            rfl
          refine one_ (i := 3) (N := some 17) #[true, true, true, true, false, true, true, false, false, true, true, false, false, false] rfl rfl (one_of HT_.out (by kernel_rfl)) (by decide) (fun K hK => ?_)
          refine goes_ Tryz.func148 (by kernel_rfl) rfl #[.string a0_1] (by rfl) rfl rfl (by (try simp only [List.map_toArray, List.map_cons, List.map_nil]); first | done | rfl | (simp only [List.length_drop, List.length_take]; rfl)) ?_
          with_reducible refine (monticuleref01_Text.calls k a0_1 t247 _ A4.out).mono ?_
          rintro e w15 ⟨rfl, hb⟩
          refine ⟨_, rfl, ?_⟩
          have n0_ := Aside0.mk (blk_below (g := gb244) (o := .cells #[.int .i64 a0_0, .string a0_1, .string a0_2, .slice A0_3 l0_3.length c0_3, .string a0_4, .string a0_5] 33 (0, 0)) (by (with_reducible repeat (first | refine blk_drewN ?_ _ | refine blk_drew ?_ | refine blk_alloc ?_ _)); exact BK244.out) hb)
          have n1_ := Aside0.mk (below_step (by repeat (first | (with_reducible first | exact HB.out | apply below_alloc | apply pw_below_drewN | apply below_drew1 | refine below_set ?_ GE244.out) | exact HB.out)) hb)
          clear BK244
          clear HB
          have BK244 := n0_
          have HB := n1_
          clear n0_ n1_
          (try clear hb)
          (try clear hb2)
          (try clear hk)
          (try clear hi)
          refine hK.out _ _ ⟨(blk_cell BK244.out 0).trans rfl, (blk_cell BK244.out 1).trans rfl, (blk_cell BK244.out 2).trans rfl, (blk_cell BK244.out 3).trans rfl, (blk_cell BK244.out 4).trans rfl, (blk_cell BK244.out 5).trans rfl⟩ (fun hHeld => ?_)
          clear hK K
          refine norm_ (a' := ?_) ?_ ?_
          rotate_left
          · show Act.put _ (some 17) _ = _
            simp only [Act.put, List.setIfInBounds_toArray, List.set_cons_zero, List.set_cons_succ, i64_w, i32_w]
            rfl
          refine pure_ (i := 4) (N := some 18) (v := ?_) (a' := ?_) #[true, true, true, true, true, true, true, false, false, true, true, false, false, false] rfl rfl (any_of HT_.out (by kernel_rfl)) (fun _ _ _ h => h) (Or.inl ⟨by rfl, ?_⟩) ?_ ?_
          rotate_left
          · intro w'
            go_simp
            with_reducible rfl
          rotate_left
          · simp only [Act.put, List.setIfInBounds_toArray, List.set_cons_zero, List.set_cons_succ, i64_w, i32_w]
            rfl
          refine one_ (i := 7) (N := some 21) #[true, true, true, true, true, true, true, true, false, true, true, false, false, false] rfl rfl (one_of HT_.out (by kernel_rfl)) (by decide) (fun K hK => ?_)
          refine goes_ Tryz.func148 (by kernel_rfl) rfl #[.string a0_2] (by rfl) rfl rfl (by (try simp only [List.map_toArray, List.map_cons, List.map_nil]); first | done | rfl | (simp only [List.length_drop, List.length_take]; rfl)) ?_
          with_reducible refine (monticuleref01_Text.calls k a0_2 t248 _ A6.out).mono ?_
          rintro e w16 ⟨rfl, hb⟩
          refine ⟨_, rfl, ?_⟩
          have n0_ := Aside0.mk (blk_below (g := gb244) (o := .cells #[.int .i64 a0_0, .string a0_1, .string a0_2, .slice A0_3 l0_3.length c0_3, .string a0_4, .string a0_5] 33 (0, 0)) (by (with_reducible repeat (first | refine blk_drewN ?_ _ | refine blk_drew ?_ | refine blk_alloc ?_ _)); exact BK244.out) hb)
          have n1_ := Aside0.mk (below_step (by repeat (first | (with_reducible first | exact HB.out | apply below_alloc | apply pw_below_drewN | apply below_drew1 | refine below_set ?_ GE244.out) | exact HB.out)) hb)
          clear BK244
          clear HB
          have BK244 := n0_
          have HB := n1_
          clear n0_ n1_
          (try clear hb)
          (try clear hb2)
          (try clear hk)
          (try clear hi)
          refine hK.out _ _ ⟨(blk_cell BK244.out 0).trans rfl, (blk_cell BK244.out 1).trans rfl, (blk_cell BK244.out 2).trans rfl, (blk_cell BK244.out 3).trans rfl, (blk_cell BK244.out 4).trans rfl, (blk_cell BK244.out 5).trans rfl⟩ (fun hHeld => ?_)
          clear hK K
          refine norm_ (a' := ?_) ?_ ?_
          rotate_left
          · show Act.put _ (some 21) _ = _
            simp only [Act.put, List.setIfInBounds_toArray, List.set_cons_zero, List.set_cons_succ, i64_w, i32_w]
            rfl
          refine pure_ (i := 8) (N := some 22) (v := ?_) (a' := ?_) #[true, true, true, true, true, true, true, true, true, true, true, false, false, false] rfl rfl (any_of HT_.out (by kernel_rfl)) (fun _ _ _ h => h) (Or.inl ⟨by rfl, ?_⟩) ?_ ?_
          rotate_left
          · intro w'
            go_simp
            with_reducible rfl
          rotate_left
          · simp only [Act.put, List.setIfInBounds_toArray, List.set_cons_zero, List.set_cons_succ, i64_w, i32_w]
            rfl
          refine one_ (i := 11) (N := some 25) #[true, true, true, true, true, true, true, true, true, true, true, true, false, false] rfl rfl (one_of HT_.out (by kernel_rfl)) (by decide) (fun K hK => ?_)
          refine goes_ Tryz.func149 (by kernel_rfl) rfl #[.slice A0_3 l0_3.length c0_3] (by rfl) rfl rfl (by (try simp only [List.map_toArray, List.map_cons, List.map_nil]); first | done | rfl | (simp only [List.length_drop, List.length_take]; rfl)) ?_
          with_reducible refine (monticuleref01_Texts.calls k _ _ l0_3 t249 _ ?side1 ?side2 A8.out).mono ?_
          (case side1 => repeat (first | exact (Kd.C_below HR0_3.out HB.out) | (with_reducible refine Kd.C_alloc ?_ _) | (with_reducible refine Kd.C_drewN ?_ _) | (with_reducible refine Kd.C_drew ?_)))
          (case side2 => exact HC0_3.out)
          rintro e w17 ⟨rfl, hb⟩
          refine ⟨_, rfl, ?_⟩
          have n0_ := Aside0.mk (blk_below (g := gb244) (o := .cells #[.int .i64 a0_0, .string a0_1, .string a0_2, .slice A0_3 l0_3.length c0_3, .string a0_4, .string a0_5] 33 (0, 0)) (by (with_reducible repeat (first | refine blk_drewN ?_ _ | refine blk_drew ?_ | refine blk_alloc ?_ _)); exact BK244.out) hb)
          have n1_ := Aside0.mk (below_step (by repeat (first | (with_reducible first | exact HB.out | apply below_alloc | apply pw_below_drewN | apply below_drew1 | refine below_set ?_ GE244.out) | exact HB.out)) hb)
          clear BK244
          clear HB
          have BK244 := n0_
          have HB := n1_
          clear n0_ n1_
          (try clear hb)
          (try clear hb2)
          (try clear hk)
          (try clear hi)
          refine hK.out _ _ ⟨(blk_cell BK244.out 0).trans rfl, (blk_cell BK244.out 1).trans rfl, (blk_cell BK244.out 2).trans rfl, (blk_cell BK244.out 3).trans rfl, (blk_cell BK244.out 4).trans rfl, (blk_cell BK244.out 5).trans rfl⟩ (fun hHeld => ?_)
          clear hK K
          refine norm_ (a' := ?_) ?_ ?_
          rotate_left
          · show Act.put _ (some 25) _ = _
            simp only [Act.put, List.setIfInBounds_toArray, List.set_cons_zero, List.set_cons_succ, i64_w, i32_w]
            rfl
          refine pure_ (i := 12) (N := some 26) (v := ?_) (a' := ?_) #[true, true, true, true, true, true, true, true, true, true, true, true, true, false] rfl rfl (any_of HT_.out (by kernel_rfl)) (fun _ _ _ h => h) (Or.inl ⟨by rfl, ?_⟩) ?_ ?_
          rotate_left
          · intro w'
            go_simp
            with_reducible rfl
          rotate_left
          · simp only [Act.put, List.setIfInBounds_toArray, List.set_cons_zero, List.set_cons_succ, i64_w, i32_w]
            rfl
          refine pure_ (i := 13) (N := some 2) (v := ?_) (a' := ?_) #[true, true, true, true, true, true, true, true, true, true, true, true, true, true] rfl rfl (any_of HT_.out (by kernel_rfl)) (fun _ _ _ h => h) (Or.inl ⟨by rfl, ?_⟩) ?_ ?_
          rotate_left
          · intro w'
            go_simp
            with_reducible rfl
          rotate_left
          · simp only [Act.put, List.setIfInBounds_toArray, List.set_cons_zero, List.set_cons_succ, i64_w, i32_w]
            rfl
          refine done_ (done_of HT_.out (by kernel_rfl)) ?_
          try go_wp2
          go_ret
          exact ⟨by first | rfl | (simp [errW_none, errW_some] <;> rfl) | (simp [*, errW_none, errW_some] <;> rfl), by repeat (first | (with_reducible first | exact HB.out | apply below_alloc | apply pw_below_drewN | apply below_drew1 | refine below_set ?_ GE244.out) | exact HB.out)⟩
        · rw [if_neg c9] at H
          exact absurd H (by simp)
      · rw [if_neg c7] at H
        exact absurd H (by simp)
    · rw [if_neg c5] at H
      exact absurd H (by simp)
  · rw [if_neg c3] at H
    have c3b0 : (a0_0 == 1) = false := beq_eq_false_iff_ne.mpr c3
    have c3b1 : (a0_0 != 1) = true := bne_iff_ne.mpr c3
    replace H := Option.bind_eq_some_iff.mp H
    obtain ⟨t250, A180, H⟩ := H
    replace H : (if t245.size + t250.size ≤ 9223372036854775807 then ((monticuleref01_Text.f k a0_4).bind fun t251 => (if (t245 ++ t250).size + t251.size ≤ 9223372036854775807 then ((monticuleref01_Text.f k a0_5).bind fun t252 => (if ((t245 ++ t250) ++ t251).size + t252.size ≤ 9223372036854775807 then (some (((t245 ++ t250) ++ t251) ++ t252)) else (none))) else (none))) else (none)) = some r := H
    have A18 := Aside0.mk A180
    clear A180
    by_cases c19 : t245.size + t250.size ≤ 9223372036854775807
    · rw [if_pos c19] at H
      have c19b0 := eq_true c19
      have c19b1 : decide (t245.size + t250.size ≤ 9223372036854775807) = true := decide_eq_true c19
      try have c19b2 : (9223372036854775807 < t245.size + t250.size) = False := eq_false (Nat.not_lt.2 c19)
      replace H := Option.bind_eq_some_iff.mp H
      obtain ⟨t251, A200, H⟩ := H
      replace H : (if (t245 ++ t250).size + t251.size ≤ 9223372036854775807 then ((monticuleref01_Text.f k a0_5).bind fun t252 => (if ((t245 ++ t250) ++ t251).size + t252.size ≤ 9223372036854775807 then (some (((t245 ++ t250) ++ t251) ++ t252)) else (none))) else (none)) = some r := H
      have A20 := Aside0.mk A200
      clear A200
      by_cases c21 : (t245 ++ t250).size + t251.size ≤ 9223372036854775807
      · rw [if_pos c21] at H
        have c21b0 := eq_true c21
        have c21b1 : decide ((t245 ++ t250).size + t251.size ≤ 9223372036854775807) = true := decide_eq_true c21
        try have c21b2 : (9223372036854775807 < (t245 ++ t250).size + t251.size) = False := eq_false (Nat.not_lt.2 c21)
        try have c21b3 := c21b2
        try simp only [ByteArray.size_append] at c21b3
        replace H := Option.bind_eq_some_iff.mp H
        obtain ⟨t252, A220, H⟩ := H
        replace H : (if ((t245 ++ t250) ++ t251).size + t252.size ≤ 9223372036854775807 then (some (((t245 ++ t250) ++ t251) ++ t252)) else (none)) = some r := H
        have A22 := Aside0.mk A220
        clear A220
        by_cases c23 : ((t245 ++ t250) ++ t251).size + t252.size ≤ 9223372036854775807
        · rw [if_pos c23] at H
          have c23b0 := eq_true c23
          have c23b1 : decide (((t245 ++ t250) ++ t251).size + t252.size ≤ 9223372036854775807) = true := decide_eq_true c23
          try have c23b2 : (9223372036854775807 < ((t245 ++ t250) ++ t251).size + t252.size) = False := eq_false (Nat.not_lt.2 c23)
          try have c23b3 := c23b2
          try simp only [ByteArray.size_append] at c23b3
          obtain rfl := Option.some.inj H
          go_enter Tryz.func97, Tryz.ntmps97
          try go_wp2_with (first | ((with_reducible refine gate_dst (N := 1) rfl ?_); refine box_event ?hg (N := 1) ?hd (cs := #[.int .i64 a0_0, .string a0_1, .string a0_2, .slice A0_3 l0_3.length c0_3, .string a0_4, .string a0_5]) (t := 33) ?hr ?_; (case hd => rfl); (case hg => rfl); (case hr => first | (go_simp; done) | (go_simp; rfl)); intro gb244 hg w24 hbox hb; have n0_ := Aside0.mk (below_step (by repeat (first | (with_reducible first | exact HB.out | apply below_alloc | apply pw_below_drewN | apply below_drew1) | exact HB.out)) hb); have n1_ := Aside0.mk (hbox); have n2_ := Aside0.mk ((by rw [hg]; exact (below_size (by repeat (first | (with_reducible first | exact HB.out | apply below_alloc | apply pw_below_drewN | apply below_drew1) | exact HB.out))) : w.heap.size ≤ gb244)); have n3_ := Aside0.mk ((by rw [hg]; exact (below_size (by repeat (first | (with_reducible first | exact HB.out | apply below_alloc | apply pw_below_drewN | apply below_drew1) | exact HB.out))) : w.heap.size ≤ gb244)); clear HB; have HB := n0_; have BK244 := n1_; have GW244 := n2_; have GE244 := n3_; clear n0_ n1_ n2_ n3_; clear hb hbox hg; have hcz25_0 : w24.cell? ⟨gb244, 0, none⟩ = some (.int .i64 a0_0) := (blk_cell BK244.out 0).trans rfl; have hcz25_1 : w24.cell? ⟨gb244, 1, none⟩ = some (.string a0_1) := (blk_cell BK244.out 1).trans rfl; have hcz25_2 : w24.cell? ⟨gb244, 2, none⟩ = some (.string a0_2) := (blk_cell BK244.out 2).trans rfl; have hcz25_3 : w24.cell? ⟨gb244, 3, none⟩ = some (.slice A0_3 l0_3.length c0_3) := (blk_cell BK244.out 3).trans rfl; have hcz25_4 : w24.cell? ⟨gb244, 4, none⟩ = some (.string a0_4) := (blk_cell BK244.out 4).trans rfl; have hcz25_5 : w24.cell? ⟨gb244, 5, none⟩ = some (.string a0_5) := (blk_cell BK244.out 5).trans rfl; have hfz25_0 := blk_frozen BK244.out 0; have hfz25_1 := blk_frozen BK244.out 1; have hfz25_2 := blk_frozen BK244.out 2; have hfz25_3 := blk_frozen BK244.out 3; have hfz25_4 := blk_frozen BK244.out 4; have hfz25_5 := blk_frozen BK244.out 5) | ((with_reducible refine gate_callee (f := 96) rfl ?_); refine goesL_ (some 8) rfl rfl Tryz.func96 (by kernel_rfl) rfl #[.int .i64 a0_0] rfl (by (try simp only [List.map_toArray, List.map_cons, List.map_nil]); first | done | rfl | (simp only [List.length_drop, List.length_take]; rfl)) ?_; (with_reducible refine (monticuleref01_Num.calls k a0_0 t245 t246 _ A2.out).mono ?_); rintro e w26 ⟨rfl, hb⟩; refine ⟨_, rfl, ?_⟩; have n0_ := Aside0.mk (blk_below (g := gb244) (o := .cells #[.int .i64 a0_0, .string a0_1, .string a0_2, .slice A0_3 l0_3.length c0_3, .string a0_4, .string a0_5] 33 (0, 0)) (by (with_reducible repeat (first | refine blk_drewN ?_ _ | refine blk_drew ?_ | refine blk_alloc ?_ _)); exact BK244.out) hb); have n1_ := Aside0.mk (below_step (by repeat (first | (with_reducible first | exact HB.out | apply below_alloc | apply pw_below_drewN | apply below_drew1 | refine below_set ?_ GE244.out) | exact HB.out)) hb); clear BK244; clear HB; have BK244 := n0_; have HB := n1_; clear n0_ n1_; (try clear hb); (try clear hb2); (try clear hk); (try clear hi); have hcz27_0 : w26.cell? ⟨gb244, 0, none⟩ = some (.int .i64 a0_0) := (blk_cell BK244.out 0).trans rfl; have hcz27_1 : w26.cell? ⟨gb244, 1, none⟩ = some (.string a0_1) := (blk_cell BK244.out 1).trans rfl; have hcz27_2 : w26.cell? ⟨gb244, 2, none⟩ = some (.string a0_2) := (blk_cell BK244.out 2).trans rfl; have hcz27_3 : w26.cell? ⟨gb244, 3, none⟩ = some (.slice A0_3 l0_3.length c0_3) := (blk_cell BK244.out 3).trans rfl; have hcz27_4 : w26.cell? ⟨gb244, 4, none⟩ = some (.string a0_4) := (blk_cell BK244.out 4).trans rfl; have hcz27_5 : w26.cell? ⟨gb244, 5, none⟩ = some (.string a0_5) := (blk_cell BK244.out 5).trans rfl; have hfz27_0 := blk_frozen BK244.out 0; have hfz27_1 := blk_frozen BK244.out 1; have hfz27_2 := blk_frozen BK244.out 2; have hfz27_3 := blk_frozen BK244.out 3; have hfz27_4 := blk_frozen BK244.out 4; have hfz27_5 := blk_frozen BK244.out 5))
          have n0_ := Aside0.mk (blk_drew BK244.out)
          have n1_ := Aside0.mk (below_drew1 HB.out)
          clear BK244
          clear HB
          have BK244 := n0_
          have HB := n1_
          clear n0_ n1_
          refine start_ (n := 14) (S := fun w' => w'.cell? ⟨gb244, 0, none⟩ = some (.int .i64 a0_0) ∧ w'.cell? ⟨gb244, 1, none⟩ = some (.string a0_1) ∧ w'.cell? ⟨gb244, 2, none⟩ = some (.string a0_2) ∧ w'.cell? ⟨gb244, 3, none⟩ = some (.slice A0_3 l0_3.length c0_3) ∧ w'.cell? ⟨gb244, 4, none⟩ = some (.string a0_4) ∧ w'.cell? ⟨gb244, 5, none⟩ = some (.string a0_5)) (ds := []) #[false, false, false, false, false, false, false, false, false, false, false, false, false, false] (by kernel_rfl) rfl rfl ⟨(blk_cell BK244.out 0).trans rfl, (blk_cell BK244.out 1).trans rfl, (blk_cell BK244.out 2).trans rfl, (blk_cell BK244.out 3).trans rfl, (blk_cell BK244.out 4).trans rfl, (blk_cell BK244.out 5).trans rfl⟩ (fun hHeld => ?_); refine with_tabW monticuleref07_Octets.tab4 monticuleref07_Octets.bits4 (fun HT_ HW_ => ?_)
          generalize w26.drew = w28 at BK244 HB hHeld ⊢
          refine pure_ (i := 0) (N := some 27) (v := ?_) (a' := ?_) #[true, false, false, false, false, false, false, false, false, false, false, false, false, false] rfl rfl (any_of HT_.out (by kernel_rfl)) (fun _ _ _ h => h) (Or.inl ⟨by rfl, ?_⟩) ?_ ?_
          rotate_left
          · intro w'
            go_simp
            with_reducible rfl
          rotate_left
          · simp only [Act.put, List.setIfInBounds_toArray, List.set_cons_zero, List.set_cons_succ, i64_w, i32_w]
            rfl
          refine pure_ (i := 1) (N := some 28) (v := ?_) (a' := ?_) #[true, true, false, false, false, false, false, false, false, false, false, false, false, false] rfl rfl (any_of HT_.out (by kernel_rfl)) (fun _ _ _ h => h) (Or.inl ⟨by rfl, ?_⟩) ?_ ?_
          rotate_left
          · intro w'
            go_simp
            with_reducible rfl
          rotate_left
          · simp only [Act.put, List.setIfInBounds_toArray, List.set_cons_zero, List.set_cons_succ, i64_w, i32_w]
            rfl
          refine pure_ (i := 5) (N := some 32) (v := ?_) (a' := ?_) #[true, true, false, false, false, true, false, false, false, false, false, false, false, false] rfl rfl (any_of HT_.out (by kernel_rfl)) (fun _ _ _ h => h) (Or.inl ⟨by rfl, ?_⟩) ?_ ?_
          rotate_left
          · intro w'
            go_simp
            with_reducible rfl
          rotate_left
          · simp only [Act.put, List.setIfInBounds_toArray, List.set_cons_zero, List.set_cons_succ, i64_w, i32_w]
            rfl
          refine pure_ (i := 9) (N := some 36) (v := ?_) (a' := ?_) #[true, true, false, false, false, true, false, false, false, true, false, false, false, false] rfl rfl (any_of HT_.out (by kernel_rfl)) (fun _ _ _ h => h) (Or.inl ⟨by rfl, ?_⟩) ?_ ?_
          rotate_left
          · intro w'
            go_simp
            with_reducible rfl
          rotate_left
          · simp only [Act.put, List.setIfInBounds_toArray, List.set_cons_zero, List.set_cons_succ, i64_w, i32_w]
            rfl
          refine take_ (i := 2) (N := some 29) (v := ?_) (a' := ?_) #[true, true, true, false, false, true, false, false, false, true, false, false, false, false] rfl rfl (take_ofW HT_.out HW_.out (by kernel_rfl)) (fun _ _ _ h => h) (Or.inl ⟨by rfl, ?_⟩) hHeld ?_ ?_
          rotate_left
          · rintro w' ⟨s0, s1, s2, s3, s4, s5⟩
            go_simp
            with_reducible rfl
          rotate_left
          · simp only [Act.put, List.setIfInBounds_toArray, List.set_cons_zero, List.set_cons_succ, i64_w, i32_w]
            rfl
          refine take_ (i := 6) (N := some 33) (v := ?_) (a' := ?_) #[true, true, true, false, false, true, true, false, false, true, false, false, false, false] rfl rfl (take_ofW HT_.out HW_.out (by kernel_rfl)) (fun _ _ _ h => h) (Or.inl ⟨by rfl, ?_⟩) hHeld ?_ ?_
          rotate_left
          · rintro w' ⟨s0, s1, s2, s3, s4, s5⟩
            go_simp
            with_reducible rfl
          rotate_left
          · simp only [Act.put, List.setIfInBounds_toArray, List.set_cons_zero, List.set_cons_succ, i64_w, i32_w]
            rfl
          refine take_ (i := 10) (N := some 37) (v := ?_) (a' := ?_) #[true, true, true, false, false, true, true, false, false, true, true, false, false, false] rfl rfl (take_ofW HT_.out HW_.out (by kernel_rfl)) (fun _ _ _ h => h) (Or.inl ⟨by rfl, ?_⟩) hHeld ?_ ?_
          rotate_left
          · rintro w' ⟨s0, s1, s2, s3, s4, s5⟩
            go_simp
            with_reducible rfl
          rotate_left
          · simp only [Act.put, List.setIfInBounds_toArray, List.set_cons_zero, List.set_cons_succ, i64_w, i32_w]
            rfl
          refine one_ (i := 3) (N := some 30) #[true, true, true, true, false, true, true, false, false, true, true, false, false, false] rfl rfl (one_of HT_.out (by kernel_rfl)) (by decide) (fun K hK => ?_)
          refine goes_ Tryz.func148 (by kernel_rfl) rfl #[.string a0_1] (by rfl) rfl rfl (by (try simp only [List.map_toArray, List.map_cons, List.map_nil]); first | done | rfl | (simp only [List.length_drop, List.length_take]; rfl)) ?_
          with_reducible refine (monticuleref01_Text.calls k a0_1 t250 _ A18.out).mono ?_
          rintro e w29 ⟨rfl, hb⟩
          refine ⟨_, rfl, ?_⟩
          have n0_ := Aside0.mk (blk_below (g := gb244) (o := .cells #[.int .i64 a0_0, .string a0_1, .string a0_2, .slice A0_3 l0_3.length c0_3, .string a0_4, .string a0_5] 33 (0, 0)) (by (with_reducible repeat (first | refine blk_drewN ?_ _ | refine blk_drew ?_ | refine blk_alloc ?_ _)); exact BK244.out) hb)
          have n1_ := Aside0.mk (below_step (by repeat (first | (with_reducible first | exact HB.out | apply below_alloc | apply pw_below_drewN | apply below_drew1 | refine below_set ?_ GE244.out) | exact HB.out)) hb)
          clear BK244
          clear HB
          have BK244 := n0_
          have HB := n1_
          clear n0_ n1_
          (try clear hb)
          (try clear hb2)
          (try clear hk)
          (try clear hi)
          refine hK.out _ _ ⟨(blk_cell BK244.out 0).trans rfl, (blk_cell BK244.out 1).trans rfl, (blk_cell BK244.out 2).trans rfl, (blk_cell BK244.out 3).trans rfl, (blk_cell BK244.out 4).trans rfl, (blk_cell BK244.out 5).trans rfl⟩ (fun hHeld => ?_)
          clear hK K
          refine norm_ (a' := ?_) ?_ ?_
          rotate_left
          · show Act.put _ (some 30) _ = _
            simp only [Act.put, List.setIfInBounds_toArray, List.set_cons_zero, List.set_cons_succ, i64_w, i32_w]
            rfl
          refine pure_ (i := 4) (N := some 31) (v := ?_) (a' := ?_) #[true, true, true, true, true, true, true, false, false, true, true, false, false, false] rfl rfl (any_of HT_.out (by kernel_rfl)) (fun _ _ _ h => h) (Or.inl ⟨by rfl, ?_⟩) ?_ ?_
          rotate_left
          · intro w'
            go_simp
            with_reducible rfl
          rotate_left
          · simp only [Act.put, List.setIfInBounds_toArray, List.set_cons_zero, List.set_cons_succ, i64_w, i32_w]
            rfl
          refine one_ (i := 7) (N := some 34) #[true, true, true, true, true, true, true, true, false, true, true, false, false, false] rfl rfl (one_of HT_.out (by kernel_rfl)) (by decide) (fun K hK => ?_)
          refine goes_ Tryz.func148 (by kernel_rfl) rfl #[.string a0_4] (by rfl) rfl rfl (by (try simp only [List.map_toArray, List.map_cons, List.map_nil]); first | done | rfl | (simp only [List.length_drop, List.length_take]; rfl)) ?_
          with_reducible refine (monticuleref01_Text.calls k a0_4 t251 _ A20.out).mono ?_
          rintro e w30 ⟨rfl, hb⟩
          refine ⟨_, rfl, ?_⟩
          have n0_ := Aside0.mk (blk_below (g := gb244) (o := .cells #[.int .i64 a0_0, .string a0_1, .string a0_2, .slice A0_3 l0_3.length c0_3, .string a0_4, .string a0_5] 33 (0, 0)) (by (with_reducible repeat (first | refine blk_drewN ?_ _ | refine blk_drew ?_ | refine blk_alloc ?_ _)); exact BK244.out) hb)
          have n1_ := Aside0.mk (below_step (by repeat (first | (with_reducible first | exact HB.out | apply below_alloc | apply pw_below_drewN | apply below_drew1 | refine below_set ?_ GE244.out) | exact HB.out)) hb)
          clear BK244
          clear HB
          have BK244 := n0_
          have HB := n1_
          clear n0_ n1_
          (try clear hb)
          (try clear hb2)
          (try clear hk)
          (try clear hi)
          refine hK.out _ _ ⟨(blk_cell BK244.out 0).trans rfl, (blk_cell BK244.out 1).trans rfl, (blk_cell BK244.out 2).trans rfl, (blk_cell BK244.out 3).trans rfl, (blk_cell BK244.out 4).trans rfl, (blk_cell BK244.out 5).trans rfl⟩ (fun hHeld => ?_)
          clear hK K
          refine norm_ (a' := ?_) ?_ ?_
          rotate_left
          · show Act.put _ (some 34) _ = _
            simp only [Act.put, List.setIfInBounds_toArray, List.set_cons_zero, List.set_cons_succ, i64_w, i32_w]
            rfl
          refine pure_ (i := 8) (N := some 35) (v := ?_) (a' := ?_) #[true, true, true, true, true, true, true, true, true, true, true, false, false, false] rfl rfl (any_of HT_.out (by kernel_rfl)) (fun _ _ _ h => h) (Or.inl ⟨by rfl, ?_⟩) ?_ ?_
          rotate_left
          · intro w'
            go_simp
            with_reducible rfl
          rotate_left
          · simp only [Act.put, List.setIfInBounds_toArray, List.set_cons_zero, List.set_cons_succ, i64_w, i32_w]
            rfl
          refine one_ (i := 11) (N := some 38) #[true, true, true, true, true, true, true, true, true, true, true, true, false, false] rfl rfl (one_of HT_.out (by kernel_rfl)) (by decide) (fun K hK => ?_)
          refine goes_ Tryz.func148 (by kernel_rfl) rfl #[.string a0_5] (by rfl) rfl rfl (by (try simp only [List.map_toArray, List.map_cons, List.map_nil]); first | done | rfl | (simp only [List.length_drop, List.length_take]; rfl)) ?_
          with_reducible refine (monticuleref01_Text.calls k a0_5 t252 _ A22.out).mono ?_
          rintro e w31 ⟨rfl, hb⟩
          refine ⟨_, rfl, ?_⟩
          have n0_ := Aside0.mk (blk_below (g := gb244) (o := .cells #[.int .i64 a0_0, .string a0_1, .string a0_2, .slice A0_3 l0_3.length c0_3, .string a0_4, .string a0_5] 33 (0, 0)) (by (with_reducible repeat (first | refine blk_drewN ?_ _ | refine blk_drew ?_ | refine blk_alloc ?_ _)); exact BK244.out) hb)
          have n1_ := Aside0.mk (below_step (by repeat (first | (with_reducible first | exact HB.out | apply below_alloc | apply pw_below_drewN | apply below_drew1 | refine below_set ?_ GE244.out) | exact HB.out)) hb)
          clear BK244
          clear HB
          have BK244 := n0_
          have HB := n1_
          clear n0_ n1_
          (try clear hb)
          (try clear hb2)
          (try clear hk)
          (try clear hi)
          refine hK.out _ _ ⟨(blk_cell BK244.out 0).trans rfl, (blk_cell BK244.out 1).trans rfl, (blk_cell BK244.out 2).trans rfl, (blk_cell BK244.out 3).trans rfl, (blk_cell BK244.out 4).trans rfl, (blk_cell BK244.out 5).trans rfl⟩ (fun hHeld => ?_)
          clear hK K
          refine norm_ (a' := ?_) ?_ ?_
          rotate_left
          · show Act.put _ (some 38) _ = _
            simp only [Act.put, List.setIfInBounds_toArray, List.set_cons_zero, List.set_cons_succ, i64_w, i32_w]
            rfl
          refine pure_ (i := 12) (N := some 39) (v := ?_) (a' := ?_) #[true, true, true, true, true, true, true, true, true, true, true, true, true, false] rfl rfl (any_of HT_.out (by kernel_rfl)) (fun _ _ _ h => h) (Or.inl ⟨by rfl, ?_⟩) ?_ ?_
          rotate_left
          · intro w'
            go_simp
            with_reducible rfl
          rotate_left
          · simp only [Act.put, List.setIfInBounds_toArray, List.set_cons_zero, List.set_cons_succ, i64_w, i32_w]
            rfl
          refine pure_ (i := 13) (N := some 2) (v := ?_) (a' := ?_) #[true, true, true, true, true, true, true, true, true, true, true, true, true, true] rfl rfl (any_of HT_.out (by kernel_rfl)) (fun _ _ _ h => h) (Or.inl ⟨by rfl, ?_⟩) ?_ ?_
          rotate_left
          · intro w'
            go_simp
            with_reducible rfl
          rotate_left
          · simp only [Act.put, List.setIfInBounds_toArray, List.set_cons_zero, List.set_cons_succ, i64_w, i32_w]
            rfl
          refine done_ (done_of HT_.out (by kernel_rfl)) ?_
          try go_wp2
          go_ret
          exact ⟨by first | rfl | (simp [errW_none, errW_some] <;> rfl) | (simp [*, errW_none, errW_some] <;> rfl), by repeat (first | (with_reducible first | exact HB.out | apply below_alloc | apply pw_below_drewN | apply below_drew1 | refine below_set ?_ GE244.out) | exact HB.out)⟩
        · rw [if_neg c23] at H
          exact absurd H (by simp)
      · rw [if_neg c21] at H
        exact absurd H (by simp)
    · rw [if_neg c19] at H
      exact absurd H (by simp)

end Go.Proofs.YtodpdlpncgkkdaaGreatDoor.P
end
