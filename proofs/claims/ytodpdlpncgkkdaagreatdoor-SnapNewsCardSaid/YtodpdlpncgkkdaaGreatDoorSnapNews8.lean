/- For every input law08.SnapNews answers true: New, Get and All agree with the reference, and the order of definitions does not matter; no condition. (Part 8 of what it rests on.) -/
import Derived.Test.YtodpdlpncgkkdaaGreatDoorSnapNews6
import Derived.Shelf.RegionOpen
set_option linter.unusedVariables false
set_option linter.unusedSimpArgs false
section
namespace Go.Proofs.YtodpdlpncgkkdaaGreatDoor
open Go.RowKit Go.Proofs.YtodpdlpncgkkdaaGreatDoorW.PrintWords Go.Shelf Go.Maps
attribute [local go_sem] Oper.semAt_some

/-- A single result that lies in a cell, of a type that is no row. -/
theorem results_cell1 {P : Program} {fn : Func} {p : Tmp} {ty : TypeId} (h : fn.results = #[.cell p ty]) (tmps : Array Value) (w : World) (g : Nat) (v : Value)
    (hp : tmps.getD p undef = .pointer (some ⟨g, 0, none⟩)) (hc : w.cell? ⟨g, 0, none⟩ = some v) (hd : (isAgg ty).run P w = .ok false w) :
    (results fn tmps).run P w = .ok v w := by
  have hp' : tmps[p]?.getD undef = .pointer (some ⟨g, 0, none⟩) := by simpa using hp
  simp [results, h, hp', asAddr, loadVar, hd, hc, go_sem]
theorem own_cell {W W' : World} {row : Option Nat} (hg : W.grownBy W' row) (hr : ∀ r, row = some r → ∃ o : Obj, W.heap[r]? = some o ∧ o.isCells = false) {a : Addr} {v : Value} (hc : W.cell? a = some v) : W'.cell? a = some v := by
  have hlt : a.block < W.heap.size := World.block_lt_of_cell? _ _ hc
  have hne : some a.block ≠ row := by
    intro e
    obtain ⟨o, ho, hn⟩ := hr a.block e.symm
    cases o <;> simp_all [World.cell?, Obj.isCells]
  have := hg.block a.block hlt hne
  simpa [World.cell?, this] using hc
theorem RoundKeeps.refl (n0 B1 : Nat) (W : World) : RoundKeeps n0 B1 W W := ⟨Nat.le_refl _, Below.refl _ _, fun _ _ _ _ h => h, fun _ _ _ _ h => h⟩
theorem RoundKeeps.setBox {n0 B1 : Nat} {W : World} {g : Nat} {t : TypeId} {v : Value} (hb : Boxed W g t v) (hg : n0 ≤ g) (ht : t ≠ 25) (ht' : t ≠ 9) (u : Value) : RoundKeeps n0 B1 W (W.setCell ⟨g, 0, none⟩ u) := by
  have hne : ∀ (k : Nat) (c : Array Value) (q : TypeId) (fr : Nat × Nat), q ≠ t → W.heap[k]? = some (Obj.cells c q fr) → (W.setCell ⟨g, 0, none⟩ u).heap[k]? = some (Obj.cells c q fr) := fun k c q fr hq hk => by
    have hkg : k ≠ g := by
      intro e; subst e
      rw [show W.heap[k]? = _ from hb] at hk
      cases hk
      exact hq rfl
    have := (grownBy_setCell' W g u).block k (Array.getElem?_eq_some_iff.1 hk).1 (by intro e; cases e; exact hkg rfl)
    exact this.trans hk
  exact ⟨(grownBy_setCell' W g u).size, (Below.refl _ W).setCell (p := ⟨g, 0, none⟩) hg _, fun k c fr _ h => hne k c _ fr (Ne.symm ht) h, fun k c fr _ h => hne k c _ fr (Ne.symm ht') h⟩

set_option maxHeartbeats 20000000 in
set_option maxRecDepth 100000 in
theorem law_is_calls (v : Value) (m : Keyed2) (A : Option Addr) (c : Nat) (l : List Def) (w : World) (h : SnapAt w v m) (hr : Kd.C P.k33 w A l.length l) (hm : m.length ≤ 500) (hv : ∀ d ∈ defsL m, d.f3.length * 16 ≤ 140737488355328) (hk : ∀ k ∈ keysL m, k.length ≤ maxLen) :
    Calls Tryz.prog 25 #[v, .slice A l.length c] w fun e w' => e = .returned (.bool (decide (defsL m = l))) ∧ Below w.heap.size w w' := by
  have HS := Lib.hid h
  have HC := Lib.hid hr
  clear h hr
  refine callsIn_wide (n := 6).1 (callsIn_of_wp_marks Tryz.func25 rfl trivial ?_ rfl)
  simp only [Tryz.ntmps25, List.size_toArray, List.length_cons, List.length_nil, Nat.reduceAdd, Nat.reduceSub, Array.replicate_succ, Array.replicate_zero, List.push_toArray, List.append_toArray, List.nil_append, List.cons_append]
  have hlen : ((m.length : Int) == (l.length : Int)) = decide (m.length = l.length) := by
    rw [Bool.eq_iff_iff]; simp; omega
  gi_wp2_with fail
  have bR := Boxed.new (w.alloc (.cells #[.slice A l.length c] 22)) 4 (.bool false)
  have bL := (Boxed.new w 22 (.slice A l.length c)).alloc (.cells #[.bool false] 4)
  have hB0 : Below w.heap.size w ((w.alloc (.cells #[.slice A l.length c] 22)).alloc (.cells #[.bool false] 4)) := ((Below.refl _ w).alloc (Nat.le_refl _) _).alloc (by simp) _
  have hsz : ((w.alloc (.cells #[.slice A l.length c] 22)).alloc (.cells #[.bool false] 4)).heap.size = w.heap.size + 2 := by simp
  simp only [World.size_alloc] at bR
  obtain ⟨W0, hW0⟩ : ∃ W0, (w.alloc (.cells #[.slice A l.length c] 22)).alloc (.cells #[.bool false] 4) = W0 := ⟨_, rfl⟩
  rw [hW0] at bR bL hB0 hsz ⊢
  clear hW0
  have cL := bL.cell
  have fR := bR.frozen
  have cR := bR.cell
  have HS0 := Lib.hid (HS.out.below hB0)
  have HC0 := Lib.hid (Kd.C_below HC.out hB0)
  have hmix : Tryz.prog.follows .mixedOrders = true := by kernel_rfl
  have HB0 := Lib.hid hB0
  clear hB0
  gi_cut [11] from 7 (fun t11 wx => t11 = .bool (!decide (m.length = l.length)) ∧ wx = W0.drew)
  case first =>
    have hne : ((m.length : Int) != (l.length : Int)) = (!decide (m.length = l.length)) := by simp [bne, hlen]
    first | gi_region_with_o ((refine ⟨trivial, (callsIn_wide.2 (len_calls v m _ ?_)).mono ?_⟩; (next => (repeat (first | exact HS0.out | refine SnapAt.below ?_ (Below.refl _ _).drew))); rintro e w' ⟨rfl, rfl⟩)) | fail
    all_goals gi_wp2_with fail
    all_goals gi_meet
    all_goals exact ⟨rfl, rfl⟩
  obtain ⟨rfl, rfl⟩ := hcut
  by_cases hl : m.length = l.length
  rotate_left
  · rw [decide_eq_false hl]
    gi_wp2_with fail
    refine ⟨_, results_cell1 rfl _ _ _ _ rfl ((World.cell?_setCell_same' _ _ _ (by rw [cR]; rfl))) (by kernel_rfl), ?_, ?_⟩
    · have : defsL m ≠ l := by
        intro e
        apply hl
        rw [← e]; simp [defsL]
      simp [this]
    · exact (HB0.out.drew).setCell (p := ⟨w.heap.size + 1, 0, none⟩) (by simp) _
  · rw [decide_eq_true hl]
    gi_wp2_with fail
    obtain ⟨p, rfl⟩ : ∃ p, v = .pointer p := by
      rcases HS.out with ⟨e, _⟩ | ⟨a, b, e, _⟩
      · exact ⟨_, e⟩
      · exact ⟨_, e⟩
    refine ⟨trivial, (callsIn_wide.2 (all_make p _)).mono ?_⟩
    rintro e w' ⟨rfl, rfl⟩
    gi_wp2_with fail
    have bI0 := Boxed.new W0 3 (.int .i64 0)
    rw [hsz] at bI0
    have bI1 := bI0.alloc (.cells #[.pointer p] 25)
    have bB1 := Boxed.new (W0.alloc (.cells #[.int .i64 0] 3)) 25 (.pointer p)
    rw [World.size_alloc, hsz] at bB1
    have bR1 := (bR.alloc (.cells #[.int .i64 0] 3)).alloc (.cells #[.pointer p] 25)
    have bL1 := (bL.alloc (.cells #[.int .i64 0] 3)).alloc (.cells #[.pointer p] 25)
    have hB1 : Below w.heap.size w ((W0.alloc (.cells #[.int .i64 0] 3)).alloc (.cells #[.pointer p] 25)).drew := ((HB0.out.alloc (by omega) _).alloc (by simp; omega) _).drew
    have hsz2 : ((W0.alloc (.cells #[.int .i64 0] 3)).alloc (.cells #[.pointer p] 25)).drew.heap.size = w.heap.size + 4 := by simp [hsz]
    obtain ⟨W1, hW1⟩ : ∃ W1, ((W0.alloc (.cells #[.int .i64 0] 3)).alloc (.cells #[.pointer p] 25)).drew = W1 := ⟨_, rfl⟩
    have bI2 : Boxed W1 (w.heap.size + 2) 3 (.int .i64 0) := by rw [← hW1]; exact bI1
    have bB0 : Boxed W1 (w.heap.size + 3) 25 (.pointer p) := by rw [← hW1]; exact bB1
    have bR2 : Boxed W1 (w.heap.size + 1) 4 (.bool false) := by rw [← hW1]; exact bR1
    have bL2 : Boxed W1 w.heap.size 22 (.slice A l.length c) := by rw [← hW1]; exact bL1
    clear bI0 bI1 bR1 bL1 bB1 bL bR cL fR cR HS0 HC0 HB0 hsz hlen
    rw [hW1] at hB1 hsz2 ⊢
    clear hW1
    refine rangeFunc_pre rfl (by omega) (gf := 155) (lb := #[.pointer (some ⟨w.heap.size + 3, 0, none⟩)]) rfl trivial (enters_of Tryz.func155 (by kernel_rfl) rfl)
      (all_seq _ m (w.heap.size + 3) w W1 _ HS.out hB1 bB0 (by omega) hm hv hk) RoundKeeps.trans (fun W l o o' hl h hc hw => RoundKeeps.book (w := W1) (by omega) W l o o' hl h hc hw) (Below.refl _ _) (fun _ => rfl)
      (fun pre W => ((Boxed W w.heap.size 22 (.slice A l.length c) ∧ Boxed W (w.heap.size + 1) 4 (.bool false)) ∧ Boxed W (w.heap.size + 2) 3 (.int .i64 pre.length)) ∧ (Below w.heap.size w W ∧ (pre.length ≤ l.length ∧ pre.map (·.1) = l.take pre.length)))
      (fun c pre W => c = .ret ∧ (Boxed W (w.heap.size + 1) 4 (.bool false) ∧ (Below w.heap.size w W ∧ ¬ pre.map (·.1) <+: l)))
      (OwnFrom.and (OwnFrom.and (OwnFrom.and (Own.from (boxed_own _ _ _) _) (Own.from (boxed_own _ _ _) _)) (Own.from (boxed_own _ _ _) _)) (OwnFrom.and (ownFrom_below (Nat.le_refl _) (by omega)) (ownFrom_pure _ _)))
      (fun c => OwnFrom.and (ownFrom_pure _ _) (OwnFrom.and (Own.from (boxed_own _ _ _) _) (OwnFrom.and (ownFrom_below (Nat.le_refl _) (by omega)) (ownFrom_pure _ _))))
      ⟨⟨⟨bL2, bR2⟩, bI2⟩, hB1, by simp, by simp⟩
      (fun _ x a' W => ∃ Bx, w.heap.size + 2 < Bx ∧ W.heap[Bx]? = some (.cells #[.int .i64 x.1.f0, .string x.1.f1, .string x.1.f2, .slice x.2.1 x.1.f3.length x.2.2, .string x.1.f4, .string x.1.f5] 33 (0, 0)) ∧ x.1.f3.length ≤ x.2.2 ∧ Kd.C Kd.string W x.2.1 x.1.f3.length x.1.f3 ∧ a' = { tmps := #[.pointer p, .slice A l.length c, undef, .pointer (some ⟨w.heap.size, 0, none⟩), .pointer (some ⟨w.heap.size + 1, 0, none⟩), .pointer (some ⟨w.heap.size + 2, 0, none⟩), .pointer (some ⟨Bx, 0, none⟩), u7, u8, u9, u10, .bool false, .pointer p, .func (.func 155) #[] #[.pointer (some ⟨w.heap.size + 3, 0, none⟩)], elemV x, u15, u16, u17, u18, u19, u20, u21, u22, u23, u24, u25, u26, u27, u28, u29, u30, u31, u32, u33], defers := [] })
      ?_ ?_ ?_ ?_ ?_
    · rintro _ x a' _ X Y row ⟨Bx, h1, h2, h3, h4, h5⟩ hg hr
      refine ⟨Bx, h1, ?_, h3, ?_, h5⟩
      · refine (hg.block Bx (Array.getElem?_eq_some_iff.1 h2).1 ?_).trans h2
        intro e
        obtain ⟨_, o, ho, hn⟩ := hr Bx e.symm
        rw [h2] at ho
        cases ho
        cases hn
      · exact C_keeps h4 (fun a v hc => own_cell hg (fun r e => (hr r e).2) hc)
    · rintro ln pre x W K ⟨⟨⟨bL, bR⟩, bI⟩, hB, hp1, hp2⟩ ⟨he, hl5, hC, _⟩ hK
      dsimp only [elemV]
      have HA := below_then hB hB.size ((Below.refl _ W).alloc (Nat.le_refl _) (.cells #[.int .i64 x.1.f0, .string x.1.f1, .string x.1.f2, .slice x.2.1 x.1.f3.length x.2.2, .string x.1.f4, .string x.1.f5] 33))
      gi_wp2
      refine hK _ _ ((KeepsOthers.alloc _ _).from _) (RoundKeeps.of_below hB.size ((Below.refl _ W).alloc (Nat.le_refl _) _)) ⟨⟨⟨bL.alloc _, bR.alloc _⟩, bI.alloc _⟩, HA, hp1, hp2⟩ ⟨W.heap.size, ?_, heap_alloc_new W _, hl5, Kd.C_alloc hC _, rfl⟩
      exact bI.lt
    · rintro ln pre x a' W hln ⟨r, hr⟩ ⟨⟨⟨bL, bR⟩, bI⟩, hB, hp1, hp2⟩ ⟨Bx, hBx, hbox, hl5, hC, rfl⟩
      have cL := bL.cell
      have cI := bI.cell
      have cR := bR.cell
      have fR := bR.frozen
      have fI := bI.frozen
      obtain ⟨x0, x1, x2, x3, x4, x5⟩ := box6 hbox
      have HC6 := Lib.hid hC
      have HCl := Lib.hid (Kd.C_below HC.out hB)
      have HBx := Lib.hid hbox
      clear hC hbox
      dsimp only [elemV]
      gi_wp2_with fail
      obtain ⟨ok, hok⟩ : ∃ ok, decide (l[pre.length]? = some x.1) = ok := ⟨_, rfl⟩
      have HOK := Lib.hid hok
      clear hok
      gi_cut [27] from 15 (fun t27 wx => t27 = .bool (!ok) ∧ Below W.heap.size W wx)
      case first =>
        by_cases hlt : pre.length < l.length
        · have hge : decide ((l.length : Int) ≤ (pre.length : Int)) = false := by simp; omega
          obtain ⟨ad, A3, c3, hA, q0, q1, q2, q3, q4, q5, hl3, hC3⟩ := P.at_T33 HCl.out (pre.length : Int) (by omega) (by omega)
          subst hA
          have hd : P.rd_T33 l (pre.length : Int) = l[pre.length] := by simp [P.rd_T33, hlt]
          rw [hd] at q0 q1 q2 q3 q4 q5 hl3 hC3
          rw [Int.toNat_natCast] at q0 q1 q2 q3 q4 q5
          obtain ⟨d, hde⟩ : ∃ d, l[pre.length] = d := ⟨_, rfl⟩
          have hopt : l[pre.length]? = some d := by rw [List.getElem?_eq_getElem hlt, hde]
          rw [hde] at q0 q1 q2 q3 q4 q5 hl3 hC3
          have HE : Hid (decide (x.1 = d) = ok) := by
            show decide (x.1 = d) = ok
            rw [← HOK.out, hopt, Bool.eq_iff_iff]
            simp [eq_comm]
          have hgn : decide (l.length ≤ pre.length) = false := by simp; omega
          have HC3 := Lib.hid hC3
          clear hC3 hopt hde hd
          first | gi_region_with_o ((refine ⟨trivial, (callsIn_wide.2 (ref_same_calls _ _ x.1 d _ ⟨_, _, rfl, hl5, ?_⟩ ⟨_, _, rfl, hl3, ?_⟩)).mono ?_⟩; (next => exact HC6.out); (next => exact HC3.out); rintro e W2 ⟨rfl, hb2⟩; have HB2 := Lib.hid hb2; clear hb2)) | fail
          all_goals gi_wp2_with fail
          all_goals gi_meet
          all_goals exact ⟨by rw [HE.out], by first | exact HB2.out | exact (Below.refl _ _).drew.trans HB2.out⟩
        · have hge : decide ((l.length : Int) ≤ (pre.length : Int)) = true := by simp; omega
          have hoo : Hid (ok = false) := by
            show ok = false
            rw [← HOK.out, List.getElem?_eq_none (by omega)]
            simp
          have hgn : decide (l.length ≤ pre.length) = true := by simp; omega
          first | gi_region_with_o (refine ⟨trivial, ?_⟩) | fail
          all_goals gi_wp2_with fail
          all_goals gi_meet
          all_goals exact ⟨by rw [hoo.out]; rfl, (Below.refl _ _).drew⟩
      obtain ⟨rfl, hb2⟩ := hcut
      have bL2 : Boxed wc w.heap.size 22 (.slice A l.length c) := (hb2.block _ bL.lt).trans bL
      have bR2 : Boxed wc (w.heap.size + 1) 4 (.bool false) := (hb2.block _ bR.lt).trans bR
      have bI2 : Boxed wc (w.heap.size + 2) 3 (.int .i64 pre.length) := (hb2.block _ bI.lt).trans bI
      have cI2 := bI2.cell
      have fI2 := bI2.frozen
      have cR2 := bR2.cell
      have fR2 := bR2.frozen
      have hk2 : KeepsFrom W1.heap.size W wc := KeepsFrom.of_grownBy (grown_of_below hb2 none) (fun j e => by cases e)
      have hr2 : RoundKeeps w.heap.size W1.heap.size W wc := RoundKeeps.of_below hB.size hb2
      have hB2 := below_then hB hB.size hb2
      clear cL cI cR fR fI x0 x1 x2 x3 x4 x5
      cases ok with
      | false =>
        gi_wp2_with fail
        refine ⟨hk2.trans ((KeepsOthers.setCell _ _ _).from _), rfl, bR2.set _, hB2.setCell (p := ⟨w.heap.size + 1, 0, none⟩) (by simp) _, ?_⟩
        rintro ⟨t, ht⟩
        have h1 : l[pre.length]? = some x.1 := by rw [← ht]; simp
        have := HOK.out
        rw [h1] at this
        simp at this
      | true =>
        have h1 : l[pre.length]? = some x.1 := of_decide_eq_true HOK.out
        obtain ⟨hlt, h2⟩ := List.getElem?_eq_some_iff.1 h1
        gi_wp2_with fail
        refine ⟨hk2.trans ((KeepsOthers.setCell _ _ _).from _), hr2.trans (RoundKeeps.setBox bI2 (by omega) (by decide) (by decide) _), ⟨⟨bL2.other (by omega) _, bR2.other (by omega) _⟩, ?_⟩, hB2.setCell (p := ⟨w.heap.size + 2, 0, none⟩) (by simp) _, by simp; omega, ?_⟩
        · have := bI2.set (.int .i64 ((pre ++ [x]).length : Nat))
          simpa using this
        · rw [List.map_append, hp2]
          simp only [List.map_cons, List.map_nil, List.length_append, List.length_cons, List.length_nil]
          rw [List.take_succ_eq_append_getElem hlt, h2]
    · rintro D xs W hD hS ⟨⟨⟨bL, bR⟩, bI⟩, hB, hp1, hp2⟩ hK
      have cL := bL.cell
      have cI := bI.cell
      have cR := bR.cell
      have fR := bR.frozen
      have hx : xs.length = m.length := by
        have := congrArg List.length hS
        simpa [defsL] using this
      gi_wp2_with fail
      have hK2 : (W.setCell ⟨w.heap.size + 1, 0, none⟩ (.bool true)).heap[D]? = some (.deferred (some [])) := ((grownBy_setCell' W _ _).block D (Array.getElem?_eq_some_iff.1 hK).1 (by intro e; injection e with e; omega)).trans hK
      have hB2 : Below w.heap.size w (W.setCell ⟨w.heap.size + 1, 0, none⟩ (.bool true)) := hB.setCell (p := ⟨w.heap.size + 1, 0, none⟩) (by simp) _
      have bR3 := (bR.set (.bool true)).kept (grownBy_putObj' _ D (.deferred none)) (by intro e; injection e with e; omega)
      have heq : decide (defsL m = l) = true := by
        rw [decide_eq_true_iff, ← hS, hp2, List.take_of_length_le (by omega)]
      refine ⟨by simp, .inl ⟨_, _, rfl, run_takeDeferred hK2, ?_⟩⟩
      exact ⟨_, results_cell1 rfl _ _ _ _ rfl bR3.cell (by kernel_rfl), by rw [heq], hB2.trans (belowK_b (w := w) (Nat.le_refl _) _ D _ _ (by omega) hK2 rfl rfl)⟩
    · rintro D cc pre W hD hS ⟨rfl, bR, hB, hp⟩ hK
      have bR3 := bR.kept (grownBy_putObj' _ D (.deferred none)) (by intro e; injection e with e; omega)
      have heq : decide (defsL m = l) = false := by
        rw [decide_eq_false_iff_not]
        rintro rfl
        exact hp hS
      gi_wp2_with fail
      refine ⟨by simp, .inl ⟨_, _, rfl, run_takeDeferred hK, ?_⟩⟩
      exact ⟨_, results_cell1 rfl _ _ _ _ rfl bR3.cell (by kernel_rfl), by rw [heq], hB.trans (belowK_b (w := w) (Nat.le_refl _) _ D _ _ (by omega) hK rfl rfl)⟩
end Go.Proofs.YtodpdlpncgkkdaaGreatDoor
end
