/- For every input law08.SnapNews answers true: New, Get and All agree with the reference, and the order of definitions does not matter; no condition. (Part 12 of what it rests on.) -/
import Derived.Test.YtodpdlpncgkkdaaGreatDoorSnapNews1
import Derived.Test.YtodpdlpncgkkdaaGreatDoorRows
import Derived.Test.YtodpdlpncgkkdaaGreatDoorSnapNews11
import Derived.Deep.Slices
import Derived.Deep.Fields
import Derived.ChangeSame
import Derived.WalkKit
import Derived.ProofKit
import Derived.OpenShut
import Derived.ShutString
import Derived.ChangeOld
import Derived.Below
import Derived.SizedLaws
import Derived.LaidMore
import Derived.Lay
import Derived.SevenTiedAt
import Derived.Stop.Joined
set_option linter.unusedVariables false
set_option linter.unusedSimpArgs false
section
namespace Go.Proofs.YtodpdlpncgkkdaaGreatDoor
open Go.RowKit Go.Proofs.YtodpdlpncgkkdaaGreatDoorW.PrintWords Go.ChangeShapes Go.WideShapes Go.Deep

/-- Whatever the form reads at this type is some datum of this kind. -/
def Opens {α : Type} (d : Kd α) (t : TypeId) : Prop :=
  ∀ (H : Type) (enc : TypeId × Value → H) (W : World) (base : Nat) (spare : Nat → Bool) (held : Bool) (fuel : Nat) (cs : List Value) (x : DataW H × List MemPlace), DataW.trod enc Tryz.prog W base spare held fuel t cs = some x → ∃ a, d.K W a cs
theorem opens_int {k : IntKind} {t : TypeId} (ht : Tryz.prog.underlying t = some (.int k)) : Opens (Kd.int k) t := fun H enc W base spare held fuel cs x h => by
  obtain ⟨n, rfl, _⟩ := DataW.trod_int ht h
  exact ⟨n, rfl⟩
theorem opens_string {t : TypeId} (ht : Tryz.prog.underlying t = some .string) : Opens Kd.string t := fun H enc W base spare held fuel cs x h => by
  obtain ⟨s, rfl, _⟩ := DataW.trod_string ht h
  exact ⟨s, rfl⟩
theorem choose_list {α : Type} {p : Nat → α → Prop} : ∀ n : Nat, (∀ i, i < n → ∃ x, p i x) → ∃ l : List α, l.length = n ∧ ∀ i x, l[i]? = some x → p i x
  | 0, _ => ⟨[], rfl, fun i x h => by simp at h⟩
  | n + 1, h => by
    obtain ⟨l, hl, hp⟩ := choose_list n fun i hi => h i (by omega)
    obtain ⟨x, hx⟩ := h n (by omega)
    refine ⟨l ++ [x], by simp [hl], fun i y hy => ?_⟩
    by_cases e : i < n
    · rw [List.getElem?_append_left (by omega)] at hy
      exact hp i y hy
    · rw [List.getElem?_append_right (by omega), hl] at hy
      by_cases e2 : i = n
      · subst e2
        simp at hy
        subst hy
        exact hx
      · rw [List.getElem?_singleton] at hy
        rw [if_neg (by omega)] at hy
        cases hy
theorem opens_slice {α : Type} {d : Kd α} {t e : TypeId} (ht : Tryz.prog.underlying t = some (.slice e)) (hd : Opens d e) (hC : Tryz.prog.cellsOf e = d.sz) : Opens (Kd.slice e d) t := fun H enc W base spare held fuel cs x h => by
  rcases open_slice ht h with ⟨rfl, _⟩ | ⟨a, len, cap, m, n, D, Pl, rfl, hb, hl, hm, hmm, _, hi⟩
  · exact ⟨[], none, 0, rfl, Nat.le_refl _, rfl, Nat.zero_le _, fun h => absurd h (Nat.lt_irrefl 0)⟩
  · have hlm : len ≤ m := by rw [hmm]; split <;> omega
    obtain ⟨l, hll, hp⟩ := choose_list (p := fun i (x : α) => ∃ c : List Value, c.length = d.sz ∧ d.K W x c ∧ ∀ j u, c[j]? = some u → W.cell? (a.add (i * d.sz + j)) = some u) len fun i hil => by
      obtain ⟨cs', hc, ht'⟩ := hi i (by omega)
      obtain ⟨_, hcl, hat⟩ := World.cells?_some hc
      obtain ⟨y, hy⟩ := hd H enc W base spare held n cs' _ ht'
      refine ⟨y, cs', d.K_len hy, hy, fun j u hu => ?_⟩
      have hj : j < cs'.length := (List.getElem?_eq_some_iff.1 hu).1
      have h2 := hat j (by omega)
      rw [hC] at h2
      rw [← Go.Deep.add_add, h2, hu]
    subst hll
    exact ⟨l, some a, cap, rfl, hl, rfl, by have : maxLen = 9223372036854775807 := rfl; omega, fun _ => ⟨a, rfl, fun j p hj => hp j p hj⟩⟩
noncomputable def fsDef : Array Field := match Tryz.prog.underlying 33 with | some (.struct fs) => fs | _ => #[]
theorem under_def : Tryz.prog.underlying 33 = some (.struct fsDef) := by kernel_rfl
theorem def_fields : fsDef.toList.map (fun f => (f.type, f.offset)) = [(3, 0), (9, 1), (9, 2), (31, 3), (9, 4), (9, 5)] := by kernel_rfl
theorem field_at {fs : Array Field} {l : List (TypeId × Nat)} (h : fs.toList.map (fun f => (f.type, f.offset)) = l) {j : Nat} {t : TypeId} {o : Nat} (hj : l[j]? = some (t, o)) : ∃ f, fs[j]? = some f ∧ f.type = t ∧ f.offset = o := by
  rw [← h, List.getElem?_map] at hj
  obtain ⟨f, hf, e⟩ := Option.map_eq_some_iff.1 hj
  injection e with e1 e2
  exact ⟨f, by simpa using hf, e1, e2⟩
theorem struct_field {H : Type} {enc : TypeId × Value → H} {P : Program} {W : World} {base : Nat} {spare : Nat → Bool} {held : Bool} {n : Nat} {cs : List Value} {xs : List (DataW H × List MemPlace)} {fs : Array Field} (hlen : xs.length = fs.size)
    (hf : ∀ (i : Nat) (f : Field), fs[i]? = some f → DataW.trod enc P W base spare held n f.type ((cs.drop f.offset).take (P.cellsOf f.type)) = xs[i]?) {l : List (TypeId × Nat)} (h : fs.toList.map (fun f => (f.type, f.offset)) = l) {j : Nat} {t : TypeId} {o k : Nat} (hj : l[j]? = some (t, o)) (hk : P.cellsOf t = k) :
    ∃ y, DataW.trod enc P W base spare held n t ((cs.drop o).take k) = some y := by
  obtain ⟨f, hfj, rfl, rfl⟩ := field_at h hj
  subst hk
  rw [hf j f hfj]
  have : j < xs.length := by rw [hlen]; exact (Array.getElem?_eq_some_iff.1 hfj).1
  exact ⟨xs[j], List.getElem?_eq_getElem this⟩
theorem opens_texts : Opens (Kd.slice 9 Kd.string) 31 := opens_slice Tryz.underlying31 (opens_string Tryz.underlying9) (by kernel_rfl)
set_option maxRecDepth 100000 in
theorem opens_def : Opens P.k33 33 := fun H enc W base spare held fuel cs x h => by
  obtain ⟨xs, n, _, _, hl, hlen, hf⟩ := DataW.trod_struct under_def h
  have hc6 : cs.length = 6 := hl.trans (by kernel_rfl)
  obtain ⟨y0, h0⟩ := struct_field hlen hf def_fields (j := 0) rfl (show Tryz.prog.cellsOf 3 = 1 by kernel_rfl)
  obtain ⟨y1, h1⟩ := struct_field hlen hf def_fields (j := 1) rfl (show Tryz.prog.cellsOf 9 = 1 by kernel_rfl)
  obtain ⟨y2, h2⟩ := struct_field hlen hf def_fields (j := 2) rfl (show Tryz.prog.cellsOf 9 = 1 by kernel_rfl)
  obtain ⟨y3, h3⟩ := struct_field hlen hf def_fields (j := 3) rfl (show Tryz.prog.cellsOf 31 = 1 by kernel_rfl)
  obtain ⟨y4, h4⟩ := struct_field hlen hf def_fields (j := 4) rfl (show Tryz.prog.cellsOf 9 = 1 by kernel_rfl)
  obtain ⟨y5, h5⟩ := struct_field hlen hf def_fields (j := 5) rfl (show Tryz.prog.cellsOf 9 = 1 by kernel_rfl)
  match cs, hc6 with
  | [c0, c1, c2, c3, c4, c5], _ =>
    obtain ⟨f0, e0⟩ := opens_int Tryz.underlying3 H enc W base spare held n _ _ h0
    obtain ⟨f1, e1⟩ := opens_string Tryz.underlying9 H enc W base spare held n _ _ h1
    obtain ⟨f2, e2⟩ := opens_string Tryz.underlying9 H enc W base spare held n _ _ h2
    obtain ⟨f3, A, c, e3, hlc, hC⟩ := opens_texts H enc W base spare held n _ _ h3
    obtain ⟨f4, e4⟩ := opens_string Tryz.underlying9 H enc W base spare held n _ _ h4
    obtain ⟨f5, e5⟩ := opens_string Tryz.underlying9 H enc W base spare held n _ _ h5
    have g0 : [c0] = [_] := e0
    have g1 : [c1] = [_] := e1
    have g2 : [c2] = [_] := e2
    have g3 : [c3] = [_] := e3
    have g4 : [c4] = [_] := e4
    have g5 : [c5] = [_] := e5
    simp only [List.cons.injEq, and_true] at g0 g1 g2 g3 g4 g5
    subst g0 g1 g2 g3 g4 g5
    exact ⟨⟨f0, f1, f2, f3, f4, f5⟩, P.k33_mk W ⟨f0, f1, f2, f3, f4, f5⟩ hlc hC⟩
theorem opens_defs : Opens (Kd.slice 33 P.k33) 22 := opens_slice Tryz.underlying22 opens_def (by kernel_rfl)
/-- An argument that is a list of definitions. -/
theorem open_defs {H : Type} {enc : TypeId × Value → H} {W : World} {base : Nat} {spare : Nat → Bool} {held : Bool} {a : Option Addr} {len cap : Nat} {d : DataW H} {ps : List MemPlace}
    (h : DataW.Trod enc Tryz.prog W base spare held 22 (.slice a len cap) d ps) : ∃ l : List Def, l.length = len ∧ Kd.C P.k33 W a len l ∧ len ≤ cap := by
  obtain ⟨fuel, hf⟩ := h
  obtain ⟨l, A, c, e, hl, hC⟩ := opens_defs H enc W base spare held fuel _ _ hf
  have e : [Value.slice a len cap] = [_] := e
  simp only [List.cons.injEq, and_true, Value.slice.injEq] at e
  obtain ⟨rfl, rfl, rfl⟩ := e
  exact ⟨l, rfl, hC, hl⟩
end Go.Proofs.YtodpdlpncgkkdaaGreatDoor
end
section
namespace Go.Proofs.YtodpdlpncgkkdaaGreatDoor.snapNews
open Go.ChangeShapes Go.WideShapes Go.ChangeAt Go.RowKit
open Go.ChangeMaps (open_string shut_string)
theorem own : ownKnob Tryz.prog.godebug = none := by kernel_rfl
theorem laidOut : laidOutB Tryz.prog = true := by kernel_rfl
set_option maxRecDepth 100000 in
theorem lifted (os : Os) (started : os.Started) (H : Type) (enc : TypeId × Value → H) :
    ReturnsInHanded {} Tryz.checked os 3 .any (fun w args => (Rows.snapNewsSpec.pre enc Tryz.prog Tryz.f3 Rows.snapNewsRow.domain false w args ∧ laidMetH Tryz.prog Rows.snapNewsRow.laid w) ∧ sizedMet enc Tryz.prog Tryz.f3 (OpenSpec.ofChange Rows.snapNewsSpec) false w args)
      (Rows.snapNewsSpec.post enc Tryz.prog Tryz.f3 false true false false) := by
  refine returnsInHanded_of_change_and (C := Tryz.checked) (X := fun w _ => laidMetH Tryz.prog Rows.snapNewsRow.laid w) (fun _ _ _ hh h => h.of_heap hh) own started (by kernel_rfl) Tryz.func3
    (ChangeSpec.witness_shaped (enc := enc) (C := Tryz.checked) (os := os) (X := fun w _ => laidMetH Tryz.prog Rows.snapNewsRow.laid w) false (World.laidAll Tryz.prog os Rows.snapNewsRow.laid) #[.slice none 0 0, .string ByteArray.empty, .int .i64 0] 8 (World.laidAll_os _ _ _)
      (World.shaped_of_ZipB (by kernel_rfl) (by kernel_rfl)) (by kernel_rfl) (by kernel_rfl) (by kernel_rfl)
      (by rw [MakeChecks.laidMetH_plain _ _ _ (by kernel_rfl)]; exact laidMet_laidAll _ (by kernel_rfl) (by kernel_rfl))) ?_
  intro W base args ds gs before hval0 hW hcnd hsz0 _ _
  have hsz : (DataW.weightsEach Tryz.prog (Tryz.f3.params.toList ++ Rows.snapNewsSpec.plain.varTypes Tryz.prog) (ds ++ gs)).all (· ≤ reachBytes) = true := hsz0
  have hval : ∀ (j : Nat) t v, Tryz.f3.params[j]? = some t → args[j]? = some v → Value.okWide Tryz.prog W .any base t v := hval0
  have hW' := hW
  obtain ⟨p, q, hA0, hV, rfl, hfz, hnd⟩ := hW
  have hA : DataW.TrodAll enc Tryz.prog W 0 (fun _ => true) true Tryz.f3.params.toList args.toList ds p := hA0
  rw [Tryz.params3] at hA hval hsz
  obtain ⟨v0, vs0, d0, ds0, p0, q0, hargs, rfl, rfl, h0, r0⟩ := trodAll_cons hA
  obtain ⟨v1, vs1, d1, ds1, p1, q1, rfl, rfl, rfl, h1, r1⟩ := trodAll_cons r0
  obtain ⟨v2, vs2, d2, ds2, p2, q2, rfl, rfl, rfl, h2, r2⟩ := trodAll_cons r1
  obtain ⟨rfl, rfl, rfl⟩ := trodAll_nil r2
  obtain rfl : args = #[v0, v1, v2] := by cases args; simp_all
  obtain ⟨rfl, rfl⟩ := trodVars_none hV
  obtain ⟨a0, len0, cap0, rfl⟩ := okWide_slice Tryz.underlying22 (hval 0 22 v0 rfl rfl)
  have k0 := h0
  have lt0 : ∀ x ∈ p0, x.block < W.heap.size := by obtain ⟨m, hm⟩ := k0; exact DataW.trod_lt m _ _ _ hm
  obtain ⟨l0, rfl, hC0, hc0⟩ := open_defs h0
  obtain ⟨a1, rfl, rfl, rfl, y1⟩ := open_string Tryz.underlying9 (hval 1 9 v1 rfl rfl) h1
  obtain ⟨a2, rfl, rfl, rfl, w2⟩ := open_int Tryz.underlying3 (hval 2 3 v2 rfl rfl) h2
  clear hA0 hval0 hsz0 hsz
  refine (snapNews_calls a0 cap0 l0 a1 a2 W hC0 hc0 y1 w2).mono fun e W' ⟨he, bel⟩ => ?_
  subst he
  exact ⟨_, rfl, _, _, _, [], _, [], hW', trodAll_mk1 (shut_bool Tryz.underlying4 _), (trodAll_cons_mk (Below.trod laidOut (by kernel_rfl) (of_decide_eq_true (by kernel_rfl)) k0 bel lt0) (trodAll_cons_mk (shut_string Tryz.underlying9 y1) (trodAll_cons_mk (shut_int Tryz.underlying3 w2) trodAll_mk0))), rfl, bel.frame _, fun h => by cases h⟩
end Go.Proofs.YtodpdlpncgkkdaaGreatDoor.snapNews
end
