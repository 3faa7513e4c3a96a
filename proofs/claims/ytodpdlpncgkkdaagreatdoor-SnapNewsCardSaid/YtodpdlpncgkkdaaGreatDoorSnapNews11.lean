/- For every input law08.SnapNews answers true: New, Get and All agree with the reference, and the order of definitions does not matter; no condition. (Part 11 of what it rests on.) -/
import Derived.Test.YtodpdlpncgkkdaaGreatDoorSnapNews10
import Derived.Test.YtodpdlpncgkkdaaGreatDoorSnapNews8
import Derived.Test.YtodpdlpncgkkdaaGreatDoorSnapNews5
set_option linter.unusedVariables false
set_option linter.unusedSimpArgs false
section
namespace Go.Proofs.YtodpdlpncgkkdaaGreatDoor
open Go.RowKit Go.Proofs.YtodpdlpncgkkdaaGreatDoorW.PrintWords Go.Proofs.YtodpdlpncgkkdaaGreatDoorW.PrintLast Go.Shelf Go.Maps
attribute [local go_sem] Oper.semAt_some

def newsR.T : Bool × List (List Nat × List Nat) := (true, [([], []), ([], []), ([0, 1], [0, 1]), ([2, 2], [2]), ([3], [3]), ([4, 3], [3, 4]), ([3, 5], [3, 5]), ([6, 3], [6]), ([7], [7]), ([7], [7]), ([8, 9, 7, 7], [7, 8, 9]), ([7, 10], [7, 10]), ([11, 10], [11]), ([12], [12]), ([12], [12]), ([13, 14, 12, 12], [12, 13, 14]), ([12, 15], [12, 15]), ([16, 15], [16]), ([17], [17]), ([17], [17]), ([19, 17], [17, 19]), ([18, 20, 17], [17, 18, 20]), ([17, 21], [17, 21]), ([22, 17], [22]), ([23], [23]), ([24, 23], [23, 24]), ([25, 23, 23], [23, 25]), ([26], [26]), ([26], [26]), ([26], [26]), ([28, 29, 26], [26, 28, 29]), ([30, 26], [26, 30]), ([27, 31, 26, 26], [26, 27, 31]), ([26, 32, 23], [23, 26, 32]), ([23, 33], [23, 33]), ([34, 32], [34]), ([35], [35]), ([36, 35, 35], [35, 36]), ([37, 35], [35, 37]), ([35], [35]), ([39, 37, 35], [35, 39]), ([38, 40, 35], [35, 38, 40]), ([35, 41], [35, 41]), ([42, 40, 0, 1, 2, 3, 4, 5, 6, 7, 8, 9, 10, 11, 12, 13, 14, 15, 16, 17, 18, 19, 20, 21, 22, 23, 24, 25, 26, 27, 28, 29, 30, 31, 32, 33, 34, 35, 36, 37, 38, 39, 40, 41, 42], [42])])
def newsR.B : List Nat := [0, 0, 3, 7, 15, 31, 63, 127, 255, 255, 1023, 2047, 4095, 8191, 8191, 32767, 65535, 131071, 262143, 262143, 786431, 2097151, 4194303, 8388607, 16777215, 33554431, 67108863, 134217727, 134217727, 134217727, 939524095, 2013265919, 4294967295, 8589934591, 17179869183, 34359738367, 68719476735, 137438953471, 274877906943, 68719476735, 824633720831, 2199023255551, 4398046511103, 8796093022207]
theorem newsR.tab : rtab .any (opsOf Tryz.f3 19) = newsR.T := by kernel_rfl
theorem newsR.bits : waitsOk newsR.T.2 newsR.B = true := by kernel_rfl
theorem rest_f (turn : Int) (n : Nat) (h0 : 0 < n) (h1 : n ≤ 4294967296) : ∃ r : Nat, r < n ∧ P.monticuleref01_Rest.f turn (n : Int) = some (r : Int) := by
  unfold P.monticuleref01_Rest.f
  rw [if_neg (by omega)]
  have h2 := Int.tmod_lt_of_pos turn (show (0 : Int) < n by omega)
  have h3 := Int.lt_tmod_of_pos turn (show (0 : Int) < n by omega)
  have hw : wrap64 (Int.tmod turn n + n) = Int.tmod turn n + n := by unfold wrap64; omega
  rw [hw, Int.tmod_eq_emod_of_nonneg (by omega)]
  have h4 := Int.emod_nonneg (Int.tmod turn n + n) (show (n : Int) ≠ 0 by omega)
  have h5 := Int.emod_lt_of_pos (Int.tmod turn n + n) (show (0 : Int) < n by omega)
  exact ⟨((Int.tmod turn n + n) % n).toNat, by omega, by congr 1; omega⟩
def rotL (l : List Def) (r : Nat) : List Def := l.drop r ++ l.take r
theorem rotL_perm (l : List Def) (r : Nat) : (rotL l r).Perm l := by
  unfold rotL
  exact List.perm_append_comm.trans (by rw [List.take_append_drop])
theorem rot_get (l : List Def) (r i : Nat) (hr : r < l.length) (hi : i < l.length) : (rotL l r).take (i + 1) = (rotL l r).take i ++ [l[(i + r) % l.length]'(Nat.mod_lt _ (by omega))] := by
  have h : i < (rotL l r).length := by rw [(rotL_perm l r).length_eq]; exact hi
  have key : (rotL l r)[i]'h = l[(i + r) % l.length]'(Nat.mod_lt _ (by omega)) := by
    simp only [rotL, List.getElem_append, List.length_drop]
    split
    · rename_i h1
      simp only [List.getElem_drop, Nat.mod_eq_of_lt (show i + r < l.length by omega), Nat.add_comm r i]
    · rename_i h1
      have e : (i + r) % l.length = i - (l.length - r) := by
        rw [show i + r = (i - (l.length - r)) + l.length by omega, Nat.add_mod_right, Nat.mod_eq_of_lt (by omega)]
      simp only [List.getElem_take, e]
  rw [List.take_succ_eq_append_getElem h, key]
set_option maxHeartbeats 20000000 in
set_option maxRecDepth 100000 in
theorem snapNews_calls (A : Option Addr) (c : Nat) (l : List Def) (key : ByteArray) (turn : Int) (w : World) (hr : Kd.C P.k33 w A l.length l) (hc : l.length ≤ c) (hkey : key.size ≤ maxLen) (hturn : (Lit.int .i64 turn).wf = true) :
    Calls Tryz.prog 3 #[.slice A l.length c, .string key, .int .i64 turn] w fun e w' => e = .returned (.bool true) ∧ Below w.heap.size w w' := by
  have HC := Lib.hid hr
  have HAw := Lib.hid (fun W => awake08_calls W)
  have hl63 : l.length ≤ 9223372036854775807 := hr.2.1
  have hf3 : ∀ d ∈ l, d.f3.length ≤ 9223372036854775807 := fun d hd => by
    obtain ⟨i, hi, rfl⟩ := List.getElem_of_mem hd
    obtain ⟨ad, A3, c3, hA, q0, q1, q2, q3, q4, q5, hl3, hC3⟩ := P.at_T33 hr (i : Int) (by omega) (by omega)
    rw [rd_def l i hi] at hC3
    exact hC3.2.1
  obtain ⟨K, hK⟩ := refFew_f l 20 hl63 hf3
  have hfew := hK K (Nat.le_refl _)
  have HFew := Lib.hid (fun W (hb : Below w.heap.size w W) => P.monticuleref07_Few.calls K A c l ((20 : Nat) : Int) _ W (Kd.C_below HC.out hb) hc hfew)
  have HL63 := Lib.hid hl63
  clear hr hK hfew hf3
  obtain ⟨few, hfe⟩ : ∃ b, fewD l 20 = b := ⟨_, rfl⟩
  have HFE := Lib.hid hfe
  rw [hfe] at HFew
  clear hfe
  go_enter Tryz.func3, Tryz.ntmps3
  go_wp2_with fail
  refine (HAw.out _).mono ?_
  rintro e w1 ⟨rfl, hb1⟩
  have HB1 := Lib.hid hb1
  clear hb1
  go_wp2_with fail
  refine (HFew.out _ HB1.out).mono ?_
  rintro e w2 ⟨rfl, hb2⟩
  have HB2 := Lib.hid (HB1.out.trans (hb2.mono HB1.out.size))
  clear hb2 HB1 HFew
  cases few with
  | false =>
    go_wp2_with fail
    refine (HAw.out _).mono ?_
    rintro e w3 ⟨rfl, hb3⟩
    have HB3 := Lib.hid (HB2.out.trans (hb3.mono HB2.out.size))
    clear hb3
    go_wp2_with fail
    go_ret
    exact ⟨rfl, HB3.out⟩
  | true =>
    by_cases hk7 : key.size ≤ 700
    rotate_left
    · have hk7' : decide (700 < key.size) = true := by simp; omega
      have hk8 : decide ((key.size : Int) > 700) = true := by simp; omega
      have hk9 : 700 < key.size := by omega
      go_wp2_with fail
      refine (HAw.out _).mono ?_
      rintro e w3 ⟨rfl, hb3⟩
      have HB3 := Lib.hid (HB2.out.trans (hb3.mono HB2.out.size))
      clear hb3
      go_wp2_with fail
      go_ret
      exact ⟨rfl, HB3.out⟩
    · have hk7' : decide (700 < key.size) = false := by simp; omega
      have hk8 : decide ((key.size : Int) > 700) = false := by simp; omega
      have hk9 : ¬ 700 < key.size := by omega
      obtain ⟨hl20, hsm⟩ := few_parts HFE.out
      have HSM := Lib.hid hsm
      have HN := Lib.hid (fun W (hb : Below w.heap.size w W) => new_calls A c l W (Kd.C_below HC.out hb) (fun d hd => by have := (small_parts (hsm d hd)).1; omega))
      clear hsm
      go_wp2_with fail
      refine (HN.out _ HB2.out).mono ?_
      rintro e w3 ⟨v, rfl, hres, hb3⟩
      have HB3 := Lib.hid (HB2.out.trans (hb3.mono HB2.out.size))
      have HRes := Lib.hid hres
      clear hb3 hres HB2
      obtain ⟨res, hnf⟩ : ∃ r, newFrom [] l = r := ⟨_, rfl⟩
      obtain ⟨K2, hK2⟩ := refNew_f l HL63.out (fun d hd => small_told (HSM.out d hd))
      have hnew := hK2 K2 (Nat.le_refl _)
      have HNF := Lib.hid hnf
      rw [hnf] at HRes hnew ⊢
      clear hnf hK2
      obtain ⟨rm, code⟩ := res
      have hcode : (newL (rm, code)).2 = code := by cases rm <;> rfl
      obtain ⟨want, hwant⟩ : ∃ x, (newL (rm, code)).1 = x := ⟨_, rfl⟩
      have hpair : newL (rm, code) = (want, code) := Prod.ext hwant hcode
      rw [hpair] at hnew
      have HWant := Lib.hid hwant
      have HRN := Lib.hid (fun W (hb : Below w.heap.size w W) => P.monticuleref08_New.calls K2 (fun k_ => k_ < W.heap.size) A c l want code W (V_of_C (Kd.C_below HC.out hb) hc _) hnew)
      clear hnew hcode hwant hpair
      cases rm with
      | none =>
        have hne := new_none HNF.out
        have hv : v = .pointer none := HRes.out
        subst hv
        have h1 : (code == 0) = false := beq_eq_false_iff_ne.2 hne
        have h2 : (code != 0) = true := bne_iff_ne.2 hne
        clear hne
        go_wp2_with fail
        refine (HRN.out _ HB3.out).mono ?_
        rintro e w4 ⟨v0, rfl, hN, hb4⟩
        have HB4 := Lib.hid (HB3.out.trans (hb4.mono HB3.out.size))
        obtain ⟨AW, cW, rfl, hcW, hCW⟩ := Kd.N_reads hN
        clear hb4 hN hCW
        go_wp2_with fail
        go_ret
        exact ⟨rfl, HB4.out⟩
      | some m =>
        obtain ⟨hc0, hrs⟩ := new_some HNF.out
        subst hc0
        have HG := Lib.hid (good_new HNF.out (by omega) HSM.out)
        obtain ⟨hv, hs⟩ := HRes.out
        obtain ⟨a, b, rfl, hca, hmb⟩ : ∃ a b, v = .pointer (some ⟨a, 0, none⟩) ∧ w3.cell? ⟨a, 0, none⟩ = some (.map (some b)) ∧ MapOf w3 b m := by
          rcases hs with ⟨e, _⟩ | h
          · exact absurd e hv
          · exact h
        have HS := Lib.hid (show SnapAt w3 (.pointer (some ⟨a, 0, none⟩)) m from .inr ⟨a, b, rfl, hca, hmb⟩)
        clear hv hs hca hmb hrs HRes
        go_wp2_with fail
        refine (HRN.out _ HB3.out).mono ?_
        rintro e w4 ⟨v0, rfl, hN, hb4⟩
        have HB4 := Lib.hid (HB3.out.trans (hb4.mono HB3.out.size))
        obtain ⟨AW, cW, rfl, hcW, hCW⟩ := Kd.N_reads hN
        have HCW := Lib.hid hCW
        have HS4 := Lib.hid (HS.out.below hb4)
        clear hb4 hN hCW HB3 HS HRN HN
        go_wp2_with fail
        obtain ⟨r, HRest⟩ : ∃ r : Nat, Hid (0 < l.length → r < l.length ∧ P.monticuleref01_Rest.f turn (l.length : Int) = some (r : Int)) := by
          by_cases h0 : 0 < l.length
          · obtain ⟨r, h1, h2⟩ := rest_f turn l.length h0 (by omega)
            exact ⟨r, fun _ => ⟨h1, h2⟩⟩
          · exact ⟨0, fun h => absurd h h0⟩
        go_loopw [11, 12] (fun t11 t12 wr => ∃ (i : Nat), t12 = .int .i64 i ∧ i ≤ l.length ∧ Hid (OwnRow (P.k33.K w) 33 6 wr w4.heap.size t11 ((rotL l r).take i)) ∧ Hid (Below w4.heap.size w4 wr)) (fun _ t12 _ => l.length - (intOf t12).toNat)
        case atStart => exact ⟨0, rfl, Nat.zero_le _, OwnRow.none_ _ _ _ _ _, Below.refl _ _⟩
        case round =>
          obtain ⟨i, rfl, hi, ho, hb⟩ := hrel
          by_cases hlt : i < l.length
          · obtain ⟨hrl, hrf⟩ := HRest.out (by omega)
            have HRC := Lib.hid (fun W => P.monticuleref01_Rest.calls turn (l.length : Int) (r : Int) W hrf)
            have hj : (i + r) % l.length < l.length := Nat.mod_lt _ (by omega)
            obtain ⟨ad, A3, c3, hA, q0, q1, q2, q3, q4, q5, hl3, hC3⟩ := P.at_T33 HC.out (((i + r) % l.length : Nat) : Int) (by omega) (by omega)
            subst hA
            have hd := rd_def l ((i + r) % l.length) hj
            rw [hd] at q0 q1 q2 q3 q4 q5 hl3 hC3
            rw [Int.toNat_natCast] at q0 q1 q2 q3 q4 q5
            have hbw := HB4.out.trans (hb.out.mono HB4.out.size)
            replace q0 := (hbw.cell (World.block_lt_of_cell? _ _ q0)).trans q0
            replace q1 := (hbw.cell (World.block_lt_of_cell? _ _ q1)).trans q1
            replace q2 := (hbw.cell (World.block_lt_of_cell? _ _ q2)).trans q2
            replace q3 := (hbw.cell (World.block_lt_of_cell? _ _ q3)).trans q3
            replace q4 := (hbw.cell (World.block_lt_of_cell? _ _ q4)).trans q4
            replace q5 := (hbw.cell (World.block_lt_of_cell? _ _ q5)).trans q5
            have HRot := rot_get l r i hrl hlt
            obtain ⟨d, hde⟩ : ∃ d, l[(i + r) % l.length] = d := ⟨_, rfl⟩
            rw [hde] at q0 q1 q2 q3 q4 q5 hl3 hC3 HRot
            replace HRot := Lib.hid HRot
            have HK := Lib.hid (P.k33_mk w d hl3 hC3)
            have hlen : ((rotL l r).take i).length ≤ 20 := by rw [List.length_take]; omega
            obtain ⟨ps, hps⟩ : ∃ ps, (rotL l r).take i = ps := ⟨_, rfl⟩
            rw [hps] at ho hlen HRot
            replace hlen : (ps.length + 1) * 96 ≤ 140737488355328 := by omega
            clear hrf hd hC3 hde hbw hps
            go_wp2_with fail
            refine (HRC.out _).mono ?_
            rintro e w5 ⟨rfl, hdr⟩
            obtain ⟨nd, rfl⟩ := hdr.out
            have hb5 : Below wr.heap.size wr (wr.drewN nd) := hdr.below
            have HO5 := Lib.hid (ho.out.below hb5)
            have HB5 := Lib.hid (hb.out.trans (hb5.mono hb.out.size))
            clear hdr hb5
            have hm : ((i : Int) + (r : Int)) % (l.length : Int) = (((i + r) % l.length : Nat) : Int) := by first | rw [Int.natCast_emod, Int.natCast_add] | rw [Int.natCast_mod, Int.natCast_add] | simp
            obtain ⟨j, hje⟩ : ∃ j, (i + r) % l.length = j := ⟨_, rfl⟩
            rw [hje] at hj hm q0 q1 q2 q3 q4 q5
            clear hje
            have hsz5 : w4.heap.size ≤ (wr.drewN nd).heap.size := HB5.out.size
            go_wp2_with (at_builtin; refine OwnRow.append (R := P.k33.K w) (w0 := w4) w4.heap.size rfl (.tmp 59) (.tmp 72) 22 33 (.agg #[.int .i64 0, .string ⟨#[]⟩, .string ⟨#[]⟩, .slice none 0 0, .string ⟨#[]⟩, .string ⟨#[]⟩]) 6 96 rfl Tryz.underlying22 (by kernel_rfl) rfl (by decide) (by decide) _ ps d _ rfl rfl HK.out rfl (P.k33.K_one HK.out) HO5.out HB5.out hsz5 hlen ?_; intro v1 w6 hO6 hB6 hg6 hat6; have HO6 := Lib.hid hO6; have HB6 := Lib.hid hB6; obtain ⟨A6, c6, rfl, _⟩ := OwnRow.slice_ hO6; clear hO6 hB6 hg6 hat6)
            go_roundw
            case rel => exact ⟨i + 1, by go_num, by omega, by show OwnRow _ _ _ _ _ _ _; rw [HRot.out]; simpa using HO6.out, HB6.out⟩
            case measure => simp [intOf]; omega
          · have hil : i = l.length := by omega
            have htk : (rotL l r).take i = rotL l r := by rw [hil, List.take_of_length_le (by rw [(rotL_perm l r).length_eq]; exact Nat.le_refl _)]
            have hlo : (rotL l r).length = l.length := (rotL_perm l r).length_eq
            have hnf2 := new_perm (rotL_perm l r) (by omega) HNF.out
            have hsm2 : ∀ d ∈ rotL l r, smallD d = true := fun d hd => HSM.out d ((rotL_perm l r).subset hd)
            rw [htk] at ho
            obtain ⟨other, hoe⟩ : ∃ x, rotL l r = x := ⟨_, rfl⟩
            rw [hoe] at ho hlo hnf2 hsm2
            obtain ⟨A8, c8, rfl, hl8, hreads⟩ := OwnRow.reads ho.out
            have hbw : Below w.heap.size w wr := HB4.out.trans (hb.out.mono HB4.out.size)
            have hC8 : Kd.C P.k33 wr A8 other.length other := hreads.imp_ (Below.refl _ _) (fun _ _ hk => P.k33.K_below hbw hk)
            have HN2 := Lib.hid (new_calls A8 c8 other wr hC8 (fun d hd => by have := (small_parts (hsm2 d hd)).1; omega))
            rw [hnf2] at HN2
            have hcl : ¬ i < l.length := hlt
            clear htk hoe hreads hC8 hnf2 hsm2 hil HRest hlo hl8
            go_wp2_with fail
            refine HN2.out.mono ?_
            rintro e w9 ⟨u, rfl, ⟨hu, hsu⟩, hb9⟩
            obtain ⟨a2, b2, rfl, hca2, hmb2⟩ : ∃ a b, u = .pointer (some ⟨a, 0, none⟩) ∧ w9.cell? ⟨a, 0, none⟩ = some (.map (some b)) ∧ MapOf w9 b m := by
              rcases hsu with ⟨e, _⟩ | h
              · exact absurd e hu
              · exact h
            have HU := Lib.hid (show SnapAt w9 (.pointer (some ⟨a2, 0, none⟩)) m from .inr ⟨a2, b2, rfl, hca2, hmb2⟩)
            have hb49 : Below w4.heap.size w4 w9 := hb.out.trans (hb9.mono hb.out.size)
            have HB9 := Lib.hid (HB4.out.trans (hb49.mono HB4.out.size))
            have HS9 := Lib.hid (HS4.out.below hb49)
            have HC9 := Lib.hid (Kd.C_below HCW.out hb49)
            have hz9 : w4.heap.size ≤ w9.heap.size := hb49.size
            clear hu hsu hca2 hmb2 hb9 hb49 HB4 HS4 HCW HN2 ho hb hbw
            have hmv : (mget m key.data.toList).f3.length * 16 ≤ 140737488355328 := by
              cases hh : mhas m key.data.toList with
              | true => exact HG.out.vars _ (List.mem_map.2 ⟨_, mem_of_mget hh, rfl⟩)
              | false =>
                have : mget m key.data.toList = P.z33 := by
                  unfold mget
                  cases hf : m.find? (fun p => p.1 == key.data.toList) with
                  | none => rfl
                  | some q =>
                    have : mhas m key.data.toList = true := List.any_eq_true.2 ⟨q, List.mem_of_find?_eq_some hf, List.find?_some (p := fun p : List UInt8 × Def => p.1 == key.data.toList) hf⟩
                    rw [this] at hh; cases hh
                rw [this]; decide
            have hw : defsL m = want := HWant.out
            have HGt := get_calls _ m key w9 HS9.out hkey hmv
            have hok := mhas_find HG.out.keyed key.data.toList
            rw [hw] at hok
            obtain ⟨K5, hK5⟩ := refFind_f want key (by rw [← hw, defsL_length]; have := HG.out.len; omega) (by rw [← hw]; exact HG.out.told)
            have hfind := hK5 K5 (Nat.le_refl _)
            obtain ⟨ok, hoke⟩ : ∃ ok, mhas m key.data.toList = ok := ⟨_, rfl⟩
            obtain ⟨fd, hfd⟩ : ∃ fd, findD want key.data.toList = fd := ⟨_, rfl⟩
            have hgt := fun (j : Nat) (hj : j < (defsL m).length) (h : kd (defsL m)[j] = key.data.toList) => mget_find HG.out hj h
            have hat := findD_at want key.data.toList
            obtain ⟨dx, hdx⟩ : ∃ dx, mget m key.data.toList = dx := ⟨_, rfl⟩
            rw [hoke, hdx] at HGt
            rw [hoke, hfd] at hok
            rw [hfd] at hfind hat
            rw [hdx] at hgt
            have HAt : Hid (ok = true → ∃ j : Nat, ∃ hj : j < want.length, fd = j ∧ want[j] = dx) := fun h => by
              rw [h] at hok
              obtain ⟨j, hj, h1, h2⟩ := hat (of_decide_eq_true hok.symm)
              subst hw
              exact ⟨j, hj, h1, (hgt j hj h2).symm⟩
            have HNo : Hid (ok = false → fd = -1) := fun h => by
              rw [h] at hok
              have h1 := of_decide_eq_false hok.symm
              unfold findD at hfd
              split at hfd
              · omega
              · exact hfd.symm
            have HEmp : Hid (key = ByteArray.empty → ok = false) := fun h => by
              rw [← hoke, h]
              exact nokey_nil HG.out
            have HW := Lib.hid hw
            have HFind := Lib.hid (fun W (hb : Below w9.heap.size w9 W) => P.monticuleref08_Find.calls K5 AW cW want key fd W (Kd.C_below HC9.out hb) hcW hfind)
            replace HGt := Lib.hid HGt
            clear hmv hok hK5 hfind hoke hfd hgt hat hdx hw
            go_wp2_with fail
            refine HGt.out.mono ?_
            rintro e w10 ⟨Ag, cg, rfl, hlg, hCg, hbg⟩
            have HCg := Lib.hid hCg
            have HB10 := Lib.hid hbg
            have hz10 : w9.heap.size ≤ w10.heap.size := hbg.size
            clear hCg hbg HGt
            go_wp2_with fail
            have hbx0 : Below w10.heap.size w10 (w10.alloc (.cells #[.int .i64 dx.f0, .string dx.f1, .string dx.f2, .slice Ag dx.f3.length cg, .string dx.f4, .string dx.f5] 33)) := (Below.refl _ _).alloc (Nat.le_refl _) _
            have hbox0 := heap_alloc_new w10 (.cells #[.int .i64 dx.f0, .string dx.f1, .string dx.f2, .slice Ag dx.f3.length cg, .string dx.f4, .string dx.f5] 33)
            obtain ⟨W0, hW0⟩ : ∃ W0, w10.alloc (.cells #[.int .i64 dx.f0, .string dx.f1, .string dx.f2, .slice Ag dx.f3.length cg, .string dx.f4, .string dx.f5] 33) = W0 := ⟨_, rfl⟩
            rw [hW0] at hbx0 hbox0 ⊢
            obtain ⟨gx, hgx⟩ : ∃ gx, w10.heap.size = gx := ⟨_, rfl⟩
            have hgx0 : gx < W0.heap.size := by rw [← hgx]; exact (Array.getElem?_eq_some_iff.1 hbox0).1
            have HCx := Lib.hid (Kd.C_below HCg.out hbx0)
            have hb90 : Below w9.heap.size w9 W0 := HB10.out.trans (hbx0.mono HB10.out.size)
            rw [hgx] at hbox0 ⊢
            have HBox := Lib.hid hbox0
            have HB90 := Lib.hid hb90
            clear hbx0 hbox0 hW0 hgx hb90 HCg HB10 hz10
            refine (HFind.out _ HB90.out).mono ?_
            rintro e w12 ⟨rfl, hb12⟩
            have HB12 := Lib.hid (HB90.out.trans (hb12.mono HB90.out.size))
            have HBox2 := Lib.hid ((hb12.block gx hgx0).trans HBox.out)
            have HCx2 := Lib.hid (Kd.C_below HCx.out hb12)
            have hgx1 : gx < w12.heap.size := Nat.lt_of_lt_of_le hgx0 hb12.size
            clear hb12 HBox HCx HB90 HFind hgx0
            -- the calls of the last statement, in whatever world behind w12
            have HIs := Lib.hid (fun W (hb : Below w12.heap.size w12 W) => law_is_calls (.pointer (some ⟨a, 0, none⟩)) m AW cW want W (HS9.out.below (HB12.out.trans (hb.mono HB12.out.size))) (Kd.C_below HC9.out (HB12.out.trans (hb.mono HB12.out.size))) HG.out.len HG.out.vars HG.out.keys)
            have HSa := Lib.hid (fun W (hb : Below w12.heap.size w12 W) => snap_same_calls (.pointer (some ⟨a, 0, none⟩)) (.pointer (some ⟨a2, 0, none⟩)) m m W (HS9.out.below (HB12.out.trans (hb.mono HB12.out.size))) (HU.out.below (HB12.out.trans (hb.mono HB12.out.size))))
            have HSb := Lib.hid (fun W (hb : Below w12.heap.size w12 W) => snap_same_calls (.pointer (some ⟨a2, 0, none⟩)) (.pointer (some ⟨a, 0, none⟩)) m m W (HU.out.below (HB12.out.trans (hb.mono HB12.out.size))) (HS9.out.below (HB12.out.trans (hb.mono HB12.out.size))))
            have HWr := Lib.hid (fun W (hb : Below w12.heap.size w12 W) => snap_write_calls (.pointer (some ⟨a, 0, none⟩)) m W (HS9.out.below (HB12.out.trans (hb.mono HB12.out.size))) HG.out.len HG.out.vars HG.out.keys HG.out.sized HG.out.octets)
            obtain ⟨R, ⟨K6, hK6⟩, hR⟩ := refWrite_f (defsL m) (by rw [defsL_length]; have := HG.out.len; omega) HG.out.sized HG.out.octets
            have hRs : R = strOfNums (snapB (defsL m)) := by rw [← hR, str_bytes]
            subst hRs
            have hwf := hK6 K6 (Nat.le_refl _)
            rw [HW.out] at hwf
            have HRw := Lib.hid (fun W (hb : Below w12.heap.size w12 W) => P.monticuleref08_Write.calls K6 AW cW want _ W (Kd.C_below HC9.out (HB12.out.trans (hb.mono HB12.out.size))) hcW hwf)
            rw [HW.out] at HWr
            rw [decide_eq_true HW.out] at HIs
            rw [decide_eq_true (rfl : m = m)] at HSa HSb
            clear hK6 hR hwf HSM HFE HNF HL63 HAw
            go_upto_if 89 with (fail)
            go_cut [17] from 88 to 89 (fun t17 wx => t17 = .int .i64 (if ok = true then fd else -1) ∧ wx = w12)
            case first =>
              go_wp2_with fail
              · rename_i h
                have hok := HEmp.out (empty_toList.1 (List.isEmpty_iff.1 h))
                go_meet
                exact ⟨by rw [hok]; rfl, rfl⟩
              · go_meet
                refine ⟨?_, rfl⟩
                cases ok with
                | true => rfl
                | false => rw [HNo.out rfl]; rfl
            obtain ⟨rfl, rfl⟩ := hcut
            have HFin : Hid (Below w.heap.size w wc) := HB9.out.trans (HB12.out.mono HB9.out.size)
            have HCe := Lib.hid (fun W (hb : Below wc.heap.size wc W) => Kd.C_below HCx2.out hb)
            have HBoxW := Lib.hid (fun W (hb : Below wc.heap.size wc W) => box6 ((hb.block gx hgx1).trans HBox2.out))
            cases ok with
            | false =>
              clear HAt HNo HEmp HC9 HS9 HU HG HW HBox2 HCx2 hgx1 hlg HB12 HB9 HC HWant hz9 hl20 hk7 hk7' hk8 hk9 hcl hlt hi hkey hturn HCe HBoxW
              go_wp2_with fail
              refine start_ (n := 44) (S := (fun w' => Below wc.heap.size wc w')) (ds := []) #[false, false, false, false, false, false, false, false, false, false, false, false, false, false, false, false, false, false, false, false, false, false, false, false, false, false, false, false, false, false, false, false, false, false, false, false, false, false, false, false, false, false, false, false] (by kernel_rfl) rfl rfl (Below.refl _ wc).drew (fun hHeld => ?_)
              refine with_tabW newsR.tab newsR.bits (fun HT_ HW_ => ?_)
              refine pure_ (i := 0) (N := some 90) (v := ?_) (a' := ?_) #[true, false, false, false, false, false, false, false, false, false, false, false, false, false, false, false, false, false, false, false, false, false, false, false, false, false, false, false, false, false, false, false, false, false, false, false, false, false, false, false, false, false, false, false] rfl rfl (any_of HT_.out (by kernel_rfl)) (fun _ _ _ h => h) (Or.inl ⟨by rfl, ?_⟩) ?_ ?_
              rotate_left
              · intro w'
                go_simp
                with_reducible rfl
              rotate_left
              · simp only [Act.put, List.setIfInBounds_toArray, List.set_cons_zero, List.set_cons_succ]
                rfl
              refine pure_ (i := 1) (N := some 91) (v := ?_) (a' := ?_) #[true, true, false, false, false, false, false, false, false, false, false, false, false, false, false, false, false, false, false, false, false, false, false, false, false, false, false, false, false, false, false, false, false, false, false, false, false, false, false, false, false, false, false, false] rfl rfl (any_of HT_.out (by kernel_rfl)) (fun _ _ _ h => h) (Or.inl ⟨by rfl, ?_⟩) ?_ ?_
              rotate_left
              · intro w'
                go_simp
                with_reducible rfl
              rotate_left
              · simp only [Act.put, List.setIfInBounds_toArray, List.set_cons_zero, List.set_cons_succ]
                rfl
              refine one_ (i := 2) (N := some 92) #[true, true, true, false, false, false, false, false, false, false, false, false, false, false, false, false, false, false, false, false, false, false, false, false, false, false, false, false, false, false, false, false, false, false, false, false, false, false, false, false, false, false, false, false] rfl rfl (one_of HT_.out (by kernel_rfl)) (by decide) (fun K hK => ?_)
              refine goes_ Tryz.func25 (by kernel_rfl) rfl #[.pointer (some ⟨a, 0, none⟩), .slice AW want.length cW] (by rfl) rfl rfl (by (try simp only [List.map_toArray, List.map_cons, List.map_nil]); first | done | rfl) ?_
              refine (HIs.out _ hHeld).mono ?_
              rintro e W' ⟨rfl, hb⟩
              refine ⟨_, rfl, ?_⟩
              have hS' := below_step (w := wc) hHeld hb
              clear hHeld
              refine hK.out _ _ hS' (fun hHeld => ?_)
              clear hK K hb hS'
              refine norm_ (a' := ?_) ?_ ?_
              rotate_left
              · show Act.put _ (some 92) _ = _
                simp only [Act.put, List.setIfInBounds_toArray, List.set_cons_zero, List.set_cons_succ]
                rfl
              refine pure_ (i := 3) (N := some 93) (v := ?_) (a' := ?_) #[true, true, true, true, false, false, false, false, false, false, false, false, false, false, false, false, false, false, false, false, false, false, false, false, false, false, false, false, false, false, false, false, false, false, false, false, false, false, false, false, false, false, false, false] rfl rfl (any_of HT_.out (by kernel_rfl)) (fun _ _ _ h => h) (Or.inl ⟨by rfl, ?_⟩) ?_ ?_
              rotate_left
              · intro w'
                go_simp
                with_reducible rfl
              rotate_left
              · simp only [Act.put, List.setIfInBounds_toArray, List.set_cons_zero, List.set_cons_succ]
                rfl
              refine pure_ (i := 4) (N := some 94) (v := ?_) (a' := ?_) #[true, true, true, true, true, false, false, false, false, false, false, false, false, false, false, false, false, false, false, false, false, false, false, false, false, false, false, false, false, false, false, false, false, false, false, false, false, false, false, false, false, false, false, false] rfl rfl (any_of HT_.out (by kernel_rfl)) (fun _ _ _ h => h) (Or.inl ⟨by rfl, ?_⟩) ?_ ?_
              rotate_left
              · intro w'
                go_simp
                with_reducible rfl
              rotate_left
              · simp only [Act.put, List.setIfInBounds_toArray, List.set_cons_zero, List.set_cons_succ]
                rfl
              refine pure_ (i := 5) (N := some 95) (v := ?_) (a' := ?_) #[true, true, true, true, true, true, false, false, false, false, false, false, false, false, false, false, false, false, false, false, false, false, false, false, false, false, false, false, false, false, false, false, false, false, false, false, false, false, false, false, false, false, false, false] rfl rfl (any_of HT_.out (by kernel_rfl)) (fun _ _ _ h => h) (Or.inl ⟨by rfl, ?_⟩) ?_ ?_
              rotate_left
              · intro w'
                go_simp
                with_reducible rfl
              rotate_left
              · simp only [Act.put, List.setIfInBounds_toArray, List.set_cons_zero, List.set_cons_succ]
                rfl
              refine pure_ (i := 6) (N := some 96) (v := ?_) (a' := ?_) #[true, true, true, true, true, true, true, false, false, false, false, false, false, false, false, false, false, false, false, false, false, false, false, false, false, false, false, false, false, false, false, false, false, false, false, false, false, false, false, false, false, false, false, false] rfl rfl (any_of HT_.out (by kernel_rfl)) (fun _ _ _ h => h) (Or.inl ⟨by rfl, ?_⟩) ?_ ?_
              rotate_left
              · intro w'
                go_simp
                with_reducible rfl
              rotate_left
              · simp only [Act.put, List.setIfInBounds_toArray, List.set_cons_zero, List.set_cons_succ]
                rfl
              refine pure_ (i := 7) (N := some 97) (v := ?_) (a' := ?_) #[true, true, true, true, true, true, true, true, false, false, false, false, false, false, false, false, false, false, false, false, false, false, false, false, false, false, false, false, false, false, false, false, false, false, false, false, false, false, false, false, false, false, false, false] rfl rfl (any_of HT_.out (by kernel_rfl)) (fun _ _ _ h => h) (Or.inl ⟨by rfl, ?_⟩) ?_ ?_
              rotate_left
              · intro w'
                go_simp
                with_reducible rfl
              rotate_left
              · simp only [Act.put, List.setIfInBounds_toArray, List.set_cons_zero, List.set_cons_succ]
                rfl
              refine pure_ (i := 8) (N := some 98) (v := ?_) (a' := ?_) #[true, true, true, true, true, true, true, true, true, false, false, false, false, false, false, false, false, false, false, false, false, false, false, false, false, false, false, false, false, false, false, false, false, false, false, false, false, false, false, false, false, false, false, false] rfl rfl (any_of HT_.out (by kernel_rfl)) (fun _ _ _ h => h) (Or.inl ⟨by rfl, ?_⟩) ?_ ?_
              rotate_left
              · intro w'
                go_simp
                with_reducible rfl
              rotate_left
              · simp only [Act.put, List.setIfInBounds_toArray, List.set_cons_zero, List.set_cons_succ]
                rfl
              refine pure_ (i := 9) (N := some 99) (v := ?_) (a' := ?_) #[true, true, true, true, true, true, true, true, true, true, false, false, false, false, false, false, false, false, false, false, false, false, false, false, false, false, false, false, false, false, false, false, false, false, false, false, false, false, false, false, false, false, false, false] rfl rfl (any_of HT_.out (by kernel_rfl)) (fun _ _ _ h => h) (Or.inl ⟨by rfl, ?_⟩) ?_ ?_
              rotate_left
              · intro w'
                go_simp
                with_reducible rfl
              rotate_left
              · simp only [Act.put, List.setIfInBounds_toArray, List.set_cons_zero, List.set_cons_succ]
                rfl
              refine one_ (i := 10) (N := some 100) #[true, true, true, true, true, true, true, true, true, true, true, false, false, false, false, false, false, false, false, false, false, false, false, false, false, false, false, false, false, false, false, false, false, false, false, false, false, false, false, false, false, false, false, false] rfl rfl (one_of HT_.out (by kernel_rfl)) (by decide) (fun K hK => ?_)
              refine goes_ Tryz.func26 (by kernel_rfl) rfl #[.pointer (some ⟨a, 0, none⟩), .pointer (some ⟨a2, 0, none⟩)] (by rfl) rfl rfl (by (try simp only [List.map_toArray, List.map_cons, List.map_nil]); first | done | rfl) ?_
              refine (HSa.out _ hHeld).mono ?_
              rintro e W' ⟨rfl, hb⟩
              refine ⟨_, rfl, ?_⟩
              have hS' := below_step (w := wc) hHeld hb
              clear hHeld
              refine hK.out _ _ hS' (fun hHeld => ?_)
              clear hK K hb hS'
              refine norm_ (a' := ?_) ?_ ?_
              rotate_left
              · show Act.put _ (some 100) _ = _
                simp only [Act.put, List.setIfInBounds_toArray, List.set_cons_zero, List.set_cons_succ]
                rfl
              refine pure_ (i := 11) (N := some 101) (v := ?_) (a' := ?_) #[true, true, true, true, true, true, true, true, true, true, true, true, false, false, false, false, false, false, false, false, false, false, false, false, false, false, false, false, false, false, false, false, false, false, false, false, false, false, false, false, false, false, false, false] rfl rfl (any_of HT_.out (by kernel_rfl)) (fun _ _ _ h => h) (Or.inl ⟨by rfl, ?_⟩) ?_ ?_
              rotate_left
              · intro w'
                go_simp
                with_reducible rfl
              rotate_left
              · simp only [Act.put, List.setIfInBounds_toArray, List.set_cons_zero, List.set_cons_succ]
                rfl
              refine pure_ (i := 12) (N := some 102) (v := ?_) (a' := ?_) #[true, true, true, true, true, true, true, true, true, true, true, true, true, false, false, false, false, false, false, false, false, false, false, false, false, false, false, false, false, false, false, false, false, false, false, false, false, false, false, false, false, false, false, false] rfl rfl (any_of HT_.out (by kernel_rfl)) (fun _ _ _ h => h) (Or.inl ⟨by rfl, ?_⟩) ?_ ?_
              rotate_left
              · intro w'
                go_simp
                with_reducible rfl
              rotate_left
              · simp only [Act.put, List.setIfInBounds_toArray, List.set_cons_zero, List.set_cons_succ]
                rfl
              refine pure_ (i := 13) (N := some 103) (v := ?_) (a' := ?_) #[true, true, true, true, true, true, true, true, true, true, true, true, true, true, false, false, false, false, false, false, false, false, false, false, false, false, false, false, false, false, false, false, false, false, false, false, false, false, false, false, false, false, false, false] rfl rfl (any_of HT_.out (by kernel_rfl)) (fun _ _ _ h => h) (Or.inl ⟨by rfl, ?_⟩) ?_ ?_
              rotate_left
              · intro w'
                go_simp
                with_reducible rfl
              rotate_left
              · simp only [Act.put, List.setIfInBounds_toArray, List.set_cons_zero, List.set_cons_succ]
                rfl
              refine pure_ (i := 14) (N := some 104) (v := ?_) (a' := ?_) #[true, true, true, true, true, true, true, true, true, true, true, true, true, true, true, false, false, false, false, false, false, false, false, false, false, false, false, false, false, false, false, false, false, false, false, false, false, false, false, false, false, false, false, false] rfl rfl (any_of HT_.out (by kernel_rfl)) (fun _ _ _ h => h) (Or.inl ⟨by rfl, ?_⟩) ?_ ?_
              rotate_left
              · intro w'
                go_simp
                with_reducible rfl
              rotate_left
              · simp only [Act.put, List.setIfInBounds_toArray, List.set_cons_zero, List.set_cons_succ]
                rfl
              refine one_ (i := 15) (N := some 105) #[true, true, true, true, true, true, true, true, true, true, true, true, true, true, true, true, false, false, false, false, false, false, false, false, false, false, false, false, false, false, false, false, false, false, false, false, false, false, false, false, false, false, false, false] rfl rfl (one_of HT_.out (by kernel_rfl)) (by decide) (fun K hK => ?_)
              refine goes_ Tryz.func26 (by kernel_rfl) rfl #[.pointer (some ⟨a2, 0, none⟩), .pointer (some ⟨a, 0, none⟩)] (by rfl) rfl rfl (by (try simp only [List.map_toArray, List.map_cons, List.map_nil]); first | done | rfl) ?_
              refine (HSb.out _ hHeld).mono ?_
              rintro e W' ⟨rfl, hb⟩
              refine ⟨_, rfl, ?_⟩
              have hS' := below_step (w := wc) hHeld hb
              clear hHeld
              refine hK.out _ _ hS' (fun hHeld => ?_)
              clear hK K hb hS'
              refine norm_ (a' := ?_) ?_ ?_
              rotate_left
              · show Act.put _ (some 105) _ = _
                simp only [Act.put, List.setIfInBounds_toArray, List.set_cons_zero, List.set_cons_succ]
                rfl
              refine pure_ (i := 16) (N := some 106) (v := ?_) (a' := ?_) #[true, true, true, true, true, true, true, true, true, true, true, true, true, true, true, true, true, false, false, false, false, false, false, false, false, false, false, false, false, false, false, false, false, false, false, false, false, false, false, false, false, false, false, false] rfl rfl (any_of HT_.out (by kernel_rfl)) (fun _ _ _ h => h) (Or.inl ⟨by rfl, ?_⟩) ?_ ?_
              rotate_left
              · intro w'
                go_simp
                with_reducible rfl
              rotate_left
              · simp only [Act.put, List.setIfInBounds_toArray, List.set_cons_zero, List.set_cons_succ]
                rfl
              refine pure_ (i := 17) (N := some 107) (v := ?_) (a' := ?_) #[true, true, true, true, true, true, true, true, true, true, true, true, true, true, true, true, true, true, false, false, false, false, false, false, false, false, false, false, false, false, false, false, false, false, false, false, false, false, false, false, false, false, false, false] rfl rfl (any_of HT_.out (by kernel_rfl)) (fun _ _ _ h => h) (Or.inl ⟨by rfl, ?_⟩) ?_ ?_
              rotate_left
              · intro w'
                go_simp
                with_reducible rfl
              rotate_left
              · simp only [Act.put, List.setIfInBounds_toArray, List.set_cons_zero, List.set_cons_succ]
                rfl
              refine pure_ (i := 18) (N := some 108) (v := ?_) (a' := ?_) #[true, true, true, true, true, true, true, true, true, true, true, true, true, true, true, true, true, true, true, false, false, false, false, false, false, false, false, false, false, false, false, false, false, false, false, false, false, false, false, false, false, false, false, false] rfl rfl (any_of HT_.out (by kernel_rfl)) (fun _ _ _ h => h) (Or.inl ⟨by rfl, ?_⟩) ?_ ?_
              rotate_left
              · intro w'
                go_simp
                with_reducible rfl
              rotate_left
              · simp only [Act.put, List.setIfInBounds_toArray, List.set_cons_zero, List.set_cons_succ]
                rfl
              refine pure_ (i := 19) (N := some 109) (v := ?_) (a' := ?_) #[true, true, true, true, true, true, true, true, true, true, true, true, true, true, true, true, true, true, true, true, false, false, false, false, false, false, false, false, false, false, false, false, false, false, false, false, false, false, false, false, false, false, false, false] rfl rfl (any_of HT_.out (by kernel_rfl)) (fun _ _ _ h => h) (Or.inl ⟨by rfl, ?_⟩) ?_ ?_
              rotate_left
              · intro w'
                go_simp
                with_reducible rfl
              rotate_left
              · simp only [Act.put, List.setIfInBounds_toArray, List.set_cons_zero, List.set_cons_succ]
                rfl
              refine pure_ (i := 20) (N := some 110) (v := ?_) (a' := ?_) #[true, true, true, true, true, true, true, true, true, true, true, true, true, true, true, true, true, true, true, true, true, false, false, false, false, false, false, false, false, false, false, false, false, false, false, false, false, false, false, false, false, false, false, false] rfl rfl (any_of HT_.out (by kernel_rfl)) (fun _ _ _ h => h) (Or.inl ⟨by rfl, ?_⟩) ?_ ?_
              rotate_left
              · intro w'
                go_simp
                with_reducible rfl
              rotate_left
              · simp only [Act.put, List.setIfInBounds_toArray, List.set_cons_zero, List.set_cons_succ]
                rfl
              refine pure_ (i := 21) (N := some 111) (v := ?_) (a' := ?_) #[true, true, true, true, true, true, true, true, true, true, true, true, true, true, true, true, true, true, true, true, true, true, false, false, false, false, false, false, false, false, false, false, false, false, false, false, false, false, false, false, false, false, false, false] rfl rfl (any_of HT_.out (by kernel_rfl)) (fun _ _ _ h => h) (Or.inl ⟨by rfl, ?_⟩) ?_ ?_
              rotate_left
              · intro w'
                go_simp
                with_reducible rfl
              rotate_left
              · simp only [Act.put, List.setIfInBounds_toArray, List.set_cons_zero, List.set_cons_succ]
                rfl
              refine pure_ (i := 22) (N := some 112) (v := ?_) (a' := ?_) #[true, true, true, true, true, true, true, true, true, true, true, true, true, true, true, true, true, true, true, true, true, true, true, false, false, false, false, false, false, false, false, false, false, false, false, false, false, false, false, false, false, false, false, false] rfl rfl (any_of HT_.out (by kernel_rfl)) (fun _ _ _ h => h) (Or.inl ⟨by rfl, ?_⟩) ?_ ?_
              rotate_left
              · intro w'
                go_simp
                with_reducible rfl
              rotate_left
              · simp only [Act.put, List.setIfInBounds_toArray, List.set_cons_zero, List.set_cons_succ]
                rfl
              refine pure_ (i := 23) (N := some 113) (v := ?_) (a' := ?_) #[true, true, true, true, true, true, true, true, true, true, true, true, true, true, true, true, true, true, true, true, true, true, true, true, false, false, false, false, false, false, false, false, false, false, false, false, false, false, false, false, false, false, false, false] rfl rfl (any_of HT_.out (by kernel_rfl)) (fun _ _ _ h => h) (Or.inl ⟨by rfl, ?_⟩) ?_ ?_
              rotate_left
              · intro w'
                go_simp
                with_reducible rfl
              rotate_left
              · simp only [Act.put, List.setIfInBounds_toArray, List.set_cons_zero, List.set_cons_succ]
                rfl
              refine pure_ (i := 24) (N := some 114) (v := ?_) (a' := ?_) #[true, true, true, true, true, true, true, true, true, true, true, true, true, true, true, true, true, true, true, true, true, true, true, true, true, false, false, false, false, false, false, false, false, false, false, false, false, false, false, false, false, false, false, false] rfl rfl (any_of HT_.out (by kernel_rfl)) (fun _ _ _ h => h) (Or.inl ⟨by rfl, ?_⟩) ?_ ?_
              rotate_left
              · intro w'
                go_simp
                with_reducible rfl
              rotate_left
              · simp only [Act.put, List.setIfInBounds_toArray, List.set_cons_zero, List.set_cons_succ]
                rfl
              refine pure_ (i := 25) (N := some 115) (v := ?_) (a' := ?_) #[true, true, true, true, true, true, true, true, true, true, true, true, true, true, true, true, true, true, true, true, true, true, true, true, true, true, false, false, false, false, false, false, false, false, false, false, false, false, false, false, false, false, false, false] rfl rfl (any_of HT_.out (by kernel_rfl)) (fun _ _ _ h => h) (Or.inl ⟨by rfl, ?_⟩) ?_ ?_
              rotate_left
              · intro w'
                go_simp
                with_reducible rfl
              rotate_left
              · simp only [Act.put, List.setIfInBounds_toArray, List.set_cons_zero, List.set_cons_succ]
                rfl
              refine pure_ (i := 26) (N := some 116) (v := ?_) (a' := ?_) #[true, true, true, true, true, true, true, true, true, true, true, true, true, true, true, true, true, true, true, true, true, true, true, true, true, true, true, false, false, false, false, false, false, false, false, false, false, false, false, false, false, false, false, false] rfl rfl (any_of HT_.out (by kernel_rfl)) (fun _ _ _ h => h) (Or.inl ⟨by rfl, ?_⟩) ?_ ?_
              rotate_left
              · intro w'
                go_simp
                with_reducible rfl
              rotate_left
              · simp only [Act.put, List.setIfInBounds_toArray, List.set_cons_zero, List.set_cons_succ]
                rfl
              refine pure_ (i := 27) (N := some 117) (v := undef) (a' := ?_) #[true, true, true, true, true, true, true, true, true, true, true, true, true, true, true, true, true, true, true, true, true, true, true, true, true, true, true, true, false, false, false, false, false, false, false, false, false, false, false, false, false, false, false, false] rfl rfl (any_of HT_.out (by kernel_rfl)) (fun _ _ _ h => h) (Or.inr ⟨by rfl, rfl⟩) ?_ ?_
              rotate_left
              · simp only [Act.put, List.setIfInBounds_toArray, List.set_cons_zero, List.set_cons_succ]
                rfl
              refine pure_ (i := 28) (N := some 118) (v := undef) (a' := ?_) #[true, true, true, true, true, true, true, true, true, true, true, true, true, true, true, true, true, true, true, true, true, true, true, true, true, true, true, true, true, false, false, false, false, false, false, false, false, false, false, false, false, false, false, false] rfl rfl (any_of HT_.out (by kernel_rfl)) (fun _ _ _ h => h) (Or.inr ⟨by rfl, rfl⟩) ?_ ?_
              rotate_left
              · simp only [Act.put, List.setIfInBounds_toArray, List.set_cons_zero, List.set_cons_succ]
                rfl
              refine pure_ (i := 29) (N := some 119) (v := undef) (a' := ?_) #[true, true, true, true, true, true, true, true, true, true, true, true, true, true, true, true, true, true, true, true, true, true, true, true, true, true, true, true, true, true, false, false, false, false, false, false, false, false, false, false, false, false, false, false] rfl rfl (any_of HT_.out (by kernel_rfl)) (fun _ _ _ h => h) (Or.inr ⟨by rfl, rfl⟩) ?_ ?_
              rotate_left
              · simp only [Act.put, List.setIfInBounds_toArray, List.set_cons_zero, List.set_cons_succ]
                rfl
              refine pure_ (i := 30) (N := some 120) (v := undef) (a' := ?_) #[true, true, true, true, true, true, true, true, true, true, true, true, true, true, true, true, true, true, true, true, true, true, true, true, true, true, true, true, true, true, true, false, false, false, false, false, false, false, false, false, false, false, false, false] rfl rfl (any_of HT_.out (by kernel_rfl)) (fun _ _ _ h => h) (Or.inr ⟨by rfl, rfl⟩) ?_ ?_
              rotate_left
              · simp only [Act.put, List.setIfInBounds_toArray, List.set_cons_zero, List.set_cons_succ]
                rfl
              refine pure_ (i := 31) (N := some 121) (v := undef) (a' := ?_) #[true, true, true, true, true, true, true, true, true, true, true, true, true, true, true, true, true, true, true, true, true, true, true, true, true, true, true, true, true, true, true, true, false, false, false, false, false, false, false, false, false, false, false, false] rfl rfl (any_of HT_.out (by kernel_rfl)) (fun _ _ _ h => h) (Or.inr ⟨by rfl, rfl⟩) ?_ ?_
              rotate_left
              · simp only [Act.put, List.setIfInBounds_toArray, List.set_cons_zero, List.set_cons_succ]
                rfl
              refine pure_ (i := 32) (N := some 122) (v := undef) (a' := ?_) #[true, true, true, true, true, true, true, true, true, true, true, true, true, true, true, true, true, true, true, true, true, true, true, true, true, true, true, true, true, true, true, true, true, false, false, false, false, false, false, false, false, false, false, false] rfl rfl (any_of HT_.out (by kernel_rfl)) (fun _ _ _ h => h) (Or.inr ⟨by rfl, rfl⟩) ?_ ?_
              rotate_left
              · simp only [Act.put, List.setIfInBounds_toArray, List.set_cons_zero, List.set_cons_succ]
                rfl
              refine pure_ (i := 33) (N := some 123) (v := ?_) (a' := ?_) #[true, true, true, true, true, true, true, true, true, true, true, true, true, true, true, true, true, true, true, true, true, true, true, true, true, true, true, true, true, true, true, true, true, true, false, false, false, false, false, false, false, false, false, false] rfl rfl (any_of HT_.out (by kernel_rfl)) (fun _ _ _ h => h) (Or.inl ⟨by rfl, ?_⟩) ?_ ?_
              rotate_left
              · intro w'
                go_simp
                with_reducible rfl
              rotate_left
              · simp only [Act.put, List.setIfInBounds_toArray, List.set_cons_zero, List.set_cons_succ]
                rfl
              refine pure_ (i := 34) (N := some 124) (v := ?_) (a' := ?_) #[true, true, true, true, true, true, true, true, true, true, true, true, true, true, true, true, true, true, true, true, true, true, true, true, true, true, true, true, true, true, true, true, true, true, true, false, false, false, false, false, false, false, false, false] rfl rfl (any_of HT_.out (by kernel_rfl)) (fun _ _ _ h => h) (Or.inl ⟨by rfl, ?_⟩) ?_ ?_
              rotate_left
              · intro w'
                go_simp
                with_reducible rfl
              rotate_left
              · simp only [Act.put, List.setIfInBounds_toArray, List.set_cons_zero, List.set_cons_succ]
                rfl
              refine pure_ (i := 35) (N := some 125) (v := ?_) (a' := ?_) #[true, true, true, true, true, true, true, true, true, true, true, true, true, true, true, true, true, true, true, true, true, true, true, true, true, true, true, true, true, true, true, true, true, true, true, true, false, false, false, false, false, false, false, false] rfl rfl (any_of HT_.out (by kernel_rfl)) (fun _ _ _ h => h) (Or.inl ⟨by rfl, ?_⟩) ?_ ?_
              rotate_left
              · intro w'
                go_simp
                with_reducible rfl
              rotate_left
              · simp only [Act.put, List.setIfInBounds_toArray, List.set_cons_zero, List.set_cons_succ]
                rfl
              refine pure_ (i := 36) (N := some 126) (v := ?_) (a' := ?_) #[true, true, true, true, true, true, true, true, true, true, true, true, true, true, true, true, true, true, true, true, true, true, true, true, true, true, true, true, true, true, true, true, true, true, true, true, true, false, false, false, false, false, false, false] rfl rfl (any_of HT_.out (by kernel_rfl)) (fun _ _ _ h => h) (Or.inl ⟨by rfl, ?_⟩) ?_ ?_
              rotate_left
              · intro w'
                go_simp
                with_reducible rfl
              rotate_left
              · simp only [Act.put, List.setIfInBounds_toArray, List.set_cons_zero, List.set_cons_succ]
                rfl
              refine pure_ (i := 39) (N := some 129) (v := ?_) (a' := ?_) #[true, true, true, true, true, true, true, true, true, true, true, true, true, true, true, true, true, true, true, true, true, true, true, true, true, true, true, true, true, true, true, true, true, true, true, true, true, false, false, true, false, false, false, false] rfl rfl (any_of HT_.out (by kernel_rfl)) (fun _ _ _ h => h) (Or.inl ⟨by rfl, ?_⟩) ?_ ?_
              rotate_left
              · intro w'
                go_simp
                with_reducible rfl
              rotate_left
              · simp only [Act.put, List.setIfInBounds_toArray, List.set_cons_zero, List.set_cons_succ]
                rfl
              refine one_ (i := 37) (N := some 127) #[true, true, true, true, true, true, true, true, true, true, true, true, true, true, true, true, true, true, true, true, true, true, true, true, true, true, true, true, true, true, true, true, true, true, true, true, true, true, false, true, false, false, false, false] rfl rfl (one_of HT_.out (by kernel_rfl)) (by decide) (fun K hK => ?_)
              refine goes_ Tryz.func28 (by kernel_rfl) rfl #[.pointer (some ⟨a, 0, none⟩)] (by rfl) rfl rfl (by (try simp only [List.map_toArray, List.map_cons, List.map_nil]); first | done | rfl) ?_
              refine (HWr.out _ hHeld).mono ?_
              rintro e W' ⟨vw, rfl, hRw, hb⟩
              obtain ⟨Ab, cb, rfl, hcb, hCb⟩ := Kd.R_reads hRw
              have hcv := Kd.C_string (dst := 9) (c := cb) Tryz.underlying41 Tryz.underlying5 Tryz.underlying9 hCb
              clear hRw
              refine ⟨_, rfl, ?_⟩
              have hS' := below_step (w := wc) hHeld hb
              clear hHeld
              refine hK.out _ _ hS' (fun hHeld => ?_)
              clear hK K hb hS'
              refine norm_ (a' := ?_) ?_ ?_
              rotate_left
              · show Act.put _ (some 127) _ = _
                simp only [Act.put, List.setIfInBounds_toArray, List.set_cons_zero, List.set_cons_succ]
                rfl
              refine two_ (i := 38) (j := 40) (Ni := some 128) (Nj := some 130) #[true, true, true, true, true, true, true, true, true, true, true, true, true, true, true, true, true, true, true, true, true, true, true, true, true, true, true, true, true, true, true, true, true, true, true, true, true, true, true, true, false, false, false, false] #[true, true, true, true, true, true, true, true, true, true, true, true, true, true, true, true, true, true, true, true, true, true, true, true, true, true, true, true, true, true, true, true, true, true, true, true, true, true, false, true, true, false, false, false] rfl rfl rfl rfl (two_of HT_.out (by kernel_rfl)) (by decide) (by decide) (fun K hK => ?_) (fun K hK => ?_)
              · rw [if_pos (by rfl)]
                go_simp
                refine hK.out _ _ hHeld (fun hHeld => ?_)
                clear hK K
                refine one_ (i := 40) (N := some 130) #[true, true, true, true, true, true, true, true, true, true, true, true, true, true, true, true, true, true, true, true, true, true, true, true, true, true, true, true, true, true, true, true, true, true, true, true, true, true, true, true, true, false, false, false] rfl rfl (one_of HT_.out (by kernel_rfl)) (by decide) (fun K hK => ?_)
                refine goes_ Tryz.func29 (by kernel_rfl) rfl #[.slice AW want.length cW] (by rfl) rfl rfl (by (try simp only [List.map_toArray, List.map_cons, List.map_nil]); first | done | rfl) ?_
                refine (HRw.out _ hHeld).mono ?_
                rintro e W' ⟨rfl, hb⟩
                refine ⟨_, rfl, ?_⟩
                have hS' := below_step (w := wc) hHeld hb
                have hcv2 := Kd.C_string (dst := 9) (c := cb) Tryz.underlying41 Tryz.underlying5 Tryz.underlying9 (Kd.C_below hCb hb)
                clear hHeld
                refine hK.out _ _ hS' (fun hHeld => ?_)
                clear hK K hb hS'
                refine norm_ (a' := ?_) ?_ ?_
                rotate_left
                · show Act.put _ (some 130) _ = _
                  simp only [Act.put, List.setIfInBounds_toArray, List.set_cons_zero, List.set_cons_succ]
                  rfl
                refine pure_ (i := 41) (N := some 131) (v := ?_) (a' := ?_) #[true, true, true, true, true, true, true, true, true, true, true, true, true, true, true, true, true, true, true, true, true, true, true, true, true, true, true, true, true, true, true, true, true, true, true, true, true, true, true, true, true, true, false, false] rfl rfl (any_of HT_.out (by kernel_rfl)) (fun _ _ _ h => h) (Or.inl ⟨by rfl, ?_⟩) ?_ ?_
                rotate_left
                · intro w'
                  go_simp
                  with_reducible rfl
                rotate_left
                · simp only [Act.put, List.setIfInBounds_toArray, List.set_cons_zero, List.set_cons_succ]
                  rfl
                refine pure_ (i := 42) (N := some 132) (v := ?_) (a' := ?_) #[true, true, true, true, true, true, true, true, true, true, true, true, true, true, true, true, true, true, true, true, true, true, true, true, true, true, true, true, true, true, true, true, true, true, true, true, true, true, true, true, true, true, true, false] rfl rfl (any_of HT_.out (by kernel_rfl)) (fun _ _ _ h => h) (Or.inl ⟨by rfl, ?_⟩) ?_ ?_
                rotate_left
                · intro w'
                  go_simp
                  with_reducible rfl
                rotate_left
                · simp only [Act.put, List.setIfInBounds_toArray, List.set_cons_zero, List.set_cons_succ]
                  rfl
                refine pure_ (i := 43) (N := some 6) (v := ?_) (a' := ?_) #[true, true, true, true, true, true, true, true, true, true, true, true, true, true, true, true, true, true, true, true, true, true, true, true, true, true, true, true, true, true, true, true, true, true, true, true, true, true, true, true, true, true, true, true] rfl rfl (any_of HT_.out (by kernel_rfl)) (fun _ _ _ h => h) (Or.inl ⟨by rfl, ?_⟩) ?_ ?_
                rotate_left
                · intro w'
                  go_simp
                  with_reducible rfl
                rotate_left
                · simp only [Act.put, List.setIfInBounds_toArray, List.set_cons_zero, List.set_cons_succ]
                  rfl
                refine done_ (done_of HT_.out (by kernel_rfl)) ?_
                go_wp2_with fail
                go_ret
                exact ⟨by rfl, HFin.out.trans (Below.mono hHeld HFin.out.size)⟩
              · refine goes_ Tryz.func29 (by kernel_rfl) rfl #[.slice AW want.length cW] (by rfl) rfl rfl (by (try simp only [List.map_toArray, List.map_cons, List.map_nil]); first | done | rfl) ?_
                refine (HRw.out _ hHeld).mono ?_
                rintro e W' ⟨rfl, hb⟩
                refine ⟨_, rfl, ?_⟩
                have hS' := below_step (w := wc) hHeld hb
                have hcv2 := Kd.C_string (dst := 9) (c := cb) Tryz.underlying41 Tryz.underlying5 Tryz.underlying9 (Kd.C_below hCb hb)
                clear hHeld
                refine hK.out _ _ hS' (fun hHeld => ?_)
                clear hK K hb hS'
                refine norm_ (a' := ?_) ?_ ?_
                rotate_left
                · show Act.put _ (some 130) _ = _
                  simp only [Act.put, List.setIfInBounds_toArray, List.set_cons_zero, List.set_cons_succ]
                  rfl
                refine one_ (i := 38) (N := some 128) #[true, true, true, true, true, true, true, true, true, true, true, true, true, true, true, true, true, true, true, true, true, true, true, true, true, true, true, true, true, true, true, true, true, true, true, true, true, true, true, true, true, false, false, false] rfl rfl (one_of HT_.out (by kernel_rfl)) (by decide) (fun K hK => ?_)
                rw [if_pos (by rfl)]
                go_simp
                refine hK.out _ _ hHeld (fun hHeld => ?_)
                clear hK K
                refine pure_ (i := 41) (N := some 131) (v := ?_) (a' := ?_) #[true, true, true, true, true, true, true, true, true, true, true, true, true, true, true, true, true, true, true, true, true, true, true, true, true, true, true, true, true, true, true, true, true, true, true, true, true, true, true, true, true, true, false, false] rfl rfl (any_of HT_.out (by kernel_rfl)) (fun _ _ _ h => h) (Or.inl ⟨by rfl, ?_⟩) ?_ ?_
                rotate_left
                · intro w'
                  go_simp
                  with_reducible rfl
                rotate_left
                · simp only [Act.put, List.setIfInBounds_toArray, List.set_cons_zero, List.set_cons_succ]
                  rfl
                refine pure_ (i := 42) (N := some 132) (v := ?_) (a' := ?_) #[true, true, true, true, true, true, true, true, true, true, true, true, true, true, true, true, true, true, true, true, true, true, true, true, true, true, true, true, true, true, true, true, true, true, true, true, true, true, true, true, true, true, true, false] rfl rfl (any_of HT_.out (by kernel_rfl)) (fun _ _ _ h => h) (Or.inl ⟨by rfl, ?_⟩) ?_ ?_
                rotate_left
                · intro w'
                  go_simp
                  with_reducible rfl
                rotate_left
                · simp only [Act.put, List.setIfInBounds_toArray, List.set_cons_zero, List.set_cons_succ]
                  rfl
                refine pure_ (i := 43) (N := some 6) (v := ?_) (a' := ?_) #[true, true, true, true, true, true, true, true, true, true, true, true, true, true, true, true, true, true, true, true, true, true, true, true, true, true, true, true, true, true, true, true, true, true, true, true, true, true, true, true, true, true, true, true] rfl rfl (any_of HT_.out (by kernel_rfl)) (fun _ _ _ h => h) (Or.inl ⟨by rfl, ?_⟩) ?_ ?_
                rotate_left
                · intro w'
                  go_simp
                  with_reducible rfl
                rotate_left
                · simp only [Act.put, List.setIfInBounds_toArray, List.set_cons_zero, List.set_cons_succ]
                  rfl
                refine done_ (done_of HT_.out (by kernel_rfl)) ?_
                go_wp2_with fail
                go_ret
                exact ⟨by rfl, HFin.out.trans (Below.mono hHeld HFin.out.size)⟩
            | true =>
              obtain ⟨j, hj, hfj, hdj⟩ := HAt.out rfl
              obtain ⟨adW, A3, c3, hA, q0, q1, q2, q3, q4, q5, hl3, hC3⟩ := P.at_T33 HC9.out (j : Int) (by omega) (by omega)
              subst hA
              rw [rd_def want j hj, hdj] at q0 q1 q2 q3 q4 q5 hl3 hC3
              rw [Int.toNat_natCast] at q0 q1 q2 q3 q4 q5
              subst hfj
              have HCells : Hid (∀ W, Below wc.heap.size wc W → W.cell? ⟨gx, 0, none⟩ = some (.int .i64 dx.f0) ∧ W.cell? ⟨gx, 1, none⟩ = some (.string dx.f1) ∧ W.cell? ⟨gx, 2, none⟩ = some (.string dx.f2) ∧ W.cell? ⟨gx, 3, none⟩ = some (.slice Ag dx.f3.length cg) ∧ W.cell? ⟨gx, 4, none⟩ = some (.string dx.f4) ∧ W.cell? ⟨gx, 5, none⟩ = some (.string dx.f5) ∧ W.cell? (adW.add (j * 6)) = some (.int .i64 dx.f0) ∧ W.cell? ⟨(adW.add (j * 6)).block, (adW.add (j * 6)).off + 1, none⟩ = some (.string dx.f1) ∧ W.cell? ⟨(adW.add (j * 6)).block, (adW.add (j * 6)).off + 2, none⟩ = some (.string dx.f2) ∧ W.cell? ⟨(adW.add (j * 6)).block, (adW.add (j * 6)).off + 3, none⟩ = some (.slice A3 dx.f3.length c3) ∧ W.cell? ⟨(adW.add (j * 6)).block, (adW.add (j * 6)).off + 4, none⟩ = some (.string dx.f4) ∧ W.cell? ⟨(adW.add (j * 6)).block, (adW.add (j * 6)).off + 5, none⟩ = some (.string dx.f5)) := fun W hb => by
                obtain ⟨x0, x1, x2, x3, x4, x5⟩ := HBoxW.out W hb
                have hbw := HB12.out.trans (hb.mono HB12.out.size)
                exact ⟨x0, x1, x2, x3, x4, x5, (hbw.cell (World.block_lt_of_cell? _ _ q0)).trans q0, (hbw.cell (World.block_lt_of_cell? _ _ q1)).trans q1, (hbw.cell (World.block_lt_of_cell? _ _ q2)).trans q2, (hbw.cell (World.block_lt_of_cell? _ _ q3)).trans q3, (hbw.cell (World.block_lt_of_cell? _ _ q4)).trans q4, (hbw.cell (World.block_lt_of_cell? _ _ q5)).trans q5⟩
              have HRs := Lib.hid (fun W (hb : Below wc.heap.size wc W) => ref_same_calls (.agg #[.int .i64 dx.f0, .string dx.f1, .string dx.f2, .slice Ag dx.f3.length cg, .string dx.f4, .string dx.f5]) (.agg #[.int .i64 dx.f0, .string dx.f1, .string dx.f2, .slice A3 dx.f3.length c3, .string dx.f4, .string dx.f5]) dx dx W ⟨Ag, cg, rfl, hlg, HCe.out W hb⟩ ⟨A3, c3, rfl, hl3, Kd.C_below hC3 (HB12.out.trans (hb.mono HB12.out.size))⟩)
              rw [decide_eq_true (rfl : dx = dx)] at HRs
              have hj0 : (0 : Int) ≤ (j : Int) := by omega
              have hj1 : (j : Int) < (want.length : Int) := by omega
              clear HAt HNo HEmp HC9 HS9 HU HG HW HBox2 HCx2 hgx1 hlg HB12 HB9 HC HWant hz9 hl20 hk7 hk7' hk8 hk9 hcl hlt hi hkey hturn HCe HBoxW q0 q1 q2 q3 q4 q5 hl3 hC3 hdj
              go_wp2_with fail
              refine start_ (n := 44) (S := (fun w' => Below wc.heap.size wc w' ∧ w'.cell? ⟨gx, 0, none⟩ = some (.int .i64 dx.f0) ∧ w'.cell? ⟨gx, 1, none⟩ = some (.string dx.f1) ∧ w'.cell? ⟨gx, 2, none⟩ = some (.string dx.f2) ∧ w'.cell? ⟨gx, 3, none⟩ = some (.slice Ag dx.f3.length cg) ∧ w'.cell? ⟨gx, 4, none⟩ = some (.string dx.f4) ∧ w'.cell? ⟨gx, 5, none⟩ = some (.string dx.f5) ∧ w'.cell? (adW.add (j * 6)) = some (.int .i64 dx.f0) ∧ w'.cell? ⟨(adW.add (j * 6)).block, (adW.add (j * 6)).off + 1, none⟩ = some (.string dx.f1) ∧ w'.cell? ⟨(adW.add (j * 6)).block, (adW.add (j * 6)).off + 2, none⟩ = some (.string dx.f2) ∧ w'.cell? ⟨(adW.add (j * 6)).block, (adW.add (j * 6)).off + 3, none⟩ = some (.slice A3 dx.f3.length c3) ∧ w'.cell? ⟨(adW.add (j * 6)).block, (adW.add (j * 6)).off + 4, none⟩ = some (.string dx.f4) ∧ w'.cell? ⟨(adW.add (j * 6)).block, (adW.add (j * 6)).off + 5, none⟩ = some (.string dx.f5))) (ds := []) #[false, false, false, false, false, false, false, false, false, false, false, false, false, false, false, false, false, false, false, false, false, false, false, false, false, false, false, false, false, false, false, false, false, false, false, false, false, false, false, false, false, false, false, false] (by kernel_rfl) rfl rfl ⟨(Below.refl _ wc).drew, HCells.out _ (Below.refl _ wc).drew⟩ (fun hHeld => ?_)
              refine with_tabW newsR.tab newsR.bits (fun HT_ HW_ => ?_)
              refine pure_ (i := 0) (N := some 90) (v := ?_) (a' := ?_) #[true, false, false, false, false, false, false, false, false, false, false, false, false, false, false, false, false, false, false, false, false, false, false, false, false, false, false, false, false, false, false, false, false, false, false, false, false, false, false, false, false, false, false, false] rfl rfl (any_of HT_.out (by kernel_rfl)) (fun _ _ _ h => h) (Or.inl ⟨by rfl, ?_⟩) ?_ ?_
              rotate_left
              · intro w'
                go_simp
                with_reducible rfl
              rotate_left
              · simp only [Act.put, List.setIfInBounds_toArray, List.set_cons_zero, List.set_cons_succ]
                rfl
              refine pure_ (i := 1) (N := some 91) (v := ?_) (a' := ?_) #[true, true, false, false, false, false, false, false, false, false, false, false, false, false, false, false, false, false, false, false, false, false, false, false, false, false, false, false, false, false, false, false, false, false, false, false, false, false, false, false, false, false, false, false] rfl rfl (any_of HT_.out (by kernel_rfl)) (fun _ _ _ h => h) (Or.inl ⟨by rfl, ?_⟩) ?_ ?_
              rotate_left
              · intro w'
                go_simp
                with_reducible rfl
              rotate_left
              · simp only [Act.put, List.setIfInBounds_toArray, List.set_cons_zero, List.set_cons_succ]
                rfl
              refine one_ (i := 2) (N := some 92) #[true, true, true, false, false, false, false, false, false, false, false, false, false, false, false, false, false, false, false, false, false, false, false, false, false, false, false, false, false, false, false, false, false, false, false, false, false, false, false, false, false, false, false, false] rfl rfl (one_of HT_.out (by kernel_rfl)) (by decide) (fun K hK => ?_)
              refine goes_ Tryz.func25 (by kernel_rfl) rfl #[.pointer (some ⟨a, 0, none⟩), .slice (some adW) want.length cW] (by rfl) rfl rfl (by (try simp only [List.map_toArray, List.map_cons, List.map_nil]); first | done | rfl) ?_
              refine (HIs.out _ hHeld.1).mono ?_
              rintro e W' ⟨rfl, hb⟩
              refine ⟨_, rfl, ?_⟩
              have hS' := below_step (w := wc) hHeld.1 hb
              clear hHeld
              refine hK.out _ _ ⟨hS', HCells.out _ hS'⟩ (fun hHeld => ?_)
              clear hK K hb hS'
              refine norm_ (a' := ?_) ?_ ?_
              rotate_left
              · show Act.put _ (some 92) _ = _
                simp only [Act.put, List.setIfInBounds_toArray, List.set_cons_zero, List.set_cons_succ]
                rfl
              refine pure_ (i := 3) (N := some 93) (v := ?_) (a' := ?_) #[true, true, true, true, false, false, false, false, false, false, false, false, false, false, false, false, false, false, false, false, false, false, false, false, false, false, false, false, false, false, false, false, false, false, false, false, false, false, false, false, false, false, false, false] rfl rfl (any_of HT_.out (by kernel_rfl)) (fun _ _ _ h => h) (Or.inl ⟨by rfl, ?_⟩) ?_ ?_
              rotate_left
              · intro w'
                go_simp
                with_reducible rfl
              rotate_left
              · simp only [Act.put, List.setIfInBounds_toArray, List.set_cons_zero, List.set_cons_succ]
                rfl
              refine pure_ (i := 4) (N := some 94) (v := ?_) (a' := ?_) #[true, true, true, true, true, false, false, false, false, false, false, false, false, false, false, false, false, false, false, false, false, false, false, false, false, false, false, false, false, false, false, false, false, false, false, false, false, false, false, false, false, false, false, false] rfl rfl (any_of HT_.out (by kernel_rfl)) (fun _ _ _ h => h) (Or.inl ⟨by rfl, ?_⟩) ?_ ?_
              rotate_left
              · intro w'
                go_simp
                with_reducible rfl
              rotate_left
              · simp only [Act.put, List.setIfInBounds_toArray, List.set_cons_zero, List.set_cons_succ]
                rfl
              refine pure_ (i := 5) (N := some 95) (v := ?_) (a' := ?_) #[true, true, true, true, true, true, false, false, false, false, false, false, false, false, false, false, false, false, false, false, false, false, false, false, false, false, false, false, false, false, false, false, false, false, false, false, false, false, false, false, false, false, false, false] rfl rfl (any_of HT_.out (by kernel_rfl)) (fun _ _ _ h => h) (Or.inl ⟨by rfl, ?_⟩) ?_ ?_
              rotate_left
              · intro w'
                go_simp
                with_reducible rfl
              rotate_left
              · simp only [Act.put, List.setIfInBounds_toArray, List.set_cons_zero, List.set_cons_succ]
                rfl
              refine pure_ (i := 6) (N := some 96) (v := ?_) (a' := ?_) #[true, true, true, true, true, true, true, false, false, false, false, false, false, false, false, false, false, false, false, false, false, false, false, false, false, false, false, false, false, false, false, false, false, false, false, false, false, false, false, false, false, false, false, false] rfl rfl (any_of HT_.out (by kernel_rfl)) (fun _ _ _ h => h) (Or.inl ⟨by rfl, ?_⟩) ?_ ?_
              rotate_left
              · intro w'
                go_simp
                with_reducible rfl
              rotate_left
              · simp only [Act.put, List.setIfInBounds_toArray, List.set_cons_zero, List.set_cons_succ]
                rfl
              refine pure_ (i := 7) (N := some 97) (v := ?_) (a' := ?_) #[true, true, true, true, true, true, true, true, false, false, false, false, false, false, false, false, false, false, false, false, false, false, false, false, false, false, false, false, false, false, false, false, false, false, false, false, false, false, false, false, false, false, false, false] rfl rfl (any_of HT_.out (by kernel_rfl)) (fun _ _ _ h => h) (Or.inl ⟨by rfl, ?_⟩) ?_ ?_
              rotate_left
              · intro w'
                go_simp
                with_reducible rfl
              rotate_left
              · simp only [Act.put, List.setIfInBounds_toArray, List.set_cons_zero, List.set_cons_succ]
                rfl
              refine pure_ (i := 8) (N := some 98) (v := ?_) (a' := ?_) #[true, true, true, true, true, true, true, true, true, false, false, false, false, false, false, false, false, false, false, false, false, false, false, false, false, false, false, false, false, false, false, false, false, false, false, false, false, false, false, false, false, false, false, false] rfl rfl (any_of HT_.out (by kernel_rfl)) (fun _ _ _ h => h) (Or.inl ⟨by rfl, ?_⟩) ?_ ?_
              rotate_left
              · intro w'
                go_simp
                with_reducible rfl
              rotate_left
              · simp only [Act.put, List.setIfInBounds_toArray, List.set_cons_zero, List.set_cons_succ]
                rfl
              refine pure_ (i := 9) (N := some 99) (v := ?_) (a' := ?_) #[true, true, true, true, true, true, true, true, true, true, false, false, false, false, false, false, false, false, false, false, false, false, false, false, false, false, false, false, false, false, false, false, false, false, false, false, false, false, false, false, false, false, false, false] rfl rfl (any_of HT_.out (by kernel_rfl)) (fun _ _ _ h => h) (Or.inl ⟨by rfl, ?_⟩) ?_ ?_
              rotate_left
              · intro w'
                go_simp
                with_reducible rfl
              rotate_left
              · simp only [Act.put, List.setIfInBounds_toArray, List.set_cons_zero, List.set_cons_succ]
                rfl
              refine one_ (i := 10) (N := some 100) #[true, true, true, true, true, true, true, true, true, true, true, false, false, false, false, false, false, false, false, false, false, false, false, false, false, false, false, false, false, false, false, false, false, false, false, false, false, false, false, false, false, false, false, false] rfl rfl (one_of HT_.out (by kernel_rfl)) (by decide) (fun K hK => ?_)
              refine goes_ Tryz.func26 (by kernel_rfl) rfl #[.pointer (some ⟨a, 0, none⟩), .pointer (some ⟨a2, 0, none⟩)] (by rfl) rfl rfl (by (try simp only [List.map_toArray, List.map_cons, List.map_nil]); first | done | rfl) ?_
              refine (HSa.out _ hHeld.1).mono ?_
              rintro e W' ⟨rfl, hb⟩
              refine ⟨_, rfl, ?_⟩
              have hS' := below_step (w := wc) hHeld.1 hb
              clear hHeld
              refine hK.out _ _ ⟨hS', HCells.out _ hS'⟩ (fun hHeld => ?_)
              clear hK K hb hS'
              refine norm_ (a' := ?_) ?_ ?_
              rotate_left
              · show Act.put _ (some 100) _ = _
                simp only [Act.put, List.setIfInBounds_toArray, List.set_cons_zero, List.set_cons_succ]
                rfl
              refine pure_ (i := 11) (N := some 101) (v := ?_) (a' := ?_) #[true, true, true, true, true, true, true, true, true, true, true, true, false, false, false, false, false, false, false, false, false, false, false, false, false, false, false, false, false, false, false, false, false, false, false, false, false, false, false, false, false, false, false, false] rfl rfl (any_of HT_.out (by kernel_rfl)) (fun _ _ _ h => h) (Or.inl ⟨by rfl, ?_⟩) ?_ ?_
              rotate_left
              · intro w'
                go_simp
                with_reducible rfl
              rotate_left
              · simp only [Act.put, List.setIfInBounds_toArray, List.set_cons_zero, List.set_cons_succ]
                rfl
              refine pure_ (i := 12) (N := some 102) (v := ?_) (a' := ?_) #[true, true, true, true, true, true, true, true, true, true, true, true, true, false, false, false, false, false, false, false, false, false, false, false, false, false, false, false, false, false, false, false, false, false, false, false, false, false, false, false, false, false, false, false] rfl rfl (any_of HT_.out (by kernel_rfl)) (fun _ _ _ h => h) (Or.inl ⟨by rfl, ?_⟩) ?_ ?_
              rotate_left
              · intro w'
                go_simp
                with_reducible rfl
              rotate_left
              · simp only [Act.put, List.setIfInBounds_toArray, List.set_cons_zero, List.set_cons_succ]
                rfl
              refine pure_ (i := 13) (N := some 103) (v := ?_) (a' := ?_) #[true, true, true, true, true, true, true, true, true, true, true, true, true, true, false, false, false, false, false, false, false, false, false, false, false, false, false, false, false, false, false, false, false, false, false, false, false, false, false, false, false, false, false, false] rfl rfl (any_of HT_.out (by kernel_rfl)) (fun _ _ _ h => h) (Or.inl ⟨by rfl, ?_⟩) ?_ ?_
              rotate_left
              · intro w'
                go_simp
                with_reducible rfl
              rotate_left
              · simp only [Act.put, List.setIfInBounds_toArray, List.set_cons_zero, List.set_cons_succ]
                rfl
              refine pure_ (i := 14) (N := some 104) (v := ?_) (a' := ?_) #[true, true, true, true, true, true, true, true, true, true, true, true, true, true, true, false, false, false, false, false, false, false, false, false, false, false, false, false, false, false, false, false, false, false, false, false, false, false, false, false, false, false, false, false] rfl rfl (any_of HT_.out (by kernel_rfl)) (fun _ _ _ h => h) (Or.inl ⟨by rfl, ?_⟩) ?_ ?_
              rotate_left
              · intro w'
                go_simp
                with_reducible rfl
              rotate_left
              · simp only [Act.put, List.setIfInBounds_toArray, List.set_cons_zero, List.set_cons_succ]
                rfl
              refine one_ (i := 15) (N := some 105) #[true, true, true, true, true, true, true, true, true, true, true, true, true, true, true, true, false, false, false, false, false, false, false, false, false, false, false, false, false, false, false, false, false, false, false, false, false, false, false, false, false, false, false, false] rfl rfl (one_of HT_.out (by kernel_rfl)) (by decide) (fun K hK => ?_)
              refine goes_ Tryz.func26 (by kernel_rfl) rfl #[.pointer (some ⟨a2, 0, none⟩), .pointer (some ⟨a, 0, none⟩)] (by rfl) rfl rfl (by (try simp only [List.map_toArray, List.map_cons, List.map_nil]); first | done | rfl) ?_
              refine (HSb.out _ hHeld.1).mono ?_
              rintro e W' ⟨rfl, hb⟩
              refine ⟨_, rfl, ?_⟩
              have hS' := below_step (w := wc) hHeld.1 hb
              clear hHeld
              refine hK.out _ _ ⟨hS', HCells.out _ hS'⟩ (fun hHeld => ?_)
              clear hK K hb hS'
              refine norm_ (a' := ?_) ?_ ?_
              rotate_left
              · show Act.put _ (some 105) _ = _
                simp only [Act.put, List.setIfInBounds_toArray, List.set_cons_zero, List.set_cons_succ]
                rfl
              refine pure_ (i := 16) (N := some 106) (v := ?_) (a' := ?_) #[true, true, true, true, true, true, true, true, true, true, true, true, true, true, true, true, true, false, false, false, false, false, false, false, false, false, false, false, false, false, false, false, false, false, false, false, false, false, false, false, false, false, false, false] rfl rfl (any_of HT_.out (by kernel_rfl)) (fun _ _ _ h => h) (Or.inl ⟨by rfl, ?_⟩) ?_ ?_
              rotate_left
              · intro w'
                go_simp
                with_reducible rfl
              rotate_left
              · simp only [Act.put, List.setIfInBounds_toArray, List.set_cons_zero, List.set_cons_succ]
                rfl
              refine pure_ (i := 17) (N := some 107) (v := ?_) (a' := ?_) #[true, true, true, true, true, true, true, true, true, true, true, true, true, true, true, true, true, true, false, false, false, false, false, false, false, false, false, false, false, false, false, false, false, false, false, false, false, false, false, false, false, false, false, false] rfl rfl (any_of HT_.out (by kernel_rfl)) (fun _ _ _ h => h) (Or.inl ⟨by rfl, ?_⟩) ?_ ?_
              rotate_left
              · intro w'
                go_simp
                with_reducible rfl
              rotate_left
              · simp only [Act.put, List.setIfInBounds_toArray, List.set_cons_zero, List.set_cons_succ]
                rfl
              refine pure_ (i := 18) (N := some 108) (v := ?_) (a' := ?_) #[true, true, true, true, true, true, true, true, true, true, true, true, true, true, true, true, true, true, true, false, false, false, false, false, false, false, false, false, false, false, false, false, false, false, false, false, false, false, false, false, false, false, false, false] rfl rfl (any_of HT_.out (by kernel_rfl)) (fun _ _ _ h => h) (Or.inl ⟨by rfl, ?_⟩) ?_ ?_
              rotate_left
              · intro w'
                go_simp
                with_reducible rfl
              rotate_left
              · simp only [Act.put, List.setIfInBounds_toArray, List.set_cons_zero, List.set_cons_succ]
                rfl
              refine pure_ (i := 19) (N := some 109) (v := ?_) (a' := ?_) #[true, true, true, true, true, true, true, true, true, true, true, true, true, true, true, true, true, true, true, true, false, false, false, false, false, false, false, false, false, false, false, false, false, false, false, false, false, false, false, false, false, false, false, false] rfl rfl (any_of HT_.out (by kernel_rfl)) (fun _ _ _ h => h) (Or.inl ⟨by rfl, ?_⟩) ?_ ?_
              rotate_left
              · intro w'
                go_simp
                with_reducible rfl
              rotate_left
              · simp only [Act.put, List.setIfInBounds_toArray, List.set_cons_zero, List.set_cons_succ]
                rfl
              refine pure_ (i := 20) (N := some 110) (v := ?_) (a' := ?_) #[true, true, true, true, true, true, true, true, true, true, true, true, true, true, true, true, true, true, true, true, true, false, false, false, false, false, false, false, false, false, false, false, false, false, false, false, false, false, false, false, false, false, false, false] rfl rfl (any_of HT_.out (by kernel_rfl)) (fun _ _ _ h => h) (Or.inl ⟨by rfl, ?_⟩) ?_ ?_
              rotate_left
              · intro w'
                go_simp
                with_reducible rfl
              rotate_left
              · simp only [Act.put, List.setIfInBounds_toArray, List.set_cons_zero, List.set_cons_succ]
                rfl
              refine pure_ (i := 21) (N := some 111) (v := ?_) (a' := ?_) #[true, true, true, true, true, true, true, true, true, true, true, true, true, true, true, true, true, true, true, true, true, true, false, false, false, false, false, false, false, false, false, false, false, false, false, false, false, false, false, false, false, false, false, false] rfl rfl (any_of HT_.out (by kernel_rfl)) (fun _ _ _ h => h) (Or.inl ⟨by rfl, ?_⟩) ?_ ?_
              rotate_left
              · intro w'
                go_simp
                with_reducible rfl
              rotate_left
              · simp only [Act.put, List.setIfInBounds_toArray, List.set_cons_zero, List.set_cons_succ]
                rfl
              refine pure_ (i := 22) (N := some 112) (v := ?_) (a' := ?_) #[true, true, true, true, true, true, true, true, true, true, true, true, true, true, true, true, true, true, true, true, true, true, true, false, false, false, false, false, false, false, false, false, false, false, false, false, false, false, false, false, false, false, false, false] rfl rfl (any_of HT_.out (by kernel_rfl)) (fun _ _ _ h => h) (Or.inl ⟨by rfl, ?_⟩) ?_ ?_
              rotate_left
              · intro w'
                go_simp
                with_reducible rfl
              rotate_left
              · simp only [Act.put, List.setIfInBounds_toArray, List.set_cons_zero, List.set_cons_succ]
                rfl
              refine pure_ (i := 23) (N := some 113) (v := ?_) (a' := ?_) #[true, true, true, true, true, true, true, true, true, true, true, true, true, true, true, true, true, true, true, true, true, true, true, true, false, false, false, false, false, false, false, false, false, false, false, false, false, false, false, false, false, false, false, false] rfl rfl (any_of HT_.out (by kernel_rfl)) (fun _ _ _ h => h) (Or.inl ⟨by rfl, ?_⟩) ?_ ?_
              rotate_left
              · intro w'
                go_simp
                with_reducible rfl
              rotate_left
              · simp only [Act.put, List.setIfInBounds_toArray, List.set_cons_zero, List.set_cons_succ]
                rfl
              refine pure_ (i := 24) (N := some 114) (v := ?_) (a' := ?_) #[true, true, true, true, true, true, true, true, true, true, true, true, true, true, true, true, true, true, true, true, true, true, true, true, true, false, false, false, false, false, false, false, false, false, false, false, false, false, false, false, false, false, false, false] rfl rfl (any_of HT_.out (by kernel_rfl)) (fun _ _ _ h => h) (Or.inl ⟨by rfl, ?_⟩) ?_ ?_
              rotate_left
              · intro w'
                go_simp
                with_reducible rfl
              rotate_left
              · simp only [Act.put, List.setIfInBounds_toArray, List.set_cons_zero, List.set_cons_succ]
                rfl
              refine pure_ (i := 25) (N := some 115) (v := ?_) (a' := ?_) #[true, true, true, true, true, true, true, true, true, true, true, true, true, true, true, true, true, true, true, true, true, true, true, true, true, true, false, false, false, false, false, false, false, false, false, false, false, false, false, false, false, false, false, false] rfl rfl (any_of HT_.out (by kernel_rfl)) (fun _ _ _ h => h) (Or.inl ⟨by rfl, ?_⟩) ?_ ?_
              rotate_left
              · intro w'
                go_simp
                with_reducible rfl
              rotate_left
              · simp only [Act.put, List.setIfInBounds_toArray, List.set_cons_zero, List.set_cons_succ]
                rfl
              refine pure_ (i := 26) (N := some 116) (v := ?_) (a' := ?_) #[true, true, true, true, true, true, true, true, true, true, true, true, true, true, true, true, true, true, true, true, true, true, true, true, true, true, true, false, false, false, false, false, false, false, false, false, false, false, false, false, false, false, false, false] rfl rfl (any_of HT_.out (by kernel_rfl)) (fun _ _ _ h => h) (Or.inl ⟨by rfl, ?_⟩) ?_ ?_
              rotate_left
              · intro w'
                go_simp
                with_reducible rfl
              rotate_left
              · simp only [Act.put, List.setIfInBounds_toArray, List.set_cons_zero, List.set_cons_succ]
                rfl
              refine take_ (i := 27) (N := some 117) (v := ?_) (a' := ?_) #[true, true, true, true, true, true, true, true, true, true, true, true, true, true, true, true, true, true, true, true, true, true, true, true, true, true, true, true, false, false, false, false, false, false, false, false, false, false, false, false, false, false, false, false] rfl rfl (take_ofW HT_.out HW_.out (by kernel_rfl)) (fun _ _ _ h => h) (Or.inl ⟨by rfl, ?_⟩) hHeld ?_ ?_
              rotate_left
              · rintro w' ⟨s0, s1, s2, s3, s4, s5, s6, s7, s8, s9, s10, s11, s12⟩
                go_simp
                with_reducible rfl
              rotate_left
              · simp only [Act.put, List.setIfInBounds_toArray, List.set_cons_zero, List.set_cons_succ]
                rfl
              refine pure_ (i := 28) (N := some 118) (v := ?_) (a' := ?_) #[true, true, true, true, true, true, true, true, true, true, true, true, true, true, true, true, true, true, true, true, true, true, true, true, true, true, true, true, true, false, false, false, false, false, false, false, false, false, false, false, false, false, false, false] rfl rfl (any_of HT_.out (by kernel_rfl)) (fun _ _ _ h => h) (Or.inl ⟨by rfl, ?_⟩) ?_ ?_
              rotate_left
              · intro w'
                go_simp
                with_reducible rfl
              rotate_left
              · simp only [Act.put, List.setIfInBounds_toArray, List.set_cons_zero, List.set_cons_succ]
                rfl
              refine pure_ (i := 29) (N := some 119) (v := ?_) (a' := ?_) #[true, true, true, true, true, true, true, true, true, true, true, true, true, true, true, true, true, true, true, true, true, true, true, true, true, true, true, true, true, true, false, false, false, false, false, false, false, false, false, false, false, false, false, false] rfl rfl (any_of HT_.out (by kernel_rfl)) (fun _ _ _ h => h) (Or.inl ⟨by rfl, ?_⟩) ?_ ?_
              rotate_left
              · intro w'
                go_simp
                with_reducible rfl
              rotate_left
              · simp only [Act.put, List.setIfInBounds_toArray, List.set_cons_zero, List.set_cons_succ]
                rfl
              refine pure_ (i := 30) (N := some 120) (v := ?_) (a' := ?_) #[true, true, true, true, true, true, true, true, true, true, true, true, true, true, true, true, true, true, true, true, true, true, true, true, true, true, true, true, true, true, true, false, false, false, false, false, false, false, false, false, false, false, false, false] rfl rfl (any_of HT_.out (by kernel_rfl)) (fun _ _ _ h => h) (Or.inl ⟨by rfl, ?_⟩) ?_ ?_
              rotate_left
              · intro w'
                go_simp
                with_reducible rfl
              rotate_left
              · simp only [Act.put, List.setIfInBounds_toArray, List.set_cons_zero, List.set_cons_succ]
                rfl
              refine take_ (i := 31) (N := some 121) (v := ?_) (a' := ?_) #[true, true, true, true, true, true, true, true, true, true, true, true, true, true, true, true, true, true, true, true, true, true, true, true, true, true, true, true, true, true, true, true, false, false, false, false, false, false, false, false, false, false, false, false] rfl rfl (take_ofW HT_.out HW_.out (by kernel_rfl)) (fun _ _ _ h => h) (Or.inl ⟨by rfl, ?_⟩) hHeld ?_ ?_
              rotate_left
              · rintro w' ⟨s0, s1, s2, s3, s4, s5, s6, s7, s8, s9, s10, s11, s12⟩
                go_simp
                with_reducible rfl
              rotate_left
              · simp only [Act.put, List.setIfInBounds_toArray, List.set_cons_zero, List.set_cons_succ]
                rfl
              refine one_ (i := 32) (N := some 122) #[true, true, true, true, true, true, true, true, true, true, true, true, true, true, true, true, true, true, true, true, true, true, true, true, true, true, true, true, true, true, true, true, true, false, false, false, false, false, false, false, false, false, false, false] rfl rfl (one_of HT_.out (by kernel_rfl)) (by decide) (fun K hK => ?_)
              refine goes_ Tryz.func27 (by kernel_rfl) rfl #[.agg #[.int .i64 dx.f0, .string dx.f1, .string dx.f2, .slice Ag dx.f3.length cg, .string dx.f4, .string dx.f5], .agg #[.int .i64 dx.f0, .string dx.f1, .string dx.f2, .slice A3 dx.f3.length c3, .string dx.f4, .string dx.f5]] (by rfl) rfl rfl (by (try simp only [List.map_toArray, List.map_cons, List.map_nil]); first | done | rfl) ?_
              refine (HRs.out _ hHeld.1).mono ?_
              rintro e W' ⟨rfl, hb⟩
              refine ⟨_, rfl, ?_⟩
              have hS' := below_step (w := wc) hHeld.1 hb
              clear hHeld
              refine hK.out _ _ ⟨hS', HCells.out _ hS'⟩ (fun hHeld => ?_)
              clear hK K hb hS'
              refine norm_ (a' := ?_) ?_ ?_
              rotate_left
              · show Act.put _ (some 122) _ = _
                simp only [Act.put, List.setIfInBounds_toArray, List.set_cons_zero, List.set_cons_succ]
                rfl
              refine pure_ (i := 33) (N := some 123) (v := ?_) (a' := ?_) #[true, true, true, true, true, true, true, true, true, true, true, true, true, true, true, true, true, true, true, true, true, true, true, true, true, true, true, true, true, true, true, true, true, true, false, false, false, false, false, false, false, false, false, false] rfl rfl (any_of HT_.out (by kernel_rfl)) (fun _ _ _ h => h) (Or.inl ⟨by rfl, ?_⟩) ?_ ?_
              rotate_left
              · intro w'
                go_simp
                with_reducible rfl
              rotate_left
              · simp only [Act.put, List.setIfInBounds_toArray, List.set_cons_zero, List.set_cons_succ]
                rfl
              refine pure_ (i := 34) (N := some 124) (v := ?_) (a' := ?_) #[true, true, true, true, true, true, true, true, true, true, true, true, true, true, true, true, true, true, true, true, true, true, true, true, true, true, true, true, true, true, true, true, true, true, true, false, false, false, false, false, false, false, false, false] rfl rfl (any_of HT_.out (by kernel_rfl)) (fun _ _ _ h => h) (Or.inl ⟨by rfl, ?_⟩) ?_ ?_
              rotate_left
              · intro w'
                go_simp
                with_reducible rfl
              rotate_left
              · simp only [Act.put, List.setIfInBounds_toArray, List.set_cons_zero, List.set_cons_succ]
                rfl
              refine pure_ (i := 35) (N := some 125) (v := ?_) (a' := ?_) #[true, true, true, true, true, true, true, true, true, true, true, true, true, true, true, true, true, true, true, true, true, true, true, true, true, true, true, true, true, true, true, true, true, true, true, true, false, false, false, false, false, false, false, false] rfl rfl (any_of HT_.out (by kernel_rfl)) (fun _ _ _ h => h) (Or.inl ⟨by rfl, ?_⟩) ?_ ?_
              rotate_left
              · intro w'
                go_simp
                with_reducible rfl
              rotate_left
              · simp only [Act.put, List.setIfInBounds_toArray, List.set_cons_zero, List.set_cons_succ]
                rfl
              refine pure_ (i := 36) (N := some 126) (v := ?_) (a' := ?_) #[true, true, true, true, true, true, true, true, true, true, true, true, true, true, true, true, true, true, true, true, true, true, true, true, true, true, true, true, true, true, true, true, true, true, true, true, true, false, false, false, false, false, false, false] rfl rfl (any_of HT_.out (by kernel_rfl)) (fun _ _ _ h => h) (Or.inl ⟨by rfl, ?_⟩) ?_ ?_
              rotate_left
              · intro w'
                go_simp
                with_reducible rfl
              rotate_left
              · simp only [Act.put, List.setIfInBounds_toArray, List.set_cons_zero, List.set_cons_succ]
                rfl
              refine pure_ (i := 39) (N := some 129) (v := ?_) (a' := ?_) #[true, true, true, true, true, true, true, true, true, true, true, true, true, true, true, true, true, true, true, true, true, true, true, true, true, true, true, true, true, true, true, true, true, true, true, true, true, false, false, true, false, false, false, false] rfl rfl (any_of HT_.out (by kernel_rfl)) (fun _ _ _ h => h) (Or.inl ⟨by rfl, ?_⟩) ?_ ?_
              rotate_left
              · intro w'
                go_simp
                with_reducible rfl
              rotate_left
              · simp only [Act.put, List.setIfInBounds_toArray, List.set_cons_zero, List.set_cons_succ]
                rfl
              refine one_ (i := 37) (N := some 127) #[true, true, true, true, true, true, true, true, true, true, true, true, true, true, true, true, true, true, true, true, true, true, true, true, true, true, true, true, true, true, true, true, true, true, true, true, true, true, false, true, false, false, false, false] rfl rfl (one_of HT_.out (by kernel_rfl)) (by decide) (fun K hK => ?_)
              refine goes_ Tryz.func28 (by kernel_rfl) rfl #[.pointer (some ⟨a, 0, none⟩)] (by rfl) rfl rfl (by (try simp only [List.map_toArray, List.map_cons, List.map_nil]); first | done | rfl) ?_
              refine (HWr.out _ hHeld.1).mono ?_
              rintro e W' ⟨vw, rfl, hRw, hb⟩
              obtain ⟨Ab, cb, rfl, hcb, hCb⟩ := Kd.R_reads hRw
              have hcv := Kd.C_string (dst := 9) (c := cb) Tryz.underlying41 Tryz.underlying5 Tryz.underlying9 hCb
              clear hRw
              refine ⟨_, rfl, ?_⟩
              have hS' := below_step (w := wc) hHeld.1 hb
              clear hHeld
              refine hK.out _ _ ⟨hS', HCells.out _ hS'⟩ (fun hHeld => ?_)
              clear hK K hb hS'
              refine norm_ (a' := ?_) ?_ ?_
              rotate_left
              · show Act.put _ (some 127) _ = _
                simp only [Act.put, List.setIfInBounds_toArray, List.set_cons_zero, List.set_cons_succ]
                rfl
              refine two_ (i := 38) (j := 40) (Ni := some 128) (Nj := some 130) #[true, true, true, true, true, true, true, true, true, true, true, true, true, true, true, true, true, true, true, true, true, true, true, true, true, true, true, true, true, true, true, true, true, true, true, true, true, true, true, true, false, false, false, false] #[true, true, true, true, true, true, true, true, true, true, true, true, true, true, true, true, true, true, true, true, true, true, true, true, true, true, true, true, true, true, true, true, true, true, true, true, true, true, false, true, true, false, false, false] rfl rfl rfl rfl (two_of HT_.out (by kernel_rfl)) (by decide) (by decide) (fun K hK => ?_) (fun K hK => ?_)
              · rw [if_pos (by rfl)]
                go_simp
                refine hK.out _ _ hHeld (fun hHeld => ?_)
                clear hK K
                refine one_ (i := 40) (N := some 130) #[true, true, true, true, true, true, true, true, true, true, true, true, true, true, true, true, true, true, true, true, true, true, true, true, true, true, true, true, true, true, true, true, true, true, true, true, true, true, true, true, true, false, false, false] rfl rfl (one_of HT_.out (by kernel_rfl)) (by decide) (fun K hK => ?_)
                refine goes_ Tryz.func29 (by kernel_rfl) rfl #[.slice (some adW) want.length cW] (by rfl) rfl rfl (by (try simp only [List.map_toArray, List.map_cons, List.map_nil]); first | done | rfl) ?_
                refine (HRw.out _ hHeld.1).mono ?_
                rintro e W' ⟨rfl, hb⟩
                refine ⟨_, rfl, ?_⟩
                have hS' := below_step (w := wc) hHeld.1 hb
                have hcv2 := Kd.C_string (dst := 9) (c := cb) Tryz.underlying41 Tryz.underlying5 Tryz.underlying9 (Kd.C_below hCb hb)
                clear hHeld
                refine hK.out _ _ ⟨hS', HCells.out _ hS'⟩ (fun hHeld => ?_)
                clear hK K hb hS'
                refine norm_ (a' := ?_) ?_ ?_
                rotate_left
                · show Act.put _ (some 130) _ = _
                  simp only [Act.put, List.setIfInBounds_toArray, List.set_cons_zero, List.set_cons_succ]
                  rfl
                refine pure_ (i := 41) (N := some 131) (v := ?_) (a' := ?_) #[true, true, true, true, true, true, true, true, true, true, true, true, true, true, true, true, true, true, true, true, true, true, true, true, true, true, true, true, true, true, true, true, true, true, true, true, true, true, true, true, true, true, false, false] rfl rfl (any_of HT_.out (by kernel_rfl)) (fun _ _ _ h => h) (Or.inl ⟨by rfl, ?_⟩) ?_ ?_
                rotate_left
                · intro w'
                  go_simp
                  with_reducible rfl
                rotate_left
                · simp only [Act.put, List.setIfInBounds_toArray, List.set_cons_zero, List.set_cons_succ]
                  rfl
                refine pure_ (i := 42) (N := some 132) (v := ?_) (a' := ?_) #[true, true, true, true, true, true, true, true, true, true, true, true, true, true, true, true, true, true, true, true, true, true, true, true, true, true, true, true, true, true, true, true, true, true, true, true, true, true, true, true, true, true, true, false] rfl rfl (any_of HT_.out (by kernel_rfl)) (fun _ _ _ h => h) (Or.inl ⟨by rfl, ?_⟩) ?_ ?_
                rotate_left
                · intro w'
                  go_simp
                  with_reducible rfl
                rotate_left
                · simp only [Act.put, List.setIfInBounds_toArray, List.set_cons_zero, List.set_cons_succ]
                  rfl
                refine pure_ (i := 43) (N := some 6) (v := ?_) (a' := ?_) #[true, true, true, true, true, true, true, true, true, true, true, true, true, true, true, true, true, true, true, true, true, true, true, true, true, true, true, true, true, true, true, true, true, true, true, true, true, true, true, true, true, true, true, true] rfl rfl (any_of HT_.out (by kernel_rfl)) (fun _ _ _ h => h) (Or.inl ⟨by rfl, ?_⟩) ?_ ?_
                rotate_left
                · intro w'
                  go_simp
                  with_reducible rfl
                rotate_left
                · simp only [Act.put, List.setIfInBounds_toArray, List.set_cons_zero, List.set_cons_succ]
                  rfl
                refine done_ (done_of HT_.out (by kernel_rfl)) ?_
                go_wp2_with fail
                go_ret
                exact ⟨by rfl, HFin.out.trans (Below.mono hHeld.1 HFin.out.size)⟩
              · refine goes_ Tryz.func29 (by kernel_rfl) rfl #[.slice (some adW) want.length cW] (by rfl) rfl rfl (by (try simp only [List.map_toArray, List.map_cons, List.map_nil]); first | done | rfl) ?_
                refine (HRw.out _ hHeld.1).mono ?_
                rintro e W' ⟨rfl, hb⟩
                refine ⟨_, rfl, ?_⟩
                have hS' := below_step (w := wc) hHeld.1 hb
                have hcv2 := Kd.C_string (dst := 9) (c := cb) Tryz.underlying41 Tryz.underlying5 Tryz.underlying9 (Kd.C_below hCb hb)
                clear hHeld
                refine hK.out _ _ ⟨hS', HCells.out _ hS'⟩ (fun hHeld => ?_)
                clear hK K hb hS'
                refine norm_ (a' := ?_) ?_ ?_
                rotate_left
                · show Act.put _ (some 130) _ = _
                  simp only [Act.put, List.setIfInBounds_toArray, List.set_cons_zero, List.set_cons_succ]
                  rfl
                refine one_ (i := 38) (N := some 128) #[true, true, true, true, true, true, true, true, true, true, true, true, true, true, true, true, true, true, true, true, true, true, true, true, true, true, true, true, true, true, true, true, true, true, true, true, true, true, true, true, true, false, false, false] rfl rfl (one_of HT_.out (by kernel_rfl)) (by decide) (fun K hK => ?_)
                rw [if_pos (by rfl)]
                go_simp
                refine hK.out _ _ hHeld (fun hHeld => ?_)
                clear hK K
                refine pure_ (i := 41) (N := some 131) (v := ?_) (a' := ?_) #[true, true, true, true, true, true, true, true, true, true, true, true, true, true, true, true, true, true, true, true, true, true, true, true, true, true, true, true, true, true, true, true, true, true, true, true, true, true, true, true, true, true, false, false] rfl rfl (any_of HT_.out (by kernel_rfl)) (fun _ _ _ h => h) (Or.inl ⟨by rfl, ?_⟩) ?_ ?_
                rotate_left
                · intro w'
                  go_simp
                  with_reducible rfl
                rotate_left
                · simp only [Act.put, List.setIfInBounds_toArray, List.set_cons_zero, List.set_cons_succ]
                  rfl
                refine pure_ (i := 42) (N := some 132) (v := ?_) (a' := ?_) #[true, true, true, true, true, true, true, true, true, true, true, true, true, true, true, true, true, true, true, true, true, true, true, true, true, true, true, true, true, true, true, true, true, true, true, true, true, true, true, true, true, true, true, false] rfl rfl (any_of HT_.out (by kernel_rfl)) (fun _ _ _ h => h) (Or.inl ⟨by rfl, ?_⟩) ?_ ?_
                rotate_left
                · intro w'
                  go_simp
                  with_reducible rfl
                rotate_left
                · simp only [Act.put, List.setIfInBounds_toArray, List.set_cons_zero, List.set_cons_succ]
                  rfl
                refine pure_ (i := 43) (N := some 6) (v := ?_) (a' := ?_) #[true, true, true, true, true, true, true, true, true, true, true, true, true, true, true, true, true, true, true, true, true, true, true, true, true, true, true, true, true, true, true, true, true, true, true, true, true, true, true, true, true, true, true, true] rfl rfl (any_of HT_.out (by kernel_rfl)) (fun _ _ _ h => h) (Or.inl ⟨by rfl, ?_⟩) ?_ ?_
                rotate_left
                · intro w'
                  go_simp
                  with_reducible rfl
                rotate_left
                · simp only [Act.put, List.setIfInBounds_toArray, List.set_cons_zero, List.set_cons_succ]
                  rfl
                refine done_ (done_of HT_.out (by kernel_rfl)) ?_
                go_wp2_with fail
                go_ret
                exact ⟨by rfl, HFin.out.trans (Below.mono hHeld.1 HFin.out.size)⟩
end Go.Proofs.YtodpdlpncgkkdaaGreatDoor
end
