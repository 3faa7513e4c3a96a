/- For every input law08.SnapNews answers true: New, Get and All agree with the reference, and the order of definitions does not matter; no condition. (Part 1 of what it rests on.) -/
import Derived.Test.YtodpdlpncgkkdaaGreatDoorProg
import Derived.Test.YtodpdlpncgkkdaaGreatDoorSnapNews0
import Derived.Below
import Derived.Deep.Draws
import Derived.Deep.AppendLies
import Derived.Maps.AppendAt
import Derived.OwnWalk
import Derived.Laws.BytesArg
import Derived.Laws.MakeOwn
import Derived.Laws.OwnMore
import Derived.Deep.OwnRows
import Derived.Tactics
import Derived.Lib.ConvBytes
import Derived.Laws.Slices
import Derived.WalkKit
import Derived.KernelRfl
import Derived.RowKit3
import Derived.Deep.LoopGhost
import Derived.Deep.QuietTactic
import Derived.BigQuiet
import Derived.WideLaws
import Derived.Deep.DeepCutAuto
import Derived.Deep.CutBlock
import Derived.Deep.RegionHeld3
import Derived.Laws.Rows
import Derived.Lib.AppendStr
import Derived.ArgAppend
import Derived.Laws.IdiomCopy
import Derived.OrdersHeld
import Derived.Laws.BitsLemmas
import Derived.RowKit
import Derived.LoopTactic
import Derived.Laws.RangeAny
import Derived.Laws.RangeString
import Derived.Lib.Hide
import Derived.Outline
import Derived.Shelf.Strings.Trim
import Derived.Shelf.Strings.SlTrimAscii
import Derived.Shelf.Strings.Prefix
import Derived.Shelf.Strings.Split
import Derived.Shelf.Strings.Cut
import Derived.Shelf.Strings.Count
import Derived.Shelf.Strings.Search2
import Derived.Shelf.Strings.Search3
import Derived.Ground.Names2Prog
import Derived.Maps.OwnSet
import Derived.Maps.Ext
set_option linter.unusedVariables false
set_option linter.unusedSimpArgs false
section
namespace Go.Proofs.YtodpdlpncgkkdaaGreatDoor.P
open Go.RowKit Go.Proofs.YtodpdlpncgkkdaaGreatDoorW.PrintWords Go.Proofs.YtodpdlpncgkkdaaGreatDoorW.PrintLast Go.Proofs.YtodpdlpncgkkdaaGreatDoorW.PrintMore
attribute [local go_sem] max2_int min2_int max_two min_two max_three min_three max_four min_four   -- for this text's walks alone
set_option linter.unusedVariables false
set_option linter.unusedSimpArgs false



def errW : Option Int → Value
  | none => .nilIface
  | some c => .iface 0 (.int .i64 c)
theorem errW_none : errW none = .nilIface := rfl
theorem errW_some (c : Int) : errW (some c) = .iface 0 (.int .i64 c) := rfl

theorem info9 : (Tryz.prog.info? 9).map (fun i => (i.zero, i.size, i.bytes)) = some (some (.string ⟨#[]⟩), 1, 16) := by kernel_rfl
theorem info33 : (Tryz.prog.info? 33).map (fun i => (i.zero, i.size, i.bytes)) = some (some (.agg #[(.int .i64 0), (.string ⟨#[]⟩), (.string ⟨#[]⟩), (.slice none 0 0), (.string ⟨#[]⟩), (.string ⟨#[]⟩)]), 6, 96) := by kernel_rfl
-- the values' own types
/-! #### struct type 33 -/
structure S33 where
  f0 : Int
  f1 : ByteArray
  f2 : ByteArray
  f3 : (List ByteArray)
  f4 : ByteArray
  f5 : ByteArray
def z33 : S33 := ⟨(0 : Int), (⟨#[]⟩ : ByteArray), (⟨#[]⟩ : ByteArray), ([] : List ByteArray), (⟨#[]⟩ : ByteArray), (⟨#[]⟩ : ByteArray)⟩
def k33 : Kd S33 := Kd.iso (Kd.pair (Kd.int .i64) (Kd.pair Kd.string (Kd.pair Kd.string (Kd.pair (Kd.slice 9 Kd.string) (Kd.pair Kd.string Kd.string))))) (fun x : S33 => (x.f0, x.f1, x.f2, x.f3, x.f4, x.f5))
theorem k33_heap : Kd.Heap k33 := Kd.heap_iso _ (Kd.heap_pair (Kd.heap_int .i64) (Kd.heap_pair Kd.heap_string (Kd.heap_pair Kd.heap_string (Kd.heap_pair (Kd.heap_slice 9 Kd.heap_string) (Kd.heap_pair Kd.heap_string Kd.heap_string)))))
theorem k33_open {w : World} {x : S33} {cs : List Value} (h : k33.K w x cs) : ∃ A3 c3, cs = [.int .i64 x.f0, .string x.f1, .string x.f2, .slice A3 x.f3.length c3, .string x.f4, .string x.f5] ∧ x.f3.length ≤ c3 ∧ Kd.string.C w A3 x.f3.length x.f3 := by
  obtain ⟨_, _, rfl, rfl, ⟨_, _, rfl, rfl, ⟨_, _, rfl, rfl, ⟨_, _, rfl, ⟨A3, c3, rfl, l3, g3⟩, ⟨_, _, rfl, rfl, rfl⟩⟩⟩⟩⟩ := h
  exact ⟨A3, c3, rfl, l3, g3⟩
theorem k33_mk (w : World) (x : S33) {A3 : Option Addr} {c3 : Nat} (l3 : x.f3.length ≤ c3) (g3 : Kd.string.C w A3 x.f3.length x.f3) : k33.K w x [.int .i64 x.f0, .string x.f1, .string x.f2, .slice A3 x.f3.length c3, .string x.f4, .string x.f5] := ⟨[.int .i64 x.f0], [.string x.f1, .string x.f2, .slice A3 x.f3.length c3, .string x.f4, .string x.f5], rfl, rfl, ⟨[.string x.f1], [.string x.f2, .slice A3 x.f3.length c3, .string x.f4, .string x.f5], rfl, rfl, ⟨[.string x.f2], [.slice A3 x.f3.length c3, .string x.f4, .string x.f5], rfl, rfl, ⟨[.slice A3 x.f3.length c3], [.string x.f4, .string x.f5], rfl, ⟨A3, c3, rfl, l3, g3⟩, ⟨[.string x.f4], [.string x.f5], rfl, rfl, rfl⟩⟩⟩⟩⟩
theorem k33_openF {W : World} {ok : Nat → Prop} {x : S33} {cs : List Value} (h : Kd.FK k33 W ok x cs) : ∃ A3 c3, cs = [.int .i64 x.f0, .string x.f1, .string x.f2, .slice A3 x.f3.length c3, .string x.f4, .string x.f5] ∧ x.f3.length ≤ c3 ∧ Kd.F Kd.string W ok A3 x.f3.length x.f3 := by
  obtain ⟨A3, c3, rfl, l3, _⟩ := k33_open (Kd.FK_now h)
  exact ⟨A3, c3, rfl, l3, (fun W' hW => by obtain ⟨A3_, c3_, he, l3_, g3_⟩ := k33_open (h W' hW); injection (Option.some.inj (show some (Value.slice A3 x.f3.length c3) = some (Value.slice A3_ x.f3.length c3_) from congrArg (fun l => l[3]?) he)) with ha_ _ _; rw [ha_]; exact g3_)⟩
theorem k33_mkF (W : World) (ok : Nat → Prop) (x : S33) {A3 : Option Addr} {c3 : Nat} (l3 : x.f3.length ≤ c3) (g3 : Kd.F Kd.string W ok A3 x.f3.length x.f3) : Kd.FK k33 W ok x [.int .i64 x.f0, .string x.f1, .string x.f2, .slice A3 x.f3.length c3, .string x.f4, .string x.f5] := fun W2 hW => k33_mk W2 x l3 (g3 W2 hW)
def rd_T33 (xs : List S33) (i : Int) : S33 := xs.getD i.toNat z33
theorem at_T33 {w : World} {A : Option Addr} {n : Nat} {xs : List S33} (h : Kd.C k33 w A n xs) (i : Int) (h0 : 0 ≤ i) (h1 : i < n) : ∃ ad A3 c3, A = some ad ∧ w.cell? (ad.add (i.toNat * 6)) = some (.int .i64 (rd_T33 xs i).f0) ∧ w.cell? ⟨(ad.add (i.toNat * 6)).block, (ad.add (i.toNat * 6)).off + 1, none⟩ = some (.string (rd_T33 xs i).f1) ∧ w.cell? ⟨(ad.add (i.toNat * 6)).block, (ad.add (i.toNat * 6)).off + 2, none⟩ = some (.string (rd_T33 xs i).f2) ∧ w.cell? ⟨(ad.add (i.toNat * 6)).block, (ad.add (i.toNat * 6)).off + 3, none⟩ = some (.slice A3 (rd_T33 xs i).f3.length c3) ∧ w.cell? ⟨(ad.add (i.toNat * 6)).block, (ad.add (i.toNat * 6)).off + 4, none⟩ = some (.string (rd_T33 xs i).f4) ∧ w.cell? ⟨(ad.add (i.toNat * 6)).block, (ad.add (i.toNat * 6)).off + 5, none⟩ = some (.string (rd_T33 xs i).f5) ∧ (rd_T33 xs i).f3.length ≤ c3 ∧ Kd.string.C w A3 (rd_T33 xs i).f3.length (rd_T33 xs i).f3 := by
  obtain ⟨ad, c, e, _, hK, hc0⟩ := Kd.C_get h z33 i h0 h1
  have hc : ∀ j u, c[j]? = some u → w.cell? (ad.add (i.toNat * 6 + j)) = some u := hc0
  obtain ⟨A3, c3, rfl, l3, g3⟩ := k33_open hK
  exact ⟨ad, A3, c3, e, hc 0 _ rfl, by rw [← add_field _ _ 1 (by omega)]; exact hc 1 _ rfl, by rw [← add_field _ _ 2 (by omega)]; exact hc 2 _ rfl, by rw [← add_field _ _ 3 (by omega)]; exact hc 3 _ rfl, by rw [← add_field _ _ 4 (by omega)]; exact hc 4 _ rfl, by rw [← add_field _ _ 5 (by omega)]; exact hc 5 _ rfl, l3, g3⟩

/-! #### struct type 75 -/
/-! #### struct type 189 -/
/-! #### struct type 90 -/
/-! #### struct type 99 -/
end Go.Proofs.YtodpdlpncgkkdaaGreatDoor.P
end
section
namespace Go.Proofs.YtodpdlpncgkkdaaGreatDoor
open Go.RowKit Go.Proofs.YtodpdlpncgkkdaaGreatDoorW.PrintWords

def smallB (b : UInt8) : Bool := decide (97 ≤ b.toNat ∧ b.toNat ≤ 122)
def largeB (b : UInt8) : Bool := decide (65 ≤ b.toNat ∧ b.toNat ≤ 90)
def digitB (b : UInt8) : Bool := decide (48 ≤ b.toNat ∧ b.toNat ≤ 57)
/-- May this octet stand at this place of a name? -/
def okAt (i : Nat) (b : UInt8) : Bool := smallB b || largeB b || (decide (i ≠ 0) && digitB b)
def goodUpto (s : ByteArray) (n : Nat) : Prop := ∀ i, ∀ h : i < s.size, i < n → okAt i s[i] = true
instance (s : ByteArray) (n : Nat) : Decidable (goodUpto s n) := inferInstanceAs (Decidable (∀ i, ∀ h : i < s.size, i < n → okAt i s[i] = true))
def isName (s : ByteArray) : Bool := decide (goodUpto s s.size) && decide (1 ≤ s.size ∧ s.size ≤ 40)

theorem width_pos (s : ByteArray) (pos : Nat) (h : pos < s.size) : 1 ≤ (Utf8.decode s pos).2 := by
  by_cases ha : (s[pos]'h).toNat < 128
  · rw [decode_ascii s pos h ha]
    exact Nat.le_refl _
  · exact (decode_high s pos h (by omega)).2

theorem small_calls (c : Int) (w : World) : Calls Tryz.prog 238 #[.int .i32 c] w fun e w' => e = .returned (.bool (decide (97 ≤ c ∧ c ≤ 122))) ∧ w = w' := by
  by_cases h : 97 ≤ c
  all_goals
    go_enter Tryz.func238, Tryz.ntmps238
    go_wp2
    go_ret
    exact ⟨by simp [h] <;> omega, rfl⟩
theorem large_calls (c : Int) (w : World) : Calls Tryz.prog 195 #[.int .i32 c] w fun e w' => e = .returned (.bool (decide (65 ≤ c ∧ c ≤ 90))) ∧ w = w' := by
  by_cases h : 65 ≤ c
  all_goals
    go_enter Tryz.func195, Tryz.ntmps195
    go_wp2
    go_ret
    exact ⟨by simp [h] <;> omega, rfl⟩
theorem digit_calls (c : Int) (w : World) : Calls Tryz.prog 239 #[.int .i32 c] w fun e w' => e = .returned (.bool (decide (48 ≤ c ∧ c ≤ 57))) ∧ w = w' := by
  by_cases h : 48 ≤ c
  all_goals
    go_enter Tryz.func239, Tryz.ntmps239
    go_wp2
    go_ret
    exact ⟨by simp [h] <;> omega, rfl⟩

/-- A rune that stands for itself. -/
theorem rune_ok (s : ByteArray) (pos : Nat) (hp : pos < s.size) (i : Int) (hi : i = pos) :
    okAt pos s[pos] = (decide (97 ≤ ((Utf8.decode s pos).1 : Int) ∧ ((Utf8.decode s pos).1 : Int) ≤ 122) || decide (65 ≤ ((Utf8.decode s pos).1 : Int) ∧ ((Utf8.decode s pos).1 : Int) ≤ 90) || (!(i == 0) && decide (48 ≤ ((Utf8.decode s pos).1 : Int) ∧ ((Utf8.decode s pos).1 : Int) ≤ 57))) := by
  subst hi
  by_cases ha : (s[pos]'hp).toNat < 128
  · rw [decode_ascii s pos hp ha]
    simp only [okAt, smallB, largeB, digitB]
    rw [Bool.eq_iff_iff]
    simp
    omega
  · have := (decode_high s pos hp (by omega)).1
    simp only [okAt, smallB, largeB, digitB]
    rw [Bool.eq_iff_iff]
    simp
    omega
theorem rune_width (s : ByteArray) (pos : Nat) (hp : pos < s.size) (h : okAt pos s[pos] = true) : (Utf8.decode s pos).2 = 1 := by
  by_cases ha : (s[pos]'hp).toNat < 128
  · rw [decode_ascii s pos hp ha]
  · simp only [okAt, smallB, largeB, digitB] at h
    simp at h
    omega

theorem goodUpto_succ {s : ByteArray} {pos : Nat} {hp : pos < s.size} (hg : goodUpto s pos) (hk : okAt pos s[pos] = true) : goodUpto s (pos + 1) := fun i hi h => by
  by_cases e : i = pos
  · subst e; exact hk
  · exact hg i hi (by omega)
theorem isName_bad (s : ByteArray) (pos : Nat) (hp : pos < s.size) (h : okAt pos s[pos] = false) : isName s = false := by
  simp only [isName, Bool.and_eq_false_iff, decide_eq_false_iff_not]
  exact .inl fun hg => by rw [hg pos hp hp] at h; cases h
theorem isName_end (s : ByteArray) (h : goodUpto s s.size) : isName s = decide (1 ≤ s.size ∧ s.size ≤ 40) := by
  simp [isName, h]

set_option maxRecDepth 1000000 in
theorem is_calls (s : ByteArray) (w : World) : Calls Tryz.prog 194 #[.string s] w fun e w' => e = .returned (.bool (isName s)) ∧ Below w.heap.size w w' := by
  go_enter Tryz.func194, Tryz.ntmps194
  go_wp2_with fail
  go_loopw [2, 3, 4] (fun _ _ _ w' => ∃ pos : Nat, w' = w.iter s pos ∧ pos ≤ s.size ∧ Hid (goodUpto s pos)) (fun _ _ _ w' => s.size - w'.iterPos w.heap.size)
  case atStart => exact ⟨0, rfl, Nat.zero_le _, fun i _ h => absurd h (Nat.not_lt_zero i)⟩
  case round =>
    obtain ⟨pos, rfl, hle, hg⟩ := hrel
    by_cases hp : pos < s.size
    · have hnx : ∀ ty, (Instr.next (.pointer (some ⟨w.heap.size, 0, none⟩)) true ty).run Tryz.prog (w.iter s pos) = _ := fun ty => run_next_any w s pos ty hp
      obtain ⟨c, hc⟩ : ∃ c, ((Utf8.decode s pos).1 : Int) = c := ⟨_, rfl⟩
      obtain ⟨b1, h1⟩ : ∃ b, decide (97 ≤ c ∧ c ≤ 122) = b := ⟨_, rfl⟩
      obtain ⟨b2, h2⟩ : ∃ b, decide (65 ≤ c ∧ c ≤ 90) = b := ⟨_, rfl⟩
      obtain ⟨b3, h3⟩ : ∃ b, decide (48 ≤ c ∧ c ≤ 57) = b := ⟨_, rfl⟩
      obtain ⟨b4, h4⟩ : ∃ b, ((pos : Int) == 0) = b := ⟨_, rfl⟩
      have hr := rune_ok s pos hp _ rfl
      have hs := fun W => (small_calls c W)
      have hl := fun W => (large_calls c W)
      have hd := fun W => (digit_calls c W)
      rw [hc, h1, h2, h3, h4] at hr
      rw [h1] at hs
      rw [h2] at hl
      rw [h3] at hd
      have HR := Lib.hid hr
      have HS := Lib.hid hs
      have HL := Lib.hid hl
      have HD := Lib.hid hd
      rw [hc] at hnx
      clear hc h1 h2 h3 hr hs hl hd
      cases b1 <;> cases b2 <;> cases b3 <;> cases b4
      all_goals
        go_wp2_with (first | (go_at_call 238; refine (HS.out _).mono ?_; rintro e w1 ⟨rfl, rfl⟩) | (go_at_call 195; refine (HL.out _).mono ?_; rintro e w1 ⟨rfl, rfl⟩) | (go_at_call 239; refine (HD.out _).mono ?_; rintro e w1 ⟨rfl, rfl⟩))
        first
          | (go_ret
             exact ⟨by rw [isName_bad s pos hp HR.out]; rfl, (Below.refl _ _).alloc (Nat.le_refl _) _⟩)
          | (have hk : okAt pos s[pos] = true := HR.out
             have hwd := rune_width s pos hp hk
             refine ⟨⟨pos + 1, by rw [hwd], by omega, goodUpto_succ hg hk⟩, ?_⟩
             rw [hwd]
             simp
             omega)
    · have hnx : ∀ ty, (Instr.next (.pointer (some ⟨w.heap.size, 0, none⟩)) true ty).run Tryz.prog (w.iter s pos) = _ := fun ty => run_next_end w s pos ty hp
      obtain rfl : pos = s.size := by omega
      have HI := Lib.hid (isName_end s hg)
      clear hg
      by_cases h1 : 1 ≤ s.size
      all_goals
        go_wp2
        go_ret
        exact ⟨by rw [HI.out]; first | (simp [h1]; done) | (simp [h1]; omega) | (simp; omega), (Below.refl _ _).alloc (Nat.le_refl _) _⟩

end Go.Proofs.YtodpdlpncgkkdaaGreatDoor
end
section
namespace Go.Proofs
open Go.Shelf
def Tryz.lays160_ren : Go.Shelf.Ren := ⟨fun | 160 => 248 | 232 => 271 | 231 => 270 | 227 => 272 | 234 => 274 | 233 => 273 | 236 => 276 | 235 => 275 | 228 => 283 | 271 => 286 | 151 => 285 | 197 => 284 | 120 => 293 | 152 => 292 | 260 => 291 | 137 => 296 | 119 => 297 | 224 => 268 | 225 => 267 | 217 => 266 | 266 => 281 | n => n, fun | 9 => 9 | 4 => 4 | 3 => 3 | 5 => 5 | 117 => 312 | 116 => 311 | 0 => 0 | 124 => 315 | 21 => 21 | 105 => 321 | 46 => 229 | 119 => 326 | 139 => 329 | 138 => 328 | n => n, fun | 3 => 1 | 4 => 2 | n => n⟩
theorem Tryz.lays160 : Go.Proofs.Lays.n160 Tryz.prog Tryz.lays160_ren := {
  mixed := by kernel_rfl
  f119 := Tryz.func297.trans (congrArg some (by kernel_rfl))
  f120 := Tryz.func293.trans (congrArg some (by kernel_rfl))
  f137 := Tryz.func296.trans (congrArg some (by kernel_rfl))
  f151 := Tryz.func285.trans (congrArg some (by kernel_rfl))
  f152 := Tryz.func292.trans (congrArg some (by kernel_rfl))
  f160 := Tryz.func248.trans (congrArg some (by kernel_rfl))
  f197 := Tryz.func284.trans (congrArg some (by kernel_rfl))
  f217 := Tryz.func266.trans (congrArg some (by kernel_rfl))
  f224 := Tryz.func268.trans (congrArg some (by kernel_rfl))
  f225 := Tryz.func267.trans (congrArg some (by kernel_rfl))
  f227 := Tryz.func272.trans (congrArg some (by kernel_rfl))
  f228 := Tryz.func283.trans (congrArg some (by kernel_rfl))
  f231 := Tryz.func270.trans (congrArg some (by kernel_rfl))
  f232 := Tryz.func271.trans (congrArg some (by kernel_rfl))
  f233 := Tryz.func273.trans (congrArg some (by kernel_rfl))
  f234 := Tryz.func274.trans (congrArg some (by kernel_rfl))
  f235 := Tryz.func275.trans (congrArg some (by kernel_rfl))
  f236 := Tryz.func276.trans (congrArg some (by kernel_rfl))
  f260 := Tryz.func291.trans (congrArg some (by kernel_rfl))
  f266 := Tryz.func281.trans (congrArg some (by kernel_rfl))
  f271 := Tryz.func286.trans (congrArg some (by kernel_rfl))
  t0 := Tryz.underlying0
  a0 := Tryz.isAgg0
  z0 := Tryz.sizeOf0
  v0 := Tryz.zeroValue0
  t3 := Tryz.underlying3
  a3 := Tryz.isAgg3
  z3 := Tryz.sizeOf3
  v3 := Tryz.zeroValue3
  t4 := Tryz.underlying4
  a4 := Tryz.isAgg4
  z4 := Tryz.sizeOf4
  v4 := Tryz.zeroValue4
  t5 := Tryz.underlying5
  a5 := Tryz.isAgg5
  z5 := Tryz.sizeOf5
  v5 := Tryz.zeroValue5
  t9 := Tryz.underlying9
  a9 := Tryz.isAgg9
  z9 := Tryz.sizeOf9
  v9 := Tryz.zeroValue9
  t21 := Tryz.underlying21
  a21 := Tryz.isAgg21
  z21 := Tryz.sizeOf21
  v21 := Tryz.zeroValue21
  t46 := Tryz.underlying229
  a46 := Tryz.isAgg229
  z46 := Tryz.sizeOf229
  v46 := Tryz.zeroValue229
  t105 := Tryz.underlying321
  a105 := Tryz.isAgg321
  z105 := Tryz.sizeOf321
  v105 := Tryz.zeroValue321
  t116 := Tryz.underlying311
  a116 := Tryz.isAgg311
  z116 := Tryz.sizeOf311
  t117 := Tryz.underlying312
  a117 := Tryz.isAgg312
  z117 := Tryz.sizeOf312
  v117 := Tryz.zeroValue312
  t119 := Tryz.underlying326
  a119 := Tryz.isAgg326
  z119 := Tryz.sizeOf326
  t124 := Tryz.underlying315
  a124 := Tryz.isAgg315
  z124 := Tryz.sizeOf315
  v124 := Tryz.zeroValue315
  t138 := Tryz.underlying328
  a138 := Tryz.isAgg328
  z138 := Tryz.sizeOf328
  v138 := Tryz.zeroValue328
  t139 := Tryz.underlying329
  a139 := Tryz.isAgg329
  z139 := Tryz.sizeOf329
  v139 := Tryz.zeroValue329
  g3 := by kernel_rfl
  g4 := by kernel_rfl }
def Tryz.lays221_ren : Go.Shelf.Ren := ⟨fun | 221 => 277 | 268 => 287 | 138 => 288 | 143 => 289 | 195 => 294 | 197 => 284 | 218 => 295 | 219 => 247 | 260 => 291 | 217 => 266 | 225 => 267 | 224 => 268 | 267 => 269 | 266 => 281 | 314 => 282 | n => n, fun | 9 => 9 | 3 => 3 | 31 => 31 | 4 => 4 | 0 => 0 | 105 => 321 | 21 => 21 | 5 => 5 | 46 => 229 | 119 => 326 | 139 => 329 | 138 => 328 | 146 => 319 | 51 => 176 | n => n, fun | 1 => 0 | 3 => 1 | 4 => 2 | n => n⟩
theorem Tryz.lays221 : Go.Proofs.Lays.n221 Tryz.prog Tryz.lays221_ren := {
  mixed := by kernel_rfl
  f138 := Tryz.func288.trans (congrArg some (by kernel_rfl))
  f143 := Tryz.func289.trans (congrArg some (by kernel_rfl))
  f195 := Tryz.func294.trans (congrArg some (by kernel_rfl))
  f197 := Tryz.func284.trans (congrArg some (by kernel_rfl))
  f217 := Tryz.func266.trans (congrArg some (by kernel_rfl))
  f218 := Tryz.func295.trans (congrArg some (by kernel_rfl))
  f219 := Tryz.func247.trans (congrArg some (by kernel_rfl))
  f221 := Tryz.func277.trans (congrArg some (by kernel_rfl))
  f224 := Tryz.func268.trans (congrArg some (by kernel_rfl))
  f225 := Tryz.func267.trans (congrArg some (by kernel_rfl))
  f260 := Tryz.func291.trans (congrArg some (by kernel_rfl))
  f266 := Tryz.func281.trans (congrArg some (by kernel_rfl))
  f267 := Tryz.func269.trans (congrArg some (by kernel_rfl))
  f268 := Tryz.func287.trans (congrArg some (by kernel_rfl))
  f314 := Tryz.func282.trans (congrArg some (by kernel_rfl))
  t0 := Tryz.underlying0
  a0 := Tryz.isAgg0
  z0 := Tryz.sizeOf0
  v0 := Tryz.zeroValue0
  t3 := Tryz.underlying3
  a3 := Tryz.isAgg3
  z3 := Tryz.sizeOf3
  v3 := Tryz.zeroValue3
  t4 := Tryz.underlying4
  a4 := Tryz.isAgg4
  z4 := Tryz.sizeOf4
  v4 := Tryz.zeroValue4
  t5 := Tryz.underlying5
  a5 := Tryz.isAgg5
  z5 := Tryz.sizeOf5
  v5 := Tryz.zeroValue5
  t9 := Tryz.underlying9
  a9 := Tryz.isAgg9
  z9 := Tryz.sizeOf9
  v9 := Tryz.zeroValue9
  t21 := Tryz.underlying21
  a21 := Tryz.isAgg21
  z21 := Tryz.sizeOf21
  v21 := Tryz.zeroValue21
  t31 := Tryz.underlying31
  a31 := Tryz.isAgg31
  z31 := Tryz.sizeOf31
  v31 := Tryz.zeroValue31
  t46 := Tryz.underlying229
  a46 := Tryz.isAgg229
  z46 := Tryz.sizeOf229
  v46 := Tryz.zeroValue229
  t51 := Tryz.underlying176
  a51 := Tryz.isAgg176
  z51 := Tryz.sizeOf176
  v51 := Tryz.zeroValue176
  t105 := Tryz.underlying321
  a105 := Tryz.isAgg321
  z105 := Tryz.sizeOf321
  v105 := Tryz.zeroValue321
  t119 := Tryz.underlying326
  a119 := Tryz.isAgg326
  z119 := Tryz.sizeOf326
  t138 := Tryz.underlying328
  a138 := Tryz.isAgg328
  z138 := Tryz.sizeOf328
  v138 := Tryz.zeroValue328
  t139 := Tryz.underlying329
  a139 := Tryz.isAgg329
  z139 := Tryz.sizeOf329
  v139 := Tryz.zeroValue329
  t146 := Tryz.underlying319
  a146 := Tryz.isAgg319
  z146 := Tryz.sizeOf319
  v146 := Tryz.zeroValue319
  g1 := by kernel_rfl
  g3 := by kernel_rfl
  g4 := by kernel_rfl }
def Tryz.lays102_ren : Go.Shelf.Ren := ⟨fun | 102 => 252 | 209 => 279 | 207 => 290 | n => n, fun | 9 => 9 | 4 => 4 | 3 => 3 | n => n, fun | n => n⟩
theorem Tryz.lays102 : Go.Proofs.Lays.n102 Tryz.prog Tryz.lays102_ren := {
  mixed := by kernel_rfl
  f102 := Tryz.func252.trans (congrArg some (by kernel_rfl))
  f207 := Tryz.func290.trans (congrArg some (by kernel_rfl))
  f209 := Tryz.func279.trans (congrArg some (by kernel_rfl))
  t3 := Tryz.underlying3
  a3 := Tryz.isAgg3
  z3 := Tryz.sizeOf3
  v3 := Tryz.zeroValue3
  t4 := Tryz.underlying4
  a4 := Tryz.isAgg4
  z4 := Tryz.sizeOf4
  v4 := Tryz.zeroValue4
  t9 := Tryz.underlying9
  a9 := Tryz.isAgg9
  z9 := Tryz.sizeOf9
  v9 := Tryz.zeroValue9 }
end Go.Proofs
end
section
namespace Go.Proofs.YtodpdlpncgkkdaaGreatDoor
open Go.RowKit Go.Proofs.YtodpdlpncgkkdaaGreatDoorW.PrintWords

def isLower (s : ByteArray) : Bool := if h : 0 < s.size then isName s && smallB s[0] else false
theorem ret_b {a b : Bool} (h : a = b) : Ending.returned (.bool a) = .returned (.bool b) := by rw [h]
theorem ret_i {k : IntKind} {a b : Int} (h : a = b) : Ending.returned (.int k a) = .returned (.int k b) := by rw [h]
theorem wrap32_byte (b : UInt8) : wrap32 (b.toNat : Int) = b.toNat := by
  have := b.toNat_lt
  unfold wrap32
  omega

theorem isName_pos {s : ByteArray} (h : isName s = true) : 0 < s.size := by
  simp only [isName, Bool.and_eq_true, decide_eq_true_eq] at h
  omega
theorem isLower_first (s : ByteArray) (h : 0 < s.size) (hn : isName s = true) : isLower s = decide (97 ≤ wrap32 ((s[0]'h).toNat : Int) ∧ wrap32 ((s[0]'h).toNat : Int) ≤ 122) := by
  unfold isLower smallB
  rw [dif_pos h, hn, wrap32_byte, Bool.true_and, Bool.eq_iff_iff]
  simp
  omega
set_option maxRecDepth 100000 in
theorem lower_calls (s : ByteArray) (w : World) : Calls Tryz.prog 213 #[.string s] w fun e w' => e = .returned (.bool (isLower s)) ∧ Below w.heap.size w w' := by
  have HI := Lib.hid (is_calls s w)
  cases hn : isName s with
  | false =>
    have hl : isLower s = false := by simp [isLower, hn]
    have HL := Lib.hid hl
    rw [hn] at HI
    clear hn hl
    go_enter Tryz.func213, Tryz.ntmps213
    go_wp2_with (go_at_call 194; refine HI.out.mono ?_; rintro e w1 ⟨rfl, hb⟩)
    go_ret
    exact ⟨ret_b HL.out.symm, hb⟩
  | true =>
    have hp := isName_pos hn
    have HL := Lib.hid (isLower_first s hp hn)
    rw [hn] at HI
    clear hn
    go_enter Tryz.func213, Tryz.ntmps213
    go_wp2_with (first | (go_at_call 194; refine HI.out.mono ?_; rintro e w1 ⟨rfl, hb⟩) | (go_at_call 238; refine (small_calls _ _).mono ?_; rintro e w2 ⟨rfl, rfl⟩))
    go_ret
    exact ⟨ret_b (by rw [HL.out]; simp), hb⟩

set_option maxRecDepth 100000 in
theorem clos_calls (s : ByteArray) (hs : s.size ≤ 9223372036854775807) (w : World) : Calls Tryz.prog 251 #[.string s] w fun e w' => e = .returned (.bool (!isLower ⟨(Lib.trimSuffix s.data.toList [58]).toArray⟩)) ∧ Below w.heap.size w w' := by
  have HT := Lib.hid (Any.strings_TrimSuffix Tryz.lays102 s ⟨#[58]⟩ w hs)
  have HL := Lib.hid (lower_calls ⟨(Lib.trimSuffix s.data.toList [58]).toArray⟩)
  generalize (Lib.trimSuffix s.data.toList [58]) = x at *
  go_enter Tryz.func251, Tryz.ntmps251
  go_wp2_with (first | (go_at_call 252; refine HT.out.mono ?_; rintro e w1 ⟨rfl, rfl⟩) | (go_at_call 213; refine (HL.out _).mono ?_; rintro e w2 ⟨rfl, hb⟩))
  go_ret
  exact ⟨rfl, hb⟩

/-- What is asked of a function value over texts. -/
def TextPred (g : Nat) (lb : Array Value) (p : ByteArray → Bool) (l : List ByteArray) (w : World) : Prop :=
  ∀ (W : World) (x : ByteArray), x ∈ l → Below w.heap.size w W → Calls Tryz.prog g (#[.string x] ++ lb) W fun e w' => e = .returned (.bool (p x)) ∧ Below W.heap.size W w'
def firstAt (p : ByteArray → Bool) (l : List ByteArray) : Int := match l.findIdx? p with | some i => (i : Int) | none => -1

set_option maxRecDepth 100000 in
theorem indexFunc_calls (g : Nat) (hg : ∀ args w, (callFunc g args).run Tryz.prog w = .ok (.enter g args) w) (p : ByteArray → Bool) (A : Option Addr) (c : Nat) (l : List ByteArray) (w : World) (hr : Kd.C Kd.string w A l.length l) (hm : l.length ≤ 9223372036854775807) (hp : TextPred g #[] p l w) :
    Calls Tryz.prog 278 #[.slice A l.length c, .func (.func g) #[] #[]] w fun e w' => e = .returned (.int .i64 (firstAt p l)) ∧ Below w.heap.size w w' := by
  have HR := Lib.hid hr
  have HP := Lib.hid hp
  clear hr hp
  go_enter Tryz.func278, Tryz.ntmps278
  go_wp2_with fail
  go_loopw [5, 8] (fun _ t8 w' => ∃ i : Nat, t8 = .int .i64 i ∧ i ≤ l.length ∧ Hid (∀ j, ∀ h : j < l.length, j < i → p l[j] = false) ∧ Hid (Below w.heap.size w w')) (fun _ t8 _ => l.length - (intOf t8).toNat)
  case atStart => exact ⟨0, rfl, Nat.zero_le _, fun j _ h => absurd h (Nat.not_lt_zero j), Below.refl _ _⟩
  case round =>
    obtain ⟨i, rfl, hi, hn, hb⟩ := hrel
    by_cases hlt : i < l.length
    · obtain ⟨ad, hA, hc⟩ := Kd.at_string (Kd.C_below HR.out hb.out) (i : Int) (by omega) (by omega)
      subst hA
      have hx : rdOf ByteArray.empty l (i : Int) = l[i] := by simp [rdOf, hlt]
      rw [hx, Int.toNat_natCast] at hc
      have HC := Lib.hid (HP.out wr l[i] (List.getElem_mem hlt) hb.out)
      cases hpi : p l[i] with
      | true =>
        rw [hpi] at HC
        have hres : firstAt p l = (i : Int) := by
          have : l.findIdx? p = some i := by
            rw [List.findIdx?_eq_some_iff_getElem]
            exact ⟨hlt, hpi, fun j hj => by rw [hn.out j (by omega) hj]; decide⟩
          simp [firstAt, this]
        have HRes := Lib.hid hres
        clear hpi hx hres
        go_wp2_with fail
        refine HC.out.mono ?_
        rintro e w1 ⟨rfl, hb1⟩
        go_wp2
        go_ret
        exact ⟨ret_i HRes.out.symm, below_then hb.out hb.out.size hb1⟩
      | false =>
        rw [hpi] at HC
        have hn2 : Hid (∀ j, ∀ h : j < l.length, j < i + 1 → p l[j] = false) := fun j h hj => by
          by_cases e : j = i
          · subst e; exact hpi
          · exact hn.out j h (by omega)
        clear hx hpi hn
        go_wp2_with fail
        refine HC.out.mono ?_
        rintro e w1 ⟨rfl, hb1⟩
        go_wp2
        go_roundw
        case rel => exact ⟨i + 1, by go_num, by omega, hn2, below_then hb.out hb.out.size hb1⟩
        case measure => simp [intOf]; omega
    · obtain rfl : i = l.length := by omega
      have hres : firstAt p l = -1 := by
        have : l.findIdx? p = none := by
          rw [List.findIdx?_eq_none_iff]
          intro x hx
          obtain ⟨j, hj, rfl⟩ := List.getElem_of_mem hx
          exact hn.out j hj hj
        simp [firstAt, this]
      have HRes := Lib.hid hres
      clear hres
      go_wp2
      go_ret
      exact ⟨ret_i HRes.out.symm, hb.out⟩

theorem firstAt_any (p : ByteArray → Bool) (l : List ByteArray) : decide (firstAt p l ≥ 0) = l.any p := by
  unfold firstAt
  cases h : l.findIdx? p with
  | none =>
    rw [List.findIdx?_eq_none_iff] at h
    simp
    intro x hx
    exact h x hx
  | some i =>
    rw [List.findIdx?_eq_some_iff_getElem] at h
    obtain ⟨hi, hp, _⟩ := h
    have : l.any p = true := List.any_eq_true.2 ⟨l[i], List.getElem_mem hi, hp⟩
    rw [this]
    simp
set_option maxRecDepth 100000 in
theorem containsFunc_calls (g : Nat) (hg : ∀ args w, (callFunc g args).run Tryz.prog w = .ok (.enter g args) w) (p : ByteArray → Bool) (A : Option Addr) (c : Nat) (l : List ByteArray) (w : World) (hr : Kd.C Kd.string w A l.length l) (hm : l.length ≤ 9223372036854775807) (hp : TextPred g #[] p l w) :
    Calls Tryz.prog 250 #[.slice A l.length c, .func (.func g) #[] #[]] w fun e w' => e = .returned (.bool (l.any p)) ∧ Below w.heap.size w w' := by
  have HC := Lib.hid (indexFunc_calls g hg p A c l w hr hm hp)
  have HA := Lib.hid (firstAt_any p l)
  clear hr hp hg
  generalize firstAt p l = x at *
  go_enter Tryz.func250, Tryz.ntmps250
  go_wp2_with (go_at_call 278; refine HC.out.mono ?_; rintro e w1 ⟨rfl, hb⟩)
  go_ret
  exact ⟨ret_b HA.out, hb⟩

end Go.Proofs.YtodpdlpncgkkdaaGreatDoor
end
section
namespace Go.Proofs.YtodpdlpncgkkdaaGreatDoor
open Go.RowKit Go.Proofs.YtodpdlpncgkkdaaGreatDoorW.PrintWords Go.Shelf

theorem toList_eq {a b : ByteArray} : a.toList = b.toList ↔ a = b := by
  constructor
  · intro h
    rw [Lib.toList_data, Lib.toList_data] at h
    cases a; cases b
    simpa [Array.toList_inj] using h
  · intro h; rw [h]
theorem toList_beq (a b : ByteArray) : (a.toList == b.toList) = decide (a = b) := by
  rw [Bool.eq_iff_iff]
  simp [toList_eq]
set_option maxRecDepth 100000 in
theorem index_calls (A : Option Addr) (c : Nat) (l : List ByteArray) (x : ByteArray) (w : World) (hr : Kd.C Kd.string w A l.length l) (hm : l.length ≤ 9223372036854775807) :
    Calls Tryz.prog 253 #[.slice A l.length c, .string x] w fun e w' => e = .returned (.int .i64 (firstAt (fun y => decide (x = y)) l)) ∧ Below w.heap.size w w' := by
  obtain ⟨p, hp⟩ : ∃ p : ByteArray → Bool, p = (fun y => decide (x = y)) := ⟨_, rfl⟩
  have hpx : ∀ y, (x.toList == y.toList) = p y := fun y => by rw [hp, toList_beq]
  rw [← hp]
  have HP := Lib.hid hpx
  have HR := Lib.hid hr
  clear hr hp hpx
  go_enter Tryz.func253, Tryz.ntmps253
  go_wp2_with fail
  go_loopw [5, 8] (fun _ t8 w' => ∃ i : Nat, t8 = .int .i64 i ∧ i ≤ l.length ∧ Hid (∀ j, ∀ h : j < l.length, j < i → p l[j] = false) ∧ Hid (Below w.heap.size w w')) (fun _ t8 _ => l.length - (intOf t8).toNat)
  case atStart => exact ⟨0, rfl, Nat.zero_le _, fun j _ h => absurd h (Nat.not_lt_zero j), Below.refl _ _⟩
  case round =>
    obtain ⟨i, rfl, hi, hn, hb⟩ := hrel
    by_cases hlt : i < l.length
    · obtain ⟨ad, hA, hc⟩ := Kd.at_string (Kd.C_below HR.out hb.out) (i : Int) (by omega) (by omega)
      subst hA
      have hx : rdOf ByteArray.empty l (i : Int) = l[i] := by simp [rdOf, hlt]
      rw [hx, Int.toNat_natCast] at hc
      obtain ⟨y, hy⟩ : ∃ y, l[i] = y := ⟨_, rfl⟩
      have hyp := HP.out y
      rw [hy] at hc
      cases hpi : p y with
      | true =>
        rw [hpi] at hyp
        have hres : firstAt p l = (i : Int) := by
          have : l.findIdx? p = some i := by
            rw [List.findIdx?_eq_some_iff_getElem]
            exact ⟨hlt, by rw [hy]; exact hpi, fun j hj => by rw [hn.out j (by omega) hj]; decide⟩
          simp [firstAt, this]
        have HRes := Lib.hid hres
        clear hpi hx hres hy
        go_wp2
        go_ret
        exact ⟨ret_i HRes.out.symm, hb.out⟩
      | false =>
        rw [hpi] at hyp
        have hn2 : Hid (∀ j, ∀ h : j < l.length, j < i + 1 → p l[j] = false) := fun j h hj => by
          by_cases e : j = i
          · subst e; rw [hy]; exact hpi
          · exact hn.out j h (by omega)
        clear hx hpi hn hy
        go_wp2
        go_roundw
        case rel => exact ⟨i + 1, by go_num, by omega, hn2, hb⟩
        case measure => simp [intOf]; omega
    · obtain rfl : i = l.length := by omega
      have hres : firstAt p l = -1 := by
        have : l.findIdx? p = none := by
          rw [List.findIdx?_eq_none_iff]
          intro x hx
          obtain ⟨j, hj, rfl⟩ := List.getElem_of_mem hx
          exact hn.out j hj hj
        simp [firstAt, this]
      have HRes := Lib.hid hres
      clear hres
      go_wp2
      go_ret
      exact ⟨ret_i HRes.out.symm, hb.out⟩
def hasText (l : List ByteArray) (x : ByteArray) : Bool := l.any fun y => decide (x = y)
theorem hasText_iff (l : List ByteArray) (x : ByteArray) : hasText l x = true ↔ x ∈ l := by simp [hasText]
set_option maxRecDepth 100000 in
theorem contains_calls (A : Option Addr) (c : Nat) (l : List ByteArray) (x : ByteArray) (w : World) (hr : Kd.C Kd.string w A l.length l) (hm : l.length ≤ 9223372036854775807) :
    Calls Tryz.prog 216 #[.slice A l.length c, .string x] w fun e w' => e = .returned (.bool (hasText l x)) ∧ Below w.heap.size w w' := by
  have HC := Lib.hid (index_calls A c l x w hr hm)
  have HA := Lib.hid (firstAt_any (fun y => decide (x = y)) l)
  clear hr
  generalize firstAt (fun y => decide (x = y)) l = n at *
  go_enter Tryz.func216, Tryz.ntmps216
  go_wp2_with (go_at_call 253; refine HC.out.mono ?_; rintro e w1 ⟨rfl, hb⟩)
  go_ret
  exact ⟨ret_b HA.out, hb⟩

end Go.Proofs.YtodpdlpncgkkdaaGreatDoor
end
section
namespace Go.Proofs.YtodpdlpncgkkdaaGreatDoor
open Go.RowKit Go.Proofs.YtodpdlpncgkkdaaGreatDoorW.PrintWords Go.Shelf Go.Maps
open Go.WideElems (Fit rg rd_stay rg_of)

abbrev Def := P.S33
/-- This value is that definition. -/
def DefAt (w : World) (v : Value) (d : Def) : Prop :=
  ∃ A c, v = .agg #[.int .i64 d.f0, .string d.f1, .string d.f2, .slice A d.f3.length c, .string d.f4, .string d.f5] ∧ d.f3.length ≤ c ∧ Kd.C Kd.string w A d.f3.length d.f3
theorem C_uniq {w : World} {A : Option Addr} {n : Nat} {l l' : List ByteArray} (h : Kd.C Kd.string w A n l) (h' : Kd.C Kd.string w A n l') : l = l' := by
  have e : l.length = n := h.1
  have e' : l'.length = n := h'.1
  apply List.ext_getElem (by omega)
  intro i h1 h2
  obtain ⟨ad, hA, hc⟩ := Kd.at_string h (i : Int) (by omega) (by omega)
  obtain ⟨ad', hA', hc'⟩ := Kd.at_string h' (i : Int) (by omega) (by omega)
  subst hA
  cases hA'
  rw [hc] at hc'
  have := Option.some.inj hc'
  simp only [Value.string.injEq] at this
  simpa [rdOf, h1, h2] using this
theorem def_ext {d d' : Def} (h0 : d.f0 = d'.f0) (h1 : d.f1 = d'.f1) (h2 : d.f2 = d'.f2) (h3 : d.f3 = d'.f3) (h4 : d.f4 = d'.f4) (h5 : d.f5 = d'.f5) : d = d' := by
  cases d; cases d'; cases h0; cases h1; cases h2; cases h3; cases h4; cases h5; rfl
theorem C_none (w : World) : Kd.C Kd.string w none 0 [] := ⟨rfl, by decide, fun h => absurd h (by decide)⟩
theorem DefAt.uniq {w : World} {v : Value} {d d' : Def} (h : DefAt w v d) (h' : DefAt w v d') : d = d' := by
  obtain ⟨A, c, e, _, hC⟩ := h
  obtain ⟨A', c', e', _, hC'⟩ := h'
  rw [e] at e'
  simp only [Value.agg.injEq, Array.mk.injEq, List.cons.injEq, Value.int.injEq, Value.string.injEq, Value.slice.injEq, and_true, true_and] at e'
  obtain ⟨h0, h1, h2, ⟨rfl, hn, _⟩, h4, h5⟩ := e'
  rw [← hn] at hC'
  have h3 := C_uniq hC hC'
  exact def_ext h0 h1 h2 h3 h4 h5
theorem DefAt.below {w w1 : World} {v : Value} {d : Def} (h : DefAt w v d) (hb : Below w.heap.size w w1) : DefAt w1 v d := by
  obtain ⟨A, c, e, hl, hC⟩ := h
  exact ⟨A, c, e, hl, Kd.C_below hC hb⟩
theorem DefAt.zero (w : World) : DefAt w (.agg #[.int .i64 0, .string ⟨#[]⟩, .string ⟨#[]⟩, .slice none 0 0, .string ⟨#[]⟩, .string ⟨#[]⟩]) P.z33 :=
  ⟨none, 0, rfl, Nat.le_refl _, C_none w⟩

open Classical in
/-- How an element of such a map reads: as its definition. -/
noncomputable def RD (w : World) (v : Value) : Option (DataW Def × List MemPlace) := if h : ∃ d, DefAt w v d then some (.held h.choose, []) else none
theorem RD_of {w : World} {v : Value} {d : Def} (h : DefAt w v d) : RD w v = some (.held d, []) := by
  unfold RD
  have hx : ∃ d, DefAt w v d := ⟨d, h⟩
  rw [dif_pos hx]
  have := (hx.choose_spec).uniq h
  exact congrArg (fun d => some (DataW.held d, ([] : List MemPlace))) this
theorem RD_inv {w : World} {v : Value} {x : DataW Def × List MemPlace} (h : RD w v = some x) : ∃ d, DefAt w v d ∧ x = (.held d, []) := by
  unfold RD at h
  split at h
  · rename_i hx
    exact ⟨_, hx.choose_spec, (Option.some.inj h).symm⟩
  · cases h
theorem RD_below {w w1 : World} {v : Value} {x : DataW Def × List MemPlace} (hb : Below w.heap.size w w1) (h : RD w v = some x) : RD w1 v = some x := by
  obtain ⟨d, hd, rfl⟩ := RD_inv h
  exact RD_of (hd.below hb)

/-- Definitions by their keys, as a map reads. -/
abbrev Keyed2 := List (List UInt8 × Def)
def sd (m : Keyed2) : DataW Def := .map (m.map fun p => (.string p.1, .held p.2))
theorem law : Keyed Tryz.prog 9 := string_keyed Tryz.underlying9
/-- Block b holds a map of these definitions. -/
def MapOf (w : World) (b : Nat) (m : Keyed2) : Prop := w.ownsMap Tryz.prog 9 (RD w) b m.length (sd m)
theorem ownsMap_turn {w : World} {b n : Nat} {D : DataW Def} {R R' : Value → Option (DataW Def × List MemPlace)} (h : w.ownsMap Tryz.prog 9 R b n D) (hR : ∀ v x, R v = some x → R' v = some x) : w.ownsMap Tryz.prog 9 R' b n D := by
  obtain ⟨es, clock, hb, F, hs, hD⟩ := h
  refine ⟨es, clock, hb, ⟨F.size, F.stamped, fun x hx => ?_⟩, hs, ?_⟩
  · obtain ⟨y, hy⟩ := F.reads x hx
    exact ⟨y, rd_stay (fun z hz => hR _ _ hz) hy⟩
  · have e : es.toList.map (rg Tryz.prog 9 R) = es.toList.map (rg Tryz.prog 9 R') := List.map_congr_left fun x hx => by
      obtain ⟨y, hy⟩ := F.reads x hx
      rw [rg_of hy, rg_of (rd_stay (fun z hz => hR _ _ hz) hy)]
    rw [hD, e]
theorem ownsMap_exact {w : World} {b n : Nat} {m : Keyed2} {R : Value → Option (DataW Def × List MemPlace)} (h : w.ownsMap Tryz.prog 9 R b n (sd m)) : w.ownsMap Tryz.prog 9 R b m.length (sd m) := by
  obtain ⟨es, clock, hb, F, hs, hD⟩ := h
  refine ⟨es, clock, hb, F, ?_, hD⟩
  have : m.length = es.size := by
    have e := congrArg Maps.size hD
    simp only [sd, Maps.size_eq, List.length_map, length_sorted, Array.length_toList] at e
    exact e
  omega
theorem MapOf.below {w w1 : World} {b : Nat} {m : Keyed2} (h : MapOf w b m) (hb : Below w.heap.size w w1) : MapOf w1 b m := by
  have hlt := h.lt
  have h2 := ownsMap_turn h (fun v x hx => RD_below hb hx)
  obtain ⟨es, clock, hh, F, hs, hD⟩ := h2
  exact ⟨es, clock, (hb.block b hlt).trans hh, F, hs, hD⟩
/-- A map's value that is these definitions: nil, or a block. -/
def MapVal (w : World) (mb : Option Nat) (m : Keyed2) : Prop := (mb = none ∧ m = []) ∨ ∃ b, mb = some b ∧ MapOf w b m
theorem MapVal.below {w w1 : World} {mb : Option Nat} {m : Keyed2} (h : MapVal w mb m) (hb : Below w.heap.size w w1) : MapVal w1 mb m := by
  rcases h with ⟨h1, h2⟩ | ⟨b, h1, h2⟩
  · exact .inl ⟨h1, h2⟩
  · exact .inr ⟨b, h1, h2.below hb⟩
/-- This value is a snapshot of these definitions. -/
def SnapAt (w : World) (v : Value) (m : Keyed2) : Prop := (v = .pointer none ∧ m = []) ∨ ∃ a b, v = .pointer (some ⟨a, 0, none⟩) ∧ w.cell? ⟨a, 0, none⟩ = some (.map (some b)) ∧ MapOf w b m
theorem SnapAt.below {w w1 : World} {v : Value} {m : Keyed2} (h : SnapAt w v m) (hb : Below w.heap.size w w1) : SnapAt w1 v m := by
  rcases h with ⟨h1, h2⟩ | ⟨a, b, h1, h2, h3⟩
  · exact .inl ⟨h1, h2⟩
  · exact .inr ⟨a, b, h1, pw_cell_below hb h2, h3.below hb⟩

def mhas (m : Keyed2) (k : List UInt8) : Bool := m.any fun p => p.1 == k
def mget (m : Keyed2) (k : List UInt8) : Def := match m.find? (fun p => p.1 == k) with | some p => p.2 | none => P.z33
theorem sd_has (m : Keyed2) (k : List UInt8) : Maps.has (sd m) (.string k) = mhas m k := by
  simp only [sd, Maps.has_eq, mhas, List.any_map]
  rfl
theorem sd_size (m : Keyed2) : Maps.size (sd m) = m.length := by simp [sd, Maps.size_eq]
theorem sd_at (m : Keyed2) (k : List UInt8) : (sd m).atKey (.string k) (.held P.z33) = .held (mget m k) := by
  unfold sd mget DataW.atKey
  simp only [List.find?_map]
  have e : ((fun p : Lit × DataW Def => p.1.sameKey (.string k)) ∘ fun p : List UInt8 × Def => (Lit.string p.1, DataW.held p.2)) = fun p => p.1 == k := rfl
  rw [e]
  cases m.find? (fun p => p.1 == k) <;> rfl
theorem zeroDef (w : World) : (zeroValue 33).run Tryz.prog w = .ok (.agg #[.int .i64 0, .string ⟨#[]⟩, .string ⟨#[]⟩, .slice none 0 0, .string ⟨#[]⟩, .string ⟨#[]⟩]) w := by kernel_rfl
theorem keyText (s : ByteArray) (hs : s.size ≤ maxLen) : keyOf Tryz.prog 9 (.string s) = some (.string s.data.toList) := WideMaps.keyOf_string_mk Tryz.underlying9 hs
theorem MapVal.run_len {w : World} {mb : Option Nat} {m : Keyed2} (h : MapVal w mb m) (ty : TypeId) : (Builtin.len_ #[121] ty #[.map mb]).run Tryz.prog w = .ok (.int .i64 m.length) w := by
  rcases h with ⟨rfl, rfl⟩ | ⟨b, rfl, h⟩
  · exact Maps.len_nil Tryz.underlying121 ty
  · rw [h.len Tryz.underlying121 ty, sd_size]
theorem MapVal.run_look {w : World} {mb : Option Nat} {m : Keyed2} (h : MapVal w mb m) (s : ByteArray) (hs : s.size ≤ maxLen) :
    ∃ A c, (Instr.lookup 121 (.map mb) (.string s) true).run Tryz.prog w = .ok (.tuple #[.agg #[.int .i64 (mget m s.data.toList).f0, .string (mget m s.data.toList).f1, .string (mget m s.data.toList).f2, .slice A (mget m s.data.toList).f3.length c, .string (mget m s.data.toList).f4, .string (mget m s.data.toList).f5], .bool (mhas m s.data.toList)]) w ∧
      (mget m s.data.toList).f3.length ≤ c ∧ Kd.C Kd.string w A (mget m s.data.toList).f3.length (mget m s.data.toList).f3 := by
  rcases h with ⟨rfl, rfl⟩ | ⟨b, rfl, h⟩
  · obtain ⟨A, c, e, hl, hC⟩ := DefAt.zero w
    exact ⟨none, 0, Maps.look_nil true law Tryz.underlying121 (zeroDef w) (keyText s hs), Nat.le_refl _, C_none w⟩
  · obtain ⟨v, ps, hrun, hR⟩ := h.look_ok law Tryz.underlying121 (zeroDef w) (RD_of (DefAt.zero w)) (keyText s hs)
    rw [sd_has] at hrun
    rw [sd_at] at hR
    obtain ⟨d, hd, he⟩ := RD_inv hR
    simp only [Prod.mk.injEq, DataW.held.injEq] at he
    obtain ⟨rfl, _⟩ := he
    obtain ⟨A, c, rfl, hl, hC⟩ := hd
    exact ⟨A, c, hrun, hl, hC⟩

set_option maxRecDepth 100000 in
theorem all_calls (v : Value) (m : Keyed2) (w : World) (h : SnapAt w v m) : Calls Tryz.prog 89 #[v] w fun e w' => ∃ mb, e = .returned (.map mb) ∧ MapVal w mb m ∧ w = w' := by
  rcases h with ⟨rfl, hm⟩ | ⟨a, b, rfl, hc, hm⟩
  · go_enter Tryz.func89, Tryz.ntmps89
    go_wp2
    go_ret
    exact ⟨none, rfl, .inl ⟨rfl, hm⟩, rfl⟩
  · have HM := Lib.hid hm
    clear hm
    go_enter Tryz.func89, Tryz.ntmps89
    go_wp2
    go_ret
    exact ⟨some b, rfl, .inr ⟨b, rfl, HM.out⟩, rfl⟩
set_option maxRecDepth 100000 in
theorem len_calls (v : Value) (m : Keyed2) (w : World) (h : SnapAt w v m) : Calls Tryz.prog 40 #[v] w fun e w' => e = .returned (.int .i64 m.length) ∧ w = w' := by
  have HA := Lib.hid (all_calls v m w h)
  clear h
  go_enter Tryz.func40, Tryz.ntmps40
  go_wp2_with fail
  refine HA.out.mono ?_
  rintro e w1 ⟨mb, rfl, hm, rfl⟩
  have hl := fun ty => hm.run_len ty
  go_wp2
  go_ret
  exact ⟨rfl, rfl⟩

end Go.Proofs.YtodpdlpncgkkdaaGreatDoor
end
section
namespace Go.Proofs.YtodpdlpncgkkdaaGreatDoor.P
open Go.RowKit Go.Proofs.YtodpdlpncgkkdaaGreatDoorW.PrintWords Go.Proofs.YtodpdlpncgkkdaaGreatDoorW.PrintLast Go.Proofs.YtodpdlpncgkkdaaGreatDoorW.PrintMore
attribute [local go_sem] max2_int min2_int max_two min_two max_three min_three max_four min_four   -- for this text's walks alone
set_option linter.unusedVariables false
set_option linter.unusedSimpArgs false

/-! ### name_lower: function 213 -/
def name_lower.f (a0 : ByteArray) : Option (Bool) := some (isLower a0)
theorem name_lower.calls (a0 : ByteArray) (r : Bool) (w : World) (h : name_lower.f a0 = some r) :
    Calls Tryz.prog 213 #[.string a0] w fun e w' => e = .returned (.bool r) ∧ Below w.heap.size w w' := by
  obtain rfl := Option.some.inj h
  exact lower_calls a0 w

end Go.Proofs.YtodpdlpncgkkdaaGreatDoor.P
end
section
namespace Go.Proofs.YtodpdlpncgkkdaaGreatDoor.P
open Go.RowKit Go.Proofs.YtodpdlpncgkkdaaGreatDoorW.PrintWords Go.Proofs.YtodpdlpncgkkdaaGreatDoorW.PrintLast Go.Proofs.YtodpdlpncgkkdaaGreatDoorW.PrintMore
attribute [local go_sem] max2_int min2_int max_two min_two max_three min_three max_four min_four   -- for this text's walks alone
set_option linter.unusedVariables false
set_option linter.unusedSimpArgs false

/-! ### slices_Contains_string_string: function 216 -/
def slices_Contains_string_string.f (l0 : List ByteArray) (a1 : ByteArray) : Option (Bool) := some (hasText l0 a1)
theorem slices_Contains_string_string.calls (A0 : Option Addr) (c0 : Nat) (l0 : List ByteArray) (a1 : ByteArray) (r : Bool) (w : World) (hr0 : Kd.C Kd.string w A0 l0.length l0) (hc0 : l0.length ≤ c0) (h : slices_Contains_string_string.f l0 a1 = some r) :
    Calls Tryz.prog 216 #[.slice A0 l0.length c0, .string a1] w fun e w' => e = .returned (.bool r) ∧ Below w.heap.size w w' := by
  obtain rfl := Option.some.inj h
  exact contains_calls A0 c0 l0 a1 w hr0 hr0.2.1

end Go.Proofs.YtodpdlpncgkkdaaGreatDoor.P
end
section
namespace Go.Proofs.YtodpdlpncgkkdaaGreatDoor.P
open Go.RowKit Go.Proofs.YtodpdlpncgkkdaaGreatDoorW.PrintWords Go.Proofs.YtodpdlpncgkkdaaGreatDoorW.PrintLast Go.Proofs.YtodpdlpncgkkdaaGreatDoorW.PrintMore
attribute [local go_sem] max2_int min2_int max_two min_two max_three min_three max_four min_four   -- for this text's walks alone
set_option linter.unusedVariables false
set_option linter.unusedSimpArgs false

/-! ### name_reserved: function 264 -/
def name_reserved.f  : Option (List ByteArray) := some (([(⟨#[115, 101, 108, 102]⟩ : ByteArray), (⟨#[115, 117, 112, 101, 114]⟩ : ByteArray), (⟨#[110, 105, 108]⟩ : ByteArray), (⟨#[116, 114, 117, 101]⟩ : ByteArray), (⟨#[102, 97, 108, 115, 101]⟩ : ByteArray)] : List ByteArray))
set_option maxHeartbeats 8000000 in
set_option maxRecDepth 100000 in
theorem name_reserved.calls  (r : List ByteArray) (w : World) (h : name_reserved.f  = some r) :
    Calls Tryz.prog 264 #[] w fun e w' => ∃ v0_ : Value, e = .returned (v0_) ∧ Kd.R Kd.string 9 w' w.heap.size (fun _ => True) v0_ r ∧ Below w.heap.size w w' := by
  have HB := Aside0.mk (Below.refl w.heap.size w)
  have H : (some (([(⟨#[115, 101, 108, 102]⟩ : ByteArray), (⟨#[115, 117, 112, 101, 114]⟩ : ByteArray), (⟨#[110, 105, 108]⟩ : ByteArray), (⟨#[116, 114, 117, 101]⟩ : ByteArray), (⟨#[102, 97, 108, 115, 101]⟩ : ByteArray)] : List ByteArray))) = some r := h
  clear h
  obtain ⟨y121, hy121⟩ : ∃ y_ : List ByteArray, y_ = (([(⟨#[115, 101, 108, 102]⟩ : ByteArray), (⟨#[115, 117, 112, 101, 114]⟩ : ByteArray), (⟨#[110, 105, 108]⟩ : ByteArray), (⟨#[116, 114, 117, 101]⟩ : ByteArray), (⟨#[102, 97, 108, 115, 101]⟩ : ByteArray)] : List ByteArray)) := ⟨_, rfl⟩
  replace H : (some y121) = some r := by first | (rw [hy121]; with_reducible exact H) | (have H2_ := (Option.bind_some _ _).symm.trans H; rw [hy121]; with_reducible exact H2_) | (have H2_ := (Option.bind_some _ _).symm.trans H; with_reducible exact H2_) | with_reducible exact H | (rw [hy121]; exact H) | exact H
  have Ny121 := Aside0.mk hy121
  clear hy121
  obtain rfl := Option.some.inj H
  go_enter Tryz.func264, Tryz.ntmps264
  go_wp2_with (first | ((with_reducible refine gate_dst (N := 1) rfl ?_); refine Kd.R_lit Kd.string _ 9 ?hg (N := 1) ?hd (xs := ([(⟨#[115, 101, 108, 102]⟩ : ByteArray), (⟨#[115, 117, 112, 101, 114]⟩ : ByteArray), (⟨#[110, 105, 108]⟩ : ByteArray), (⟨#[116, 114, 117, 101]⟩ : ByteArray), (⟨#[102, 97, 108, 115, 101]⟩ : ByteArray)] : List ByteArray)) (inner := [.string (⟨#[115, 101, 108, 102]⟩ : ByteArray), .string (⟨#[115, 117, 112, 101, 114]⟩ : ByteArray), .string (⟨#[110, 105, 108]⟩ : ByteArray), .string (⟨#[116, 114, 117, 101]⟩ : ByteArray), .string (⟨#[102, 97, 108, 115, 101]⟩ : ByteArray)]) (ok := fun _ => True) (okp := fun _ => True) ?hr ?hp (fun _ hk => hk) trivial (Below.refl _ _) (Nat.le_refl _) (by simp) ?_; (case hd => rfl); (case hg => rfl); (case hr => first | (go_simp; done) | (go_simp; rfl)); (case hp => exact (Reps.one (show Kd.M Kd.string _ _ _ (⟨#[115, 101, 108, 102]⟩ : ByteArray) [.string (⟨#[115, 101, 108, 102]⟩ : ByteArray)] from rfl) (Reps.one (show Kd.M Kd.string _ _ _ (⟨#[115, 117, 112, 101, 114]⟩ : ByteArray) [.string (⟨#[115, 117, 112, 101, 114]⟩ : ByteArray)] from rfl) (Reps.one (show Kd.M Kd.string _ _ _ (⟨#[110, 105, 108]⟩ : ByteArray) [.string (⟨#[110, 105, 108]⟩ : ByteArray)] from rfl) (Reps.one (show Kd.M Kd.string _ _ _ (⟨#[116, 114, 117, 101]⟩ : ByteArray) [.string (⟨#[116, 114, 117, 101]⟩ : ByteArray)] from rfl) (Reps.one (show Kd.M Kd.string _ _ _ (⟨#[102, 97, 108, 115, 101]⟩ : ByteArray) [.string (⟨#[102, 97, 108, 115, 101]⟩ : ByteArray)] from rfl) (Reps.none _ _))))))); intro v122 w1 ho2 hb hg_ hnew_; clear hg_ hnew_; (first | rw [← Ny121.out] at ho2 | (simp only [Int.reduceToNat] at ho2; rw [← Ny121.out] at ho2)); have n0_ := Aside0.mk (Kd.R_lower ho2 (below_size (by repeat (first | (with_reducible first | exact HB.out | apply below_alloc | apply pw_below_drewN | apply below_drew1) | exact HB.out)))); have n1_ := Aside0.mk (below_step (by repeat (first | (with_reducible first | exact HB.out | apply below_alloc | apply pw_below_drewN | apply below_drew1) | exact HB.out)) hb); clear HB; have HO123 := n0_; have HB := n1_; clear n0_ n1_; clear hb ho2))
  go_ret
  exact ⟨_, by first | rfl | (simp [errW_none, errW_some] <;> rfl) | (simp [*, errW_none, errW_some] <;> rfl), by (with_reducible repeat (first | apply Kd.R_alloc | apply Kd.R_drewN | apply Kd.R_drew)); exact HO123.out, by repeat (first | (with_reducible first | exact HB.out | apply below_alloc | apply pw_below_drewN | apply below_drew1) | exact HB.out)⟩

end Go.Proofs.YtodpdlpncgkkdaaGreatDoor.P
end
section
namespace Go.Proofs.YtodpdlpncgkkdaaGreatDoor.P
open Go.RowKit Go.Proofs.YtodpdlpncgkkdaaGreatDoorW.PrintWords Go.Proofs.YtodpdlpncgkkdaaGreatDoorW.PrintLast Go.Proofs.YtodpdlpncgkkdaaGreatDoorW.PrintMore
attribute [local go_sem] max2_int min2_int max_two min_two max_three min_three max_four min_four   -- for this text's walks alone
set_option linter.unusedVariables false
set_option linter.unusedSimpArgs false

/-! ### name_Var: function 240 -/
def name_Var.f (a0 : ByteArray) : Option (Bool) := (name_lower.f a0).bind fun t124 => (if t124 = true then ((name_reserved.f).bind fun t125 => ((slices_Contains_string_string.f t125 a0).bind fun t128 => (some (!t128)))) else (some false))
set_option maxHeartbeats 8000000 in
set_option maxRecDepth 100000 in
theorem name_Var.calls (a0 : ByteArray) (r : Bool) (w : World) (h : name_Var.f a0 = some r) :
    Calls Tryz.prog 240 #[.string a0] w fun e w' => e = .returned (.bool r) ∧ Below w.heap.size w w' := by
  have HB := Aside0.mk (Below.refl w.heap.size w)
  have H : ((name_lower.f a0).bind fun t124 => (if t124 = true then ((name_reserved.f).bind fun t125 => ((slices_Contains_string_string.f t125 a0).bind fun t128 => (some (!t128)))) else (some false))) = some r := h
  clear h
  replace H := Option.bind_eq_some_iff.mp H
  obtain ⟨t124, A20, H⟩ := H
  replace H : (if t124 = true then ((name_reserved.f).bind fun t125 => ((slices_Contains_string_string.f t125 a0).bind fun t128 => (some (!t128)))) else (some false)) = some r := H
  have A2 := Aside0.mk A20
  clear A20
  by_cases c3 : t124 = true
  · subst c3
    have H1 : ((name_reserved.f).bind fun t125 => ((slices_Contains_string_string.f t125 a0).bind fun t128 => (some (!t128)))) = some r := by rw [if_pos rfl] at H; exact H
    clear H
    have H := H1
    clear H1
    replace H := Option.bind_eq_some_iff.mp H
    obtain ⟨t125, A40, H⟩ := H
    replace H : ((slices_Contains_string_string.f t125 a0).bind fun t128 => (some (!t128))) = some r := H
    have A4 := Aside0.mk A40
    clear A40
    replace H := Option.bind_eq_some_iff.mp H
    obtain ⟨t128, A50, H⟩ := H
    replace H : (some (!t128)) = some r := H
    have A5 := Aside0.mk A50
    clear A50
    obtain rfl := Option.some.inj H
    go_enter Tryz.func240, Tryz.ntmps240
    go_wp2_with (first | ((with_reducible refine gate_callee (f := 213) rfl ?_); refine goesL_ (some 4) rfl rfl Tryz.func213 (by kernel_rfl) rfl #[.string a0] rfl (by (try simp only [List.map_toArray, List.map_cons, List.map_nil]); first | done | rfl | (simp only [List.length_drop, List.length_take]; rfl)) ?_; (with_reducible refine (name_lower.calls a0 true _ A2.out).mono ?_); rintro e w6 ⟨rfl, hb⟩; refine ⟨_, rfl, ?_⟩; have n0_ := Aside0.mk (below_step (by repeat (first | (with_reducible first | exact HB.out | apply below_alloc | apply pw_below_drewN | apply below_drew1) | exact HB.out)) hb); clear HB; have HB := n0_; clear n0_; (try clear hb); (try clear hb2); (try clear hk); (try clear hi)) | (go_at_call 264; (with_reducible refine (name_reserved.calls  t125 _ A4.out).mono ?_); rintro e w7 ⟨v126, rfl, ho0, hb⟩; have n0_ := Aside0.mk (Kd.R_lower ho0 (below_size (by repeat (first | (with_reducible first | exact HB.out | apply below_alloc | apply pw_below_drewN | apply below_drew1) | exact HB.out)))); have n1_ := Aside0.mk (below_step (by repeat (first | (with_reducible first | exact HB.out | apply below_alloc | apply pw_below_drewN | apply below_drew1) | exact HB.out)) hb); clear HB; have HO127 := n0_; have HB := n1_; clear n0_ n1_; (try clear hb); (try clear hb2); (try clear hk); (try clear hi); (try clear ho0); obtain ⟨Ao8, co8, eo8⟩ := Kd.R_slice HO127.out; subst eo8) | (go_at_call 216; (with_reducible refine (slices_Contains_string_string.calls _ _ t125 a0 t128 _ ?side1 ?side2 A5.out).mono ?_); (case side1 => repeat (first | exact (Kd.R_reads' HO127.out).2.2 | (with_reducible refine Kd.C_alloc ?_ _) | (with_reducible refine Kd.C_drewN ?_ _) | (with_reducible refine Kd.C_drew ?_))); (case side2 => exact (Kd.R_reads' HO127.out).2.1); rintro e w9 ⟨rfl, hb⟩; have n0_ := Aside0.mk (Kd.R_below (by (with_reducible repeat (first | apply Kd.R_alloc | apply Kd.R_drewN | apply Kd.R_drew)); exact HO127.out) hb); have n1_ := Aside0.mk (below_step (by repeat (first | (with_reducible first | exact HB.out | apply below_alloc | apply pw_below_drewN | apply below_drew1) | exact HB.out)) hb); clear HO127; clear HB; have HO127 := n0_; have HB := n1_; clear n0_ n1_; (try clear hb); (try clear hb2); (try clear hk); (try clear hi)))
    go_ret
    exact ⟨by first | rfl | (simp [errW_none, errW_some] <;> rfl) | (simp [*, errW_none, errW_some] <;> rfl), by repeat (first | (with_reducible first | exact HB.out | apply below_alloc | apply pw_below_drewN | apply below_drew1) | exact HB.out)⟩
  · replace c3 := Bool.eq_false_iff.mpr c3
    subst c3
    have H1 : (some false) = some r := by rw [if_neg (show ¬ (false = true) by decide)] at H; exact H
    clear H
    have H := H1
    clear H1
    obtain rfl := Option.some.inj H
    go_enter Tryz.func240, Tryz.ntmps240
    go_wp2_with (first | ((with_reducible refine gate_callee (f := 213) rfl ?_); refine goesL_ (some 4) rfl rfl Tryz.func213 (by kernel_rfl) rfl #[.string a0] rfl (by (try simp only [List.map_toArray, List.map_cons, List.map_nil]); first | done | rfl | (simp only [List.length_drop, List.length_take]; rfl)) ?_; (with_reducible refine (name_lower.calls a0 false _ A2.out).mono ?_); rintro e w10 ⟨rfl, hb⟩; refine ⟨_, rfl, ?_⟩; have n0_ := Aside0.mk (below_step (by repeat (first | (with_reducible first | exact HB.out | apply below_alloc | apply pw_below_drewN | apply below_drew1) | exact HB.out)) hb); clear HB; have HB := n0_; clear n0_; (try clear hb); (try clear hb2); (try clear hk); (try clear hi)))
    go_ret
    exact ⟨by first | rfl | (simp [errW_none, errW_some] <;> rfl) | (simp [*, errW_none, errW_some] <;> rfl), by repeat (first | (with_reducible first | exact HB.out | apply below_alloc | apply pw_below_drewN | apply below_drew1) | exact HB.out)⟩

end Go.Proofs.YtodpdlpncgkkdaaGreatDoor.P
end
section
namespace Go.Proofs.YtodpdlpncgkkdaaGreatDoor
open Go.RowKit Go.Proofs.YtodpdlpncgkkdaaGreatDoorW.PrintWords Go.Shelf

def reservedL : List ByteArray := [⟨#[115, 101, 108, 102]⟩, ⟨#[115, 117, 112, 101, 114]⟩, ⟨#[110, 105, 108]⟩, ⟨#[116, 114, 117, 101]⟩, ⟨#[102, 97, 108, 115, 101]⟩]
def varName (s : ByteArray) : Bool := isLower s && !hasText reservedL s
theorem var_f (s : ByteArray) : P.name_Var.f s = some (varName s) := by
  unfold P.name_Var.f P.name_lower.f P.name_reserved.f P.slices_Contains_string_string.f varName
  simp only [Option.bind_some]
  cases isLower s
  · rfl
  · simp only [if_true, Bool.true_and]; rfl
theorem var_calls (s : ByteArray) (w : World) : Calls Tryz.prog 240 #[.string s] w fun e w' => e = .returned (.bool (varName s)) ∧ Below w.heap.size w w' := P.name_Var.calls s _ w (var_f s)

/-- Is the variable at this place right, and unlike those ahead of it? -/
def varAt (l : List ByteArray) (i : Nat) : Bool := varName (rdOf ByteArray.empty l (i : Int)) && !hasText (l.take i) (rdOf ByteArray.empty l (i : Int))
def varsOk (l : List ByteArray) : Bool := (List.range l.length).all (varAt l) && decide (l.length ≤ 20)
theorem varsOk_bad {l : List ByteArray} {i : Nat} (hi : i < l.length) (h : varAt l i = false) : varsOk l = false := by
  unfold varsOk
  rw [Bool.and_eq_false_iff]
  left
  rw [List.all_eq_false]
  exact ⟨i, List.mem_range.2 hi, by rw [h]; decide⟩
theorem varsOk_end {l : List ByteArray} (h : ∀ j, j < l.length → varAt l j = true) : varsOk l = decide (l.length ≤ 20) := by
  unfold varsOk
  have : (List.range l.length).all (varAt l) = true := List.all_eq_true.2 fun j hj => h j (List.mem_range.1 hj)
  rw [this, Bool.true_and]
set_option maxRecDepth 100000 in
theorem vars_calls (A : Option Addr) (c : Nat) (l : List ByteArray) (w : World) (hr : Kd.C Kd.string w A l.length l) (hlc : l.length ≤ c) :
    Calls Tryz.prog 199 #[.slice A l.length c] w fun e w' => e = .returned (.bool (varsOk l)) ∧ Below w.heap.size w w' := by
  have hm : l.length ≤ 9223372036854775807 := hr.2.1
  have HR := Lib.hid hr
  clear hr
  go_enter Tryz.func199, Tryz.ntmps199
  go_wp2_with fail
  go_loopw [2, 3, 4, 7] (fun _ _ _ t7 w' => ∃ i : Nat, t7 = .int .i64 i ∧ i ≤ l.length ∧ Hid (∀ j, j < i → varAt l j = true) ∧ Hid (Below w.heap.size w w')) (fun _ _ _ t7 _ => l.length - (intOf t7).toNat)
  case atStart => exact ⟨0, rfl, Nat.zero_le _, fun j h => absurd h (Nat.not_lt_zero j), Below.refl _ _⟩
  case round =>
    obtain ⟨i, rfl, hi, hn, hb⟩ := hrel
    by_cases hlt : i < l.length
    · obtain ⟨ad, hA, hc⟩ := Kd.at_string (Kd.C_below HR.out hb.out) (i : Int) (by omega) (by omega)
      subst hA
      rw [Int.toNat_natCast] at hc
      have hva : varAt l i = (varName (rdOf ByteArray.empty l (i : Int)) && !hasText (l.take i) (rdOf ByteArray.empty l (i : Int))) := rfl
      obtain ⟨y, hy⟩ : ∃ y, rdOf ByteArray.empty l (i : Int) = y := ⟨_, rfl⟩
      rw [hy] at hc hva
      clear hy
      have HV := Lib.hid (var_calls y)
      cases hv : varName y with
      | false =>
        rw [hv] at HV hva
        have HRes := Lib.hid (varsOk_bad hlt hva)
        clear hv hva
        go_wp2_with (go_at_call 240; refine (HV.out _).mono ?_; rintro e w1 ⟨rfl, hb1⟩)
        go_ret
        exact ⟨ret_b HRes.out.symm, below_then hb.out hb.out.size hb1⟩
      | true =>
        rw [hv] at HV hva
        have hcw : ∀ w1, Below wr.heap.size wr w1 → Calls Tryz.prog 216 #[.slice (some ad) i c, .string y] w1 fun e w' => e = .returned (.bool (hasText (l.take i) y)) ∧ Below w1.heap.size w1 w' := fun w1 hb1 => by
          have h := contains_calls (some ad) c (l.take i) y w1 (Kd.C_take (Kd.C_below (Kd.C_below HR.out hb.out) hb1) (by omega)) (by simp; omega)
          rwa [List.length_take_of_le (by omega)] at h
        have HCW := Lib.hid hcw
        clear hcw
        cases hh : hasText (l.take i) y with
        | false =>
          rw [hh] at HCW hva
          have hn2 : Hid (∀ j, j < i + 1 → varAt l j = true) := fun j hj => by
            by_cases e : j = i
            · subst e; exact hva
            · exact hn.out j (by omega)
          clear hh hva hv hn
          go_wp2_with (first | (go_at_call 240; refine (HV.out _).mono ?_; rintro e w1 ⟨rfl, hb1⟩) | (go_at_call 216; refine (HCW.out _ hb1).mono ?_; rintro e w2 ⟨rfl, hb2⟩))
          go_roundw
          case rel => exact ⟨i + 1, by go_num, by omega, hn2, below_then (below_then hb.out hb.out.size hb1) (Nat.le_trans hb.out.size hb1.size) hb2⟩
          case measure => simp [intOf]; omega
        | true =>
          rw [hh] at HCW hva
          have HRes := Lib.hid (varsOk_bad hlt hva)
          clear hh hva hv hn
          go_wp2_with (first | (go_at_call 240; refine (HV.out _).mono ?_; rintro e w1 ⟨rfl, hb1⟩) | (go_at_call 216; refine (HCW.out _ hb1).mono ?_; rintro e w2 ⟨rfl, hb2⟩))
          go_ret
          exact ⟨ret_b HRes.out.symm, below_then (below_then hb.out hb.out.size hb1) (Nat.le_trans hb.out.size hb1.size) hb2⟩
    · obtain rfl : i = l.length := by omega
      have HRes := Lib.hid (varsOk_end hn.out)
      go_wp2
      go_ret
      exact ⟨ret_b (by rw [HRes.out]; simp; omega), hb.out⟩

end Go.Proofs.YtodpdlpncgkkdaaGreatDoor
end
section
namespace Go.Proofs.YtodpdlpncgkkdaaGreatDoor.P
open Go.RowKit Go.Proofs.YtodpdlpncgkkdaaGreatDoorW.PrintWords Go.Proofs.YtodpdlpncgkkdaaGreatDoorW.PrintLast Go.Proofs.YtodpdlpncgkkdaaGreatDoorW.PrintMore
attribute [local go_sem] max2_int min2_int max_two min_two max_three min_three max_four min_four   -- for this text's walks alone
set_option linter.unusedVariables false
set_option linter.unusedSimpArgs false

/-! ### name_large: function 195 -/
def name_large.f (a0 : Int) : Option (Bool) := if a0 ≥ 65 then (some (decide (a0 ≤ 90))) else (some false)
set_option maxHeartbeats 8000000 in
set_option maxRecDepth 100000 in
theorem name_large.calls (a0 : Int) (r : Bool) (w : World) (h : name_large.f a0 = some r) :
    Calls Tryz.prog 195 #[.int .i32 a0] w fun e w' => e = .returned (.bool r) ∧ Drawn0 w w' := by
  have H : (if a0 ≥ 65 then (some (decide (a0 ≤ 90))) else (some false)) = some r := h
  clear h
  by_cases c2 : a0 ≥ 65
  · rw [if_pos c2] at H
    have c2b0 : decide (65 ≤ a0) = true := decide_eq_true c2
    clear c2
    obtain rfl := Option.some.inj H
    go_enter Tryz.func195, Tryz.ntmps195
    go_wp2
    go_ret
    exact ⟨by first | rfl | (simp; done) | (simp [*]; done), by repeat (first | exact Drawn0.refl _ | apply Drawn0.step)⟩
  · rw [if_neg c2] at H
    have c2b0 : decide (65 ≤ a0) = false := decide_eq_false c2
    clear c2
    obtain rfl := Option.some.inj H
    go_enter Tryz.func195, Tryz.ntmps195
    go_wp2
    go_ret
    exact ⟨by first | rfl | (simp; done) | (simp [*]; done), by repeat (first | exact Drawn0.refl _ | apply Drawn0.step)⟩

end Go.Proofs.YtodpdlpncgkkdaaGreatDoor.P
end
section
namespace Go.Proofs.YtodpdlpncgkkdaaGreatDoor.P
open Go.RowKit Go.Proofs.YtodpdlpncgkkdaaGreatDoorW.PrintWords Go.Proofs.YtodpdlpncgkkdaaGreatDoorW.PrintLast Go.Proofs.YtodpdlpncgkkdaaGreatDoorW.PrintMore
attribute [local go_sem] max2_int min2_int max_two min_two max_three min_three max_four min_four   -- for this text's walks alone
set_option linter.unusedVariables false
set_option linter.unusedSimpArgs false

/-! ### name_Is: function 194 -/
def name_Is.f (a0 : ByteArray) : Option (Bool) := some (isName a0)
theorem name_Is.calls (a0 : ByteArray) (r : Bool) (w : World) (h : name_Is.f a0 = some r) :
    Calls Tryz.prog 194 #[.string a0] w fun e w' => e = .returned (.bool r) ∧ Below w.heap.size w w' := by
  obtain rfl := Option.some.inj h
  exact is_calls a0 w

end Go.Proofs.YtodpdlpncgkkdaaGreatDoor.P
end
section
namespace Go.Proofs.YtodpdlpncgkkdaaGreatDoor.P
open Go.RowKit Go.Proofs.YtodpdlpncgkkdaaGreatDoorW.PrintWords Go.Proofs.YtodpdlpncgkkdaaGreatDoorW.PrintLast Go.Proofs.YtodpdlpncgkkdaaGreatDoorW.PrintMore
attribute [local go_sem] max2_int min2_int max_two min_two max_three min_three max_four min_four   -- for this text's walks alone
set_option linter.unusedVariables false
set_option linter.unusedSimpArgs false

/-! ### name_Class: function 138 -/
def name_Class.f (a0 : ByteArray) : Option (Bool) := (name_Is.f a0).bind fun t101 => (if t101 = true then (if 0 < (a0.size : Int) then ((name_large.f (wrap32 (bt a0 0))).bind fun t102 => (some t102)) else (none)) else (some false))
set_option maxHeartbeats 8000000 in
set_option maxRecDepth 100000 in
theorem name_Class.calls (a0 : ByteArray) (r : Bool) (w : World) (h : name_Class.f a0 = some r) :
    Calls Tryz.prog 138 #[.string a0] w fun e w' => e = .returned (.bool r) ∧ Below w.heap.size w w' := by
  have HB := Aside0.mk (Below.refl w.heap.size w)
  have H : ((name_Is.f a0).bind fun t101 => (if t101 = true then (if 0 < (a0.size : Int) then ((name_large.f (wrap32 (bt a0 0))).bind fun t102 => (some t102)) else (none)) else (some false))) = some r := h
  clear h
  replace H := Option.bind_eq_some_iff.mp H
  obtain ⟨t101, A20, H⟩ := H
  replace H : (if t101 = true then (if 0 < (a0.size : Int) then ((name_large.f (wrap32 (bt a0 0))).bind fun t102 => (some t102)) else (none)) else (some false)) = some r := H
  have A2 := Aside0.mk A20
  clear A20
  by_cases c3 : t101 = true
  · subst c3
    have H1 : (if 0 < (a0.size : Int) then ((name_large.f (wrap32 (bt a0 0))).bind fun t102 => (some t102)) else (none)) = some r := by rw [if_pos rfl] at H; exact H
    clear H
    have H := H1
    clear H1
    by_cases c4 : 0 < (a0.size : Int)
    · rw [if_pos c4] at H
      have c4b0 : decide (0 < (a0.size : Int)) = true := decide_eq_true c4
      have c4b1 : decide (0 < a0.size) = true := decide_eq_true (by omega)
      clear c4
      replace H := Option.bind_eq_some_iff.mp H
      obtain ⟨t102, A60, H⟩ := H
      replace H : (some t102) = some r := H
      have A6 := Aside0.mk A60
      clear A60
      obtain rfl := Option.some.inj H
      go_enter Tryz.func138, Tryz.ntmps138
      go_wp2_with (first | ((with_reducible refine gate_callee (f := 194) rfl ?_); refine goesL_ (some 4) rfl rfl Tryz.func194 (by kernel_rfl) rfl #[.string a0] rfl (by (try simp only [List.map_toArray, List.map_cons, List.map_nil]); first | done | rfl | (simp only [List.length_drop, List.length_take]; rfl)) ?_; (with_reducible refine (name_Is.calls a0 true _ A2.out).mono ?_); rintro e w7 ⟨rfl, hb⟩; refine ⟨_, rfl, ?_⟩; have n0_ := Aside0.mk (below_step (by repeat (first | (with_reducible first | exact HB.out | apply below_alloc | apply pw_below_drewN | apply below_drew1) | exact HB.out)) hb); clear HB; have HB := n0_; clear n0_; (try clear hb); (try clear hb2); (try clear hk); (try clear hi); have p5 : 0 ≤ (0 : Int) := (by omega); have q5 : 0 < a0.size := (by have : (0 : Int) < (a0.size : Int) := of_decide_eq_true (by first | (with_reducible assumption) | assumption); omega); have hx5 : ∀ h : 0 < a0.size, ((a0[0]'h).toNat : Int) = bt a0 0 := bt_at a0 0; clear p5; have qi5 : (0 < (a0.size : Int)) = True := eq_true (of_decide_eq_true (by first | (with_reducible assumption) | assumption)); replace q5 := eq_true q5) | (go_at_call 195; (with_reducible refine (name_large.calls (wrap32 (bt a0 0)) t102 _ A6.out).mono ?_); rintro e w' ⟨rfl, ⟨nd, rfl⟩⟩))
      go_ret
      exact ⟨by first | rfl | (simp [errW_none, errW_some] <;> rfl) | (simp [*, errW_none, errW_some] <;> rfl), by repeat (first | (with_reducible first | exact HB.out | apply below_alloc | apply pw_below_drewN | apply below_drew1) | exact HB.out)⟩
    · rw [if_neg c4] at H
      exact absurd H (by simp)
  · replace c3 := Bool.eq_false_iff.mpr c3
    subst c3
    have H1 : (some false) = some r := by rw [if_neg (show ¬ (false = true) by decide)] at H; exact H
    clear H
    have H := H1
    clear H1
    obtain rfl := Option.some.inj H
    go_enter Tryz.func138, Tryz.ntmps138
    go_wp2_with (first | ((with_reducible refine gate_callee (f := 194) rfl ?_); refine goesL_ (some 4) rfl rfl Tryz.func194 (by kernel_rfl) rfl #[.string a0] rfl (by (try simp only [List.map_toArray, List.map_cons, List.map_nil]); first | done | rfl | (simp only [List.length_drop, List.length_take]; rfl)) ?_; (with_reducible refine (name_Is.calls a0 false _ A2.out).mono ?_); rintro e w8 ⟨rfl, hb⟩; refine ⟨_, rfl, ?_⟩; have n0_ := Aside0.mk (below_step (by repeat (first | (with_reducible first | exact HB.out | apply below_alloc | apply pw_below_drewN | apply below_drew1) | exact HB.out)) hb); clear HB; have HB := n0_; clear n0_; (try clear hb); (try clear hb2); (try clear hk); (try clear hi)))
    go_ret
    exact ⟨by first | rfl | (simp [errW_none, errW_some] <;> rfl) | (simp [*, errW_none, errW_some] <;> rfl), by repeat (first | (with_reducible first | exact HB.out | apply below_alloc | apply pw_below_drewN | apply below_drew1) | exact HB.out)⟩

end Go.Proofs.YtodpdlpncgkkdaaGreatDoor.P
end
section
namespace Go.Proofs.YtodpdlpncgkkdaaGreatDoor
open Go.RowKit Go.Proofs.YtodpdlpncgkkdaaGreatDoorW.PrintWords Go.Shelf

def colonParts (s : ByteArray) : List ByteArray := Lib.splitB ⟨#[58]⟩ 1 (Lib.countB s ⟨#[58]⟩) s
theorem colonParts_length (s : ByteArray) : (colonParts s).length = Lib.countB s ⟨#[58]⟩ + 1 := Lib.splitB_all ⟨#[58]⟩ (by decide) 1 _ s rfl
theorem colonParts_le (s : ByteArray) : (colonParts s).length ≤ s.size + 1 := by
  have := Lib.countB_le ⟨#[58]⟩ (by decide) _ s (Nat.le_refl _)
  rw [colonParts_length]
  omega

theorem genSplit_calls (s : ByteArray) (hs : s.size < 4294967281) (w : World) :
    Calls Tryz.prog 277 #[.string s, .string ⟨#[58]⟩, .int .i64 1, .int .i64 (-1)] w fun e w' =>
      e = .returned (.slice (some ⟨w.heap.size, 0, none⟩) (colonParts s).length (colonParts s).length) ∧ w' = w.alloc (.cells (encs Value.string (colonParts s)).toArray 9) := by
  have hle := Lib.countB_le ⟨#[58]⟩ (by decide) _ s (Nat.le_refl _)
  have h := Any.strings_genSplit_core Tryz.lays221 (by kernel_rfl) s ⟨#[58]⟩ 1 (-1) (Lib.countB s ⟨#[58]⟩ + 1) w hs (by decide) (by decide)
    (fun x c _ => (Any.strings_Index_one { Tryz.lays221 with } x 58 _).mono fun e w' ⟨he, hw⟩ => ⟨by rw [he]; exact ret_i (Lib.index_one x.data.toList 58).symm, hw⟩)
    ((Any.strings_Count_one { Tryz.lays221 with } s 58 w).mono fun e w' ⟨he, hw⟩ => ⟨by
      rw [he]
      show _ = Ending.returned (Value.int .i64 ((Lib.count s.data.toList [58] : Nat) : Int))
      rw [Lib.count_one]; rfl, hw⟩)
    (by decide) (by decide) (by rw [if_pos (by decide)]; omega)
  have hl := colonParts_length s
  refine h.mono fun e w' ⟨he, hw⟩ => ⟨?_, ?_⟩
  · rw [he, hl]
    show Ending.returned (.slice _ (colonParts s).length _) = _
    rw [hl]
  · rw [hw]
    show w.alloc (.cells (Lib.cellsOf (colonParts s) _) _) = _
    have : Lib.cellsOf (colonParts s) (Lib.countB s ⟨#[58]⟩ + 1) = (encs Value.string (colonParts s)).toArray := by
      unfold Lib.cellsOf encs
      rw [hl, Nat.sub_self]
      simp
    rw [this]
    rfl
set_option maxRecDepth 100000 in
theorem splitAfter_calls (s : ByteArray) (hs : s.size < 4294967281) (w : World) :
    Calls Tryz.prog 249 #[.string s, .string ⟨#[58]⟩] w fun e w' =>
      e = .returned (.slice (some ⟨w.heap.size, 0, none⟩) (colonParts s).length (colonParts s).length) ∧ w' = w.alloc (.cells (encs Value.string (colonParts s)).toArray 9) := by
  have HG := Lib.hid (genSplit_calls s hs w)
  generalize colonParts s = l at *
  go_enter Tryz.func249, Tryz.ntmps249
  go_wp2_with (go_at_call 277; refine HG.out.mono ?_; rintro e w1 ⟨rfl, rfl⟩)
  go_ret
  exact ⟨rfl, rfl⟩

def isBinary (s : ByteArray) : Bool := (decide (s.size = 1) || decide (s.size = 2)) && decide (Lib.trimS s.data.toList [43, 45, 42, 47, 60, 62, 61, 126, 38, 44, 64, 37] = [])
set_option maxRecDepth 100000 in
theorem binary_calls (s : ByteArray) (w : World) : Calls Tryz.prog 214 #[.string s] w fun e w' => e = .returned (.bool (isBinary s)) ∧ Below w.heap.size w w' := by
  have key : ∀ h : s.size ≤ 9223372036854775807, Hid (Calls Tryz.prog 248 #[.string s, .string ⟨#[43, 45, 42, 47, 60, 62, 61, 126, 38, 44, 64, 37]⟩] w fun e w' => e = .returned (.string ⟨(Lib.trimS s.data.toList [43, 45, 42, 47, 60, 62, 61, 126, 38, 44, 64, 37]).toArray⟩) ∧ Below w.heap.size w w') :=
    fun h => Any.strings_Trim_laid Tryz.lays160 (by kernel_rfl) s ⟨#[43, 45, 42, 47, 60, 62, 61, 126, 38, 44, 64, 37]⟩ w h (by decide) (ascii_of_all (by decide))
  unfold isBinary
  generalize Lib.trimS s.data.toList [43, 45, 42, 47, 60, 62, 61, 126, 38, 44, 64, 37] = x at *
  have hx : x.isEmpty = decide (x = []) := by cases x <;> simp
  have HX := Lib.hid hx
  clear hx
  by_cases h1 : s.size = 1
  · have HT := key (by omega)
    clear key
    have h1b : ((s.size : Int) == 1) = true := by rw [h1]; rfl
    have H1 := Lib.hid h1
    clear h1
    go_enter Tryz.func214, Tryz.ntmps214
    go_wp2_with (go_at_call 248; refine HT.out.mono ?_; rintro e w1 ⟨rfl, hb⟩)
    go_ret
    exact ⟨ret_b (by rw [HX.out, H1.out]; rfl), hb⟩
  · have h1b : ((s.size : Int) == 1) = false := beq_eq_false_iff_ne.2 (by omega)
    have H1 := Lib.hid h1
    clear h1
    by_cases h2 : s.size = 2
    · have HT := key (by omega)
      clear key
      have h2b : ((s.size : Int) == 2) = true := by rw [h2]; rfl
      have H2 := Lib.hid h2
      clear h2
      go_enter Tryz.func214, Tryz.ntmps214
      go_wp2_with (go_at_call 248; refine HT.out.mono ?_; rintro e w1 ⟨rfl, hb⟩)
      go_ret
      exact ⟨ret_b (by rw [HX.out, H2.out]; rfl), hb⟩
    · have h2b : ((s.size : Int) == 2) = false := beq_eq_false_iff_ne.2 (by omega)
      have H2 := Lib.hid h2
      clear h2 key
      go_enter Tryz.func214, Tryz.ntmps214
      go_wp2
      go_ret
      exact ⟨ret_b (by simp [H1.out, H2.out]), Below.refl _ _⟩

/-- What keywords makes of the pieces behind each colon. -/
def kwOf (l : List ByteArray) : List ByteArray :=
  if l.length < 2 then [] else if l.length > 11 then [] else if (rdOf ByteArray.empty l ((l.length : Int) - 1)).toList = [] then
    (if (l.take (l.length - 1)).any (fun p => !isLower ⟨(Lib.trimSuffix p.data.toList [58]).toArray⟩) = true then [] else l.take (l.length - 1)) else []
/-- The names of a keyword selector; none: it is no such one. -/
def kwNames (s : ByteArray) : List ByteArray := kwOf (colonParts s)
theorem encs_R (w : World) (base : Nat) (l : List ByteArray) (hb : base ≤ w.heap.size) (hm : l.length ≤ 9223372036854775807) :
    Kd.R Kd.string 9 (w.alloc (.cells (encs Value.string l).toArray 9)) base (fun _ => True) (.slice (some ⟨w.heap.size, 0, none⟩) l.length l.length) l := by
  have h := World.ownsRow_lit (base := base) (e := 9) (size := 1) w (encs Value.string l).toArray l.length hb (by simpa [maxLen] using hm) (by simp [encs])
  exact Kd.R_of_own (by simpa using h) (fun _ _ => trivial)
theorem splitB_size (sep : ByteArray) (sv : Nat) : ∀ (k : Nat) (s : ByteArray), ∀ p ∈ Lib.splitB sep sv k s, p.size ≤ s.size
  | 0, s, p, hp => by
    rw [Lib.splitB_zero] at hp
    obtain rfl := List.mem_singleton.1 hp
    exact Nat.le_refl _
  | k + 1, s, p, hp => by
    unfold Lib.splitB at hp
    split at hp
    · obtain rfl := List.mem_singleton.1 hp
      exact Nat.le_refl _
    · rcases List.mem_cons.1 hp with rfl | hp
      · simp [ByteArray.size_extract]
        omega
      · have := splitB_size sep sv k _ p hp
        simp [ByteArray.size_extract] at this
        omega
theorem colonParts_size (s : ByteArray) : ∀ p ∈ colonParts s, p.size ≤ s.size := splitB_size _ _ _ s
theorem nil_R (w : World) (base : Nat) : Kd.R Kd.string 9 w base (fun _ => True) (.slice none 0 0) [] := Kd.R_nil _ _ _ _ _
/-- strings.SplitAfter at a colon, the row without its place. -/
theorem splitAfter_R (s : ByteArray) (hs : s.size < 4294967281) (w : World) :
    Calls Tryz.prog 249 #[.string s, .string ⟨#[58]⟩] w fun e w' => ∃ v, e = .returned v ∧ Kd.R Kd.string 9 w' w.heap.size (fun _ => True) v (colonParts s) ∧ Below w.heap.size w w' :=
  (splitAfter_calls s hs w).mono fun _ _ ⟨he, hw⟩ => ⟨_, he, by
    rw [hw]
    exact ⟨encs_R w w.heap.size _ (Nat.le_refl _) (by have := colonParts_le s; omega), (Below.refl _ _).alloc (Nat.le_refl _) _⟩⟩
set_option maxRecDepth 100000 in
theorem keywords_calls (s : ByteArray) (hs : s.size < 4294967281) (w : World) : Calls Tryz.prog 215 #[.string s] w fun e w' => ∃ v : Value, e = .returned v ∧ Kd.R Kd.string 9 w' w.heap.size (fun _ => True) v (kwNames s) ∧ Below w.heap.size w w' := by
  have HS := Lib.hid (splitAfter_R s hs w)
  have hle := colonParts_le s
  have hsz := Lib.hid (colonParts_size s)
  unfold kwNames
  generalize colonParts s = l at *
  go_enter Tryz.func215, Tryz.ntmps215
  go_wp2_with fail
  refine HS.out.mono ?_
  rintro e w1 ⟨v, rfl, hR, hb⟩
  obtain ⟨A, c, rfl, hlc, hC⟩ := Kd.R_reads hR
  have HR := Lib.hid hR
  have HB := Lib.hid hb
  have HC := Lib.hid hC
  clear hR hb hC HS
  by_cases h2 : l.length < 2
  · have HK : Hid (kwOf l = []) := by show kwOf l = []; rw [kwOf, if_pos h2]
    have h2b : decide ((l.length : Int) < 2) = true := decide_eq_true (by omega)
    go_wp2
    go_ret
    exact ⟨_, rfl, by rw [HK.out]; exact nil_R _ _, HB.out⟩
  · by_cases h11 : l.length > 11
    · have HK : Hid (kwOf l = []) := by show kwOf l = []; rw [kwOf, if_neg h2, if_pos h11]
      have h2b : decide ((l.length : Int) < 2) = false := decide_eq_false (by omega)
      have h11b : decide (11 < (l.length : Int)) = true := decide_eq_true (by omega)
      go_wp2
      go_ret
      exact ⟨_, rfl, by rw [HK.out]; exact nil_R _ _, HB.out⟩
    · obtain ⟨ad, hA, hc⟩ := Kd.at_string HC.out ((l.length : Int) - 1) (by omega) (by omega)
      subst hA
      have hk : kwOf l = if (rdOf ByteArray.empty l ((l.length : Int) - 1)).toList = [] then
    (if (l.take (l.length - 1)).any (fun p => !isLower ⟨(Lib.trimSuffix p.data.toList [58]).toArray⟩) = true then [] else l.take (l.length - 1)) else [] := by rw [kwOf, if_neg h2, if_neg h11]
      obtain ⟨x, hx⟩ : ∃ x, rdOf ByteArray.empty l ((l.length : Int) - 1) = x := ⟨_, rfl⟩
      rw [hx] at hc hk
      clear hx
      rw [show ((l.length : Int) - 1).toNat = l.length - 1 by omega] at hc
      have h2b : decide ((l.length : Int) < 2) = false := decide_eq_false (by omega)
      have h11b : decide (11 < (l.length : Int)) = false := decide_eq_false (by omega)
      by_cases he : x.toList = []
      · rw [if_pos he] at hk
        have HK := Lib.hid hk
        clear hk
        have he1 : x.toList.isEmpty = true := by rw [he]; rfl
        have he2 : (!x.toList.isEmpty) = false := by rw [he]; rfl
        clear he
        have hlt : (l.take (l.length - 1)).length = l.length - 1 := List.length_take_of_le (by omega)
        have hT := containsFunc_calls 251 (enters_of Tryz.func251 (by kernel_rfl) rfl) (fun p => !isLower ⟨(Lib.trimSuffix p.data.toList [58]).toArray⟩) (some ad) c (l.take (l.length - 1)) w1
          (Kd.R_reads' (Kd.R_take HR.out (m := l.length - 1) (by omega)) |>.2.2) (by omega) (fun W x hx _ => clos_calls x (by have := hsz.out x (List.mem_of_mem_take hx); omega) W)
        rw [hlt] at hT
        have HT := Lib.hid hT
        have HR2 := Lib.hid (Kd.R_take HR.out (m := l.length - 1) (by omega))
        clear hT hlt
        cases hany : (l.take (l.length - 1)).any (fun p => !isLower ⟨(Lib.trimSuffix p.data.toList [58]).toArray⟩) with
        | true =>
          rw [hany] at HT HK
          clear hany
          go_wp2_with (go_at_call 250; refine HT.out.mono ?_; rintro e w2 ⟨rfl, hb2⟩)
          go_ret
          exact ⟨_, rfl, by rw [HK.out]; exact nil_R _ _, below_then HB.out HB.out.size hb2⟩
        | false =>
          rw [hany] at HT HK
          clear hany
          go_wp2_with (go_at_call 250; refine HT.out.mono ?_; rintro e w2 ⟨rfl, hb2⟩)
          go_ret
          exact ⟨_, rfl, by rw [HK.out]; exact Kd.R_below HR2.out hb2, below_then HB.out HB.out.size hb2⟩
      · rw [if_neg he] at hk
        have HK := Lib.hid hk
        clear hk
        have he1 : x.toList.isEmpty = false := by cases h : x.toList with | nil => exact absurd h he | cons _ _ => rfl
        have he2 : (!x.toList.isEmpty) = true := by rw [he1]; rfl
        clear he
        go_wp2_with fail
        go_ret
        exact ⟨_, rfl, by rw [HK.out]; exact nil_R _ _, HB.out⟩

end Go.Proofs.YtodpdlpncgkkdaaGreatDoor
end
section
namespace Go.Proofs.YtodpdlpncgkkdaaGreatDoor.P
open Go.RowKit Go.Proofs.YtodpdlpncgkkdaaGreatDoorW.PrintWords Go.Proofs.YtodpdlpncgkkdaaGreatDoorW.PrintLast Go.Proofs.YtodpdlpncgkkdaaGreatDoorW.PrintMore
attribute [local go_sem] max2_int min2_int max_two min_two max_three min_three max_four min_four   -- for this text's walks alone
set_option linter.unusedVariables false
set_option linter.unusedSimpArgs false

/-! ### name_binary: function 214 -/
def name_binary.f (a0 : ByteArray) : Option (Bool) := some (isBinary a0)
theorem name_binary.calls (a0 : ByteArray) (r : Bool) (w : World) (h : name_binary.f a0 = some r) :
    Calls Tryz.prog 214 #[.string a0] w fun e w' => e = .returned (.bool r) ∧ Below w.heap.size w w' := by
  obtain rfl := Option.some.inj h
  exact binary_calls a0 w

end Go.Proofs.YtodpdlpncgkkdaaGreatDoor.P
end
section
namespace Go.Proofs.YtodpdlpncgkkdaaGreatDoor.P
open Go.RowKit Go.Proofs.YtodpdlpncgkkdaaGreatDoorW.PrintWords Go.Proofs.YtodpdlpncgkkdaaGreatDoorW.PrintLast Go.Proofs.YtodpdlpncgkkdaaGreatDoorW.PrintMore
attribute [local go_sem] max2_int min2_int max_two min_two max_three min_three max_four min_four   -- for this text's walks alone
set_option linter.unusedVariables false
set_option linter.unusedSimpArgs false

/-! ### name_keywords: function 215 -/
def name_keywords.f (a0 : ByteArray) : Option (List ByteArray) := if a0.size < 4294967281 then some (kwNames a0) else none
theorem name_keywords.calls (a0 : ByteArray) (r : List ByteArray) (w : World) (h : name_keywords.f a0 = some r) :
    Calls Tryz.prog 215 #[.string a0] w fun e w' => ∃ v0_ : Value, e = .returned (v0_) ∧ Kd.R Kd.string 9 w' w.heap.size (fun _ => True) v0_ r ∧ Below w.heap.size w w' := by
  unfold name_keywords.f at h
  split at h
  · obtain rfl := Option.some.inj h
    exact keywords_calls a0 (by assumption) w
  · cases h

end Go.Proofs.YtodpdlpncgkkdaaGreatDoor.P
end
section
namespace Go.Proofs.YtodpdlpncgkkdaaGreatDoor.P
open Go.RowKit Go.Proofs.YtodpdlpncgkkdaaGreatDoorW.PrintWords Go.Proofs.YtodpdlpncgkkdaaGreatDoorW.PrintLast Go.Proofs.YtodpdlpncgkkdaaGreatDoorW.PrintMore
attribute [local go_sem] max2_int min2_int max_two min_two max_three min_three max_four min_four   -- for this text's walks alone
set_option linter.unusedVariables false
set_option linter.unusedSimpArgs false

/-! ### name_Kind: function 165 -/
def name_Kind.f (a0 : ByteArray) : Option (Int) := (name_lower.f a0).bind fun t108 => (if t108 = true then (some 1) else ((name_binary.f a0).bind fun t109 => (if t109 = true then (some 2) else ((name_keywords.f a0).bind fun t110 => (if (t110.length : Int) > 0 then (some 3) else (some 0))))))
set_option maxHeartbeats 8000000 in
set_option maxRecDepth 100000 in
theorem name_Kind.calls (a0 : ByteArray) (r : Int) (w : World) (h : name_Kind.f a0 = some r) :
    Calls Tryz.prog 165 #[.string a0] w fun e w' => e = .returned (.int .i64 r) ∧ Below w.heap.size w w' := by
  have HB := Aside0.mk (Below.refl w.heap.size w)
  have H : ((name_lower.f a0).bind fun t108 => (if t108 = true then (some 1) else ((name_binary.f a0).bind fun t109 => (if t109 = true then (some 2) else ((name_keywords.f a0).bind fun t110 => (if (t110.length : Int) > 0 then (some 3) else (some 0))))))) = some r := h
  clear h
  replace H := Option.bind_eq_some_iff.mp H
  obtain ⟨t108, A20, H⟩ := H
  replace H : (if t108 = true then (some 1) else ((name_binary.f a0).bind fun t109 => (if t109 = true then (some 2) else ((name_keywords.f a0).bind fun t110 => (if (t110.length : Int) > 0 then (some 3) else (some 0)))))) = some r := H
  have A2 := Aside0.mk A20
  clear A20
  by_cases c3 : t108 = true
  · subst c3
    have H1 : (some 1) = some r := by rw [if_pos rfl] at H; exact H
    clear H
    have H := H1
    clear H1
    obtain rfl := Option.some.inj H
    go_enter Tryz.func165, Tryz.ntmps165
    go_wp2_with (first | ((with_reducible refine gate_callee (f := 213) rfl ?_); refine goesL_ (some 5) rfl rfl Tryz.func213 (by kernel_rfl) rfl #[.string a0] rfl (by (try simp only [List.map_toArray, List.map_cons, List.map_nil]); first | done | rfl | (simp only [List.length_drop, List.length_take]; rfl)) ?_; (with_reducible refine (name_lower.calls a0 true _ A2.out).mono ?_); rintro e w4 ⟨rfl, hb⟩; refine ⟨_, rfl, ?_⟩; have n0_ := Aside0.mk (below_step (by repeat (first | (with_reducible first | exact HB.out | apply below_alloc | apply pw_below_drewN | apply below_drew1) | exact HB.out)) hb); clear HB; have HB := n0_; clear n0_; (try clear hb); (try clear hb2); (try clear hk); (try clear hi)))
    go_ret
    exact ⟨by first | rfl | (simp [errW_none, errW_some] <;> rfl) | (simp [*, errW_none, errW_some] <;> rfl), by repeat (first | (with_reducible first | exact HB.out | apply below_alloc | apply pw_below_drewN | apply below_drew1) | exact HB.out)⟩
  · replace c3 := Bool.eq_false_iff.mpr c3
    subst c3
    have H1 : ((name_binary.f a0).bind fun t109 => (if t109 = true then (some 2) else ((name_keywords.f a0).bind fun t110 => (if (t110.length : Int) > 0 then (some 3) else (some 0))))) = some r := by rw [if_neg (show ¬ (false = true) by decide)] at H; exact H
    clear H
    have H := H1
    clear H1
    replace H := Option.bind_eq_some_iff.mp H
    obtain ⟨t109, A50, H⟩ := H
    replace H : (if t109 = true then (some 2) else ((name_keywords.f a0).bind fun t110 => (if (t110.length : Int) > 0 then (some 3) else (some 0)))) = some r := H
    have A5 := Aside0.mk A50
    clear A50
    by_cases c6 : t109 = true
    · subst c6
      have H1 : (some 2) = some r := by rw [if_pos rfl] at H; exact H
      clear H
      have H := H1
      clear H1
      obtain rfl := Option.some.inj H
      go_enter Tryz.func165, Tryz.ntmps165
      go_wp2_with (first | ((with_reducible refine gate_callee (f := 213) rfl ?_); refine goesL_ (some 5) rfl rfl Tryz.func213 (by kernel_rfl) rfl #[.string a0] rfl (by (try simp only [List.map_toArray, List.map_cons, List.map_nil]); first | done | rfl | (simp only [List.length_drop, List.length_take]; rfl)) ?_; (with_reducible refine (name_lower.calls a0 false _ A2.out).mono ?_); rintro e w7 ⟨rfl, hb⟩; refine ⟨_, rfl, ?_⟩; have n0_ := Aside0.mk (below_step (by repeat (first | (with_reducible first | exact HB.out | apply below_alloc | apply pw_below_drewN | apply below_drew1) | exact HB.out)) hb); clear HB; have HB := n0_; clear n0_; (try clear hb); (try clear hb2); (try clear hk); (try clear hi)) | ((with_reducible refine gate_callee (f := 214) rfl ?_); refine goesL_ (some 8) rfl rfl Tryz.func214 (by kernel_rfl) rfl #[.string a0] rfl (by (try simp only [List.map_toArray, List.map_cons, List.map_nil]); first | done | rfl | (simp only [List.length_drop, List.length_take]; rfl)) ?_; (with_reducible refine (name_binary.calls a0 true _ A5.out).mono ?_); rintro e w8 ⟨rfl, hb⟩; refine ⟨_, rfl, ?_⟩; have n0_ := Aside0.mk (below_step (by repeat (first | (with_reducible first | exact HB.out | apply below_alloc | apply pw_below_drewN | apply below_drew1) | exact HB.out)) hb); clear HB; have HB := n0_; clear n0_; (try clear hb); (try clear hb2); (try clear hk); (try clear hi)))
      go_ret
      exact ⟨by first | rfl | (simp [errW_none, errW_some] <;> rfl) | (simp [*, errW_none, errW_some] <;> rfl), by repeat (first | (with_reducible first | exact HB.out | apply below_alloc | apply pw_below_drewN | apply below_drew1) | exact HB.out)⟩
    · replace c6 := Bool.eq_false_iff.mpr c6
      subst c6
      have H1 : ((name_keywords.f a0).bind fun t110 => (if (t110.length : Int) > 0 then (some 3) else (some 0))) = some r := by rw [if_neg (show ¬ (false = true) by decide)] at H; exact H
      clear H
      have H := H1
      clear H1
      replace H := Option.bind_eq_some_iff.mp H
      obtain ⟨t110, A90, H⟩ := H
      replace H : (if (t110.length : Int) > 0 then (some 3) else (some 0)) = some r := H
      have A9 := Aside0.mk A90
      clear A90
      by_cases c10 : (t110.length : Int) > 0
      · rw [if_pos c10] at H
        have c10b0 : decide (0 < (t110.length : Int)) = true := decide_eq_true c10
        have c10b1 : decide (0 < t110.length) = true := decide_eq_true (by omega)
        clear c10
        obtain rfl := Option.some.inj H
        go_enter Tryz.func165, Tryz.ntmps165
        go_wp2_with (first | ((with_reducible refine gate_callee (f := 213) rfl ?_); refine goesL_ (some 5) rfl rfl Tryz.func213 (by kernel_rfl) rfl #[.string a0] rfl (by (try simp only [List.map_toArray, List.map_cons, List.map_nil]); first | done | rfl | (simp only [List.length_drop, List.length_take]; rfl)) ?_; (with_reducible refine (name_lower.calls a0 false _ A2.out).mono ?_); rintro e w11 ⟨rfl, hb⟩; refine ⟨_, rfl, ?_⟩; have n0_ := Aside0.mk (below_step (by repeat (first | (with_reducible first | exact HB.out | apply below_alloc | apply pw_below_drewN | apply below_drew1) | exact HB.out)) hb); clear HB; have HB := n0_; clear n0_; (try clear hb); (try clear hb2); (try clear hk); (try clear hi)) | ((with_reducible refine gate_callee (f := 214) rfl ?_); refine goesL_ (some 8) rfl rfl Tryz.func214 (by kernel_rfl) rfl #[.string a0] rfl (by (try simp only [List.map_toArray, List.map_cons, List.map_nil]); first | done | rfl | (simp only [List.length_drop, List.length_take]; rfl)) ?_; (with_reducible refine (name_binary.calls a0 false _ A5.out).mono ?_); rintro e w12 ⟨rfl, hb⟩; refine ⟨_, rfl, ?_⟩; have n0_ := Aside0.mk (below_step (by repeat (first | (with_reducible first | exact HB.out | apply below_alloc | apply pw_below_drewN | apply below_drew1) | exact HB.out)) hb); clear HB; have HB := n0_; clear n0_; (try clear hb); (try clear hb2); (try clear hk); (try clear hi)) | ((with_reducible refine gate_callee (f := 215) rfl ?_); refine goesL_ (some 11) rfl rfl Tryz.func215 (by kernel_rfl) rfl #[.string a0] rfl (by (try simp only [List.map_toArray, List.map_cons, List.map_nil]); first | done | rfl | (simp only [List.length_drop, List.length_take]; rfl)) ?_; (with_reducible refine (name_keywords.calls a0 t110 _ A9.out).mono ?_); rintro e w13 ⟨v111, rfl, ho0, hb⟩; refine ⟨_, rfl, ?_⟩; have n0_ := Aside0.mk (Kd.R_lower ho0 (below_size (by repeat (first | (with_reducible first | exact HB.out | apply below_alloc | apply pw_below_drewN | apply below_drew1) | exact HB.out)))); have n1_ := Aside0.mk (below_step (by repeat (first | (with_reducible first | exact HB.out | apply below_alloc | apply pw_below_drewN | apply below_drew1) | exact HB.out)) hb); clear HB; have HO112 := n0_; have HB := n1_; clear n0_ n1_; (try clear hb); (try clear hb2); (try clear hk); (try clear hi); (try clear ho0); obtain ⟨Ao14, co14, eo14⟩ := Kd.R_slice HO112.out; subst eo14))
        go_ret
        exact ⟨by first | rfl | (simp [errW_none, errW_some] <;> rfl) | (simp [*, errW_none, errW_some] <;> rfl), by repeat (first | (with_reducible first | exact HB.out | apply below_alloc | apply pw_below_drewN | apply below_drew1) | exact HB.out)⟩
      · rw [if_neg c10] at H
        have c10b0 : decide (0 < (t110.length : Int)) = false := decide_eq_false c10
        have c10b1 : decide (0 < t110.length) = false := decide_eq_false (by omega)
        clear c10
        obtain rfl := Option.some.inj H
        go_enter Tryz.func165, Tryz.ntmps165
        go_wp2_with (first | ((with_reducible refine gate_callee (f := 213) rfl ?_); refine goesL_ (some 5) rfl rfl Tryz.func213 (by kernel_rfl) rfl #[.string a0] rfl (by (try simp only [List.map_toArray, List.map_cons, List.map_nil]); first | done | rfl | (simp only [List.length_drop, List.length_take]; rfl)) ?_; (with_reducible refine (name_lower.calls a0 false _ A2.out).mono ?_); rintro e w15 ⟨rfl, hb⟩; refine ⟨_, rfl, ?_⟩; have n0_ := Aside0.mk (below_step (by repeat (first | (with_reducible first | exact HB.out | apply below_alloc | apply pw_below_drewN | apply below_drew1) | exact HB.out)) hb); clear HB; have HB := n0_; clear n0_; (try clear hb); (try clear hb2); (try clear hk); (try clear hi)) | ((with_reducible refine gate_callee (f := 214) rfl ?_); refine goesL_ (some 8) rfl rfl Tryz.func214 (by kernel_rfl) rfl #[.string a0] rfl (by (try simp only [List.map_toArray, List.map_cons, List.map_nil]); first | done | rfl | (simp only [List.length_drop, List.length_take]; rfl)) ?_; (with_reducible refine (name_binary.calls a0 false _ A5.out).mono ?_); rintro e w16 ⟨rfl, hb⟩; refine ⟨_, rfl, ?_⟩; have n0_ := Aside0.mk (below_step (by repeat (first | (with_reducible first | exact HB.out | apply below_alloc | apply pw_below_drewN | apply below_drew1) | exact HB.out)) hb); clear HB; have HB := n0_; clear n0_; (try clear hb); (try clear hb2); (try clear hk); (try clear hi)) | ((with_reducible refine gate_callee (f := 215) rfl ?_); refine goesL_ (some 11) rfl rfl Tryz.func215 (by kernel_rfl) rfl #[.string a0] rfl (by (try simp only [List.map_toArray, List.map_cons, List.map_nil]); first | done | rfl | (simp only [List.length_drop, List.length_take]; rfl)) ?_; (with_reducible refine (name_keywords.calls a0 t110 _ A9.out).mono ?_); rintro e w17 ⟨v111, rfl, ho0, hb⟩; refine ⟨_, rfl, ?_⟩; have n0_ := Aside0.mk (Kd.R_lower ho0 (below_size (by repeat (first | (with_reducible first | exact HB.out | apply below_alloc | apply pw_below_drewN | apply below_drew1) | exact HB.out)))); have n1_ := Aside0.mk (below_step (by repeat (first | (with_reducible first | exact HB.out | apply below_alloc | apply pw_below_drewN | apply below_drew1) | exact HB.out)) hb); clear HB; have HO112 := n0_; have HB := n1_; clear n0_ n1_; (try clear hb); (try clear hb2); (try clear hk); (try clear hi); (try clear ho0); obtain ⟨Ao18, co18, eo18⟩ := Kd.R_slice HO112.out; subst eo18))
        go_ret
        exact ⟨by first | rfl | (simp [errW_none, errW_some] <;> rfl) | (simp [*, errW_none, errW_some] <;> rfl), by repeat (first | (with_reducible first | exact HB.out | apply below_alloc | apply pw_below_drewN | apply below_drew1) | exact HB.out)⟩

end Go.Proofs.YtodpdlpncgkkdaaGreatDoor.P
end
section
namespace Go.Proofs.YtodpdlpncgkkdaaGreatDoor.P
open Go.RowKit Go.Proofs.YtodpdlpncgkkdaaGreatDoorW.PrintWords Go.Proofs.YtodpdlpncgkkdaaGreatDoorW.PrintLast Go.Proofs.YtodpdlpncgkkdaaGreatDoorW.PrintMore
attribute [local go_sem] max2_int min2_int max_two min_two max_three min_three max_four min_four   -- for this text's walks alone
set_option linter.unusedVariables false
set_option linter.unusedSimpArgs false

/-! ### name_always: function 217 -/
def name_always.f  : Option (List ByteArray) := some (([(⟨#[79, 98, 106, 101, 99, 116]⟩ : ByteArray), (⟨#[78, 105, 108]⟩ : ByteArray), (⟨#[66, 111, 111, 108, 101, 97, 110]⟩ : ByteArray), (⟨#[73, 110, 116, 101, 103, 101, 114]⟩ : ByteArray), (⟨#[83, 116, 114, 105, 110, 103]⟩ : ByteArray), (⟨#[83, 121, 109, 98, 111, 108]⟩ : ByteArray), (⟨#[65, 114, 114, 97, 121]⟩ : ByteArray), (⟨#[66, 108, 111, 99, 107]⟩ : ByteArray), (⟨#[67, 108, 97, 115, 115]⟩ : ByteArray), (⟨#[83, 121, 115, 116, 101, 109]⟩ : ByteArray)] : List ByteArray))
set_option maxHeartbeats 8000000 in
set_option maxRecDepth 100000 in
theorem name_always.calls  (r : List ByteArray) (w : World) (h : name_always.f  = some r) :
    Calls Tryz.prog 217 #[] w fun e w' => ∃ v0_ : Value, e = .returned (v0_) ∧ Kd.R Kd.string 9 w' w.heap.size (fun _ => True) v0_ r ∧ Below w.heap.size w w' := by
  have HB := Aside0.mk (Below.refl w.heap.size w)
  have H : (some (([(⟨#[79, 98, 106, 101, 99, 116]⟩ : ByteArray), (⟨#[78, 105, 108]⟩ : ByteArray), (⟨#[66, 111, 111, 108, 101, 97, 110]⟩ : ByteArray), (⟨#[73, 110, 116, 101, 103, 101, 114]⟩ : ByteArray), (⟨#[83, 116, 114, 105, 110, 103]⟩ : ByteArray), (⟨#[83, 121, 109, 98, 111, 108]⟩ : ByteArray), (⟨#[65, 114, 114, 97, 121]⟩ : ByteArray), (⟨#[66, 108, 111, 99, 107]⟩ : ByteArray), (⟨#[67, 108, 97, 115, 115]⟩ : ByteArray), (⟨#[83, 121, 115, 116, 101, 109]⟩ : ByteArray)] : List ByteArray))) = some r := h
  clear h
  obtain ⟨y114, hy114⟩ : ∃ y_ : List ByteArray, y_ = (([(⟨#[79, 98, 106, 101, 99, 116]⟩ : ByteArray), (⟨#[78, 105, 108]⟩ : ByteArray), (⟨#[66, 111, 111, 108, 101, 97, 110]⟩ : ByteArray), (⟨#[73, 110, 116, 101, 103, 101, 114]⟩ : ByteArray), (⟨#[83, 116, 114, 105, 110, 103]⟩ : ByteArray), (⟨#[83, 121, 109, 98, 111, 108]⟩ : ByteArray), (⟨#[65, 114, 114, 97, 121]⟩ : ByteArray), (⟨#[66, 108, 111, 99, 107]⟩ : ByteArray), (⟨#[67, 108, 97, 115, 115]⟩ : ByteArray), (⟨#[83, 121, 115, 116, 101, 109]⟩ : ByteArray)] : List ByteArray)) := ⟨_, rfl⟩
  replace H : (some y114) = some r := by first | (rw [hy114]; with_reducible exact H) | (have H2_ := (Option.bind_some _ _).symm.trans H; rw [hy114]; with_reducible exact H2_) | (have H2_ := (Option.bind_some _ _).symm.trans H; with_reducible exact H2_) | with_reducible exact H | (rw [hy114]; exact H) | exact H
  have Ny114 := Aside0.mk hy114
  clear hy114
  obtain rfl := Option.some.inj H
  go_enter Tryz.func217, Tryz.ntmps217
  go_wp2_with (first | ((with_reducible refine gate_dst (N := 1) rfl ?_); refine Kd.R_lit Kd.string _ 9 ?hg (N := 1) ?hd (xs := ([(⟨#[79, 98, 106, 101, 99, 116]⟩ : ByteArray), (⟨#[78, 105, 108]⟩ : ByteArray), (⟨#[66, 111, 111, 108, 101, 97, 110]⟩ : ByteArray), (⟨#[73, 110, 116, 101, 103, 101, 114]⟩ : ByteArray), (⟨#[83, 116, 114, 105, 110, 103]⟩ : ByteArray), (⟨#[83, 121, 109, 98, 111, 108]⟩ : ByteArray), (⟨#[65, 114, 114, 97, 121]⟩ : ByteArray), (⟨#[66, 108, 111, 99, 107]⟩ : ByteArray), (⟨#[67, 108, 97, 115, 115]⟩ : ByteArray), (⟨#[83, 121, 115, 116, 101, 109]⟩ : ByteArray)] : List ByteArray)) (inner := [.string (⟨#[79, 98, 106, 101, 99, 116]⟩ : ByteArray), .string (⟨#[78, 105, 108]⟩ : ByteArray), .string (⟨#[66, 111, 111, 108, 101, 97, 110]⟩ : ByteArray), .string (⟨#[73, 110, 116, 101, 103, 101, 114]⟩ : ByteArray), .string (⟨#[83, 116, 114, 105, 110, 103]⟩ : ByteArray), .string (⟨#[83, 121, 109, 98, 111, 108]⟩ : ByteArray), .string (⟨#[65, 114, 114, 97, 121]⟩ : ByteArray), .string (⟨#[66, 108, 111, 99, 107]⟩ : ByteArray), .string (⟨#[67, 108, 97, 115, 115]⟩ : ByteArray), .string (⟨#[83, 121, 115, 116, 101, 109]⟩ : ByteArray)]) (ok := fun _ => True) (okp := fun _ => True) ?hr ?hp (fun _ hk => hk) trivial (Below.refl _ _) (Nat.le_refl _) (by simp) ?_; (case hd => rfl); (case hg => rfl); (case hr => first | (go_simp; done) | (go_simp; rfl)); (case hp => exact (Reps.one (show Kd.M Kd.string _ _ _ (⟨#[79, 98, 106, 101, 99, 116]⟩ : ByteArray) [.string (⟨#[79, 98, 106, 101, 99, 116]⟩ : ByteArray)] from rfl) (Reps.one (show Kd.M Kd.string _ _ _ (⟨#[78, 105, 108]⟩ : ByteArray) [.string (⟨#[78, 105, 108]⟩ : ByteArray)] from rfl) (Reps.one (show Kd.M Kd.string _ _ _ (⟨#[66, 111, 111, 108, 101, 97, 110]⟩ : ByteArray) [.string (⟨#[66, 111, 111, 108, 101, 97, 110]⟩ : ByteArray)] from rfl) (Reps.one (show Kd.M Kd.string _ _ _ (⟨#[73, 110, 116, 101, 103, 101, 114]⟩ : ByteArray) [.string (⟨#[73, 110, 116, 101, 103, 101, 114]⟩ : ByteArray)] from rfl) (Reps.one (show Kd.M Kd.string _ _ _ (⟨#[83, 116, 114, 105, 110, 103]⟩ : ByteArray) [.string (⟨#[83, 116, 114, 105, 110, 103]⟩ : ByteArray)] from rfl) (Reps.one (show Kd.M Kd.string _ _ _ (⟨#[83, 121, 109, 98, 111, 108]⟩ : ByteArray) [.string (⟨#[83, 121, 109, 98, 111, 108]⟩ : ByteArray)] from rfl) (Reps.one (show Kd.M Kd.string _ _ _ (⟨#[65, 114, 114, 97, 121]⟩ : ByteArray) [.string (⟨#[65, 114, 114, 97, 121]⟩ : ByteArray)] from rfl) (Reps.one (show Kd.M Kd.string _ _ _ (⟨#[66, 108, 111, 99, 107]⟩ : ByteArray) [.string (⟨#[66, 108, 111, 99, 107]⟩ : ByteArray)] from rfl) (Reps.one (show Kd.M Kd.string _ _ _ (⟨#[67, 108, 97, 115, 115]⟩ : ByteArray) [.string (⟨#[67, 108, 97, 115, 115]⟩ : ByteArray)] from rfl) (Reps.one (show Kd.M Kd.string _ _ _ (⟨#[83, 121, 115, 116, 101, 109]⟩ : ByteArray) [.string (⟨#[83, 121, 115, 116, 101, 109]⟩ : ByteArray)] from rfl) (Reps.none _ _)))))))))))); intro v115 w1 ho2 hb hg_ hnew_; clear hg_ hnew_; (first | rw [← Ny114.out] at ho2 | (simp only [Int.reduceToNat] at ho2; rw [← Ny114.out] at ho2)); have n0_ := Aside0.mk (Kd.R_lower ho2 (below_size (by repeat (first | (with_reducible first | exact HB.out | apply below_alloc | apply pw_below_drewN | apply below_drew1) | exact HB.out)))); have n1_ := Aside0.mk (below_step (by repeat (first | (with_reducible first | exact HB.out | apply below_alloc | apply pw_below_drewN | apply below_drew1) | exact HB.out)) hb); clear HB; have HO116 := n0_; have HB := n1_; clear n0_ n1_; clear hb ho2))
  go_ret
  exact ⟨_, by first | rfl | (simp [errW_none, errW_some] <;> rfl) | (simp [*, errW_none, errW_some] <;> rfl), by (with_reducible repeat (first | apply Kd.R_alloc | apply Kd.R_drewN | apply Kd.R_drew)); exact HO116.out, by repeat (first | (with_reducible first | exact HB.out | apply below_alloc | apply pw_below_drewN | apply below_drew1) | exact HB.out)⟩

end Go.Proofs.YtodpdlpncgkkdaaGreatDoor.P
end
section
namespace Go.Proofs.YtodpdlpncgkkdaaGreatDoor.P
open Go.RowKit Go.Proofs.YtodpdlpncgkkdaaGreatDoorW.PrintWords Go.Proofs.YtodpdlpncgkkdaaGreatDoorW.PrintLast Go.Proofs.YtodpdlpncgkkdaaGreatDoorW.PrintMore
attribute [local go_sem] max2_int min2_int max_two min_two max_three min_three max_four min_four   -- for this text's walks alone
set_option linter.unusedVariables false
set_option linter.unusedSimpArgs false

/-! ### name_Always: function 166 -/
def name_Always.f (a0 : ByteArray) : Option (Bool) := (name_always.f).bind fun t117 => ((slices_Contains_string_string.f t117 a0).bind fun t120 => (some t120))
set_option maxHeartbeats 8000000 in
set_option maxRecDepth 100000 in
theorem name_Always.calls (a0 : ByteArray) (r : Bool) (w : World) (h : name_Always.f a0 = some r) :
    Calls Tryz.prog 166 #[.string a0] w fun e w' => e = .returned (.bool r) ∧ Below w.heap.size w w' := by
  have HB := Aside0.mk (Below.refl w.heap.size w)
  have H : ((name_always.f).bind fun t117 => ((slices_Contains_string_string.f t117 a0).bind fun t120 => (some t120))) = some r := h
  clear h
  replace H := Option.bind_eq_some_iff.mp H
  obtain ⟨t117, A20, H⟩ := H
  replace H : ((slices_Contains_string_string.f t117 a0).bind fun t120 => (some t120)) = some r := H
  have A2 := Aside0.mk A20
  clear A20
  replace H := Option.bind_eq_some_iff.mp H
  obtain ⟨t120, A30, H⟩ := H
  replace H : (some t120) = some r := H
  have A3 := Aside0.mk A30
  clear A30
  obtain rfl := Option.some.inj H
  go_enter Tryz.func166, Tryz.ntmps166
  go_wp2_with (first | ((with_reducible refine gate_callee (f := 217) rfl ?_); refine goesL_ (some 3) rfl rfl Tryz.func217 (by kernel_rfl) rfl #[] rfl (by (try simp only [List.map_toArray, List.map_cons, List.map_nil]); first | done | rfl | (simp only [List.length_drop, List.length_take]; rfl)) ?_; (with_reducible refine (name_always.calls  t117 _ A2.out).mono ?_); rintro e w4 ⟨v118, rfl, ho0, hb⟩; refine ⟨_, rfl, ?_⟩; have n0_ := Aside0.mk (Kd.R_lower ho0 (below_size (by repeat (first | (with_reducible first | exact HB.out | apply below_alloc | apply pw_below_drewN | apply below_drew1) | exact HB.out)))); have n1_ := Aside0.mk (below_step (by repeat (first | (with_reducible first | exact HB.out | apply below_alloc | apply pw_below_drewN | apply below_drew1) | exact HB.out)) hb); clear HB; have HO119 := n0_; have HB := n1_; clear n0_ n1_; (try clear hb); (try clear hb2); (try clear hk); (try clear hi); (try clear ho0); obtain ⟨Ao5, co5, eo5⟩ := Kd.R_slice HO119.out; subst eo5) | ((with_reducible refine gate_callee (f := 216) rfl ?_); refine goesL_ (some 5) rfl rfl Tryz.func216 (by kernel_rfl) rfl #[.slice Ao5 t117.length co5, .string a0] rfl (by (try simp only [List.map_toArray, List.map_cons, List.map_nil]); first | done | rfl | (simp only [List.length_drop, List.length_take]; rfl)) ?_; (with_reducible refine (slices_Contains_string_string.calls _ _ t117 a0 t120 _ ?side1 ?side2 A3.out).mono ?_); (case side1 => repeat (first | exact (Kd.R_reads' HO119.out).2.2 | (with_reducible refine Kd.C_alloc ?_ _) | (with_reducible refine Kd.C_drewN ?_ _) | (with_reducible refine Kd.C_drew ?_))); (case side2 => exact (Kd.R_reads' HO119.out).2.1); rintro e w6 ⟨rfl, hb⟩; refine ⟨_, rfl, ?_⟩; have n0_ := Aside0.mk (Kd.R_below (by (with_reducible repeat (first | apply Kd.R_alloc | apply Kd.R_drewN | apply Kd.R_drew)); exact HO119.out) hb); have n1_ := Aside0.mk (below_step (by repeat (first | (with_reducible first | exact HB.out | apply below_alloc | apply pw_below_drewN | apply below_drew1) | exact HB.out)) hb); clear HO119; clear HB; have HO119 := n0_; have HB := n1_; clear n0_ n1_; (try clear hb); (try clear hb2); (try clear hk); (try clear hi)))
  go_ret
  exact ⟨by first | rfl | (simp [errW_none, errW_some] <;> rfl) | (simp [*, errW_none, errW_some] <;> rfl), by repeat (first | (with_reducible first | exact HB.out | apply below_alloc | apply pw_below_drewN | apply below_drew1) | exact HB.out)⟩

end Go.Proofs.YtodpdlpncgkkdaaGreatDoor.P
end
section
namespace Go.Proofs.YtodpdlpncgkkdaaGreatDoor.P
open Go.RowKit Go.Proofs.YtodpdlpncgkkdaaGreatDoorW.PrintWords Go.Proofs.YtodpdlpncgkkdaaGreatDoorW.PrintLast Go.Proofs.YtodpdlpncgkkdaaGreatDoorW.PrintMore
attribute [local go_sem] max2_int min2_int max_two min_two max_three min_three max_four min_four   -- for this text's walks alone
set_option linter.unusedVariables false
set_option linter.unusedSimpArgs false

/-! ### def_vars: function 199 -/
def def_vars.f (l0 : List ByteArray) : Option (Bool) := some (varsOk l0)
theorem def_vars.calls (A0 : Option Addr) (c0 : Nat) (l0 : List ByteArray) (r : Bool) (w : World) (hr0 : Kd.C Kd.string w A0 l0.length l0) (hc0 : l0.length ≤ c0) (h : def_vars.f l0 = some r) :
    Calls Tryz.prog 199 #[.slice A0 l0.length c0] w fun e w' => e = .returned (.bool r) ∧ Below w.heap.size w w' := by
  obtain rfl := Option.some.inj h
  exact vars_calls A0 c0 l0 w hr0 hc0

end Go.Proofs.YtodpdlpncgkkdaaGreatDoor.P
end
