/- For every input law08.SnapNews answers true: New, Get and All agree with the reference, and the order of definitions does not matter; no condition. (Part 5 of what it rests on.) -/
import Derived.Test.YtodpdlpncgkkdaaGreatDoorSnapNews3
import Derived.Test.YtodpdlpncgkkdaaGreatDoorSnapNews4
import Derived.Test.YtodpdlpncgkkdaaGreatDoorSnapNews1
import Derived.Test.YtodpdlpncgkkdaaGreatDoorSnapNews2
import Derived.Test.YtodpdlpncgkkdaaGreatDoorProg
import Derived.Maps.OwnSet
import Derived.Deep.RegionWith
import Derived.Maps.RangeWalk
import Derived.Maps.Ext
import Derived.Shelf.SlGeneric
import Derived.Shelf.SlIter.Nil
import Derived.Shelf.SortM.Plain
import Derived.Shelf.SortM.SortNone
import Derived.Ground.GgzProg
import Derived.Ground.SlgmProg
import Derived.Laws.Strings
import Derived.Laws.Small
import Derived.WalkKit
import Derived.RangeFuncNested
import Derived.RangeFuncBound
import Derived.RangeFuncCalls
import Derived.RangeFuncLeaves
import Derived.Shelf.RegionOpen
import Derived.OwnWalkIn
import Derived.TacticsInMore
import Derived.LoopNIn
import Derived.LoopIn
set_option linter.unusedVariables false
set_option linter.unusedSimpArgs false
section
namespace Go.Proofs.YtodpdlpncgkkdaaGreatDoor
open Go.RowKit Go.Proofs.YtodpdlpncgkkdaaGreatDoorW.PrintWords Go.Shelf

/-- The pieces that end with a colon, and what is left. -/
def segs : List UInt8 → List UInt8 → List (List UInt8) × List UInt8
  | cur, [] => ([], cur)
  | cur, c :: r => if c = 58 then ((cur ++ [c]) :: (segs [] r).1, (segs [] r).2) else segs (cur ++ [c]) r
theorem segs_cons (cur : List UInt8) (c : UInt8) (r : List UInt8) : segs cur (c :: r) = if c = 58 then ((cur ++ [c]) :: (segs [] r).1, (segs [] r).2) else segs (cur ++ [c]) r := rfl
theorem indexByte_none : ∀ l : List UInt8, Lib.indexByte l 58 = -1 → (58 : UInt8) ∉ l
  | [], _ => by simp
  | b :: l, h => by
    unfold Lib.indexByte at h
    by_cases hb : (b == 58) = true
    · rw [if_pos hb] at h; omega
    · rw [if_neg hb] at h
      by_cases h2 : (Lib.indexByte l 58 == -1) = true
      · have := indexByte_none l (beq_iff_eq.1 h2)
        have hb' : ¬ b = 58 := fun e => hb (beq_iff_eq.2 e)
        simp only [List.mem_cons, not_or]
        exact ⟨fun e => hb' e.symm, this⟩
      · rw [if_neg h2] at h
        have := Lib.indexByte_ge l 58
        have : Lib.indexByte l 58 ≠ -1 := fun e => h2 (beq_iff_eq.2 e)
        omega
theorem indexByte_some : ∀ (l : List UInt8) (i : Nat), Lib.indexByte l 58 = i → l = l.take i ++ 58 :: l.drop (i + 1) ∧ (58 : UInt8) ∉ l.take i
  | [], i, h => by unfold Lib.indexByte at h; omega
  | b :: l, i, h => by
    unfold Lib.indexByte at h
    by_cases hb : (b == 58) = true
    · rw [if_pos hb] at h
      have hi : i = 0 := by omega
      subst hi
      have := beq_iff_eq.1 hb
      subst this
      simp
    · rw [if_neg hb] at h
      by_cases h2 : (Lib.indexByte l 58 == -1) = true
      · rw [if_pos h2] at h; omega
      · rw [if_neg h2] at h
        have h3 := Lib.indexByte_ge l 58
        have h4 : Lib.indexByte l 58 ≠ -1 := fun e => h2 (beq_iff_eq.2 e)
        obtain ⟨j, hj⟩ : ∃ j : Nat, Lib.indexByte l 58 = j := ⟨(Lib.indexByte l 58).toNat, by omega⟩
        obtain ⟨h5, h6⟩ := indexByte_some l j hj
        have hi : i = j + 1 := by omega
        subst hi
        have hb' : ¬ b = 58 := fun e => hb (beq_iff_eq.2 e)
        refine ⟨?_, ?_⟩
        · simp only [List.take_succ_cons, List.drop_succ_cons, List.cons_append]
          congr 1
        · simp only [List.take_succ_cons, List.mem_cons, not_or]
          exact ⟨fun e => hb' e.symm, h6⟩
theorem segs_none : ∀ (l cur : List UInt8), (58 : UInt8) ∉ l → segs cur l = ([], cur ++ l)
  | [], cur, _ => by simp [segs]
  | b :: l, cur, h => by
    simp only [List.mem_cons, not_or] at h
    unfold segs
    rw [if_neg (fun e => h.1 e.symm), segs_none l _ h.2]
    simp
theorem segs_hit : ∀ (a cur r : List UInt8), (58 : UInt8) ∉ a → segs cur (a ++ 58 :: r) = ((cur ++ a ++ [58]) :: (segs [] r).1, (segs [] r).2)
  | [], cur, r, _ => by simp [segs]
  | b :: a, cur, r, h => by
    simp only [List.mem_cons, not_or] at h
    rw [List.cons_append, segs_cons, if_neg (fun e => h.1 e.symm), segs_hit a _ r h.2]
    simp
theorem split_segs : ∀ (n : Nat) (l : List UInt8), l.length ≤ n → Lib.splitK [58] 1 (Lib.count l [58]) l = (segs [] l).1 ++ [(segs [] l).2] := by
  intro n
  induction n with
  | zero =>
    intro l hl
    have : l = [] := List.length_eq_zero_iff.1 (by omega)
    subst this
    rfl
  | succ n ih =>
    intro l hl
    by_cases hm : Lib.indexByte l 58 = -1
    · have h1 : Lib.index l [58] = -1 := by rw [Lib.index_one]; exact hm
      rw [Lib.count_miss h1, segs_none l [] (indexByte_none l hm)]
      simp [Lib.splitK]
    · have hge := Lib.indexByte_ge l 58
      obtain ⟨i, hi⟩ : ∃ i : Nat, Lib.indexByte l 58 = i := ⟨(Lib.indexByte l 58).toNat, by omega⟩
      obtain ⟨h5, h6⟩ := indexByte_some l i hi
      have h1 : Lib.index l [58] = i := by rw [Lib.index_one]; exact hi
      have hdl : (l.drop (i + 1)).length ≤ n := by
        rw [List.length_drop]
        have : l.length ≠ 0 := by
          intro e
          have := List.length_eq_zero_iff.1 e
          subst this
          unfold Lib.indexByte at hi
          omega
        omega
      rw [Lib.count_hit (by simp) h1]
      have hs : segs [] l = ((([] : List UInt8) ++ l.take i ++ [58]) :: (segs [] (l.drop (i + 1))).1, (segs [] (l.drop (i + 1))).2) := by
        conv => lhs; rw [h5]
        exact segs_hit _ _ _ h6
      have htake : l.take (i + 1) = l.take i ++ [58] := by
        have h7 : i < l.length := by
          have := congrArg List.length h5
          simp at this
          omega
        rw [List.take_succ_eq_append_getElem h7]
        congr 1
        have := congrArg (fun x => x[i]?) h5
        simp [h7, List.getElem?_append_right, List.length_take, Nat.min_eq_left (Nat.le_of_lt h7)] at this
        rw [this]
      rw [hs, Nat.add_comm, Lib.splitK, if_neg (by rw [h1]; intro e; have := beq_iff_eq.1 e; omega), h1]
      have hsing : (([58] : List UInt8)).length = 1 := rfl
      rw [Int.toNat_natCast, hsing, ih _ hdl, htake]
      simp
def mkB (l : List UInt8) : ByteArray := ⟨l.toArray⟩
theorem mkB_data (l : List UInt8) : (mkB l).data.toList = l := rfl
/-- What a keyword selector's pieces come to. -/
def kwAll (out : List ByteArray) (p : List (List UInt8) × List UInt8) : List ByteArray :=
  if p.1.any (fun q => !isLower (mkB q.dropLast)) = true then [] else if p.2 = [] ∧ out.length + p.1.length ≤ 10 then out ++ p.1.map mkB else []
theorem segs_last : ∀ (l cur : List UInt8), ∀ q ∈ (segs cur l).1, ∃ a, q = a ++ [58]
  | [], cur, q, h => by simp [segs] at h
  | c :: l, cur, q, h => by
    unfold segs at h
    by_cases hc : c = 58
    · rw [if_pos hc] at h
      rcases List.mem_cons.1 h with rfl | h
      · exact ⟨cur, by rw [hc]⟩
      · exact segs_last l [] q h
    · rw [if_neg hc] at h
      exact segs_last l _ q h
theorem map_mkB (P : List ByteArray) (Q : List (List UInt8)) (h : P.map (·.data.toList) = Q) : P = Q.map mkB := by
  subst h
  rw [List.map_map]
  conv => lhs; rw [← List.map_id P]
  exact List.map_congr_left fun s _ => (Lib.mk_data s).symm
theorem colonParts_segs (s : ByteArray) : colonParts s = ((segs [] s.data.toList).1 ++ [(segs [] s.data.toList).2]).map mkB := by
  refine map_mkB _ _ ?_
  unfold colonParts
  rw [Lib.splitB_data]
  exact split_segs _ _ (Nat.le_refl _)
theorem kwNames_segs (s : ByteArray) : kwNames s = kwAll [] (segs [] s.data.toList) := by
  have hlast := segs_last s.data.toList []
  unfold kwNames kwOf kwAll
  rw [colonParts_segs]
  obtain ⟨⟨a, q⟩, hp⟩ : ∃ p, segs [] s.data.toList = p := ⟨_, rfl⟩
  rw [hp] at hlast ⊢
  simp only [List.length_map, List.length_append, List.length_singleton, List.length_nil, Nat.zero_add, List.nil_append, Nat.add_sub_cancel, List.map_append, List.map_cons, List.map_nil]
  have htk : (a.map mkB ++ [mkB q]).take a.length = a.map mkB := by
    rw [List.take_append_of_le_length (by simp)]
    exact List.take_of_length_le (by simp)
  rw [htk]
  have hrd : rdOf ByteArray.empty (a.map mkB ++ [mkB q]) (((a.length + 1 : Nat) : Int) - 1) = mkB q := by
    have : (((a.length + 1 : Nat) : Int) - 1).toNat = a.length := by omega
    unfold rdOf
    rw [this]
    simp
  rw [hrd]
  have hany : (a.map mkB).any (fun p => !isLower ⟨(Lib.trimSuffix p.data.toList [58]).toArray⟩) = a.any (fun q => !isLower (mkB q.dropLast)) := by
    rw [List.any_map]
    have : ∀ x ∈ a, ((fun p : ByteArray => !isLower ⟨(Lib.trimSuffix p.data.toList [58]).toArray⟩) ∘ mkB) x = (!isLower (mkB x.dropLast)) := by
      intro x hx
      obtain ⟨y, rfl⟩ := hlast x hx
      have h1 : Lib.trimSuffix (y ++ [58]) [58] = y := by
        unfold Lib.trimSuffix
        rw [if_pos (by simp [Lib.hasSuffix])]
        simp
      simp only [Function.comp, mkB_data]
      rw [h1]
      simp [mkB]
    rw [Bool.eq_iff_iff, List.any_eq_true, List.any_eq_true]
    exact ⟨fun ⟨x, hx, h⟩ => ⟨x, hx, by rw [← this x hx]; exact h⟩, fun ⟨x, hx, h⟩ => ⟨x, hx, by rw [this x hx]; exact h⟩⟩
  rw [hany, Lib.toList_data, mkB_data]
  by_cases hq : q = []
  · subst hq
    by_cases h1 : a.length + 1 < 2
    · have ha : a = [] := List.length_eq_zero_iff.1 (by omega)
      subst ha
      simp
    · rw [if_neg h1]
      by_cases h2 : a.length + 1 > 11
      · rw [if_pos h2]
        split
        · rfl
        · rw [if_neg (fun h => by have := h.2; omega)]
      · rw [if_neg h2, if_pos rfl, if_pos (⟨rfl, by omega⟩ : ([] : List UInt8) = [] ∧ a.length ≤ 10)]
  · by_cases h1 : a.length + 1 < 2
    · rw [if_pos h1]; simp [hq]
    · rw [if_neg h1]; simp [hq]

theorem kwAll_cons (out : List ByteArray) (q : List UInt8) (r : List (List UInt8)) (e : List UInt8) : kwAll out (q :: r, e) = if isLower (mkB q.dropLast) = true then kwAll (out ++ [mkB q]) (r, e) else [] := by
  unfold kwAll
  simp only [List.any_cons, List.length_cons, List.length_append, List.length_nil, List.map_cons, List.append_assoc, List.singleton_append]
  cases h : isLower (mkB q.dropLast)
  · simp
  · simp only [Bool.not_true, Bool.false_or, if_true]
    rw [show out.length + (0 + 1) + r.length = out.length + (r.length + 1) by omega]
theorem extract_mkB (s : ByteArray) (a b : Nat) : s.extract a b = mkB ((s.data.toList.drop a).take (b - a)) := Lib.extract_eq s a b
theorem isLower_f (s : ByteArray) (h : isName s = true) : isLower s = smallB (s[0]'(isName_pos h)) := by
  unfold isLower
  rw [dif_pos (isName_pos h), h, Bool.true_and]
theorem data_get (s : ByteArray) (i : Nat) (h : i < s.size) : s.data.toList.drop i = s[i] :: s.data.toList.drop (i + 1) := by
  rw [List.drop_eq_getElem_cons (by simpa using h)]
  rfl
theorem kw_loop (s : ByteArray) (hs : s.size ≤ 4294967296) : ∀ d frm i : Nat, ∀ out : List ByteArray, frm ≤ i → i ≤ s.size → s.size - i = d → out.length ≤ i →
    ∃ K, ∀ k, K ≤ k → P.monticuleref06_Keywords.l0 k s out (frm : Int) (i : Int) = some (kwAll out (segs ((s.data.toList.drop frm).take (i - frm)) (s.data.toList.drop i))) := by
  intro d
  induction d with
  | zero =>
    intro frm i out hf hi hd ho
    refine ⟨1, fun k hk => ?_⟩
    obtain ⟨k, rfl⟩ : ∃ m, k = m + 1 := ⟨k - 1, by omega⟩
    simp only [P.monticuleref06_Keywords.l0]
    have hsz : s.data.toList.length = s.size := by simp
    have hdr : s.data.toList.drop i = [] := List.drop_eq_nil_of_le (by omega)
    rw [if_neg (by omega), hdr]
    have hcur : ((s.data.toList.drop frm).take (i - frm)).length = i - frm := by rw [List.length_take, List.length_drop, hsz]; omega
    unfold segs kwAll
    simp only [List.any_nil, Bool.false_eq_true, if_false, List.length_nil, Nat.add_zero, List.map_nil, List.append_nil]
    by_cases h1 : frm = s.size
    · have hnil : (s.data.toList.drop frm).take (i - frm) = [] := List.length_eq_zero_iff.1 (by omega)
      rw [if_pos (by omega), hnil]
      by_cases h2 : out.length ≤ 10
      · rw [if_neg (by omega), if_pos ⟨rfl, h2⟩]
      · rw [if_pos (by omega), if_neg (fun h => h2 h.2)]
    · rw [if_neg (by omega), if_neg (fun h => by have := congrArg List.length h.1; rw [hcur] at this; simp at this; omega)]
  | succ d ih =>
    intro frm i out hf hi hd ho
    have hlt : i < s.size := by omega
    have hsz : s.data.toList.length = s.size := by simp
    have hcast : ((i : Int) + 1) = ((i + 1 : Nat) : Int) := by omega
    have hw : wrap64 ((i : Int) + 1) = ((i + 1 : Nat) : Int) := by rw [wrap_up (by omega) (n := s.size) (by omega) (by omega), hcast]
    have hcur1 : (s.data.toList.drop frm).take (i + 1 - frm) = (s.data.toList.drop frm).take (i - frm) ++ [s[i]] := by
      have h1 : i - frm < (s.data.toList.drop frm).length := by rw [List.length_drop, hsz]; omega
      rw [show i + 1 - frm = (i - frm) + 1 by omega, List.take_succ_eq_append_getElem h1]
      congr 1
      rw [List.getElem_drop]
      congr 1
      have : frm + (i - frm) = i := by omega
      simp only [this]
      rfl
    rw [data_get s i hlt, segs_cons]
    obtain ⟨cur, hcur⟩ : ∃ cur, (s.data.toList.drop frm).take (i - frm) = cur := ⟨_, rfl⟩
    rw [hcur] at hcur1 ⊢
    by_cases hc : s[i] = 58
    · rw [if_pos hc, kwAll_cons]
      have hdl : (cur ++ [s[i]]).dropLast = cur := by simp
      rw [hdl]
      have hb : bt s (i : Int) = 58 := by rw [bt_get s i hlt, hc]; rfl
      have hex1 : s.extract (frm : Int).toNat (i : Int).toNat = mkB cur := by rw [Int.toNat_natCast, Int.toNat_natCast, extract_mkB, hcur]
      have hex2 : s.extract (frm : Int).toNat ((i + 1 : Nat) : Int).toNat = mkB (cur ++ [s[i]]) := by rw [Int.toNat_natCast, Int.toNat_natCast, extract_mkB, hcur1]
      have hcl : (mkB cur).size ≤ 9223372036854775807 := by rw [← hex1]; simp; omega
      obtain ⟨K1, hK1⟩ := refIs_f (mkB cur) hcl
      obtain ⟨K2, hK2⟩ := ih (i + 1) (i + 1) (out ++ [mkB (cur ++ [s[i]])]) (by omega) (by omega) (by omega) (by simp; omega)
      refine ⟨max K1 K2 + 1, fun k hk => ?_⟩
      obtain ⟨k, rfl⟩ : ∃ m, k = m + 1 := ⟨k - 1, by omega⟩
      have h2 := hK2 k (by omega)
      rw [Nat.sub_self, List.take_zero] at h2
      simp only [P.monticuleref06_Keywords.l0]
      rw [if_pos (by omega), if_pos (by omega), if_pos hb, if_pos (by omega), if_pos (by omega), if_pos (by omega), hex1, hK1 k (by omega), hw, hex2]
      simp only [Option.bind_some]
      cases hn : isName (mkB cur)
      · have : isLower (mkB cur) = false := by unfold isLower; rw [hn]; split <;> rfl
        rw [this]
        simp
      · have hp := isName_pos hn
        rw [if_pos rfl, if_pos (by omega), refSmall0 _ hp, isLower_f _ hn]
        simp only [Option.bind_some]
        cases smallB (mkB cur)[0]
        · simp
        · rw [if_pos rfl, if_pos (by omega), if_pos (by omega), if_pos (by omega), h2]
          rfl
    · rw [if_neg hc]
      have hb : ¬ bt s (i : Int) = 58 := by
        rw [bt_get s i hlt]
        intro e
        apply hc
        apply UInt8.toNat_inj.1
        have : (58 : UInt8).toNat = 58 := rfl
        omega
      obtain ⟨K2, hK2⟩ := ih frm (i + 1) out (by omega) (by omega) (by omega) (by omega)
      refine ⟨K2 + 1, fun k hk => ?_⟩
      obtain ⟨k, rfl⟩ : ∃ m, k = m + 1 := ⟨k - 1, by omega⟩
      have h2 := hK2 k (by omega)
      rw [hcur1] at h2
      simp only [P.monticuleref06_Keywords.l0]
      rw [if_pos (by omega), if_pos (by omega), if_neg hb, hw, h2]
theorem refKeywords_f (s : ByteArray) (hs : s.size ≤ 4294967296) : ∃ K, ∀ k, K ≤ k → P.monticuleref06_Keywords.f k s = some (kwNames s) := by
  obtain ⟨K, hK⟩ := kw_loop s hs s.size 0 0 [] (Nat.le_refl _) (Nat.zero_le _) (by omega) (Nat.zero_le _)
  refine ⟨K, fun k hk => ?_⟩
  rw [kwNames_segs]
  exact hK k hk
def binL : List UInt8 := [43, 45, 42, 47, 60, 62, 61, 126, 38, 44, 64, 37]
theorem dropWhile_nil (p : UInt8 → Bool) : ∀ l : List UInt8, l.dropWhile p = [] ↔ ∀ b ∈ l, p b = true
  | [] => by simp
  | a :: l => by
    rw [List.dropWhile_cons]
    by_cases h : p a = true
    · rw [if_pos h, dropWhile_nil p l]; simp [h]
    · rw [if_neg h]; simp [h]
theorem takeWhile_mem (p : UInt8 → Bool) : ∀ l : List UInt8, ∀ b ∈ l.takeWhile p, p b = true
  | [], b, h => by simp at h
  | a :: l, b, h => by
    rw [List.takeWhile_cons] at h
    by_cases hp : p a = true
    · rw [if_pos hp] at h
      rcases List.mem_cons.1 h with rfl | h
      · exact hp
      · exact takeWhile_mem p l b h
    · rw [if_neg hp] at h; simp at h
theorem trimS_nil (l cs : List UInt8) : Lib.trimS l cs = [] ↔ ∀ b ∈ l, cs.contains b = true := by
  unfold Lib.trimS Lib.trimLeftS Lib.trimRightS
  rw [dropWhile_nil]
  constructor
  · intro h b hb
    by_cases hc : cs.contains b = true
    · exact hc
    · have hb' : b ∈ (l.reverse.dropWhile (cs.contains ·)).reverse ∨ b ∈ l.reverse.takeWhile (cs.contains ·) := by
        have h1 : b ∈ l.reverse := List.mem_reverse.2 hb
        rw [← List.takeWhile_append_dropWhile (p := (cs.contains ·)) (l := l.reverse)] at h1
        rcases List.mem_append.1 h1 with h1 | h1
        · exact .inr h1
        · exact .inl (List.mem_reverse.2 h1)
      rcases hb' with h1 | h1
      · exact h b h1
      · exact takeWhile_mem _ _ b h1
  · intro h b hb
    have := List.mem_reverse.1 hb
    exact h b (List.mem_reverse.1 ((List.dropWhile_sublist _).subset this))
theorem isBinary_eq (s : ByteArray) : isBinary s = ((decide (s.size = 1) || decide (s.size = 2)) && s.data.toList.all (binL.contains ·)) := by
  unfold isBinary
  congr 1
  rw [Bool.eq_iff_iff, decide_eq_true_iff, trimS_nil, List.all_eq_true]
  rfl
def binTexts : List ByteArray := [⟨#[43]⟩, ⟨#[45]⟩, ⟨#[42]⟩, ⟨#[47]⟩, ⟨#[60]⟩, ⟨#[62]⟩, ⟨#[61]⟩, ⟨#[126]⟩, ⟨#[38]⟩, ⟨#[44]⟩, ⟨#[64]⟩, ⟨#[37]⟩]
theorem binTexts_eq : binTexts = binL.map fun b => mkB [b] := rfl
theorem mkB_inj {a b : List UInt8} (h : mkB a = mkB b) : a = b := by
  have := congrArg (fun s : ByteArray => s.data.toList) h
  exact this
theorem hasBin (b : UInt8) : hasText binTexts (mkB [b]) = binL.contains b := by
  rw [Bool.eq_iff_iff, hasText_iff, binTexts_eq, List.mem_map, List.contains_iff_mem]
  constructor
  · rintro ⟨x, hx, e⟩
    have := mkB_inj e
    injection this with h1
    rw [← h1]; exact hx
  · exact fun h => ⟨b, h, rfl⟩
/-- What a selector that is no small name is. -/
def kindRest (s : ByteArray) : Int := if ((kwNames s).length : Int) > 0 then 3 else 0
theorem bin_loop (s : ByteArray) (hs : s.size ≤ 4294967296) : ∀ d i : Nat, ∀ ok : Bool, i ≤ s.size → s.size - i = d →
    ∃ K, ∀ k, K ≤ k → P.monticuleref06_Kind.l0 k s ok (i : Int) = some (if (ok && (s.data.toList.drop i).all (binL.contains ·)) = true then 2 else kindRest s) := by
  intro d
  induction d with
  | zero =>
    intro i ok hi hd
    obtain ⟨K, hK⟩ := refKeywords_f s hs
    refine ⟨K + 1, fun k hk => ?_⟩
    obtain ⟨k, rfl⟩ : ∃ m, k = m + 1 := ⟨k - 1, by omega⟩
    have hsz : s.data.toList.length = s.size := by simp
    simp only [P.monticuleref06_Kind.l0]
    rw [if_neg (by omega), List.drop_eq_nil_of_le (by omega), hK k (by omega)]
    simp only [List.all_nil, Bool.and_true, Option.bind_some, kindRest]
    cases ok
    · simp only [Bool.false_eq_true, if_false]; split <;> rfl
    · rfl
  | succ d ih =>
    intro i ok hi hd
    have hlt : i < s.size := by omega
    have hsz : s.data.toList.length = s.size := by simp
    have hcast : ((i : Int) + 1) = ((i + 1 : Nat) : Int) := by omega
    have hw : wrap64 ((i : Int) + 1) = ((i + 1 : Nat) : Int) := by rw [wrap_up (by omega) (n := s.size) (by omega) (by omega), hcast]
    have hex : s.extract (i : Int).toNat ((i + 1 : Nat) : Int).toNat = mkB [s[i]] := by
      rw [Int.toNat_natCast, Int.toNat_natCast, extract_mkB, data_get s i hlt]
      congr 1
      rw [show i + 1 - i = 1 by omega]
      rfl
    obtain ⟨K1, hK1⟩ := refIn_f binTexts (mkB [s[i]]) (by decide)
    obtain ⟨K2, hK2⟩ := ih (i + 1) (binL.contains s[i]) (by omega) (by omega)
    obtain ⟨K3, hK3⟩ := ih (i + 1) false (by omega) (by omega)
    refine ⟨max K1 (max K2 K3) + 1, fun k hk => ?_⟩
    obtain ⟨k, rfl⟩ : ∃ m, k = m + 1 := ⟨k - 1, by omega⟩
    have h1 := hK1 k (by omega)
    have h2 := hK2 k (by omega)
    have h3 := hK3 k (by omega)
    simp only [P.monticuleref06_Kind.l0]
    rw [if_pos (by omega), hw, hex, data_get s i hlt, List.all_cons]
    cases ok
    · rw [if_neg (by decide), h3]
      simp
    · rw [if_pos rfl, if_pos (by omega), if_pos (by omega), if_pos (by omega)]
      unfold binTexts at h1
      rw [h1]
      simp only [Option.bind_some]
      have hb := hasBin s[i]
      unfold binTexts at hb
      rw [hb, h2]
      simp
theorem refKind_f (s : ByteArray) (hs : s.size ≤ 4294967296) : ∃ K, ∀ k, K ≤ k → P.monticuleref06_Kind.f k s = some (kindOf s) := by
  obtain ⟨K1, hK1⟩ := refIs_f s (by omega)
  obtain ⟨K2, hK2⟩ := bin_loop s hs s.size 0 true (Nat.zero_le _) (by omega)
  obtain ⟨K3, hK3⟩ := refKeywords_f s hs
  have j1 : ∀ k b, max K2 K3 ≤ k → b = (decide (s.size = 1) || decide (s.size = 2)) → P.monticuleref06_Kind.j1 (k + 1) s b = some (if isBinary s = true then 2 else kindRest s) := by
    intro k b hk hb
    simp only [P.monticuleref06_Kind.j1]
    rw [isBinary_eq, ← hb, hK3 k (by omega)]
    have h2 : P.monticuleref06_Kind.l0 k s true 0 = _ := hK2 k (by omega)
    cases b
    · simp only [Bool.false_eq_true, if_false, Option.bind_some, Bool.false_and, kindRest]; split <;> rfl
    · rw [if_pos rfl, h2]; simp
  have j0 : ∀ k b, max K2 K3 ≤ k → P.monticuleref06_Kind.j0 (k + 1 + 1) s b = some (if b = true then 1 else if isBinary s = true then 2 else kindRest s) := by
    intro k b hk
    simp only [P.monticuleref06_Kind.j0]
    cases b
    · simp only [Bool.false_eq_true, if_false]
      by_cases h1 : s.size = 1
      · rw [if_pos (by omega)]; exact j1 k true hk (by simp [h1])
      · rw [if_neg (by omega)]
        have hbq : (((s.size : Int) == 2) : Bool) = decide (s.size = 2) := by rw [Bool.eq_iff_iff]; simp; omega
        rw [hbq]
        exact j1 k _ hk (by simp [h1])
    · rfl
  refine ⟨max K1 (max K2 K3) + 2, fun k hk => ?_⟩
  obtain ⟨k, rfl⟩ : ∃ m, k = m + 1 + 1 := ⟨k - 2, by omega⟩
  unfold P.monticuleref06_Kind.f kindOf
  rw [hK1 _ (by omega)]
  simp only [Option.bind_some]
  have hr : (if ((kwNames s).length : Int) > 0 then (3 : Int) else 0) = kindRest s := rfl
  rw [hr]
  cases hn : isName s
  · have : isLower s = false := by unfold isLower; rw [hn]; split <;> rfl
    rw [this, if_neg (by decide), j0 k false (by omega)]
  · have hp := isName_pos hn
    rw [if_pos rfl, if_pos (by omega), refSmall0 _ hp, isLower_f _ hn]
    simp only [Option.bind_some]
    rw [j0 k _ (by omega)]
end Go.Proofs.YtodpdlpncgkkdaaGreatDoor
end
section
namespace Go.Proofs.YtodpdlpncgkkdaaGreatDoor.P
open Go.RowKit Go.Proofs.YtodpdlpncgkkdaaGreatDoorW.PrintWords Go.Proofs.YtodpdlpncgkkdaaGreatDoorW.PrintLast Go.Proofs.YtodpdlpncgkkdaaGreatDoorW.PrintMore
attribute [local go_sem] max2_int min2_int max_two min_two max_three min_three max_four min_four   -- for this text's walks alone
set_option linter.unusedVariables false
set_option linter.unusedSimpArgs false

/-! ### monticuleref07_Small: function 86 -/
mutual
def monticuleref07_Small.j0 : Nat → Bool → Int → ByteArray → ByteArray → List ByteArray → ByteArray → ByteArray → Option (Bool)
  | 0, _, _, _, _, _, _, _ => none
  | k + 1, x31, x147000, x147001, x147002, x147003, x147004, x147005 => if x31 = true then (some false) else (monticuleref07_Small.l0 k 0 x147000 x147001 x147002 x147003 x147004 x147005)
def monticuleref07_Small.l0 : Nat → Int → Int → ByteArray → ByteArray → List ByteArray → ByteArray → ByteArray → Option (Bool)
  | 0, _, _, _, _, _, _, _ => none
  | k + 1, x3, x147000, x147001, x147002, x147003, x147004, x147005 => if x3 < (x147003.length : Int) then (if 0 ≤ x3 then (if ((rdOf ByteArray.empty x147003 x3).size : Int) > 100 then (some false) else (monticuleref07_Small.l0 k (wrap64 (x3 + 1)) x147000 x147001 x147002 x147003 x147004 x147005)) else (none)) else (some true)
end
def monticuleref07_Small.f (k : Nat) (a0_0 : Int) (a0_1 : ByteArray) (a0_2 : ByteArray) (l0_3 : List ByteArray) (a0_4 : ByteArray) (a0_5 : ByteArray) : Option (Bool) := if (a0_1.size : Int) > 100 then (monticuleref07_Small.j0 k true a0_0 a0_1 a0_2 l0_3 a0_4 a0_5) else (if (a0_2.size : Int) > 100 then (monticuleref07_Small.j0 k true a0_0 a0_1 a0_2 l0_3 a0_4 a0_5) else (if (l0_3.length : Int) > 30 then (monticuleref07_Small.j0 k true a0_0 a0_1 a0_2 l0_3 a0_4 a0_5) else (if (a0_4.size : Int) > 600 then (monticuleref07_Small.j0 k true a0_0 a0_1 a0_2 l0_3 a0_4 a0_5) else (monticuleref07_Small.j0 k (decide ((a0_5.size : Int) > 5000)) a0_0 a0_1 a0_2 l0_3 a0_4 a0_5))))
theorem monticuleref07_Small.mono_l : ∀ k, (∀ y0 y1 y2 y3 y4 y5 y6, LeO (monticuleref07_Small.j0 k y0 y1 y2 y3 y4 y5 y6) (monticuleref07_Small.j0 (k + 1) y0 y1 y2 y3 y4 y5 y6)) ∧ (∀ y0 y1 y2 y3 y4 y5 y6, LeO (monticuleref07_Small.l0 k y0 y1 y2 y3 y4 y5 y6) (monticuleref07_Small.l0 (k + 1) y0 y1 y2 y3 y4 y5 y6))
  | 0 => ⟨fun _ _ _ _ _ _ _ r h => by simp [monticuleref07_Small.j0] at h, fun _ _ _ _ _ _ _ r h => by simp [monticuleref07_Small.l0] at h⟩
  | k + 1 => by
    obtain ⟨ih0, ih1⟩ := monticuleref07_Small.mono_l k
    refine ⟨?_, ?_⟩
    · intro y0 y1 y2 y3 y4 y5 y6
      unfold monticuleref07_Small.j0
      repeat' first
      | (with_reducible exact ih0 _ _ _ _ _ _ _)
      | (with_reducible exact ih1 _ _ _ _ _ _ _)
      | (with_reducible exact LeO.refl _)
      | (with_reducible exact LeO.none _)
      | (with_reducible refine LeO.ite ?_ ?_)
      | (with_reducible refine LeO.bind ?_ (fun _ => ?_))
      | exact ih0 _ _ _ _ _ _ _
      | exact ih1 _ _ _ _ _ _ _
      | exact LeO.none _
      | refine LeO.ite ?_ ?_
      | refine LeO.bind ?_ (fun _ => ?_)
    · intro y0 y1 y2 y3 y4 y5 y6
      unfold monticuleref07_Small.l0
      repeat' first
      | (with_reducible exact ih0 _ _ _ _ _ _ _)
      | (with_reducible exact ih1 _ _ _ _ _ _ _)
      | (with_reducible exact LeO.refl _)
      | (with_reducible exact LeO.none _)
      | (with_reducible refine LeO.ite ?_ ?_)
      | (with_reducible refine LeO.bind ?_ (fun _ => ?_))
      | exact ih0 _ _ _ _ _ _ _
      | exact ih1 _ _ _ _ _ _ _
      | exact LeO.none _
      | refine LeO.ite ?_ ?_
      | refine LeO.bind ?_ (fun _ => ?_)
theorem monticuleref07_Small.mono : ∀ a0 a1 a2 a3 a4 a5 k, LeO (monticuleref07_Small.f k a0 a1 a2 a3 a4 a5) (monticuleref07_Small.f (k + 1) a0 a1 a2 a3 a4 a5) := by
  intro a0 a1 a2 a3 a4 a5 k
  obtain ⟨ih0, ih1⟩ := monticuleref07_Small.mono_l k
  unfold monticuleref07_Small.f
  repeat' first
      | (with_reducible exact ih0 _ _ _ _ _ _ _)
      | (with_reducible exact ih1 _ _ _ _ _ _ _)
      | (with_reducible exact LeO.refl _)
      | (with_reducible exact LeO.none _)
      | (with_reducible refine LeO.ite ?_ ?_)
      | (with_reducible refine LeO.bind ?_ (fun _ => ?_))
      | exact ih0 _ _ _ _ _ _ _
      | exact ih1 _ _ _ _ _ _ _
      | exact LeO.none _
      | refine LeO.ite ?_ ?_
      | refine LeO.bind ?_ (fun _ => ?_)
set_option maxHeartbeats 8000000 in
set_option maxRecDepth 100000 in
theorem monticuleref07_Small.calls (k : Nat) (a0_0 : Int) (a0_1 : ByteArray) (a0_2 : ByteArray) (A0_3 : Option Addr) (c0_3 : Nat) (l0_3 : List ByteArray) (a0_4 : ByteArray) (a0_5 : ByteArray) (r : Bool) (w : World) (hr0_3 : Kd.C Kd.string w A0_3 l0_3.length l0_3) (hc0_3 : l0_3.length ≤ c0_3) (h : monticuleref07_Small.f k a0_0 a0_1 a0_2 l0_3 a0_4 a0_5 = some r) :
    Calls Tryz.prog 86 #[.agg #[.int .i64 a0_0, .string a0_1, .string a0_2, .slice A0_3 l0_3.length c0_3, .string a0_4, .string a0_5]] w fun e w' => e = .returned (.bool r) ∧ Below w.heap.size w w' := by
  have hu33 := Tryz.underlying33
  have HR0_3 := Aside0.mk hr0_3
  have HC0_3 := Aside0.mk hc0_3
  clear hr0_3 hc0_3
  have HB := Aside0.mk (Below.refl w.heap.size w)
  have H : (if (a0_1.size : Int) > 100 then (monticuleref07_Small.j0 k true a0_0 a0_1 a0_2 l0_3 a0_4 a0_5) else (if (a0_2.size : Int) > 100 then (monticuleref07_Small.j0 k true a0_0 a0_1 a0_2 l0_3 a0_4 a0_5) else (if (l0_3.length : Int) > 30 then (monticuleref07_Small.j0 k true a0_0 a0_1 a0_2 l0_3 a0_4 a0_5) else (if (a0_4.size : Int) > 600 then (monticuleref07_Small.j0 k true a0_0 a0_1 a0_2 l0_3 a0_4 a0_5) else (monticuleref07_Small.j0 k (decide ((a0_5.size : Int) > 5000)) a0_0 a0_1 a0_2 l0_3 a0_4 a0_5))))) = some r := h
  clear h
  have HC2 := Aside0.mk H
  clear H
  go_enter Tryz.func86, Tryz.ntmps86
  go_upto_region 1 with (first | ((with_reducible refine gate_dst (N := 1) rfl ?_); (try (refine gate_guard (by rfl) ?_; dsimp only)); refine box_event ?hg (N := 1) ?hd (cs := #[.int .i64 a0_0, .string a0_1, .string a0_2, .slice A0_3 l0_3.length c0_3, .string a0_4, .string a0_5]) (t := 33) ?hr ?_; (case hd => rfl); (case hg => rfl); (case hr => first | (go_simp; done) | (go_simp; rfl)); intro gb146 hg w3 hbox hb; have n0_ := Aside0.mk (below_step (by repeat (first | (with_reducible first | exact HB.out | apply below_alloc | apply pw_below_drewN | apply below_drew1) | exact HB.out)) hb); have n1_ := Aside0.mk (hbox); have n2_ := Aside0.mk ((by rw [hg]; exact (below_size (by repeat (first | (with_reducible first | exact HB.out | apply below_alloc | apply pw_below_drewN | apply below_drew1) | exact HB.out))) : w.heap.size ≤ gb146)); have n3_ := Aside0.mk ((by rw [hg]; exact (below_size (by repeat (first | (with_reducible first | exact HB.out | apply below_alloc | apply pw_below_drewN | apply below_drew1) | exact HB.out))) : w.heap.size ≤ gb146)); clear HB; have HB := n0_; have BK146 := n1_; have GW146 := n2_; have GE146 := n3_; clear n0_ n1_ n2_ n3_; clear hb hbox hg))
  (try simp only [Act.put, List.setIfInBounds_toArray, List.set_cons_zero, List.set_cons_succ])
  go_cut [31] (fun v31 wc => ∃ (kq : Nat) (x31_1 : Bool), v31 = .bool x31_1 ∧ Aside0 (monticuleref07_Small.j0 kq x31_1 a0_0 a0_1 a0_2 l0_3 a0_4 a0_5 = some r) ∧ Aside0 (kq ≤ k) ∧ Aside0 (wc.heap[gb146]? = some (.cells #[.int .i64 a0_0, .string a0_1, .string a0_2, (.slice A0_3 l0_3.length c0_3), .string a0_4, .string a0_5] 33 (0, 0))) ∧ Aside0 (Below w.heap.size w wc))
  case first =>
    have H := HC2.out
    clear HC2
    by_cases c4 : (a0_1.size : Int) > 100
    · rw [if_pos c4] at H
      have c4b0 : decide (100 < (a0_1.size : Int)) = true := decide_eq_true c4
      have c4b1 : decide (100 < a0_1.size) = true := decide_eq_true (by omega)
      clear c4
      (first | rw [c4b0] | (simp only [i64_w, i32_w]; rw [c4b0]) | skip)
      have H' := Aside0.mk H
      clear H
      have hcz5_0 : w3.cell? ⟨gb146, 0, none⟩ = some (.int .i64 a0_0) := (blk_cell BK146.out 0).trans rfl
      have hcz5_1 : w3.cell? ⟨gb146, 1, none⟩ = some (.string a0_1) := (blk_cell BK146.out 1).trans rfl
      have hcz5_2 : w3.cell? ⟨gb146, 2, none⟩ = some (.string a0_2) := (blk_cell BK146.out 2).trans rfl
      have hcz5_3 : w3.cell? ⟨gb146, 3, none⟩ = some (.slice A0_3 l0_3.length c0_3) := (blk_cell BK146.out 3).trans rfl
      have hcz5_4 : w3.cell? ⟨gb146, 4, none⟩ = some (.string a0_4) := (blk_cell BK146.out 4).trans rfl
      have hcz5_5 : w3.cell? ⟨gb146, 5, none⟩ = some (.string a0_5) := (blk_cell BK146.out 5).trans rfl
      have hfz5_0 := blk_frozen BK146.out 0
      have hfz5_1 := blk_frozen BK146.out 1
      have hfz5_2 := blk_frozen BK146.out 2
      have hfz5_3 := blk_frozen BK146.out 3
      have hfz5_4 := blk_frozen BK146.out 4
      have hfz5_5 := blk_frozen BK146.out 5
      go_wp2
      go_meet
      case rel => exact ⟨_, (true), (by first | rfl | (simp; done) | (simp [*]; done)), H', ⟨by first | omega | exact Nat.le_refl _⟩, ⟨by (with_reducible repeat (first | refine blk_drewN ?_ _ | refine blk_drew ?_ | refine blk_alloc ?_ _)); exact BK146.out⟩, ⟨by repeat (first | (with_reducible first | exact HB.out | apply below_alloc | apply pw_below_drewN | apply below_drew1 | refine below_set ?_ GE146.out) | exact HB.out)⟩⟩
    · rw [if_neg c4] at H
      have c4b0 : decide (100 < (a0_1.size : Int)) = false := decide_eq_false c4
      have c4b1 : decide (100 < a0_1.size) = false := decide_eq_false (by omega)
      clear c4
      (first | rw [c4b0] | (simp only [i64_w, i32_w]; rw [c4b0]) | skip)
      by_cases c6 : (a0_2.size : Int) > 100
      · rw [if_pos c6] at H
        have c6b0 : decide (100 < (a0_2.size : Int)) = true := decide_eq_true c6
        have c6b1 : decide (100 < a0_2.size) = true := decide_eq_true (by omega)
        clear c6
        have H' := Aside0.mk H
        clear H
        have hcz7_0 : w3.cell? ⟨gb146, 0, none⟩ = some (.int .i64 a0_0) := (blk_cell BK146.out 0).trans rfl
        have hcz7_1 : w3.cell? ⟨gb146, 1, none⟩ = some (.string a0_1) := (blk_cell BK146.out 1).trans rfl
        have hcz7_2 : w3.cell? ⟨gb146, 2, none⟩ = some (.string a0_2) := (blk_cell BK146.out 2).trans rfl
        have hcz7_3 : w3.cell? ⟨gb146, 3, none⟩ = some (.slice A0_3 l0_3.length c0_3) := (blk_cell BK146.out 3).trans rfl
        have hcz7_4 : w3.cell? ⟨gb146, 4, none⟩ = some (.string a0_4) := (blk_cell BK146.out 4).trans rfl
        have hcz7_5 : w3.cell? ⟨gb146, 5, none⟩ = some (.string a0_5) := (blk_cell BK146.out 5).trans rfl
        have hfz7_0 := blk_frozen BK146.out 0
        have hfz7_1 := blk_frozen BK146.out 1
        have hfz7_2 := blk_frozen BK146.out 2
        have hfz7_3 := blk_frozen BK146.out 3
        have hfz7_4 := blk_frozen BK146.out 4
        have hfz7_5 := blk_frozen BK146.out 5
        go_wp2
        go_meet
        case rel => exact ⟨_, (true), (by first | rfl | (simp; done) | (simp [*]; done)), H', ⟨by first | omega | exact Nat.le_refl _⟩, ⟨by (with_reducible repeat (first | refine blk_drewN ?_ _ | refine blk_drew ?_ | refine blk_alloc ?_ _)); exact BK146.out⟩, ⟨by repeat (first | (with_reducible first | exact HB.out | apply below_alloc | apply pw_below_drewN | apply below_drew1 | refine below_set ?_ GE146.out) | exact HB.out)⟩⟩
      · rw [if_neg c6] at H
        have c6b0 : decide (100 < (a0_2.size : Int)) = false := decide_eq_false c6
        have c6b1 : decide (100 < a0_2.size) = false := decide_eq_false (by omega)
        clear c6
        by_cases c8 : (l0_3.length : Int) > 30
        · rw [if_pos c8] at H
          have c8b0 : decide (30 < (l0_3.length : Int)) = true := decide_eq_true c8
          have c8b1 : decide (30 < l0_3.length) = true := decide_eq_true (by omega)
          clear c8
          have H' := Aside0.mk H
          clear H
          have hcz9_0 : w3.cell? ⟨gb146, 0, none⟩ = some (.int .i64 a0_0) := (blk_cell BK146.out 0).trans rfl
          have hcz9_1 : w3.cell? ⟨gb146, 1, none⟩ = some (.string a0_1) := (blk_cell BK146.out 1).trans rfl
          have hcz9_2 : w3.cell? ⟨gb146, 2, none⟩ = some (.string a0_2) := (blk_cell BK146.out 2).trans rfl
          have hcz9_3 : w3.cell? ⟨gb146, 3, none⟩ = some (.slice A0_3 l0_3.length c0_3) := (blk_cell BK146.out 3).trans rfl
          have hcz9_4 : w3.cell? ⟨gb146, 4, none⟩ = some (.string a0_4) := (blk_cell BK146.out 4).trans rfl
          have hcz9_5 : w3.cell? ⟨gb146, 5, none⟩ = some (.string a0_5) := (blk_cell BK146.out 5).trans rfl
          have hfz9_0 := blk_frozen BK146.out 0
          have hfz9_1 := blk_frozen BK146.out 1
          have hfz9_2 := blk_frozen BK146.out 2
          have hfz9_3 := blk_frozen BK146.out 3
          have hfz9_4 := blk_frozen BK146.out 4
          have hfz9_5 := blk_frozen BK146.out 5
          go_wp2
          go_meet
          case rel => exact ⟨_, (true), (by first | rfl | (simp; done) | (simp [*]; done)), H', ⟨by first | omega | exact Nat.le_refl _⟩, ⟨by (with_reducible repeat (first | refine blk_drewN ?_ _ | refine blk_drew ?_ | refine blk_alloc ?_ _)); exact BK146.out⟩, ⟨by repeat (first | (with_reducible first | exact HB.out | apply below_alloc | apply pw_below_drewN | apply below_drew1 | refine below_set ?_ GE146.out) | exact HB.out)⟩⟩
        · rw [if_neg c8] at H
          have c8b0 : decide (30 < (l0_3.length : Int)) = false := decide_eq_false c8
          have c8b1 : decide (30 < l0_3.length) = false := decide_eq_false (by omega)
          clear c8
          by_cases c10 : (a0_4.size : Int) > 600
          · rw [if_pos c10] at H
            have c10b0 : decide (600 < (a0_4.size : Int)) = true := decide_eq_true c10
            have c10b1 : decide (600 < a0_4.size) = true := decide_eq_true (by omega)
            clear c10
            have H' := Aside0.mk H
            clear H
            have hcz11_0 : w3.cell? ⟨gb146, 0, none⟩ = some (.int .i64 a0_0) := (blk_cell BK146.out 0).trans rfl
            have hcz11_1 : w3.cell? ⟨gb146, 1, none⟩ = some (.string a0_1) := (blk_cell BK146.out 1).trans rfl
            have hcz11_2 : w3.cell? ⟨gb146, 2, none⟩ = some (.string a0_2) := (blk_cell BK146.out 2).trans rfl
            have hcz11_3 : w3.cell? ⟨gb146, 3, none⟩ = some (.slice A0_3 l0_3.length c0_3) := (blk_cell BK146.out 3).trans rfl
            have hcz11_4 : w3.cell? ⟨gb146, 4, none⟩ = some (.string a0_4) := (blk_cell BK146.out 4).trans rfl
            have hcz11_5 : w3.cell? ⟨gb146, 5, none⟩ = some (.string a0_5) := (blk_cell BK146.out 5).trans rfl
            have hfz11_0 := blk_frozen BK146.out 0
            have hfz11_1 := blk_frozen BK146.out 1
            have hfz11_2 := blk_frozen BK146.out 2
            have hfz11_3 := blk_frozen BK146.out 3
            have hfz11_4 := blk_frozen BK146.out 4
            have hfz11_5 := blk_frozen BK146.out 5
            go_wp2
            go_meet
            case rel => exact ⟨_, (true), (by first | rfl | (simp; done) | (simp [*]; done)), H', ⟨by first | omega | exact Nat.le_refl _⟩, ⟨by (with_reducible repeat (first | refine blk_drewN ?_ _ | refine blk_drew ?_ | refine blk_alloc ?_ _)); exact BK146.out⟩, ⟨by repeat (first | (with_reducible first | exact HB.out | apply below_alloc | apply pw_below_drewN | apply below_drew1 | refine below_set ?_ GE146.out) | exact HB.out)⟩⟩
          · rw [if_neg c10] at H
            have c10b0 : decide (600 < (a0_4.size : Int)) = false := decide_eq_false c10
            have c10b1 : decide (600 < a0_4.size) = false := decide_eq_false (by omega)
            clear c10
            have H' := Aside0.mk H
            clear H
            have hcz12_0 : w3.cell? ⟨gb146, 0, none⟩ = some (.int .i64 a0_0) := (blk_cell BK146.out 0).trans rfl
            have hcz12_1 : w3.cell? ⟨gb146, 1, none⟩ = some (.string a0_1) := (blk_cell BK146.out 1).trans rfl
            have hcz12_2 : w3.cell? ⟨gb146, 2, none⟩ = some (.string a0_2) := (blk_cell BK146.out 2).trans rfl
            have hcz12_3 : w3.cell? ⟨gb146, 3, none⟩ = some (.slice A0_3 l0_3.length c0_3) := (blk_cell BK146.out 3).trans rfl
            have hcz12_4 : w3.cell? ⟨gb146, 4, none⟩ = some (.string a0_4) := (blk_cell BK146.out 4).trans rfl
            have hcz12_5 : w3.cell? ⟨gb146, 5, none⟩ = some (.string a0_5) := (blk_cell BK146.out 5).trans rfl
            have hfz12_0 := blk_frozen BK146.out 0
            have hfz12_1 := blk_frozen BK146.out 1
            have hfz12_2 := blk_frozen BK146.out 2
            have hfz12_3 := blk_frozen BK146.out 3
            have hfz12_4 := blk_frozen BK146.out 4
            have hfz12_5 := blk_frozen BK146.out 5
            go_wp2
            go_meet
            case rel => exact ⟨_, (decide ((a0_5.size : Int) > 5000)), (by first | rfl | (simp; done) | (simp [*]; done)), H', ⟨by first | omega | exact Nat.le_refl _⟩, ⟨by (with_reducible repeat (first | refine blk_drewN ?_ _ | refine blk_drew ?_ | refine blk_alloc ?_ _)); exact BK146.out⟩, ⟨by repeat (first | (with_reducible first | exact HB.out | apply below_alloc | apply pw_below_drewN | apply below_drew1 | refine below_set ?_ GE146.out) | exact HB.out)⟩⟩
  case rest =>
    clear HC2
    try clear c1
    try clear p2
    try clear c4
    try clear c4b0
    try clear c4b1
    try clear c6
    try clear c6b0
    try clear c6b1
    try clear c8
    try clear c8b0
    try clear c8b1
    try clear c10
    try clear c10b0
    try clear c10b1
    try clear hcz11_0
    try clear hcz11_1
    try clear hcz11_2
    try clear hcz11_3
    try clear hcz11_4
    try clear hcz11_5
    try clear hcz12_0
    try clear hcz12_1
    try clear hcz12_2
    try clear hcz12_3
    try clear hcz12_4
    try clear hcz12_5
    try clear hcz5_0
    try clear hcz5_1
    try clear hcz5_2
    try clear hcz5_3
    try clear hcz5_4
    try clear hcz5_5
    try clear hcz7_0
    try clear hcz7_1
    try clear hcz7_2
    try clear hcz7_3
    try clear hcz7_4
    try clear hcz7_5
    try clear hcz9_0
    try clear hcz9_1
    try clear hcz9_2
    try clear hcz9_3
    try clear hcz9_4
    try clear hcz9_5
    try clear hfz11_0
    try clear hfz11_1
    try clear hfz11_2
    try clear hfz11_3
    try clear hfz11_4
    try clear hfz11_5
    try clear hfz12_0
    try clear hfz12_1
    try clear hfz12_2
    try clear hfz12_3
    try clear hfz12_4
    try clear hfz12_5
    try clear hfz5_0
    try clear hfz5_1
    try clear hfz5_2
    try clear hfz5_3
    try clear hfz5_4
    try clear hfz5_5
    try clear hfz7_0
    try clear hfz7_1
    try clear hfz7_2
    try clear hfz7_3
    try clear hfz7_4
    try clear hfz7_5
    try clear hfz9_0
    try clear hfz9_1
    try clear hfz9_2
    try clear hfz9_3
    try clear hfz9_4
    try clear hfz9_5
    obtain ⟨kq, x31_1, rfl, HA, HJ1, BK146, HB⟩ := hcut
    cases kq with
    | zero => exact absurd HA.out (by simp [monticuleref07_Small.j0])
    | succ kj1 =>
      have H := HA.out
      clear HA
      simp only [monticuleref07_Small.j0] at H
      by_cases c13 : x31_1 = true
      · subst c13
        have H1 : (some false) = some r := by rw [if_pos rfl] at H; exact H
        clear H
        have H := H1
        clear H1
        obtain rfl := Option.some.inj H
        go_wp2
        go_ret
        exact ⟨by first | rfl | (simp [errW_none, errW_some] <;> rfl) | (simp [*, errW_none, errW_some] <;> rfl), by repeat (first | (with_reducible first | exact HB.out | apply below_alloc | apply pw_below_drewN | apply below_drew1 | refine below_set ?_ GE146.out) | exact HB.out)⟩
      · replace c13 := Bool.eq_false_iff.mpr c13
        subst c13
        have H1 : (monticuleref07_Small.l0 kj1 0 a0_0 a0_1 a0_2 l0_3 a0_4 a0_5) = some r := by rw [if_neg (show ¬ (false = true) by decide)] at H; exact H
        clear H
        have H := H1
        clear H1
        have H' := Aside0.mk H
        clear H
        go_wp2
        go_loopg [3] kj1 (fun kq v3 w' => ∃ (x3_2 : Int), v3 = .int .i64 x3_2 ∧ Aside0 (monticuleref07_Small.l0 kq x3_2 a0_0 a0_1 a0_2 l0_3 a0_4 a0_5 = some r) ∧ Aside0 (kq ≤ kj1) ∧ Aside0 (w'.heap[gb146]? = some (.cells #[.int .i64 a0_0, .string a0_1, .string a0_2, (.slice A0_3 l0_3.length c0_3), .string a0_4, .string a0_5] 33 (0, 0))) ∧ Aside0 (Below w.heap.size w w'))
        case atStart => exact ⟨(0), (by first | rfl | (simp; done) | (simp [*]; done)), H', ⟨Nat.le_refl _⟩, ⟨by (with_reducible repeat (first | refine blk_drewN ?_ _ | refine blk_drew ?_ | refine blk_alloc ?_ _)); exact BK146.out⟩, ⟨by repeat (first | (with_reducible first | exact HB.out | apply below_alloc | apply pw_below_drewN | apply below_drew1 | refine below_set ?_ GE146.out) | exact HB.out)⟩⟩
        case round =>
          clear H'
          try clear c1
          try clear p2
          try clear c4
          try clear c4b0
          try clear c4b1
          try clear c6
          try clear c6b0
          try clear c6b1
          try clear c8
          try clear c8b0
          try clear c8b1
          try clear c10
          try clear c10b0
          try clear c10b1
          try clear c13
          try clear hcz11_0
          try clear hcz11_1
          try clear hcz11_2
          try clear hcz11_3
          try clear hcz11_4
          try clear hcz11_5
          try clear hcz12_0
          try clear hcz12_1
          try clear hcz12_2
          try clear hcz12_3
          try clear hcz12_4
          try clear hcz12_5
          try clear hcz5_0
          try clear hcz5_1
          try clear hcz5_2
          try clear hcz5_3
          try clear hcz5_4
          try clear hcz5_5
          try clear hcz7_0
          try clear hcz7_1
          try clear hcz7_2
          try clear hcz7_3
          try clear hcz7_4
          try clear hcz7_5
          try clear hcz9_0
          try clear hcz9_1
          try clear hcz9_2
          try clear hcz9_3
          try clear hcz9_4
          try clear hcz9_5
          try clear hfz11_0
          try clear hfz11_1
          try clear hfz11_2
          try clear hfz11_3
          try clear hfz11_4
          try clear hfz11_5
          try clear hfz12_0
          try clear hfz12_1
          try clear hfz12_2
          try clear hfz12_3
          try clear hfz12_4
          try clear hfz12_5
          try clear hfz5_0
          try clear hfz5_1
          try clear hfz5_2
          try clear hfz5_3
          try clear hfz5_4
          try clear hfz5_5
          try clear hfz7_0
          try clear hfz7_1
          try clear hfz7_2
          try clear hfz7_3
          try clear hfz7_4
          try clear hfz7_5
          try clear hfz9_0
          try clear hfz9_1
          try clear hfz9_2
          try clear hfz9_3
          try clear hfz9_4
          try clear hfz9_5
          try clear p2
          obtain ⟨x3_2, rfl, HA, HK2, BK146, HB⟩ := hrel
          cases gk with
          | zero => exact absurd HA.out (by simp [monticuleref07_Small.l0])
          | succ k2 =>
            have H := HA.out
            clear HA
            simp only [monticuleref07_Small.l0] at H
            by_cases c14 : x3_2 < (l0_3.length : Int)
            · rw [if_pos c14] at H
              have c14b0 : decide (x3_2 < (l0_3.length : Int)) = true := decide_eq_true c14
              clear c14
              by_cases c15 : 0 ≤ x3_2
              · rw [if_pos c15] at H
                have c15b0 : decide (0 ≤ x3_2) = true := decide_eq_true c15
                clear c15
                by_cases c16 : ((rdOf ByteArray.empty l0_3 x3_2).size : Int) > 100
                · rw [if_pos c16] at H
                  have c16b0 : decide (100 < ((rdOf ByteArray.empty l0_3 x3_2).size : Int)) = true := decide_eq_true c16
                  have c16b1 : decide (100 < (rdOf ByteArray.empty l0_3 x3_2).size) = true := decide_eq_true (by omega)
                  clear c16
                  obtain rfl := Option.some.inj H
                  have hcz17_0 : wr.cell? ⟨gb146, 0, none⟩ = some (.int .i64 a0_0) := (blk_cell BK146.out 0).trans rfl
                  have hcz17_1 : wr.cell? ⟨gb146, 1, none⟩ = some (.string a0_1) := (blk_cell BK146.out 1).trans rfl
                  have hcz17_2 : wr.cell? ⟨gb146, 2, none⟩ = some (.string a0_2) := (blk_cell BK146.out 2).trans rfl
                  have hcz17_3 : wr.cell? ⟨gb146, 3, none⟩ = some (.slice A0_3 l0_3.length c0_3) := (blk_cell BK146.out 3).trans rfl
                  have hcz17_4 : wr.cell? ⟨gb146, 4, none⟩ = some (.string a0_4) := (blk_cell BK146.out 4).trans rfl
                  have hcz17_5 : wr.cell? ⟨gb146, 5, none⟩ = some (.string a0_5) := (blk_cell BK146.out 5).trans rfl
                  have hfz17_0 := blk_frozen BK146.out 0
                  have hfz17_1 := blk_frozen BK146.out 1
                  have hfz17_2 := blk_frozen BK146.out 2
                  have hfz17_3 := blk_frozen BK146.out 3
                  have hfz17_4 := blk_frozen BK146.out 4
                  have hfz17_5 := blk_frozen BK146.out 5
                  have p147 : 0 ≤ (x3_2 : Int) := of_decide_eq_true (by first | (with_reducible assumption) | assumption)
                  have q147 : x3_2 < (l0_3.length : Int) := of_decide_eq_true (by first | (with_reducible assumption) | assumption)
                  obtain ⟨ad147, e147, hx147_0⟩ := Kd.at_string HR0_3.out x3_2 p147 q147
                  cases e147
                  replace hx147_0 := (HB.out.cell (World.block_lt_of_cell? w _ hx147_0)).trans hx147_0
                  replace p147 := eq_true p147
                  replace q147 := eq_true q147
                  go_wp2
                  go_ret
                  exact ⟨by first | rfl | (simp [errW_none, errW_some] <;> rfl) | (simp [*, errW_none, errW_some] <;> rfl), by repeat (first | (with_reducible first | exact HB.out | apply below_alloc | apply pw_below_drewN | apply below_drew1 | refine below_set ?_ GE146.out) | exact HB.out)⟩
                · rw [if_neg c16] at H
                  have c16b0 : decide (100 < ((rdOf ByteArray.empty l0_3 x3_2).size : Int)) = false := decide_eq_false c16
                  have c16b1 : decide (100 < (rdOf ByteArray.empty l0_3 x3_2).size) = false := decide_eq_false (by omega)
                  clear c16
                  have H' := Aside0.mk H
                  clear H
                  have hcz18_0 : wr.cell? ⟨gb146, 0, none⟩ = some (.int .i64 a0_0) := (blk_cell BK146.out 0).trans rfl
                  have hcz18_1 : wr.cell? ⟨gb146, 1, none⟩ = some (.string a0_1) := (blk_cell BK146.out 1).trans rfl
                  have hcz18_2 : wr.cell? ⟨gb146, 2, none⟩ = some (.string a0_2) := (blk_cell BK146.out 2).trans rfl
                  have hcz18_3 : wr.cell? ⟨gb146, 3, none⟩ = some (.slice A0_3 l0_3.length c0_3) := (blk_cell BK146.out 3).trans rfl
                  have hcz18_4 : wr.cell? ⟨gb146, 4, none⟩ = some (.string a0_4) := (blk_cell BK146.out 4).trans rfl
                  have hcz18_5 : wr.cell? ⟨gb146, 5, none⟩ = some (.string a0_5) := (blk_cell BK146.out 5).trans rfl
                  have hfz18_0 := blk_frozen BK146.out 0
                  have hfz18_1 := blk_frozen BK146.out 1
                  have hfz18_2 := blk_frozen BK146.out 2
                  have hfz18_3 := blk_frozen BK146.out 3
                  have hfz18_4 := blk_frozen BK146.out 4
                  have hfz18_5 := blk_frozen BK146.out 5
                  have p147 : 0 ≤ (x3_2 : Int) := of_decide_eq_true (by first | (with_reducible assumption) | assumption)
                  have q147 : x3_2 < (l0_3.length : Int) := of_decide_eq_true (by first | (with_reducible assumption) | assumption)
                  obtain ⟨ad147, e147, hx147_0⟩ := Kd.at_string HR0_3.out x3_2 p147 q147
                  cases e147
                  replace hx147_0 := (HB.out.cell (World.block_lt_of_cell? w _ hx147_0)).trans hx147_0
                  replace p147 := eq_true p147
                  replace q147 := eq_true q147
                  go_wp2
                  go_roundg k2
                  case measure => have := HJ1.out; have := HK2.out; omega
                  case rel => exact ⟨(wrap64 (x3_2 + 1)), (by first | rfl | (simp; done) | (simp [*]; done)), H', ⟨by have := HJ1.out; have := HK2.out; omega⟩, ⟨by (with_reducible repeat (first | refine blk_drewN ?_ _ | refine blk_drew ?_ | refine blk_alloc ?_ _)); exact BK146.out⟩, ⟨by repeat (first | (with_reducible first | exact HB.out | apply below_alloc | apply pw_below_drewN | apply below_drew1 | refine below_set ?_ GE146.out) | exact HB.out)⟩⟩
              · rw [if_neg c15] at H
                exact absurd H (by simp)
            · rw [if_neg c14] at H
              have c14b0 : decide (x3_2 < (l0_3.length : Int)) = false := decide_eq_false c14
              clear c14
              obtain rfl := Option.some.inj H
              have hcz19_0 : wr.cell? ⟨gb146, 0, none⟩ = some (.int .i64 a0_0) := (blk_cell BK146.out 0).trans rfl
              have hcz19_1 : wr.cell? ⟨gb146, 1, none⟩ = some (.string a0_1) := (blk_cell BK146.out 1).trans rfl
              have hcz19_2 : wr.cell? ⟨gb146, 2, none⟩ = some (.string a0_2) := (blk_cell BK146.out 2).trans rfl
              have hcz19_3 : wr.cell? ⟨gb146, 3, none⟩ = some (.slice A0_3 l0_3.length c0_3) := (blk_cell BK146.out 3).trans rfl
              have hcz19_4 : wr.cell? ⟨gb146, 4, none⟩ = some (.string a0_4) := (blk_cell BK146.out 4).trans rfl
              have hcz19_5 : wr.cell? ⟨gb146, 5, none⟩ = some (.string a0_5) := (blk_cell BK146.out 5).trans rfl
              have hfz19_0 := blk_frozen BK146.out 0
              have hfz19_1 := blk_frozen BK146.out 1
              have hfz19_2 := blk_frozen BK146.out 2
              have hfz19_3 := blk_frozen BK146.out 3
              have hfz19_4 := blk_frozen BK146.out 4
              have hfz19_5 := blk_frozen BK146.out 5
              go_wp2
              go_ret
              exact ⟨by first | rfl | (simp [errW_none, errW_some] <;> rfl) | (simp [*, errW_none, errW_some] <;> rfl), by repeat (first | (with_reducible first | exact HB.out | apply below_alloc | apply pw_below_drewN | apply below_drew1 | refine below_set ?_ GE146.out) | exact HB.out)⟩

end Go.Proofs.YtodpdlpncgkkdaaGreatDoor.P
end
section
namespace Go.Proofs.YtodpdlpncgkkdaaGreatDoor.P
open Go.RowKit Go.Proofs.YtodpdlpncgkkdaaGreatDoorW.PrintWords Go.Proofs.YtodpdlpncgkkdaaGreatDoorW.PrintLast Go.Proofs.YtodpdlpncgkkdaaGreatDoorW.PrintMore
attribute [local go_sem] max2_int min2_int max_two min_two max_three min_three max_four min_four   -- for this text's walks alone
set_option linter.unusedVariables false
set_option linter.unusedSimpArgs false

/-! ### monticuleref07_Few: function 19 -/
def monticuleref07_Few.l0 : Nat → List (S33) → Int → Option (Bool)
  | 0, _, _ => none
  | k + 1, x0, x5 => if x5 < (x0.length : Int) then (if 0 ≤ x5 then ((monticuleref07_Small.f k ((rd_T33 x0 x5).f0) ((rd_T33 x0 x5).f1) ((rd_T33 x0 x5).f2) ((rd_T33 x0 x5).f3) ((rd_T33 x0 x5).f4) ((rd_T33 x0 x5).f5)).bind fun t149 => (if t149 = true then (monticuleref07_Few.l0 k x0 (wrap64 (x5 + 1))) else (some false))) else (none)) else (some true)
def monticuleref07_Few.f (k : Nat) (l0 : List (S33)) (a1 : Int) : Option (Bool) := if (l0.length : Int) > a1 then (some false) else (monticuleref07_Few.l0 k l0 0)
theorem monticuleref07_Few.mono_l : ∀ k, (∀ y0 y1, LeO (monticuleref07_Few.l0 k y0 y1) (monticuleref07_Few.l0 (k + 1) y0 y1))
  | 0 => fun _ _ r h => by simp [monticuleref07_Few.l0] at h
  | k + 1 => by
    have ih0 := monticuleref07_Few.mono_l k
    · intro y0 y1
      unfold monticuleref07_Few.l0
      repeat' first
      | (with_reducible exact ih0 _ _)
      | (with_reducible exact monticuleref07_Small.mono _ _ _ _ _ _ _)
      | (with_reducible exact LeO.refl _)
      | (with_reducible exact LeO.none _)
      | (with_reducible refine LeO.ite ?_ ?_)
      | (with_reducible refine LeO.bind ?_ (fun _ => ?_))
      | exact ih0 _ _
      | exact monticuleref07_Small.mono _ _ _ _ _ _ _
      | exact LeO.none _
      | refine LeO.ite ?_ ?_
      | refine LeO.bind ?_ (fun _ => ?_)
theorem monticuleref07_Few.mono : ∀ a0 a1 k, LeO (monticuleref07_Few.f k a0 a1) (monticuleref07_Few.f (k + 1) a0 a1) := by
  intro a0 a1 k
  have ih0 := monticuleref07_Few.mono_l k
  unfold monticuleref07_Few.f
  repeat' first
      | (with_reducible exact ih0 _ _)
      | (with_reducible exact monticuleref07_Small.mono _ _ _ _ _ _ _)
      | (with_reducible exact LeO.refl _)
      | (with_reducible exact LeO.none _)
      | (with_reducible refine LeO.ite ?_ ?_)
      | (with_reducible refine LeO.bind ?_ (fun _ => ?_))
      | exact ih0 _ _
      | exact monticuleref07_Small.mono _ _ _ _ _ _ _
      | exact LeO.none _
      | refine LeO.ite ?_ ?_
      | refine LeO.bind ?_ (fun _ => ?_)
set_option maxHeartbeats 8000000 in
set_option maxRecDepth 100000 in
theorem monticuleref07_Few.calls (k : Nat) (A0 : Option Addr) (c0 : Nat) (l0 : List (S33)) (a1 : Int) (r : Bool) (w : World) (hr0 : Kd.C k33 w A0 l0.length l0) (hc0 : l0.length ≤ c0) (h : monticuleref07_Few.f k l0 a1 = some r) :
    Calls Tryz.prog 19 #[.slice A0 l0.length c0, .int .i64 a1] w fun e w' => e = .returned (.bool r) ∧ Below w.heap.size w w' := by
  have hu33 := Tryz.underlying33
  have HR0 := Aside0.mk hr0
  have HC0 := Aside0.mk hc0
  clear hr0 hc0
  have HB := Aside0.mk (Below.refl w.heap.size w)
  have H : (if (l0.length : Int) > a1 then (some false) else (monticuleref07_Few.l0 k l0 0)) = some r := h
  clear h
  by_cases c3 : (l0.length : Int) > a1
  · rw [if_pos c3] at H
    have c3b0 : decide (a1 < (l0.length : Int)) = true := decide_eq_true c3
    clear c3
    obtain rfl := Option.some.inj H
    go_enter Tryz.func19, Tryz.ntmps19
    go_wp2
    go_ret
    exact ⟨by first | rfl | (simp [errW_none, errW_some] <;> rfl) | (simp [*, errW_none, errW_some] <;> rfl), by repeat (first | (with_reducible first | exact HB.out | apply below_alloc | apply pw_below_drewN | apply below_drew1) | exact HB.out)⟩
  · rw [if_neg c3] at H
    have c3b0 : decide (a1 < (l0.length : Int)) = false := decide_eq_false c3
    clear c3
    have H' := Aside0.mk H
    clear H
    go_enter Tryz.func19, Tryz.ntmps19
    go_wp2
    go_loopg [5] k (fun kq v5 w' => ∃ (x5_1 : Int), v5 = .int .i64 x5_1 ∧ Aside0 (monticuleref07_Few.l0 kq l0 x5_1 = some r) ∧ Aside0 (kq ≤ k) ∧ Aside0 (Below w.heap.size w w'))
    case atStart => exact ⟨(0), (by first | rfl | (simp; done) | (simp [*]; done)), H', ⟨Nat.le_refl _⟩, ⟨by repeat (first | (with_reducible first | exact HB.out | apply below_alloc | apply pw_below_drewN | apply below_drew1) | exact HB.out)⟩⟩
    case round =>
      clear H'
      try clear c1
      try clear p2
      try clear c3
      try clear c3b0
      obtain ⟨x5_1, rfl, HA, HK1, HB⟩ := hrel
      cases gk with
      | zero => exact absurd HA.out (by simp [monticuleref07_Few.l0])
      | succ k1 =>
        have H := HA.out
        clear HA
        simp only [monticuleref07_Few.l0] at H
        by_cases c4 : x5_1 < (l0.length : Int)
        · rw [if_pos c4] at H
          have c4b0 : decide (x5_1 < (l0.length : Int)) = true := decide_eq_true c4
          clear c4
          by_cases c5 : 0 ≤ x5_1
          · rw [if_pos c5] at H
            have c5b0 : decide (0 ≤ x5_1) = true := decide_eq_true c5
            clear c5
            replace H := Option.bind_eq_some_iff.mp H
            obtain ⟨t149, A60, H⟩ := H
            replace H : (if t149 = true then (monticuleref07_Few.l0 k1 l0 (wrap64 (x5_1 + 1))) else (some false)) = some r := H
            have A6 := Aside0.mk A60
            clear A60
            by_cases c7 : t149 = true
            · subst c7
              have H1 : (monticuleref07_Few.l0 k1 l0 (wrap64 (x5_1 + 1))) = some r := by rw [if_pos rfl] at H; exact H
              clear H
              have H := H1
              clear H1
              have H' := Aside0.mk H
              clear H
              have p148 : 0 ≤ (x5_1 : Int) := of_decide_eq_true (by first | (with_reducible assumption) | assumption)
              have q148 : x5_1 < (l0.length : Int) := of_decide_eq_true (by first | (with_reducible assumption) | assumption)
              obtain ⟨ad148, A148_3, c148_3, e148, hx148_0, hx148_1, hx148_2, hx148_3, hx148_4, hx148_5, hl148_3, hi148_3⟩ := at_T33 HR0.out x5_1 p148 q148
              cases e148
              replace hx148_0 := (HB.out.cell (World.block_lt_of_cell? w _ hx148_0)).trans hx148_0
              replace hx148_1 := (HB.out.cell (World.block_lt_of_cell? w _ hx148_1)).trans hx148_1
              replace hx148_2 := (HB.out.cell (World.block_lt_of_cell? w _ hx148_2)).trans hx148_2
              replace hx148_3 := (HB.out.cell (World.block_lt_of_cell? w _ hx148_3)).trans hx148_3
              replace hx148_4 := (HB.out.cell (World.block_lt_of_cell? w _ hx148_4)).trans hx148_4
              replace hx148_5 := (HB.out.cell (World.block_lt_of_cell? w _ hx148_5)).trans hx148_5
              have HR148_3 := Aside0.mk hi148_3
              have HC148_3 := Aside0.mk hl148_3
              clear hi148_3 hl148_3
              replace p148 := eq_true p148
              replace q148 := eq_true q148
              go_wp2_with (first | ((with_reducible refine gate_callee (f := 86) rfl ?_); refine goesL_ (some 20) rfl rfl Tryz.func86 (by kernel_rfl) rfl #[.agg #[.int .i64 ((rd_T33 l0 x5_1).f0), .string ((rd_T33 l0 x5_1).f1), .string ((rd_T33 l0 x5_1).f2), .slice A148_3 ((rd_T33 l0 x5_1).f3).length c148_3, .string ((rd_T33 l0 x5_1).f4), .string ((rd_T33 l0 x5_1).f5)]] rfl (by (try simp only [List.map_toArray, List.map_cons, List.map_nil]); first | done | rfl | (simp only [List.length_drop, List.length_take]; rfl)) ?_; (with_reducible refine (monticuleref07_Small.calls k1 ((rd_T33 l0 x5_1).f0) ((rd_T33 l0 x5_1).f1) ((rd_T33 l0 x5_1).f2) _ _ ((rd_T33 l0 x5_1).f3) ((rd_T33 l0 x5_1).f4) ((rd_T33 l0 x5_1).f5) true _ ?side1 ?side2 A6.out).mono ?_); (case side1 => repeat (first | exact (Kd.C_below HR148_3.out HB.out) | (with_reducible refine Kd.C_alloc ?_ _) | (with_reducible refine Kd.C_drewN ?_ _) | (with_reducible refine Kd.C_drew ?_))); (case side2 => exact HC148_3.out); rintro e w8 ⟨rfl, hb⟩; refine ⟨_, rfl, ?_⟩; have n0_ := Aside0.mk (below_step (by repeat (first | (with_reducible first | exact HB.out | apply below_alloc | apply pw_below_drewN | apply below_drew1) | exact HB.out)) hb); clear HB; have HB := n0_; clear n0_; (try clear hb); (try clear hb2); (try clear hk); (try clear hi)))
              go_roundg k1
              case measure => have := HK1.out; omega
              case rel => exact ⟨(wrap64 (x5_1 + 1)), (by first | rfl | (simp; done) | (simp [*]; done)), H', ⟨by have := HK1.out; omega⟩, ⟨by repeat (first | (with_reducible first | exact HB.out | apply below_alloc | apply pw_below_drewN | apply below_drew1) | exact HB.out)⟩⟩
            · replace c7 := Bool.eq_false_iff.mpr c7
              subst c7
              have H1 : (some false) = some r := by rw [if_neg (show ¬ (false = true) by decide)] at H; exact H
              clear H
              have H := H1
              clear H1
              obtain rfl := Option.some.inj H
              have p148 : 0 ≤ (x5_1 : Int) := of_decide_eq_true (by first | (with_reducible assumption) | assumption)
              have q148 : x5_1 < (l0.length : Int) := of_decide_eq_true (by first | (with_reducible assumption) | assumption)
              obtain ⟨ad148, A148_3, c148_3, e148, hx148_0, hx148_1, hx148_2, hx148_3, hx148_4, hx148_5, hl148_3, hi148_3⟩ := at_T33 HR0.out x5_1 p148 q148
              cases e148
              replace hx148_0 := (HB.out.cell (World.block_lt_of_cell? w _ hx148_0)).trans hx148_0
              replace hx148_1 := (HB.out.cell (World.block_lt_of_cell? w _ hx148_1)).trans hx148_1
              replace hx148_2 := (HB.out.cell (World.block_lt_of_cell? w _ hx148_2)).trans hx148_2
              replace hx148_3 := (HB.out.cell (World.block_lt_of_cell? w _ hx148_3)).trans hx148_3
              replace hx148_4 := (HB.out.cell (World.block_lt_of_cell? w _ hx148_4)).trans hx148_4
              replace hx148_5 := (HB.out.cell (World.block_lt_of_cell? w _ hx148_5)).trans hx148_5
              have HR148_3 := Aside0.mk hi148_3
              have HC148_3 := Aside0.mk hl148_3
              clear hi148_3 hl148_3
              replace p148 := eq_true p148
              replace q148 := eq_true q148
              go_wp2_with (first | ((with_reducible refine gate_callee (f := 86) rfl ?_); refine goesL_ (some 20) rfl rfl Tryz.func86 (by kernel_rfl) rfl #[.agg #[.int .i64 ((rd_T33 l0 x5_1).f0), .string ((rd_T33 l0 x5_1).f1), .string ((rd_T33 l0 x5_1).f2), .slice A148_3 ((rd_T33 l0 x5_1).f3).length c148_3, .string ((rd_T33 l0 x5_1).f4), .string ((rd_T33 l0 x5_1).f5)]] rfl (by (try simp only [List.map_toArray, List.map_cons, List.map_nil]); first | done | rfl | (simp only [List.length_drop, List.length_take]; rfl)) ?_; (with_reducible refine (monticuleref07_Small.calls k1 ((rd_T33 l0 x5_1).f0) ((rd_T33 l0 x5_1).f1) ((rd_T33 l0 x5_1).f2) _ _ ((rd_T33 l0 x5_1).f3) ((rd_T33 l0 x5_1).f4) ((rd_T33 l0 x5_1).f5) false _ ?side1 ?side2 A6.out).mono ?_); (case side1 => repeat (first | exact (Kd.C_below HR148_3.out HB.out) | (with_reducible refine Kd.C_alloc ?_ _) | (with_reducible refine Kd.C_drewN ?_ _) | (with_reducible refine Kd.C_drew ?_))); (case side2 => exact HC148_3.out); rintro e w9 ⟨rfl, hb⟩; refine ⟨_, rfl, ?_⟩; have n0_ := Aside0.mk (below_step (by repeat (first | (with_reducible first | exact HB.out | apply below_alloc | apply pw_below_drewN | apply below_drew1) | exact HB.out)) hb); clear HB; have HB := n0_; clear n0_; (try clear hb); (try clear hb2); (try clear hk); (try clear hi)))
              go_ret
              exact ⟨by first | rfl | (simp [errW_none, errW_some] <;> rfl) | (simp [*, errW_none, errW_some] <;> rfl), by repeat (first | (with_reducible first | exact HB.out | apply below_alloc | apply pw_below_drewN | apply below_drew1) | exact HB.out)⟩
          · rw [if_neg c5] at H
            exact absurd H (by simp)
        · rw [if_neg c4] at H
          have c4b0 : decide (x5_1 < (l0.length : Int)) = false := decide_eq_false c4
          clear c4
          obtain rfl := Option.some.inj H
          go_wp2
          go_ret
          exact ⟨by first | rfl | (simp [errW_none, errW_some] <;> rfl) | (simp [*, errW_none, errW_some] <;> rfl), by repeat (first | (with_reducible first | exact HB.out | apply below_alloc | apply pw_below_drewN | apply below_drew1) | exact HB.out)⟩

end Go.Proofs.YtodpdlpncgkkdaaGreatDoor.P
end
section
namespace Go.Proofs.YtodpdlpncgkkdaaGreatDoor
open Go.RowKit Go.Proofs.YtodpdlpncgkkdaaGreatDoorW.PrintWords Go.Shelf

/-- No text of a definition is too long for the reference to be told. -/
def Told (d : Def) : Prop := d.f1.size ≤ 4294967280 ∧ d.f2.size ≤ 4294967280 ∧ (∀ t ∈ d.f3, t.size ≤ 4294967280) ∧ d.f3.length ≤ 4294967280 ∧ d.f4.size ≤ 4294967280 ∧ d.f5.size ≤ 4294967280
/-- The tests behind the variables. -/
def classRest (d : Def) : Bool := !hasText alwaysL d.f1 && isClass d.f2 && decide (d.f3.length ≤ 20) && decide (d.f4 = ByteArray.empty) && decide (d.f5 = ByteArray.empty)
theorem refVars_loop (d : Def) (hd : Told d) : ∀ n i : Nat, i ≤ d.f3.length → d.f3.length - i = n →
    ∃ K, ∀ k, K ≤ k → P.monticuleref07_Right.l0 k (i : Int) d.f0 d.f1 d.f2 d.f3 d.f4 d.f5 = some (((List.range d.f3.length).drop i).all (varAt d.f3) && classRest d) := by
  obtain ⟨h1, h2, h3, h3l, h4, h5⟩ := hd
  intro n
  induction n with
  | zero =>
    intro i hi hn
    obtain ⟨K1, hK1⟩ := refAlways_f d.f1
    obtain ⟨K2, hK2⟩ := refClass_f d.f2 (by omega)
    refine ⟨max K1 K2 + 1, fun k hk => ?_⟩
    obtain ⟨k, rfl⟩ : ∃ m, k = m + 1 := ⟨k - 1, by omega⟩
    simp only [P.monticuleref07_Right.l0]
    rw [if_neg (by omega), hK1 k (by omega), hK2 k (by omega), List.drop_eq_nil_of_le (by simp; omega)]
    simp only [Option.bind_some, List.all_nil, Bool.true_and, classRest, empty_beq, empty_toList]
    cases hasText alwaysL d.f1
    · cases isClass d.f2
      · simp
      · by_cases hl : d.f3.length ≤ 20
        · rw [if_neg (by decide), if_pos rfl, if_pos (by omega)]
          by_cases he : d.f4 = ByteArray.empty
          · simp [he, hl]
          · simp [he, hl]
        · rw [if_neg (by decide), if_pos rfl, if_neg (by omega)]
          simp [hl]
    · simp
  | succ n ih =>
    intro i hi hn
    have hlt : i < d.f3.length := by omega
    have hrd : rdOf ByteArray.empty d.f3 (i : Int) = d.f3[i] := by simp [rdOf, hlt]
    have hcast : ((i : Int) + 1) = ((i + 1 : Nat) : Int) := by omega
    have hw : wrap64 ((i : Int) + 1) = ((i + 1 : Nat) : Int) := by rw [wrap_up (by omega) (n := d.f3.length) (by omega) (by omega), hcast]
    obtain ⟨K1, hK1⟩ := refVar_f d.f3[i] (by have := h3 _ (List.getElem_mem hlt); omega)
    obtain ⟨K2, hK2⟩ := refIn_f (d.f3.take i) d.f3[i] (by simp; omega)
    obtain ⟨K3, hK3⟩ := ih (i + 1) (by omega) (by omega)
    refine ⟨max K1 (max K2 K3) + 1, fun k hk => ?_⟩
    obtain ⟨k, rfl⟩ : ∃ m, k = m + 1 := ⟨k - 1, by omega⟩
    have hdr : (List.range d.f3.length).drop i = i :: (List.range d.f3.length).drop (i + 1) := by
      rw [List.drop_eq_getElem_cons (by simpa using hlt)]
      simp
    have hva : varAt d.f3 i = (varName d.f3[i] && !hasText (d.f3.take i) d.f3[i]) := by unfold varAt; rw [hrd]
    simp only [P.monticuleref07_Right.l0]
    rw [if_pos (by omega), if_pos (by omega), hrd, hK1 k (by omega), hdr, List.all_cons, hva]
    simp only [Option.bind_some]
    cases varName d.f3[i]
    · simp
    · rw [if_pos rfl, if_pos (by omega), Int.toNat_natCast, hK2 k (by omega)]
      simp only [Option.bind_some]
      cases hasText (d.f3.take i) d.f3[i]
      · rw [if_neg (by decide), hw, hK3 k (by omega)]
        simp
      · simp
theorem kindOf_ge (s : ByteArray) : kindOf s = 0 ∨ kindOf s > 0 := by
  unfold kindOf
  split
  · right; decide
  · split
    · right; decide
    · split
      · right; decide
      · left; rfl
theorem refRight_f (d : Def) (hd : Told d) : ∃ K, ∀ k, K ≤ k → P.monticuleref07_Right.f k d.f0 d.f1 d.f2 d.f3 d.f4 d.f5 = some (defRight d) := by
  obtain ⟨K1, hK1⟩ := refClass_f d.f1 (by have := hd.1; omega)
  obtain ⟨K2, hK2⟩ := refVars_loop d hd d.f3.length 0 (Nat.zero_le _) (by omega)
  obtain ⟨K3, hK3⟩ := refKind_f d.f4 (by have := hd.2.2.2.2.1; omega)
  refine ⟨max K1 (max K2 K3), fun k hk => ?_⟩
  unfold P.monticuleref07_Right.f defRight
  rw [hK1 k (by omega)]
  simp only [Option.bind_some]
  have h2 : P.monticuleref07_Right.l0 k 0 d.f0 d.f1 d.f2 d.f3 d.f4 d.f5 = _ := hK2 k (by omega)
  rw [h2, hK3 k (by omega)]
  simp only [List.drop_zero, Option.bind_some, empty_beq, empty_toList]
  cases hc : isClass d.f1
  · simp
  · rw [if_pos rfl]
    by_cases h1 : d.f0 = 1
    · rw [if_pos h1, if_pos h1]
      unfold varsOk classRest
      congr 1
      cases (List.range d.f3.length).all (varAt d.f3) <;> cases hasText alwaysL d.f1 <;> cases isClass d.f2 <;> simp
    · rw [if_neg h1, if_neg h1]
      by_cases hk2 : d.f0 = 2
      · rw [if_pos hk2, if_pos hk2]
        have hl0 : ((d.f3.length : Int) == 0) = decide (d.f3.length = 0) := by rw [Bool.eq_iff_iff]; simp
        rcases kindOf_ge d.f4 with hz | hz
        · rw [if_neg (by omega)]; simp [hz]
        · rw [if_pos hz]
          have hz' : decide (kindOf d.f4 ≠ 0) = true := by simp; omega
          rw [hz', hl0]
          by_cases h5 : d.f5.size ≤ 4000
          · rw [if_pos (by omega)]
            by_cases he : d.f2 = ByteArray.empty
            · simp [he, h5]
            · simp [he]
          · rw [if_neg (by omega)]; simp [h5]
      · rw [if_neg hk2, if_neg hk2]
theorem refKey_f (d : Def) (hd : Told d) : ∃ K, ∀ k, K ≤ k → P.monticuleref07_Key.f k d.f0 d.f1 d.f2 d.f3 d.f4 d.f5 = some (defKey d) := by
  obtain ⟨K1, hK1⟩ := refRight_f d hd
  refine ⟨K1, fun k hk => ?_⟩
  unfold P.monticuleref07_Key.f defKey
  rw [hK1 k hk]
  simp only [Option.bind_some]
  cases defRight d
  · rfl
  · rw [if_pos rfl, if_pos rfl]
    by_cases h1 : d.f0 = 1
    · rw [if_pos h1, if_pos h1]
    · have h2 : (⟨#[62, 62]⟩ : ByteArray).size = 2 := rfl
      have := hd.1
      have := hd.2.2.2.2.1
      rw [if_neg h1, if_neg h1, if_pos (by omega), if_pos (by rw [ByteArray.size_append]; omega)]
/-- Isn't a definition too great? -/
def smallD (d : Def) : Bool := decide (d.f1.size ≤ 100 ∧ d.f2.size ≤ 100 ∧ d.f3.length ≤ 30 ∧ d.f4.size ≤ 600 ∧ d.f5.size ≤ 5000) && d.f3.all fun t => decide (t.size ≤ 100)
theorem refSmall_loop (d : Def) (hl : d.f3.length ≤ 9223372036854775807) : ∀ n i : Nat, i ≤ d.f3.length → d.f3.length - i = n →
    ∃ K, ∀ k, K ≤ k → P.monticuleref07_Small.l0 k (i : Int) d.f0 d.f1 d.f2 d.f3 d.f4 d.f5 = some ((d.f3.drop i).all fun t => decide (t.size ≤ 100)) := by
  intro n
  induction n with
  | zero =>
    intro i hi hn
    refine ⟨1, fun k hk => ?_⟩
    obtain ⟨k, rfl⟩ : ∃ m, k = m + 1 := ⟨k - 1, by omega⟩
    simp only [P.monticuleref07_Small.l0]
    rw [if_neg (by omega), List.drop_eq_nil_of_le (by omega)]
    rfl
  | succ n ih =>
    intro i hi hn
    have hlt : i < d.f3.length := by omega
    have hrd : rdOf ByteArray.empty d.f3 (i : Int) = d.f3[i] := by simp [rdOf, hlt]
    have hcast : ((i : Int) + 1) = ((i + 1 : Nat) : Int) := by omega
    have hw : wrap64 ((i : Int) + 1) = ((i + 1 : Nat) : Int) := by rw [wrap_up (by omega) (n := d.f3.length) (by omega) (by omega), hcast]
    obtain ⟨K3, hK3⟩ := ih (i + 1) (by omega) (by omega)
    refine ⟨K3 + 1, fun k hk => ?_⟩
    obtain ⟨k, rfl⟩ : ∃ m, k = m + 1 := ⟨k - 1, by omega⟩
    simp only [P.monticuleref07_Small.l0]
    rw [if_pos (by omega), if_pos (by omega), hrd, hw, hK3 k (by omega), List.drop_eq_getElem_cons hlt, List.all_cons]
    by_cases h : d.f3[i].size ≤ 100
    · rw [if_neg (by omega)]; simp [h]
    · rw [if_pos (by omega)]; simp [h]
theorem refSmall_f (d : Def) (hl : d.f3.length ≤ 9223372036854775807) : ∃ K, ∀ k, K ≤ k → P.monticuleref07_Small.f k d.f0 d.f1 d.f2 d.f3 d.f4 d.f5 = some (smallD d) := by
  obtain ⟨K, hK⟩ := refSmall_loop d hl d.f3.length 0 (Nat.zero_le _) (by omega)
  have j0 : ∀ k b, K ≤ k → P.monticuleref07_Small.j0 (k + 1) b d.f0 d.f1 d.f2 d.f3 d.f4 d.f5 = some (!b && d.f3.all fun t => decide (t.size ≤ 100)) := by
    intro k b hk
    simp only [P.monticuleref07_Small.j0]
    have h2 : P.monticuleref07_Small.l0 k 0 d.f0 d.f1 d.f2 d.f3 d.f4 d.f5 = _ := hK k hk
    rw [h2]
    cases b <;> simp
  refine ⟨K + 1, fun k hk => ?_⟩
  obtain ⟨k, rfl⟩ : ∃ m, k = m + 1 := ⟨k - 1, by omega⟩
  unfold P.monticuleref07_Small.f smallD
  rw [j0 k true (by omega), j0 k _ (by omega)]
  by_cases h1 : d.f1.size ≤ 100
  · rw [if_neg (by omega)]
    by_cases h2 : d.f2.size ≤ 100
    · rw [if_neg (by omega)]
      by_cases h3 : d.f3.length ≤ 30
      · rw [if_neg (by omega)]
        by_cases h4 : d.f4.size ≤ 600
        · rw [if_neg (by omega)]
          congr 2
          rw [Bool.eq_iff_iff]
          simp
          omega
        · rw [if_pos (by omega)]; simp [h4]
      · rw [if_pos (by omega)]; simp [h3]
    · rw [if_pos (by omega)]; simp [h2]
  · rw [if_pos (by omega)]; simp [h1]
theorem refFew_loop (l : List Def) (hl : l.length ≤ 9223372036854775807) (hs : ∀ d ∈ l, d.f3.length ≤ 9223372036854775807) : ∀ n i : Nat, i ≤ l.length → l.length - i = n →
    ∃ K, ∀ k, K ≤ k → P.monticuleref07_Few.l0 k l (i : Int) = some ((l.drop i).all smallD) := by
  intro n
  induction n with
  | zero =>
    intro i hi hn
    refine ⟨1, fun k hk => ?_⟩
    obtain ⟨k, rfl⟩ : ∃ m, k = m + 1 := ⟨k - 1, by omega⟩
    simp only [P.monticuleref07_Few.l0]
    rw [if_neg (by omega), List.drop_eq_nil_of_le (by omega)]
    rfl
  | succ n ih =>
    intro i hi hn
    have hlt : i < l.length := by omega
    have hrd : P.rd_T33 l (i : Int) = l[i] := by simp [P.rd_T33, hlt]
    have hcast : ((i : Int) + 1) = ((i + 1 : Nat) : Int) := by omega
    have hw : wrap64 ((i : Int) + 1) = ((i + 1 : Nat) : Int) := by rw [wrap_up (by omega) (n := l.length) (by omega) (by omega), hcast]
    obtain ⟨K1, hK1⟩ := refSmall_f l[i] (hs _ (List.getElem_mem hlt))
    obtain ⟨K3, hK3⟩ := ih (i + 1) (by omega) (by omega)
    refine ⟨max K1 K3 + 1, fun k hk => ?_⟩
    obtain ⟨k, rfl⟩ : ∃ m, k = m + 1 := ⟨k - 1, by omega⟩
    simp only [P.monticuleref07_Few.l0]
    rw [if_pos (by omega), if_pos (by omega), hrd, hw, hK3 k (by omega), hK1 k (by omega), List.drop_eq_getElem_cons hlt, List.all_cons]
    simp only [Option.bind_some]
    cases smallD l[i] <;> simp
def fewD (l : List Def) (n : Nat) : Bool := decide (l.length ≤ n) && l.all smallD
theorem refFew_f (l : List Def) (n : Nat) (hl : l.length ≤ 9223372036854775807) (hs : ∀ d ∈ l, d.f3.length ≤ 9223372036854775807) : ∃ K, ∀ k, K ≤ k → P.monticuleref07_Few.f k l (n : Int) = some (fewD l n) := by
  obtain ⟨K, hK⟩ := refFew_loop l hl hs l.length 0 (Nat.zero_le _) (by omega)
  refine ⟨K, fun k hk => ?_⟩
  have h2 : P.monticuleref07_Few.l0 k l 0 = _ := hK k hk
  unfold P.monticuleref07_Few.f fewD
  rw [h2]
  by_cases h : l.length ≤ n
  · rw [if_neg (by omega)]; simp [h]
  · rw [if_pos (by omega)]; simp [h]
theorem small_told {d : Def} (h : smallD d = true) : Told d := by
  simp only [smallD, Bool.and_eq_true, decide_eq_true_eq, List.all_eq_true] at h
  obtain ⟨⟨h1, h2, h3, h4, h5⟩, h6⟩ := h
  exact ⟨by omega, by omega, fun t ht => by have := h6 t ht; omega, by omega, by omega, by omega⟩
end Go.Proofs.YtodpdlpncgkkdaaGreatDoor
end
section
namespace Go.Proofs.YtodpdlpncgkkdaaGreatDoor
open Go.RowKit Go.Proofs.YtodpdlpncgkkdaaGreatDoorW.PrintWords Go.Shelf Go.Maps

/-- A definition into its place. -/
def mins (x : List UInt8 × Def) : Keyed2 → Keyed2
  | [] => [x]
  | y :: r => if bytesBefore x.1 y.1 = true then x :: y :: r else y :: mins x r
def mput (m : Keyed2) (k : List UInt8) (d : Def) : Keyed2 := mins (k, d) (m.filter fun p => !(p.1 == k))
theorem sd_insert (x : List UInt8 × Def) : ∀ m : Keyed2, DataW.insert (Lit.string x.1, DataW.held x.2) (m.map fun p => (Lit.string p.1, DataW.held p.2)) = (mins x m).map fun p => (Lit.string p.1, DataW.held p.2)
  | [] => rfl
  | y :: r => by
    by_cases h : bytesBefore x.1 y.1 = true
    · simp [DataW.insert, mins, Lit.before, h]
    · simp [DataW.insert, mins, Lit.before, h]
      exact sd_insert x r
theorem sd_put (m : Keyed2) (k : List UInt8) (d : Def) : (sd m).put (.string k) (.held d) = sd (mput m k d) := by
  unfold sd mput DataW.put
  simp only [List.filter_map]
  have e : ((fun p : Lit × DataW Def => !p.1.sameKey (.string k)) ∘ fun p : List UInt8 × Def => (Lit.string p.1, DataW.held p.2)) = fun p => !(p.1 == k) := rfl
  rw [e, sd_insert (k, d)]

/-- What New makes of the definitions that are left. -/
def newFrom (m : Keyed2) : List Def → Option Keyed2 × Int
  | [] => (some m, 0)
  | d :: l => if defKey d = ByteArray.empty then (none, 31) else if mhas m (defKey d).data.toList = true then (none, 45) else if m.length = 500 then (none, 21) else newFrom (mput m (defKey d).data.toList d) l
def SnapRes (w' : World) (v : Value) : Option Keyed2 → Prop
  | some m => v ≠ .pointer none ∧ SnapAt w' v m
  | none => v = .pointer none

theorem box6 {w : World} {b : Nat} {a0 a1 a2 a3 a4 a5 : Value} {t : TypeId} (h : w.heap[b]? = some (.cells #[a0, a1, a2, a3, a4, a5] t (0, 0))) :
    w.cell? ⟨b, 0, none⟩ = some a0 ∧ w.cell? ⟨b, 1, none⟩ = some a1 ∧ w.cell? ⟨b, 2, none⟩ = some a2 ∧ w.cell? ⟨b, 3, none⟩ = some a3 ∧ w.cell? ⟨b, 4, none⟩ = some a4 ∧ w.cell? ⟨b, 5, none⟩ = some a5 := by
  simp [World.cell?, h]
theorem defKey_le (d : Def) (hs : d.f4.size < 4294967281) : (defKey d).size ≤ maxLen := by
  have h2 : (⟨#[62, 62]⟩ : ByteArray).size = 2 := rfl
  have h0 : ByteArray.empty.size = 0 := rfl
  unfold maxLen defKey
  split
  · rename_i hr
    have hsz := isClass_le (right_class hr)
    split
    · omega
    · simp only [ByteArray.size_append]; omega
  · omega
theorem mins_length (x : List UInt8 × Def) : ∀ m : Keyed2, (mins x m).length = m.length + 1
  | [] => rfl
  | y :: r => by
    unfold mins
    split
    · rfl
    · simp [mins_length x r]
theorem mput_length (m : Keyed2) (k : List UInt8) (d : Def) : (mput m k d).length ≤ m.length + 1 := by
  unfold mput
  rw [mins_length]
  have := List.length_filter_le (fun p : List UInt8 × Def => !(p.1 == k)) m
  omega
theorem cell_turned {w w' : World} {b : Nat} (h : w.mapTurned w' b) {a : Addr} {v : Value} (hc : w.cell? a = some v) : w'.cell? a = some v := by
  have hg := h.grown
  obtain ⟨es, clock, es', clock', hb, _⟩ := h
  have hlt := World.block_lt_of_cell? _ _ hc
  have hne : a.block ≠ b := by
    intro e
    subst e
    simp [World.cell?, hb] at hc
  rw [World.cell?_of_block (w := w) (hg.block a.block hlt (fun e => hne (by cases e; rfl)))]
  exact hc
theorem C_keeps {w w' : World} {A : Option Addr} {n : Nat} {l : List ByteArray} (h : Kd.C Kd.string w A n l) (hk : ∀ a v, w.cell? a = some v → w'.cell? a = some v) : Kd.C Kd.string w' A n l := by
  refine ⟨h.1, h.2.1, fun hn => ?_⟩
  obtain ⟨ad, hA, hc⟩ := h.2.2 hn
  refine ⟨ad, hA, fun j p hp => ?_⟩
  obtain ⟨cs, h1, h2, h3⟩ := hc j p hp
  exact ⟨cs, h1, h2, fun i u hu => hk _ _ (h3 i u hu)⟩
theorem DefAt.keeps {w w' : World} {v : Value} {d : Def} (h : DefAt w v d) (hk : ∀ a v, w.cell? a = some v → w'.cell? a = some v) : DefAt w' v d := by
  obtain ⟨A, c, e, hl, hC⟩ := h
  exact ⟨A, c, e, hl, C_keeps hC hk⟩
theorem RD_keeps {w w' : World} {v : Value} {x : DataW Def × List MemPlace} (hk : ∀ a v, w.cell? a = some v → w'.cell? a = some v) (h : RD w v = some x) : RD w' v = some x := by
  obtain ⟨d, hd, rfl⟩ := RD_inv h
  exact RD_of (hd.keeps hk)
theorem new_step {w2 w3 : World} {b n : Nat} {m : Keyed2} {key : List UInt8} {d : Def} (hO : w3.ownsMap Tryz.prog 9 (RD w2) b n ((sd m).put (.string key) (.held d))) (hT : w2.mapTurned w3 b) : MapOf w3 b (mput m key d) :=
  ownsMap_exact (ownsMap_turn (by rw [← sd_put]; exact hO) (fun _ _ hx => RD_keeps (fun _ _ hc => cell_turned hT hc) hx))
set_option maxRecDepth 100000 in
theorem new_calls (A : Option Addr) (c : Nat) (l : List Def) (w : World) (hr : Kd.C P.k33 w A l.length l) (hs : ∀ d ∈ l, d.f4.size < 4294967281 ∧ d.f3.length * 16 ≤ 140737488355328) :
    Calls Tryz.prog 20 #[.slice A l.length c] w fun e w' => ∃ v, e = .returned (.tuple #[v, .int .i64 (newFrom [] l).2]) ∧ SnapRes w' v (newFrom [] l).1 ∧ Below w.heap.size w w' := by
  have HR := Lib.hid hr
  have hm : l.length ≤ 9223372036854775807 := hr.2.1
  have HS := Lib.hid hs
  clear hr hs
  have hmm := @run_makeMap Tryz.prog
  go_enter Tryz.func20, Tryz.ntmps20
  go_wp2_with fail
  go_loopw [15] (fun t15 wr => ∃ (i : Nat) (m : Keyed2), t15 = .int .i64 i ∧ i ≤ l.length ∧ Hid (newFrom m (l.drop i) = newFrom [] l) ∧ wr.cell? ⟨w.heap.size + 1, 0, none⟩ = some (.map (some w.heap.size)) ∧ Hid (MapOf wr w.heap.size m) ∧ Hid (Below w.heap.size w wr) ∧ m.length ≤ 500) (fun t15 _ => l.length - (intOf t15).toNat)
  case atStart =>
    refine ⟨0, [], rfl, Nat.zero_le _, rfl, by simp, ?_, ?_, Nat.zero_le _⟩
    · exact (World.ownsMap_made w Tryz.prog 9 _).alloc _
    · exact ((Below.refl _ _).alloc (Nat.le_refl _) _).alloc (by simp) _
  case round =>
    obtain ⟨i, m, rfl, hi, hn, hcell, hmap, hb, hlen⟩ := hrel
    by_cases hlt : i < l.length
    · obtain ⟨ad, A3, c3, hA, q0, q1, q2, q3, q4, q5, hl3, hC3⟩ := P.at_T33 (Kd.C_below HR.out hb.out) (i : Int) (by omega) (by omega)
      subst hA
      have hd : P.rd_T33 l (i : Int) = l[i] := by simp [P.rd_T33, hlt]
      have hsd := HS.out l[i] (List.getElem_mem hlt)
      have hdrop : l.drop i = l[i] :: l.drop (i + 1) := List.drop_eq_getElem_cons hlt
      rw [hd] at q0 q1 q2 q3 q4 q5 hl3 hC3
      have hn' := hn.out
      rw [hdrop] at hn'
      obtain ⟨d, hde⟩ : ∃ d, l[i] = d := ⟨_, rfl⟩
      rw [hde] at q0 q1 q2 q3 q4 q5 hl3 hC3 hsd hn'
      rw [Int.toNat_natCast] at q0 q1 q2 q3 q4 q5
      have HN := Lib.hid hn'
      have HC3 := Lib.hid hC3
      clear hn hn' hd hde hdrop hC3
      have hkc := fun W v h => key_calls v d W h hsd.1
      obtain ⟨key, hkey⟩ : ∃ key, defKey d = key := ⟨_, rfl⟩
      have hksz : key.size ≤ maxLen := by rw [← hkey]; exact defKey_le d hsd.1
      have HN' : Hid ((if key = ByteArray.empty then (none, 31) else if mhas m key.data.toList = true then (none, 45) else if m.length = 500 then (none, 21) else newFrom (mput m key.data.toList d) (l.drop (i + 1))) = newFrom [] l) := by
        have := HN.out
        rw [newFrom, hkey] at this
        exact this
      rw [hkey] at hkc
      have HK := Lib.hid hkc
      clear HN hkey hkc
      go_wp2_with fail
      refine (HK.out _ _ ⟨A3, c3, rfl, hl3, ?_⟩).mono ?_
      · exact Kd.C_alloc HC3.out _
      rintro e w1 ⟨rfl, hb1⟩
      have hbox : w1.heap[wr.heap.size]? = some (.cells #[.int .i64 d.f0, .string d.f1, .string d.f2, .slice A3 d.f3.length c3, .string d.f4, .string d.f5] 33 (0, 0)) := (hb1.block _ (by simp)).trans (heap_alloc_new wr _)
      have hbr : Below wr.heap.size wr w1 := below_then ((Below.refl _ wr).alloc (Nat.le_refl _) _) (by simp) hb1
      have hlt1 : w.heap.size + 1 < wr.heap.size := World.block_lt_of_cell? _ _ hcell
      have hcell1 : w1.cell? ⟨w.heap.size + 1, 0, none⟩ = some (.map (some w.heap.size)) := (hbr.cell (p := ⟨w.heap.size + 1, 0, none⟩) hlt1).trans hcell
      have hmap1 : MapOf w1 w.heap.size m := hmap.out.below hbr
      have hbw1 := below_then hb.out hb.out.size hbr
      have HC4 := Lib.hid (Kd.C_below HC3.out hbr)
      obtain ⟨x0, x1, x2, x3, x4, x5⟩ := box6 hbox
      have hz1 : wr.heap.size < w1.heap.size := by have := hb1.size; simp at this; omega
      have hz2 : w.heap.size + 1 < w1.heap.size := by omega
      have HB1 := Lib.hid hbw1
      have HM1 := Lib.hid hmap1
      clear hb1 hbr hcell hmap hb HC3 q0 q1 q2 q3 q4 q5 hbw1 hmap1
      obtain ⟨A5, c5, hlook, hl5, hC5⟩ := MapVal.run_look (.inr ⟨_, rfl, HM1.out⟩ : MapVal w1 (some w.heap.size) m) key hksz
      clear hC5 hl5
      generalize mget m key.data.toList = dx at hlook
      by_cases hk0 : key = ByteArray.empty
      · have hke : key.toList.isEmpty = true := by rw [hk0, Lib.toList_data]; rfl
        have HRes : Hid (newFrom [] l = (none, 31)) := by
          have := HN'.out
          rw [if_pos hk0] at this
          exact this.symm
        clear hk0 HN'
        go_wp2
        go_ret2
        exact ⟨_, by rw [HRes.out]; rfl, by rw [HRes.out]; rfl, HB1.out.alloc HB1.out.size _⟩
      · have hke : key.toList.isEmpty = false := by
          cases h : key.toList.isEmpty
          · rfl
          · exact absurd (empty_toList.1 (List.isEmpty_iff.1 h)) hk0
        cases hhas : mhas m key.data.toList with
        | true =>
          rw [hhas] at hlook
          have HRes : Hid (newFrom [] l = (none, 45)) := by
            have := HN'.out
            rw [if_neg hk0, if_pos hhas] at this
            exact this.symm
          clear hk0 HN' hhas
          go_wp2
          go_ret2
          exact ⟨_, by rw [HRes.out]; rfl, by rw [HRes.out]; rfl, HB1.out.alloc HB1.out.size _⟩
        | false =>
          rw [hhas] at hlook
          have hlenr := fun ty => MapVal.run_len (.inr ⟨_, rfl, HM1.out⟩ : MapVal w1 (some w.heap.size) m) ty
          by_cases h5 : m.length = 500
          · have h5b : ((m.length : Int) == 500) = true := beq_iff_eq.2 (by omega)
            have HRes : Hid (newFrom [] l = (none, 21)) := by
              have := HN'.out
              rw [if_neg hk0, if_neg (by rw [hhas]; decide), if_pos h5] at this
              exact this.symm
            clear hk0 HN' hhas h5
            have HM2 : ∀ ty o, (Builtin.len_ #[121] ty #[.map (some w.heap.size)]).run Tryz.prog (w1.alloc o) = .ok (.int .i64 m.length) (w1.alloc o) := fun ty o => MapVal.run_len (.inr ⟨_, rfl, HM1.out.below ((Below.refl _ _).alloc (Nat.le_refl _) o)⟩) ty
            go_wp2
            go_ret2
            exact ⟨_, by rw [HRes.out]; rfl, by rw [HRes.out]; rfl, HB1.out.alloc HB1.out.size _⟩
          · have h5b : ((m.length : Int) == 500) = false := beq_eq_false_iff_ne.2 (by omega)
            have HNext : Hid (newFrom (mput m key.data.toList d) (l.drop (i + 1)) = newFrom [] l) := by
              have := HN'.out
              rw [if_neg hk0, if_neg (by rw [hhas]; decide), if_neg h5] at this
              exact this
            have hm5 : m.length < 500 := by omega
            clear hk0 HN' h5
            have HM2 : ∀ ty o, (Builtin.len_ #[121] ty #[.map (some w.heap.size)]).run Tryz.prog (w1.alloc o) = .ok (.int .i64 m.length) (w1.alloc o) := fun ty o => MapVal.run_len (.inr ⟨_, rfl, HM1.out.below ((Below.refl _ _).alloc (Nat.le_refl _) o)⟩) ty
            go_wp2
            obtain ⟨W, hW⟩ : ∃ W, W = w1.alloc (.cells #[.int .i64 dx.f0, .string dx.f1, .string dx.f2, .slice A5 dx.f3.length c5, .string dx.f4, .string dx.f5] 33) := ⟨_, rfl⟩
            rw [← hW]
            have hbW : Below w1.heap.size w1 W := by rw [hW]; exact (Below.refl _ _).alloc (Nat.le_refl _) _
            have y0 := (hbW.cell (p := ⟨wr.heap.size, 0, none⟩) hz1).trans x0
            have y1 := (hbW.cell (p := ⟨wr.heap.size, 1, none⟩) hz1).trans x1
            have y2 := (hbW.cell (p := ⟨wr.heap.size, 2, none⟩) hz1).trans x2
            have y3 := (hbW.cell (p := ⟨wr.heap.size, 3, none⟩) hz1).trans x3
            have y4 := (hbW.cell (p := ⟨wr.heap.size, 4, none⟩) hz1).trans x4
            have y5 := (hbW.cell (p := ⟨wr.heap.size, 5, none⟩) hz1).trans x5
            have y6 := (hbW.cell (p := ⟨w.heap.size + 1, 0, none⟩) hz2).trans hcell1
            have HMW := Lib.hid (HM1.out.below hbW)
            have HBW := Lib.hid (below_then HB1.out HB1.out.size hbW)
            have HCW := Lib.hid (Kd.C_below HC4.out hbW)
            have hz3 : w.heap.size + 1 < W.heap.size := by have := hbW.size; omega
            clear hW hbW x0 x1 x2 x3 x4 x5 hcell1 HM1 HM2 HB1 HC4 hlook hlenr hz1 hz2 h5b hke
            go_region_with ((go_at_call 88; refine (clone_calls _ d _ ⟨A3, c3, rfl, hl3, ?_⟩ hsd.2).mono ?_; (next => (repeat (first | exact HCW.out | refine Kd.C_alloc ?_ _ | refine Kd.C_drewN ?_ _ | refine Kd.C_drew ?_))); rintro e w2 ⟨A6, c6, rfl, hl6, hC6, hb6⟩; have hb7 : Below W.heap.size W w2 := (by first | exact hb6 | exact (Below.refl _ _).drew.trans hb6); have z6 := (hb7.cell (p := ⟨w.heap.size + 1, 0, none⟩) hz3).trans y6; obtain ⟨w3, hrun, hown3, hturn3⟩ := (HMW.out.below hb7).store law Tryz.underlying121 (by unfold maxLen; omega) (keyText key hksz) (RD_of ⟨A6, c6, rfl, hl6, hC6⟩); have HO3 := Lib.hid hown3; have HT3 := Lib.hid hturn3; have HB7 := Lib.hid hb7; clear hb6 hb7 hown3 hturn3 hC6))
            all_goals
              go_wp2
              go_roundw
              case rel =>
                refine ⟨i + 1, mput m key.data.toList d, by go_num, by omega, HNext, ?_, new_step HO3.out HT3.out, ?_, by have := mput_length m key.data.toList d; omega⟩
                · exact (cell_turned HT3.out z6).trans rfl
                · exact (below_then HBW.out HBW.out.size HB7.out).grown HT3.out.grown (Nat.le_trans HBW.out.size HB7.out.size) (fun k e => by cases e; exact Nat.le_refl _)
              case measure => simp [intOf]; omega
    · obtain rfl : i = l.length := by omega
      have HRes : Hid (newFrom [] l = (some m, 0)) := by
        have := hn.out
        rw [List.drop_length] at this
        exact this.symm
      go_wp2
      go_ret2
      exact ⟨_, by rw [HRes.out]; rfl, by rw [HRes.out]; exact ⟨by simp, .inr ⟨_, _, rfl, hcell, hmap.out⟩⟩, hb.out⟩

end Go.Proofs.YtodpdlpncgkkdaaGreatDoor
end
section
namespace Go.Proofs.YtodpdlpncgkkdaaGreatDoor
open Go.RowKit Go.Proofs.YtodpdlpncgkkdaaGreatDoorW.PrintWords Go.Shelf Go.Maps

set_option maxRecDepth 100000 in
theorem get_calls (v : Value) (m : Keyed2) (key : ByteArray) (w : World) (h : SnapAt w v m) (hk : key.size ≤ maxLen) (hv : (mget m key.data.toList).f3.length * 16 ≤ 140737488355328) :
    Calls Tryz.prog 23 #[v, .string key] w fun e w' => ∃ A c, e = .returned (.tuple #[.agg #[.int .i64 (mget m key.data.toList).f0, .string (mget m key.data.toList).f1, .string (mget m key.data.toList).f2, .slice A (mget m key.data.toList).f3.length c, .string (mget m key.data.toList).f4, .string (mget m key.data.toList).f5], .bool (mhas m key.data.toList)]) ∧
      (mget m key.data.toList).f3.length ≤ c ∧ Kd.C Kd.string w' A (mget m key.data.toList).f3.length (mget m key.data.toList).f3 ∧ Below w.heap.size w w' := by
  have HA := Lib.hid (fun W (hb : Below w.heap.size w W) => all_calls v m W (h.below hb))
  clear h
  have hlook : ∀ W mb, MapVal W mb m → _ := fun W mb hm => MapVal.run_look hm key hk
  have HL := Lib.hid hlook
  clear hlook
  generalize mget m key.data.toList = d at *
  generalize mhas m key.data.toList = b at *
  go_enter Tryz.func23, Tryz.ntmps23
  go_wp2_with fail
  refine (HA.out _ ?_).mono ?_
  · exact (Below.refl _ _).alloc (Nat.le_refl _) _
  rintro e w1 ⟨mb, rfl, hm, rfl⟩
  obtain ⟨A5, c5, hl, hl5, hC5⟩ := HL.out _ _ hm
  have HC5 := Lib.hid hC5
  clear hm hC5
  go_wp2_with fail
  refine (clone_R _ d _ ⟨A5, c5, rfl, hl5, ?_⟩ hv).mono ?_
  · exact Kd.C_alloc HC5.out _
  rintro e w2 ⟨A6, c6, rfl, hR6, hb2⟩
  have hblk : w2.heap[w.heap.size]? = _ := (hb2.block w.heap.size (by simp; omega)).trans ((Below.heap_alloc _ _ _ (by simp)).trans (heap_alloc_new w _))
  have HB := Lib.hid (below_then (((Below.refl w.heap.size w).alloc (Nat.le_refl _) _).alloc (by simp) _) (by simp; omega) hb2)
  have HR6 := Lib.hid hR6
  have HBK := Lib.hid hblk
  obtain ⟨x0, x1, x2, x3, x4, x5⟩ := box6 hblk
  have f0 := blk_frozen hblk 0
  have f1 := blk_frozen hblk 1
  have f2 := blk_frozen hblk 2
  have f3 := blk_frozen hblk 3
  have f4 := blk_frozen hblk 4
  have f5 := blk_frozen hblk 5
  clear hb2 hR6 hblk
  go_wp2
  refine bodyPost_ret (results_list (rs := [.cell 4 33, .tmp 5]) rfl (by simp) (.cell w.heap.size 33 _ (0, 0) _ rfl (put6 HBK.out _ _ _ _ _ _) Tryz.underlying33 rfl (by kernel_rfl) (.tmp .nil))) rfl ?_
  have HR7 := R6 HR6.out (g := w.heap.size) (by simp; omega) (.int .i64 d.f0) (.string d.f1) (.string d.f2) (.slice A6 d.f3.length c6) (.string d.f4) (.string d.f5)
  exact ⟨A6, c6, rfl, (Kd.R_reads' HR7).2.1, (Kd.R_reads' HR7).2.2, below6 HB.out (Nat.le_refl _) _ _ _ _ _ _⟩

end Go.Proofs.YtodpdlpncgkkdaaGreatDoor
end
section
namespace Go.Proofs.YtodpdlpncgkkdaaGreatDoor
open Go.RowKit Go.Proofs.YtodpdlpncgkkdaaGreatDoorW.PrintWords Go.Shelf Go.Maps

theorem keyText_inv {v : Value} {kl : Lit} (h : keyOf Tryz.prog 9 v = some kl) : ∃ s : ByteArray, v = .string s ∧ kl = .string s.data.toList ∧ s.size ≤ maxLen := by
  rw [keyOf_string Tryz.underlying9] at h
  unfold mapKey at h
  rw [Tryz.underlying9] at h
  cases v <;> simp at h
  exact ⟨_, rfl, h.2.symm, h.1⟩
section
variable {ops : Array Oper} {rest : List Oper} {o : Oper} {a : Act} {Q : Exit → Act → World → Prop}
/-- 'for k, v := range m', m of definitions: the step. -/
theorem next_defs {w w0 : World} (hg : o.guard = none) (it : Operand) (hop : o.op = Op.next it false) (b r n : Nat) (D : DataW Def) (left : Lit → Bool) (cnt : Nat)
    (hit : a.eval it = .pointer (some ⟨r, 0, none⟩)) (h : w.ranges Tryz.prog 9 (RD w0) b r n D left cnt)
    (hDone : cnt = 0 → (∀ kl, left kl = false) → wpList Tryz.prog ops Q rest (a.put o.dst (.tuple #[.bool false])) w)
    (hMore : ∀ (x : ByteArray) (d : Def) (A : Option Addr) (c : Nat) (w' : World) (cnt' : Nat), x.size ≤ maxLen → left (.string x.data.toList) = true → d.f3.length ≤ c → Kd.C Kd.string w0 A d.f3.length d.f3 → (∀ zd, D.atKey (.string x.data.toList) zd = .held d) →
      w'.ranges Tryz.prog 9 (RD w0) b r n D (fun z => left z && !z.sameKey (.string x.data.toList)) cnt' → cnt' < cnt → w.grownBy w' (some r) → w'.heap.size = w.heap.size →
      (Instr.entry (.pointer (some ⟨r, 0, none⟩))).run Tryz.prog w' = .ok (.tuple #[.string x, .agg #[.int .i64 d.f0, .string d.f1, .string d.f2, .slice A d.f3.length c, .string d.f4, .string d.f5]]) w' →
      wpList Tryz.prog ops Q rest (a.put o.dst (.tuple #[.bool true, .string x, .agg #[.int .i64 d.f0, .string d.f1, .string d.f2, .slice A d.f3.length c, .string d.f4, .string d.f5]])) w') :
    wpList Tryz.prog ops Q (o :: rest) a w :=
  wpList_next_ranges w hg it hop 9 law (RD w0) (fun v : Value => v) (fun v : Value => v) (fun key _ _ => ⟨key, rfl⟩) (fun v _ _ => ⟨v, rfl⟩) b r n D left cnt hit h hDone
    (fun kv v kl y w' cnt' hkey hlk hv hat hrg hlt hgr hsz hen => by
      obtain ⟨x, rfl, rfl, hx⟩ := keyText_inv hkey
      obtain ⟨d, ⟨A, c, rfl, hl, hC⟩, rfl⟩ := RD_inv hv
      exact hMore x d A c w' cnt' hx hlk hl hC hat hrg hlt hgr hsz hen)
end
theorem cell_grown {w w' : World} {b : Nat} (hg : w.grownBy w' (some b)) (hb : ∃ es clock, w.heap[b]? = some (.map es clock)) {a : Addr} {v : Value} (hc : w.cell? a = some v) : w'.cell? a = some v := by
  obtain ⟨es, clock, hb⟩ := hb
  have hlt := World.block_lt_of_cell? _ _ hc
  have hne : a.block ≠ b := by
    intro e
    subst e
    simp [World.cell?, hb] at hc
  rw [World.cell?_of_block (w := w) (hg.block a.block hlt (fun e => hne (by cases e; rfl)))]
  exact hc
theorem own_isMap {w : World} {R : Value → Option (DataW Def × List MemPlace)} {b n : Nat} {D : DataW Def} (h : w.ownsMap Tryz.prog 9 R b n D) : ∃ es clock, w.heap[b]? = some (.map es clock) := by
  obtain ⟨es, clock, hb, _⟩ := h
  exact ⟨es, clock, hb⟩

set_option maxRecDepth 100000 in
theorem copy_calls (bd : Nat) (mb : Option Nat) (m : Keyed2) (w : World) (hd : w.ownsMap Tryz.prog 9 (RD w) bd 0 (.map [])) (hs : MapVal w mb m) (hne : mb ≠ some bd) (hm : m.length ≤ 500) :
    Calls Tryz.prog 198 #[.map (some bd), .map mb] w fun e w' => e = .returned (.tuple #[]) ∧ MapOf w' bd m ∧ w.grownBy w' (some bd) := by
  have hfin : ∀ w', w'.ownsMap Tryz.prog 9 (RD w) bd m.length (sd m) → w.grownBy w' (some bd) → MapOf w' bd m := fun w' ho hg => ownsMap_exact (ownsMap_turn ho fun _ _ hx => RD_keeps (fun _ _ hc => cell_grown hg (own_isMap hd) hc) hx)
  have HF := Lib.hid hfin
  clear hfin
  rcases hs with ⟨rfl, rfl⟩ | ⟨b, rfl, ho⟩
  · have HD := Lib.hid hd
    have hrg := run_range_nilMap (P := Tryz.prog) w 121 9 33 Tryz.underlying121
    have hnx : ∀ ty, (Instr.next (.pointer (some ⟨w.heap.size, 0, none⟩)) false ty).run Tryz.prog (w.alloc (.mapIter none 0 #[] 0)) = _ := fun ty => run_next_nilMap _ ty 0 0 #[]
    clear hd
    go_enter Tryz.func198, Tryz.ntmps198
    go_wp2
    refine wp_loop_rounds 1 ?_
    rw [rounds_succ]
    go_wp2
    go_end0
    have hg : w.grownBy (w.alloc (.mapIter none 0 #[] 0)) (some bd) := World.grownBy_alloc w _ _
    exact ⟨rfl, HF.out _ (HD.out.alloc _) hg, hg⟩
  · have hlt := hd.lt
    have hbne : b ≠ bd := fun e => hne (by rw [e])
    have HD := Lib.hid hd
    have HO := Lib.hid ho
    clear hd ho hne
    go_enter Tryz.func198, Tryz.ntmps198
    go_wp2_with (at_range; refine wpList_range_own _ rfl _ 121 rfl 9 33 law Tryz.underlying121 (RD w) b m.length _ rfl HO.out ?_; intro w0 hrg0 hg0 hs0)
    go_frame
    go_loopw [8] (fun _ wr => ∃ (left : Lit → Bool) (cnt : Nat) (Dout : DataW Def), Hid (wr.ranges Tryz.prog 9 (RD w) b w.heap.size m.length (sd m) left cnt) ∧ Hid (cnt ≤ Maps.size (sd m)) ∧
      Hid (wr.ownsMap Tryz.prog 9 (RD w) bd (Maps.size (sd m) - cnt) Dout) ∧ Hid (Agree Dout (sd m) left) ∧ Hid (w.grownBy wr (some bd)))
      (fun _ wr => wr.rangeLeft b w.heap.size)
    case atStart =>
      exact ⟨_, _, .map [], hrg0, Nat.le_refl _, ((HD.out).kept hg0 (by simp)).mono (Nat.zero_le _), agree_start _, ⟨hg0.os, hg0.tape, hg0.output, hg0.size, fun k hk _ => hg0.block k hk (by simp)⟩⟩
    case round =>
      obtain ⟨left, cnt, Dout, hrg, hcs, hout, hA, hgw⟩ := hrel
      go_wp2_with (at_next; refine next_defs (w0 := w) rfl _ rfl b w.heap.size m.length _ _ _ rfl hrg.out ?_ ?_)
      · intro hc0 hl0
        have HC0 := Lib.hid hc0
        have HL0 := Lib.hid hl0
        clear hc0 hl0
        go_wp2
        go_end0
        have e := agree_end hA.out HL0.out (hout.out.canon law) (HO.out.canon law)
        have ho := hout.out
        rw [e, HC0.out, Nat.sub_zero, sd_size] at ho
        exact ⟨rfl, HF.out _ ho hgw.out, hgw.out⟩
      · intro x d A c w1 cnt1 hx hlx hl hC hat hrg1 hcl hg1 hs1 hen
        have hout1 := hout.out.kept hg1 (by intro e; cases e; omega)
        have HO1 := Lib.hid hout1
        have HC := Lib.hid hC
        have HR1 := Lib.hid hrg1
        have HG1 := Lib.hid hg1
        have HS1 := Lib.hid hs1
        have HAT := Lib.hid hat
        clear hout1 hC hrg1 hg1 hs1 hat hlx
        go_wp2_with (at_mapUpdate; refine wpList_mapUpdate_own _ rfl _ _ _ 121 rfl 9 33 law Tryz.underlying121 (RD w) bd _ _ rfl (HO1.out.alloc _) (by have := hcs.out; rw [sd_size] at this ⊢; unfold maxLen; omega) _ _ _ rfl rfl (keyText x hx) _ [] (RD_of ⟨A, c, rfl, hl, HC.out⟩) ?_; intro w2 hout2 hg2; go_frame)
        have hwr : w.heap.size < wr.heap.size := by
          obtain ⟨_, _, _, _, _, _, _, _, _, hh, _⟩ := hrg.out
          exact (Array.getElem?_eq_some_iff.1 hh).1
        have hga : w1.grownBy w2 (some bd) := (World.grownBy_alloc w1 _ _).trans hg2
        have hrg2 := HR1.out.kept hga (by intro e; cases e; omega) (by intro e; cases e; omega)
        have hgw2 : w.grownBy w2 (some bd) := by
          refine ⟨hga.os.trans (HG1.out.os.trans hgw.out.os), hga.tape.trans (HG1.out.tape.trans hgw.out.tape), hga.output.trans (HG1.out.output.trans hgw.out.output), Nat.le_trans hgw.out.size (Nat.le_trans HG1.out.size hga.size), fun k hk hne => ?_⟩
          have h1 := HG1.out.size
          have h2 := hgw.out.size
          rw [hga.block k (by omega) hne, HG1.out.block k (by omega) (by intro e; cases e; omega), hgw.out.block k hk hne]
        refine ⟨⟨_, cnt1, _, hrg2, by have := hcs.out; show cnt1 ≤ _; omega, hout2.mono (by have := hcs.out; omega), agree_step hA.out hout.out.isMap trivial HAT.out, hgw2⟩, ?_⟩
        rw [hrg2.left_eq, hrg.out.left_eq]
        exact hcl

end Go.Proofs.YtodpdlpncgkkdaaGreatDoor
end
section
namespace Go.Proofs.YtodpdlpncgkkdaaGreatDoor
open Go.RowKit Go.Proofs.YtodpdlpncgkkdaaGreatDoorW.PrintWords Go.Shelf Go.Maps

/-- all, in a later world: the map is one that was there. -/
theorem all_later (v : Value) (m : Keyed2) (w W : World) (h : SnapAt w v m) (hb : Below w.heap.size w W) : Calls Tryz.prog 89 #[v] W fun e w' => ∃ mb, e = .returned (.map mb) ∧ MapVal W mb m ∧ (∀ b, mb = some b → b < w.heap.size) ∧ W = w' := by
  rcases h with ⟨rfl, hm⟩ | ⟨a, b, rfl, hc, hm⟩
  · go_enter Tryz.func89, Tryz.ntmps89
    go_wp2
    go_ret
    exact ⟨none, rfl, .inl ⟨rfl, hm⟩, (fun b e => by cases e), rfl⟩
  · have HM := Lib.hid (hm.below hb)
    have hlt := hm.lt
    have hc2 := pw_cell_below hb hc
    clear hm hc hb
    go_enter Tryz.func89, Tryz.ntmps89
    go_wp2
    go_ret
    exact ⟨some b, rfl, .inr ⟨b, rfl, HM.out⟩, (fun b' e => by cases e; exact hlt), rfl⟩
set_option maxRecDepth 100000 in
theorem copied_calls (v : Value) (m : Keyed2) (w : World) (h : SnapAt w v m) (hm : m.length ≤ 500) :
    Calls Tryz.prog 153 #[v] w fun e w' => e = .returned (.pointer (some ⟨w.heap.size + 1, 0, none⟩)) ∧ w'.cell? ⟨w.heap.size + 1, 0, none⟩ = some (.map (some w.heap.size)) ∧ MapOf w' w.heap.size m ∧ Below w.heap.size w w' := by
  have HA := Lib.hid (fun W (hb : Below w.heap.size w W) => all_later v m w W h hb)
  have HS := Lib.hid h
  clear h
  have hmm := @run_makeMap Tryz.prog
  go_enter Tryz.func153, Tryz.ntmps153
  go_wp2_with fail
  obtain ⟨W, hW⟩ : ∃ W, W = (w.alloc (.map #[] 0)).alloc (.cells #[.map (some w.heap.size)] 123) := ⟨_, rfl⟩
  rw [← hW]
  have hbW : Below w.heap.size w W := by rw [hW]; exact ((Below.refl _ _).alloc (Nat.le_refl _) _).alloc (by simp) _
  have hcW : W.cell? ⟨w.heap.size + 1, 0, none⟩ = some (.map (some w.heap.size)) := by rw [hW]; simp
  have hoW : W.ownsMap Tryz.prog 9 (RD W) w.heap.size 0 (.map []) := by rw [hW]; exact (World.ownsMap_made w Tryz.prog 9 _).alloc _
  have hsz : W.heap.size = w.heap.size + 2 := by rw [hW]; simp
  have HB := Lib.hid hbW
  have HO := Lib.hid hoW
  have HSZ := Lib.hid hsz
  clear hbW hoW hsz hW
  go_region_with (first
    | (go_at_call 89; refine (HA.out _ ?_).mono ?_; (next => first | exact HB.out | exact HB.out.drew); rintro e w1 ⟨mb, rfl, hmv, hold, rfl⟩; have HMV := Lib.hid hmv; have HOLD := Lib.hid hold; clear hmv hold)
    | (go_at_call 198; refine (copy_calls w.heap.size _ m _ ?_ HMV.out ?_ hm).mono ?_; (next => first | exact HO.out); (next => exact fun e => absurd (HOLD.out _ e) (Nat.lt_irrefl _)); rintro e w2 ⟨rfl, hM2, hg2⟩; have HM2 := Lib.hid hM2; have HG2 := Lib.hid hg2; clear hM2 hg2))
  all_goals
    go_wp2
    go_ret
    refine ⟨rfl, ?_, HM2.out, ?_⟩
    · have : W.drew.cell? ⟨w.heap.size + 1, 0, none⟩ = some (.map (some w.heap.size)) := hcW
      exact cell_grown HG2.out (own_isMap HO.out) this
    · exact HB.out.drew.grown HG2.out (by have := HSZ.out; show w.heap.size ≤ W.heap.size; omega) (fun k e => by cases e; exact Nat.le_refl _)

/-- Without a key. -/
def mdel (m : Keyed2) (k : List UInt8) : Keyed2 := m.filter fun p => !(p.1 == k)
theorem sd_del (m : Keyed2) (k : List UInt8) : (sd m).del (.string k) = sd (mdel m k) := by
  unfold sd mdel DataW.del
  simp only [List.filter_map]
  rfl
theorem mdel_length (m : Keyed2) (k : List UInt8) : (mdel m k).length ≤ m.length := List.length_filter_le _ _
def mdels (m : Keyed2) (l : List ByteArray) : Keyed2 := l.foldl (fun m k => mdel m k.data.toList) m
set_option maxRecDepth 100000 in
theorem drop_calls (v : Value) (m : Keyed2) (A : Option Addr) (c : Nat) (l : List ByteArray) (w : World) (h : SnapAt w v m) (hm : m.length ≤ 500) (hr : Kd.C Kd.string w A l.length l) (hk : ∀ k ∈ l, k.size ≤ maxLen) :
    Calls Tryz.prog 85 #[v, .slice A l.length c] w fun e w' => ∃ u, e = .returned u ∧ SnapAt w' u (mdels m l) ∧ u ≠ .pointer none ∧ Below w.heap.size w w' := by
  have HC := Lib.hid (copied_calls v m w h hm)
  have HR := Lib.hid hr
  have hml : l.length ≤ 9223372036854775807 := hr.2.1
  have HK := Lib.hid hk
  clear h hr hk
  go_enter Tryz.func85, Tryz.ntmps85
  go_wp2_with fail
  refine HC.out.mono ?_
  rintro e w1 ⟨rfl, hc1, hm1, hb1⟩
  have HM1 := Lib.hid hm1
  have HB1 := Lib.hid hb1
  have hlt : w.heap.size + 1 < w1.heap.size := World.block_lt_of_cell? _ _ hc1
  clear hm1 hb1 HC
  go_wp2_with fail
  go_loopw [12] (fun t12 wr => ∃ (i : Nat) (m' : Keyed2), t12 = .int .i64 i ∧ i ≤ l.length ∧ Hid (mdels m' (l.drop i) = mdels m l) ∧ wr.cell? ⟨w.heap.size + 1, 0, none⟩ = some (.map (some w.heap.size)) ∧ Hid (MapOf wr w.heap.size m') ∧ Hid (Below w.heap.size w wr) ∧ Hid (m'.length ≤ 500)) (fun t12 _ => l.length - (intOf t12).toNat)
  case atStart => exact ⟨0, m, rfl, Nat.zero_le _, rfl, hc1, HM1.out, HB1.out, hm⟩
  case round =>
    obtain ⟨i, m', rfl, hi, hn, hcell, hmap, hb, hlen⟩ := hrel
    by_cases hlt : i < l.length
    · obtain ⟨ad, hA, hc⟩ := Kd.at_string (Kd.C_below HR.out hb.out) (i : Int) (by omega) (by omega)
      subst hA
      have hx : rdOf ByteArray.empty l (i : Int) = l[i] := by simp [rdOf, hlt]
      rw [hx, Int.toNat_natCast] at hc
      have hks := HK.out l[i] (List.getElem_mem hlt)
      have hn' := hn.out
      rw [List.drop_eq_getElem_cons hlt] at hn'
      obtain ⟨key, hkey⟩ : ∃ key, l[i] = key := ⟨_, rfl⟩
      rw [hkey] at hc hks hn'
      have HN : Hid (mdels (mdel m' key.data.toList) (l.drop (i + 1)) = mdels m l) := hn'
      clear hx hkey hn hn'
      go_wp2_with (at_delete; refine wpList_delete_own _ rfl _ _ 121 9 rfl 33 law Tryz.underlying121 (RD wr) w.heap.size m'.length _ rfl hmap.out _ _ rfl (keyText key hks) ?_; intro w2 hown2 hturn2; go_frame)
      have HO2 := Lib.hid hown2
      have HT2 := Lib.hid hturn2
      clear hown2 hturn2
      go_wp2
      go_roundw
      case rel =>
        refine ⟨i + 1, mdel m' key.data.toList, by go_num, by omega, HN, cell_turned HT2.out hcell, ?_, ?_, Nat.le_trans (mdel_length _ _) hlen.out⟩
        · exact ownsMap_exact (ownsMap_turn (by rw [← sd_del]; exact HO2.out) (fun _ _ hx => RD_keeps (fun _ _ hc => cell_turned HT2.out hc) hx))
        · exact hb.out.grown HT2.out.grown hb.out.size (fun k e => by cases e; exact Nat.le_refl _)
      case measure => simp [intOf]; omega
    · obtain rfl : i = l.length := by omega
      have hn' := hn.out
      rw [List.drop_length] at hn'
      have HN : Hid (m' = mdels m l) := hn'
      clear hn hn'
      go_wp2
      go_ret
      exact ⟨_, rfl, .inr ⟨_, _, rfl, hcell, HN.out ▸ hmap.out⟩, by simp, hb.out⟩

end Go.Proofs.YtodpdlpncgkkdaaGreatDoor
end
section
namespace Go.Proofs
open Go.Shelf
def Tryz.keysDefs_ren : Go.Shelf.Ren := ⟨fun | 7 => 156 | 10 => 200 | n => n, fun | 23 => 121 | 26 => 9 | 3 => 33 | 28 => 158 | 0 => 0 | 27 => 157 | 33 => 146 | 4 => 4 | n => n, fun | n => n⟩
theorem Tryz.keysDefs : Go.Proofs.SlLaysZ.n7 Tryz.prog Tryz.keysDefs_ren := {
  mixed := by kernel_rfl
  f7 := ⟨Tryz.f156.name, by decide, Tryz.func156.trans (congrArg some (by kernel_rfl))⟩
  f10 := ⟨Tryz.f200.name, by decide, Tryz.func200.trans (congrArg some (by kernel_rfl))⟩
  t0 := Tryz.underlying0
  a0 := Tryz.isAgg0
  z0 := Tryz.sizeOf0
  v0 := Tryz.zeroValue0
  t4 := Tryz.underlying4
  a4 := Tryz.isAgg4
  z4 := Tryz.sizeOf4
  v4 := Tryz.zeroValue4
  t23 := Tryz.underlying121
  a23 := Tryz.isAgg121
  z23 := Tryz.sizeOf121
  v23 := Tryz.zeroValue121
  t26 := Tryz.underlying9
  a26 := Tryz.isAgg9
  z26 := Tryz.sizeOf9
  v26 := Tryz.zeroValue9
  t27 := Tryz.underlying157
  a27 := Tryz.isAgg157
  z27 := Tryz.sizeOf157
  v27 := Tryz.zeroValue157
  t28 := Tryz.underlying158
  a28 := Tryz.isAgg158
  z28 := Tryz.sizeOf158
  v28 := Tryz.zeroValue158
  t33 := Tryz.underlying146
  a33 := Tryz.isAgg146
  z33 := Tryz.sizeOf146
  v33 := Tryz.zeroValue146 }
def Tryz.sortedTexts_ren : Go.Shelf.Ren := ⟨fun | 6 => 114 | 8 => 168 | 9 => 103 | 11 => 218 | 13 => 163 | 12 => 162 | 23 => 210 | 24 => 211 | 14 => 201 | 15 => 202 | 16 => 203 | 17 => 204 | 18 => 205 | 19 => 206 | 20 => 207 | 21 => 208 | 22 => 209 | 25 => 241 | 26 => 242 | 27 => 243 | 28 => 244 | 29 => 245 | 30 => 246 | 31 => 265 | n => n, fun | 26 => 9 | 28 => 158 | 24 => 31 | 0 => 0 | 3 => 3 | 37 => 229 | 48 => 176 | 50 => 223 | 4 => 4 | 40 => 263 | 39 => 262 | 45 => 268 | 5 => 5 | 9 => 9 | 51 => 287 | 55 => 291 | 57 => 304 | 58 => 305 | 33 => 146 | n => n, fun | n => n⟩
theorem Tryz.sortedTexts : Go.Proofs.SlLaysZ.n6 Tryz.prog Tryz.sortedTexts_ren := {
  mixed := by kernel_rfl
  f6 := ⟨Tryz.f114.name, by decide, Tryz.func114.trans (congrArg some (by kernel_rfl))⟩
  f8 := ⟨Tryz.f168.name, by decide, Tryz.func168.trans (congrArg some (by kernel_rfl))⟩
  f11 := ⟨Tryz.f218.name, by decide, Tryz.func218.trans (congrArg some (by kernel_rfl))⟩
  t0 := Tryz.underlying0
  a0 := Tryz.isAgg0
  z0 := Tryz.sizeOf0
  v0 := Tryz.zeroValue0
  t24 := Tryz.underlying31
  a24 := Tryz.isAgg31
  z24 := Tryz.sizeOf31
  v24 := Tryz.zeroValue31
  t26 := Tryz.underlying9
  a26 := Tryz.isAgg9
  z26 := Tryz.sizeOf9
  v26 := Tryz.zeroValue9
  t28 := Tryz.underlying158
  a28 := Tryz.isAgg158
  z28 := Tryz.sizeOf158
  v28 := Tryz.zeroValue158
  i26 := by kernel_rfl }
def Tryz.sortTexts_ren : Go.Shelf.Ren := ⟨fun | 6 => 103 | 8 => 163 | 9 => 162 | 19 => 210 | 20 => 211 | 21 => 201 | 22 => 202 | 23 => 203 | 24 => 204 | 25 => 205 | 26 => 206 | 27 => 207 | 28 => 208 | 29 => 209 | 36 => 241 | 31 => 242 | 32 => 243 | 37 => 244 | 38 => 245 | 39 => 246 | 41 => 265 | n => n, fun | 27 => 31 | 29 => 9 | 3 => 3 | 32 => 229 | 26 => 31 | 0 => 0 | 44 => 176 | 46 => 223 | 4 => 4 | 36 => 263 | 35 => 262 | 41 => 268 | 5 => 5 | 9 => 9 | 53 => 287 | 57 => 291 | 63 => 304 | 64 => 305 | n => n, fun | n => n⟩
theorem Tryz.sortTexts : Go.Proofs.SlLaysM.n6 Tryz.prog Tryz.sortTexts_ren := {
  mixed := by kernel_rfl
  f6 := ⟨Tryz.f103.name, by decide, Tryz.func103.trans (congrArg some (by kernel_rfl))⟩
  f8 := Tryz.func163.trans (congrArg some (by kernel_rfl))
  f9 := ⟨Tryz.f162.name, by decide, Tryz.func162.trans (congrArg some (by kernel_rfl))⟩
  f19 := Tryz.func210.trans (congrArg some (by kernel_rfl))
  f20 := Tryz.func211.trans (congrArg some (by kernel_rfl))
  f21 := ⟨Tryz.f201.name, by decide, Tryz.func201.trans (congrArg some (by kernel_rfl))⟩
  f22 := ⟨Tryz.f202.name, by decide, Tryz.func202.trans (congrArg some (by kernel_rfl))⟩
  f23 := ⟨Tryz.f203.name, by decide, Tryz.func203.trans (congrArg some (by kernel_rfl))⟩
  f24 := ⟨Tryz.f204.name, by decide, Tryz.func204.trans (congrArg some (by kernel_rfl))⟩
  f25 := ⟨Tryz.f205.name, by decide, Tryz.func205.trans (congrArg some (by kernel_rfl))⟩
  f26 := ⟨Tryz.f206.name, by decide, Tryz.func206.trans (congrArg some (by kernel_rfl))⟩
  f27 := ⟨Tryz.f207.name, by decide, Tryz.func207.trans (congrArg some (by kernel_rfl))⟩
  f28 := ⟨Tryz.f208.name, by decide, Tryz.func208.trans (congrArg some (by kernel_rfl))⟩
  f29 := ⟨Tryz.f209.name, by decide, Tryz.func209.trans (congrArg some (by kernel_rfl))⟩
  f31 := Tryz.func242.trans (congrArg some (by kernel_rfl))
  f32 := Tryz.func243.trans (congrArg some (by kernel_rfl))
  f36 := ⟨Tryz.f241.name, by decide, Tryz.func241.trans (congrArg some (by kernel_rfl))⟩
  f37 := ⟨Tryz.f244.name, by decide, Tryz.func244.trans (congrArg some (by kernel_rfl))⟩
  f38 := ⟨Tryz.f245.name, by decide, Tryz.func245.trans (congrArg some (by kernel_rfl))⟩
  f39 := ⟨Tryz.f246.name, by decide, Tryz.func246.trans (congrArg some (by kernel_rfl))⟩
  f41 := ⟨Tryz.f265.name, by decide, Tryz.func265.trans (congrArg some (by kernel_rfl))⟩
  t0 := Tryz.underlying0
  a0 := Tryz.isAgg0
  z0 := Tryz.sizeOf0
  v0 := Tryz.zeroValue0
  t3 := Tryz.underlying3
  a3 := Tryz.isAgg3
  z3 := Tryz.sizeOf3
  v3 := Tryz.zeroValue3
  t4 := Tryz.underlying4
  a4 := Tryz.isAgg4
  z4 := Tryz.sizeOf4
  v4 := Tryz.zeroValue4
  t5 := Tryz.underlying5
  a5 := Tryz.isAgg5
  z5 := Tryz.sizeOf5
  v5 := Tryz.zeroValue5
  t9 := Tryz.underlying9
  a9 := Tryz.isAgg9
  z9 := Tryz.sizeOf9
  v9 := Tryz.zeroValue9
  t26 := Tryz.underlying31
  a26 := Tryz.isAgg31
  z26 := Tryz.sizeOf31
  v26 := Tryz.zeroValue31
  t27 := Tryz.underlying31
  a27 := Tryz.isAgg31
  z27 := Tryz.sizeOf31
  v27 := Tryz.zeroValue31
  t29 := Tryz.underlying9
  a29 := Tryz.isAgg9
  z29 := Tryz.sizeOf9
  v29 := Tryz.zeroValue9
  t32 := Tryz.underlying229
  a32 := Tryz.isAgg229
  z32 := Tryz.sizeOf229
  v32 := Tryz.zeroValue229
  t35 := Tryz.underlying262
  a35 := Tryz.isAgg262
  z35 := Tryz.sizeOf262
  v35 := Tryz.zeroValue262
  t36 := Tryz.underlying263
  a36 := Tryz.isAgg263
  z36 := Tryz.sizeOf263
  v36 := Tryz.zeroValue263
  t41 := Tryz.underlying268
  a41 := Tryz.isAgg268
  z41 := Tryz.sizeOf268
  v41 := Tryz.zeroValue268
  t44 := Tryz.underlying176
  a44 := Tryz.isAgg176
  z44 := Tryz.sizeOf176
  v44 := Tryz.zeroValue176
  t46 := Tryz.underlying223
  a46 := Tryz.isAgg223
  z46 := Tryz.sizeOf223
  v46 := Tryz.zeroValue223
  t53 := Tryz.underlying287
  a53 := Tryz.isAgg287
  z53 := Tryz.sizeOf287
  v53 := Tryz.zeroValue287
  t57 := Tryz.underlying291
  a57 := Tryz.isAgg291
  z57 := Tryz.sizeOf291
  v57 := Tryz.zeroValue291
  t63 := Tryz.underlying304
  a63 := Tryz.isAgg304
  z63 := Tryz.sizeOf304
  v63 := Tryz.zeroValue304
  t64 := Tryz.underlying305
  a64 := Tryz.isAgg305
  z64 := Tryz.sizeOf305
  v64 := Tryz.zeroValue305 }
end Go.Proofs
end
section
namespace Go.Proofs.YtodpdlpncgkkdaaGreatDoor

theorem less_not : ∀ a b : List UInt8, (Op.bytesLess a b || a == b) = !(Op.bytesLess b a)
  | [], [] => rfl
  | [], _ :: _ => rfl
  | _ :: _, [] => rfl
  | a :: x, b :: y => by
    have ih := less_not x y
    unfold Op.bytesLess
    rcases Nat.lt_trichotomy a.toNat b.toNat with h | h | h
    · have h1 : (a < b) = True := eq_true (UInt8.lt_iff_toNat_lt.2 h)
      have h2 : ¬ b < a := fun e => by have := UInt8.lt_iff_toNat_lt.1 e; omega
      have h3 : ¬ b = a := fun e => by rw [e] at h; omega
      simp [h1, h2, h3]
    · have h0 : a = b := UInt8.toNat_inj.1 h
      subst h0
      have h2 : ¬ a < a := fun e => by have := UInt8.lt_iff_toNat_lt.1 e; omega
      simp only [h2, decide_false, Bool.false_or, beq_self_eq_true, Bool.true_and]
      rw [← ih]
      congr 1
      rw [Bool.eq_iff_iff]
      simp
    · have h1 : ¬ a < b := fun e => by have := UInt8.lt_iff_toNat_lt.1 e; omega
      have h2 : b < a := UInt8.lt_iff_toNat_lt.2 h
      have h3 : ¬ a = b := fun e => by rw [e] at h; omega
      simp [h1, h2, h3]
theorem leq_text (t : TypeId) (a b : ByteArray) : binOp .leq t (.string a) (.string b) = pure (.bool (!(Op.bytesLess b.toList a.toList))) := by
  rw [← less_not]; simp [binOp, Op.stringOp]
theorem gtr_text (t : TypeId) (a b : ByteArray) : binOp .gtr t (.string a) (.string b) = pure (.bool (Op.bytesLess b.toList a.toList)) := by
  have h := less_not a.toList b.toList
  have : Op.bytesLess b.toList a.toList = !(Op.bytesLess a.toList b.toList || a.toList == b.toList) := by rw [h]; simp
  rw [this]; simp [binOp, Op.stringOp]
theorem geq_text (t : TypeId) (a b : ByteArray) : binOp .geq t (.string a) (.string b) = pure (.bool (!(Op.bytesLess a.toList b.toList))) := by simp [binOp, Op.stringOp]
end Go.Proofs.YtodpdlpncgkkdaaGreatDoor
end
section
namespace Go.Proofs.YtodpdlpncgkkdaaGreatDoor
open Go.RowKit Go.Proofs.YtodpdlpncgkkdaaGreatDoorW.PrintWords Go.Shelf Go.Maps Go.Sort

/-- slices.Sort's two contracts at this dump. -/
theorem sortsTexts (n : Nat) : AnyZ.SortsIn Tryz.prog Tryz.sortedTexts_ren Fence.wide n :=
  ⟨fun blk off cap ss W hH hblk hsz => callsIn_wide.2 (AnyM.slices_Sort_string Tryz.sortTexts blk off cap ss W hH hblk hsz),
   fun p cap W => callsIn_wide.2 (AnyM.slices_Sort_string_none Tryz.sortTexts p cap W)⟩
theorem keysOf_calls (mb : Option Nat) (W : World) : Calls Tryz.prog 156 #[.map mb] W fun e w' => e = .returned (.func (.func 200) #[] #[.pointer (some ⟨W.heap.size, 0, none⟩)]) ∧ w' = W.alloc (.cells #[.map mb] 121) :=
  (callsIn_wide (n := 5)).1 (AnyZ.keys_in Tryz.keysDefs Fence.wide 5 trivial rfl mb W)
def keysL (m : Keyed2) : List (List UInt8) := m.map (·.1)
theorem strKeys_sd (m : Keyed2) : strKeys (sd m) = keysL m := by
  unfold strKeys sd keysL
  simp only [List.map_map]
  rfl
set_option maxHeartbeats 1000000 in
theorem sortedKeys_calls (mb : Option Nat) (m : Keyed2) (w : World) (h : MapVal w mb m) (hm : m.length ≤ 500) :
    Calls Tryz.prog 114 #[.func (.func 200) #[] #[.pointer (some ⟨w.heap.size, 0, none⟩)]] (w.alloc (.cells #[.map mb] 121)) fun e w' => ∃ (v : Value) (ss : List (List UInt8)), e = .returned v ∧ ss.Perm (keysL m) ∧
      w'.ownsRow (w.alloc (.cells #[.map mb] 121)).heap.size 9 1 v ss.length ((ss.mergeSort (fun x y => decide (x ≤ y))).map encStr) ∧ Below (w.alloc (.cells #[.map mb] 121)).heap.size (w.alloc (.cells #[.map mb] 121)) w' := by
  have hmax : Maps.size (sd m) ≤ maxLen := by rw [sd_size]; unfold maxLen; omega
  have hbytes : Maps.size (sd m) * 16 ≤ 140737488355328 := by rw [sd_size]; omega
  refine (callsIn_wide (n := 5)).1 ?_
  rcases h with ⟨rfl, rfl⟩ | ⟨b, rfl, hown⟩
  · have hseq : SeqGives Fence.wide 2 Tryz.prog 200 #[.pointer (some ⟨w.heap.size, 0, none⟩)] encStr (fun ss : List (List UInt8) => ss = []) 0 (w.alloc (.cells #[.map none] 121)) :=
      AnyZ.keys_gives_nil (ρ := Tryz.keysDefs_ren) { Tryz.keysDefs with } Fence.wide _ trivial rfl w.heap.size _ (by simp) (by simp)
    refine (AnyZ.sorted_in Tryz.sortedTexts Fence.wide 5 trivial trivial trivial trivial rfl (by omega) (sortsTexts _) (enters_of Tryz.func103 (by kernel_rfl) rfl) 200 #[.pointer (some ⟨w.heap.size, 0, none⟩)] trivial (enters_of Tryz.func200 (by kernel_rfl) rfl) _ 0 (Nat.zero_le _) (by omega) _ hseq).mono ?_
    rintro e w' ⟨v, ss, he, hss, ho, _, hb⟩
    exact ⟨v, ss, he, by rw [hss]; exact List.Perm.refl _, ho, hb⟩
  · have hbl := hown.lt
    have hseq : SeqGives Fence.wide 2 Tryz.prog 200 #[.pointer (some ⟨w.heap.size, 0, none⟩)] encStr (fun ss => ss.Perm (strKeys (sd m))) (Maps.size (sd m)) (w.alloc (.cells #[.map (some b)] 121)) :=
      AnyZ.keys_gives (ρ := Tryz.keysDefs_ren) { Tryz.keysDefs with } Fence.wide _ trivial rfl (by omega) w.heap.size b m.length (sd m) _ (by simp) (by simp) (by
        obtain ⟨es, clock, hb, Ft, hs, hD⟩ := hown
        exact ⟨es, clock, (Below.heap_alloc _ _ b hbl).trans hb, Ft, hs, hD⟩)
    refine (AnyZ.sorted_in Tryz.sortedTexts Fence.wide 5 trivial trivial trivial trivial rfl (by omega) (sortsTexts _) (enters_of Tryz.func103 (by kernel_rfl) rfl) 200 #[.pointer (some ⟨w.heap.size, 0, none⟩)] trivial (enters_of Tryz.func200 (by kernel_rfl) rfl) _ _ hmax hbytes _ hseq).mono ?_
    rintro e w' ⟨v, ss, he, hss, ho, _, hb⟩
    exact ⟨v, ss, he, by rw [← strKeys_sd]; exact hss, ho, hb⟩

theorem MapOf.rising {w : World} {b : Nat} {m : Keyed2} (h : MapOf w b m) : (keysL m).Pairwise (fun x y => bytesBefore x y = true) := by
  obtain ⟨es, e, hp, _⟩ := h.canon law
  unfold sd at e
  injection e with e
  unfold keysL
  rw [List.pairwise_map]
  rw [← e, List.pairwise_map] at hp
  exact hp
theorem before_less : ∀ a b : List UInt8, bytesBefore a b = Op.bytesLess a b
  | [], [] => rfl
  | [], _ :: _ => rfl
  | _ :: _, [] => rfl
  | a :: x, b :: y => by simp [bytesBefore, Op.bytesLess, before_less x y]
theorem sorted_eq {ss l : List (List UInt8)} (hp : ss.Perm l) (hl : l.Pairwise (fun x y => bytesBefore x y = true)) : ss.mergeSort (fun x y => decide (x ≤ y)) = l := by
  refine List.Perm.eq_of_pairwise (le := fun x y => x ≤ y) (fun a b _ _ h1 h2 => List.le_antisymm h1 h2) ?_ ?_ ((List.mergeSort_perm _ _).trans hp)
  · have := List.pairwise_mergeSort (le := fun x y : List UInt8 => decide (x ≤ y)) (fun a b c h1 h2 => by simp only [decide_eq_true_eq] at *; exact List.le_trans h1 h2) (fun a b => by simp only [Bool.or_eq_true, decide_eq_true_eq]; exact List.le_total a b) ss
    exact this.imp fun h => by simpa using h
  · exact hl.imp fun h => by
      rw [before_less, bytesLess_eq] at h
      exact List.le_of_lt (of_decide_eq_true h)
def textOf (l : List UInt8) : ByteArray := ⟨l.toArray⟩
def keysB (m : Keyed2) : List ByteArray := (keysL m).map textOf
theorem keysB_length (m : Keyed2) : (keysB m).length = m.length := by simp [keysB, keysL]
theorem MapVal.rising {w : World} {mb : Option Nat} {m : Keyed2} (h : MapVal w mb m) : (keysL m).Pairwise (fun x y => bytesBefore x y = true) := by
  rcases h with ⟨_, rfl⟩ | ⟨b, _, h⟩
  · exact List.Pairwise.nil
  · exact h.rising
/-- slices.Sorted(maps.Keys(m)), where maps.Keys has been called. -/
theorem sorted_R (mb : Option Nat) (m : Keyed2) (w : World) (h : MapVal w mb m) (hm : m.length ≤ 500) :
    Calls Tryz.prog 114 #[.func (.func 200) #[] #[.pointer (some ⟨w.heap.size, 0, none⟩)]] (w.alloc (.cells #[.map mb] 121)) fun e w' => ∃ v : Value, e = .returned v ∧
      Kd.R Kd.string 9 w' w.heap.size (fun _ => True) v (keysB m) ∧ Below w.heap.size w w' := by
  refine (sortedKeys_calls mb m w h hm).mono ?_
  rintro e w' ⟨v, ss, he, hp, ho, hb⟩
  rw [sorted_eq hp h.rising] at ho
  have hlen : ss.length = m.length := by rw [hp.length_eq]; simp [keysL]
  refine ⟨v, he, ?_, below_then ((Below.refl _ _).alloc (Nat.le_refl _) _) (by simp) hb⟩
  have hlow := ownsRow_base_a ho (base' := w.heap.size) (by simp)
  refine Kd.R_of_own (own_as hlow ?_ ?_) (fun _ _ => trivial)
  · rw [hlen, keysB_length]
  · simp only [keysB, encs, List.map_map]
    rfl

end Go.Proofs.YtodpdlpncgkkdaaGreatDoor
end
section
namespace Go.Proofs.YtodpdlpncgkkdaaGreatDoor
open Go.RowKit
def SeqPre {α : Type} (F : Fence) (n : Nat) (P : Program) (g : Nat) (lb : Array Value) (encs : α → Array Value) (Kp : World → World → Prop) (Pre : List α → α → World → Prop) (S Sp : List α → Prop) (w : World) : Prop :=
  ∀ (l : Nat) (J Jx : List α → World → Prop) (W : World), Below w.heap.size w W → AbidesFrom W.heap.size J → AbidesFrom W.heap.size Jx →
    (∀ pre x W1, J pre W1 → Pre pre x W1 → YieldAt F (n - 1) P l (encs x) W1 fun e W' => (e = .returned (.bool true) ∧ J (pre ++ [x]) W' ∧ Kp W1 W') ∨ (e = .returned (.bool false) ∧ Jx (pre ++ [x]) W')) →
    J [] W → CallsIn F n P g (#[.func (.yield l) #[] #[]] ++ lb) W fun e W' => (∃ v, e = .returned v) ∧ ((∃ xs, S xs ∧ J xs W') ∨ (∃ pre, Sp pre ∧ Jx pre W'))
variable {F : Fence} {n : Nat} {P : Program}
theorem rangeFunc_pre {α : Type} {g : Operand} {ps : Array Tmp} {assign body : Code} {Q : Exit → Act → World → Prop} {a : Act} {w : World}
    (hro : F.round = none) (h1 : 1 ≤ n) {gf : Nat} {lb : Array Value} (hg : a.eval g = .func (.func gf) #[] lb) (hFg : F.fn gf) (eg : ∀ args w, (callFunc gf args).run P w = .ok (.enter gf args) w)
    {encs : α → Array Value} {Kp : World → World → Prop} {Pre : List α → α → World → Prop} {S Sp : List α → Prop} {w0 : World} (hseq : SeqPre F (n - 1) P gf lb encs Kp Pre S Sp w0)
    (hKt : ∀ {A B C : World}, Kp A B → Kp B C → Kp A C) (hKb : ∀ (W : World) (l : Nat) (o o' : Obj), w.heap.size ≤ l → W.heap[l]? = some o → o.isCells = false → o.isWalk = false → Kp W (W.putObj l o')) (hb0 : Below w0.heap.size w0 w) (hps : ∀ x, (encs x).size = ps.size)
    (I : List α → World → Prop) (Ix : Code → List α → World → Prop) (hI : OwnFrom w.heap.size I) (hIx : ∀ c, OwnFrom w.heap.size (Ix c)) (h0 : I [] w) (Ax : List α → α → Act → World → Prop) (hAx : ∀ pre x a', OwnFrom w.heap.size (fun (_ : Unit) W => Ax pre x a' W))
    (hassign : ∀ (l : Nat) (pre : List α) (x : α) (W : World) (K : Act → World → Prop), I pre W → Pre pre x W → (∀ a' W', KeepsFrom w.heap.size W W' → Kp W W' → I pre W' → Ax pre x a' W' → K a' W') →
      assign.wpIn (F.inRound l) (n - 1 - 1) P (Exit.then K (fun _ _ _ => False)) { tmps := (ps.zip (encs x)).foldl (fun t (p, v) => t.setIfInBounds p v) a.tmps, defers := [] } W)
    (hbody : ∀ (l : Nat) (pre : List α) (x : α) (a' : Act) (W : World), w.heap.size ≤ l → (∃ r, W.heap[l]? = some (.loop r)) → I pre W → Ax pre x a' W → body.wpIn (F.inRound l) (n - 1 - 1) P (ownPostG w.heap.size Kp I Ix (pre ++ [x]) W) a' W)
    (hdone : ∀ (D : Nat) (xs : List α) (W : World), w.heap.size ≤ D → S xs → I xs W → W.heap[D]? = some (.deferred (some [])) → Q .normal { a with defers := { target := .collected D, args := #[] } :: a.defers } W)
    (hstop : ∀ (D : Nat) (c : Code) (pre : List α) (W : World), w.heap.size ≤ D → Sp pre → Ix c pre W → W.heap[D]? = some (.deferred (some [])) → c.wpIn F n P Q { a with defers := { target := .collected D, args := #[] } :: a.defers } W) :
    (Code.rangeFunc g ps assign body).wpIn F n P Q a w := by
  refine wpIn_rangeFunc ?_
  intro fn hfn
  rw [hro]
  obtain ⟨rec, hrec⟩ : ∃ rec : LoopState → Option Code → Loop, rec = fun st pe => { state := st, pending := pe, fn, tmps := a.tmps, params := ps, assign, body, defers := w.heap.size } := ⟨_, rfl⟩
  obtain ⟨W1, hW1⟩ : ∃ W1, (w.alloc (.deferred (some []))).alloc (.loop (rec .ready none)) = W1 := ⟨_, rfl⟩
  have hL1 : W1.heap[w.heap.size + 1]? = some (.loop (rec .ready none)) := by
    rw [← hW1]; have := World.alloc_heap_new (w.alloc (.deferred (some []))) (.loop (rec .ready none)); rwa [World.size_alloc] at this
  have hK1 : W1.heap[w.heap.size]? = some (.deferred (some [])) := by
    rw [← hW1]; exact (Below.heap_alloc _ _ _ (by simp)).trans (World.alloc_heap_new w _)
  have hI1 : I [] W1 := by rw [← hW1]; exact hI.alloc _ (hI.alloc _ h0)
  have hb1 : Below w0.heap.size w0 W1 := by
    rw [← hW1]; exact hb0.trans ((((Below.refl _ w).alloc (Nat.le_refl _) _).alloc (by simp) _).mono hb0.size)
  refine ⟨w.heap.size + 1, [{ target := .collected w.heap.size, args := #[] }], W1, { target := .fn (.func gf) lb, args := #[.func (.yield (w.heap.size + 1)) #[] #[]] }, W1, gf,
    #[.func (.yield (w.heap.size + 1)) #[] #[]] ++ lb, W1, ?_, ?_, ?_, ?_, fun _ => h1, ?_⟩
  · rw [← hW1, hrec]; exact run_enterLoop_outer _ _ _ _ _
  · simp only [resolve, hg]
    simp [go_sem]
  · intro f' hf'; simp [Target.leads] at hf'; subst hf'; exact hFg
  · simp [invoke, go_sem, eg]
  · -- THE ITERATOR's CONTRACT, AT THE CALLER's INVARIANT WITH THE TWO FACTS OF BOOK-KEEPING BESIDE IT
    have hnw : ∀ {A B : World} {row : Option Nat}, (∀ r, row = some r → W1.heap.size ≤ r ∧ ∃ o : Obj, A.heap[r]? = some o ∧ o.isWalk = true) → (∀ r, row = some r → w.heap.size ≤ r ∧ ∃ o : Obj, A.heap[r]? = some o ∧ o.isCells = false) :=
      fun hr r e => by obtain ⟨hB, o, ho, hw⟩ := hr r e; exact ⟨by rw [← hW1] at hB; simp at hB; omega, o, ho, Obj.not_cells_of_walk hw⟩
    refine (hseq (w.heap.size + 1)
      (fun pre W => I pre W ∧ W.heap[w.heap.size + 1]? = some (.loop (rec .ready none)) ∧ W.heap[w.heap.size]? = some (.deferred (some [])))
      (fun pre W => ∃ c, Ix c pre W ∧ W.heap[w.heap.size + 1]? = some (.loop (rec .done (some c))) ∧ W.heap[w.heap.size]? = some (.deferred (some [])))
      W1 hb1
      (fun s A B row hs hg' hr => ⟨hI s A B row hs.1 hg' (hnw (B := B) hr), (grownBy_keeps hg' (fun r e => (hr r e).2) hs.2.1 rfl).trans hs.2.1, (grownBy_keeps hg' (fun r e => (hr r e).2) hs.2.2 rfl).trans hs.2.2⟩)
      (fun s A B row hs hg' hr => by
        obtain ⟨c, hc, hl, hk⟩ := hs
        exact ⟨c, hIx c s A B row hc hg' (hnw (B := B) hr), (grownBy_keeps hg' (fun r e => (hr r e).2) hl rfl).trans hl, (grownBy_keeps hg' (fun r e => (hr r e).2) hk rfl).trans hk⟩)
      ?_ ⟨hI1, hL1, hK1⟩).mono ?_
    · -- ONE ROUND
      rintro pre x W ⟨hi, hl, hk⟩ hlen
      have hlt : w.heap.size + 1 < W.heap.size := (Array.getElem?_eq_some_iff.1 hl).1
      have hy := run_yield (P := P) (args := encs x) hl (by rw [hrec]; exact hps x)
      rw [hrec] at hy
      refine ⟨fn, _, assign, body, hy, roundIn_of_wpIn hfn (hassign _ pre x W _ hi hlen ?_)⟩
      clear hy
      intro a' Wa hkfa hkpa hia hax
      replace hl := hkfa.same _ _ (by omega) hl rfl
      replace hk := hkfa.same _ _ (Nat.le_refl _) hk rfl
      replace hlt : w.heap.size + 1 < Wa.heap.size := (Array.getElem?_eq_some_iff.1 hl).1
      replace hi := hia
      clear hia
      revert hkpa hkfa
      generalize W = Wb
      intro hkfa hkpa
      obtain ⟨W, rfl⟩ : ∃ W, W = Wa := ⟨_, rfl⟩
      refine ⟨_, run_beginRound hl (by rw [hrec]), ?_⟩
      have hl2 : (W.putObj (w.heap.size + 1) (.loop { rec .ready none with state := .busy })).heap[w.heap.size + 1]? = some (.loop { rec .ready none with state := .busy }) := World.putObj_heap_same hlt
      have hk2 : (W.putObj (w.heap.size + 1) (.loop { rec .ready none with state := .busy })).heap[w.heap.size]? = some (.deferred (some [])) := (World.putObj_heap_other (by omega)).trans hk
      have hw2 : Kp W (W.putObj (w.heap.size + 1) (.loop { rec .ready none with state := .busy })) := hKb _ _ _ _ (by omega) hl rfl rfl
      refine wpIn_mono (hbody _ pre x a' _ (by omega) ⟨_, hl2⟩ (hI.putObj _ hi (by omega) hl rfl) ((hAx pre x a').putObj (s := ()) _ hax (by omega) hl rfl)) ?_
      have fin : ∀ (jump : Option Code) (W3 : World), KeepsFrom w.heap.size (W.putObj (w.heap.size + 1) (.loop { rec .ready none with state := .busy })) W3 →
          (Instr.endRound (w.heap.size + 1) jump).run P W3 = .ok (.bool jump.isNone) (W3.putObj (w.heap.size + 1) (.loop (rec (if jump.isNone then .ready else .done) jump))) ∧
          W3.heap[w.heap.size + 1]? = some (.loop { rec .ready none with state := .busy }) ∧
          (W3.putObj (w.heap.size + 1) (.loop (rec (if jump.isNone then .ready else .done) jump))).heap[w.heap.size + 1]? = some (.loop (rec (if jump.isNone then .ready else .done) jump)) ∧
          (W3.putObj (w.heap.size + 1) (.loop (rec (if jump.isNone then .ready else .done) jump))).heap[w.heap.size]? = some (.deferred (some [])) := fun jump W3 hk3 => by
        have hl3 := hk3.same _ _ (by omega) hl2 rfl
        have := run_endRound (P := P) jump hl3
        rw [hrec] at this ⊢
        exact ⟨this, by rw [hrec] at hl3; exact hl3, World.putObj_heap_same (Array.getElem?_eq_some_iff.1 hl3).1, (World.putObj_heap_other (by omega)).trans (hk3.same _ _ (Nat.le_refl _) hk2 rfl)⟩
      rintro e a3 W3 hp
      cases e with
      | normal =>
        obtain ⟨hk3, hkp3, hi3⟩ := hp
        obtain ⟨hr, hl3, hl4, hk4⟩ := fin none W3 hk3
        exact ⟨_, _, hr, .inl ⟨rfl, ⟨hI.putObj _ hi3 (by omega) hl3 rfl, hl4, hk4⟩, hKt hkpa (hKt (hKt hw2 hkp3) (hKb _ _ _ _ (by omega) hl3 rfl rfl))⟩⟩
      | ret =>
        obtain ⟨hk3, hi3⟩ := hp
        obtain ⟨hr, hl3, hl4, hk4⟩ := fin (some .ret) W3 hk3
        exact ⟨_, _, hr, .inr ⟨rfl, .ret, (hIx _).putObj _ hi3 (by omega) hl3 rfl, hl4, hk4⟩⟩
      | exit id =>
        obtain ⟨hk3, hi3⟩ := hp
        obtain ⟨hr, hl3, hl4, hk4⟩ := fin (some (.exit id)) W3 hk3
        exact ⟨_, _, hr, .inr ⟨rfl, .exit id, (hIx _).putObj _ hi3 (by omega) hl3 rfl, hl4, hk4⟩⟩
      | goto t =>
        obtain ⟨hk3, hi3⟩ := hp
        obtain ⟨hr, hl3, hl4, hk4⟩ := fin (some (.goto t)) W3 hk3
        exact ⟨_, _, hr, .inr ⟨rfl, .goto t, (hIx _).putObj _ hi3 (by omega) hl3 rfl, hl4, hk4⟩⟩
      | panic ch => exact hp.elim
      | outgrown => exact hp.elim
    · -- BEHIND THE ITERATOR
      rintro e W2 ⟨⟨v, rfl⟩, (⟨xs, hS, hi, hl, hk⟩ | ⟨pre, hSp, c, hi, hl, hk⟩)⟩
      · exact ⟨none, _, by have := run_endLoop (P := P) hl (by rw [hrec]; simp); rw [hrec] at this; exact this, hdone _ xs _ (Nat.le_refl _) hS (hI.putObj _ hi (by omega) hl rfl) ((World.putObj_heap_other (by omega)).trans hk)⟩
      · exact ⟨some c, _, by have := run_endLoop (P := P) hl (by rw [hrec]; simp); rw [hrec] at this; exact this, hstop _ c pre _ (Nat.le_refl _) hSp ((hIx c).putObj _ hi (by omega) hl rfl) ((World.putObj_heap_other (by omega)).trans hk)⟩


end Go.Proofs.YtodpdlpncgkkdaaGreatDoor
end
section
namespace Go.Proofs.YtodpdlpncgkkdaaGreatDoor
open Go.RowKit Go.Proofs.YtodpdlpncgkkdaaGreatDoorW.PrintWords Go.Shelf Go.Maps
attribute [local go_sem] Oper.semAt_some

/-- What a round is handed: a definition, and where its variables lie. -/
abbrev Elem := Def × Option Addr × Nat
def elemV (x : Elem) : Value := .agg #[.int .i64 x.1.f0, .string x.1.f1, .string x.1.f2, .slice x.2.1 x.1.f3.length x.2.2, .string x.1.f4, .string x.1.f5]
def ElemPre (m : Keyed2) (pre : List Elem) (x : Elem) (W : World) : Prop := (∃ h : pre.length < m.length, x.1 = (m[pre.length]'h).2) ∧ x.1.f3.length ≤ x.2.2 ∧ Kd.C Kd.string W x.2.1 x.1.f3.length x.1.f3 ∧ ∃ b0, Kd.R Kd.string 9 W b0 (fun _ => True) (.slice x.2.1 x.1.f3.length x.2.2) x.1.f3
def defsL (m : Keyed2) : List Def := m.map (·.2)

set_option maxRecDepth 100000 in
theorem all_make (p : Option Addr) (w : World) : Calls Tryz.prog 90 #[.pointer p] w fun e w' => e = .returned (.func (.func 155) #[] #[.pointer (some ⟨w.heap.size, 0, none⟩)]) ∧ w' = w.alloc (.cells #[.pointer p] 25) := by
  go_enter Tryz.func90, Tryz.ntmps90
  go_wp2
  go_ret
  exact ⟨rfl, rfl⟩

theorem rising_ne {m : Keyed2} (h : (keysL m).Pairwise (fun x y => bytesBefore x y = true)) {i j : Nat} (hi : i < m.length) (hj : j < m.length) (hij : i < j) : (m[i]'hi).1 ≠ (m[j]'hj).1 := by
  intro e
  have h1 := List.pairwise_iff_getElem.1 h i j (by simpa [keysL] using hi) (by simpa [keysL] using hj) hij
  simp only [keysL, List.getElem_map] at h1
  rw [e, before_less, bytesLess_eq] at h1
  exact List.lt_irrefl _ (of_decide_eq_true h1)
theorem mget_at {m : Keyed2} (h : (keysL m).Pairwise (fun x y => bytesBefore x y = true)) {i : Nat} (hi : i < m.length) : mget m (m[i]'hi).1 = (m[i]'hi).2 := by
  unfold mget
  have : m.find? (fun p => p.1 == (m[i]'hi).1) = some (m[i]'hi) := by
    rw [List.find?_eq_some_iff_getElem]
    refine ⟨by simp, i, hi, rfl, fun j hj => ?_⟩
    have := rising_ne h (by omega) hi hj
    simpa using this
  rw [this]
/-- What a round of a loop over All keeps: what lay below n0; snapshots' boxes from n0 on; rows of texts from B1 on. -/
structure RoundKeeps (n0 B1 : Nat) (W W' : World) : Prop where
  size : W.heap.size ≤ W'.heap.size
  old : Below n0 W W'
  box : ∀ k c fr, n0 ≤ k → W.heap[k]? = some (.cells c 25 fr) → W'.heap[k]? = some (.cells c 25 fr)
  row : ∀ k c fr, B1 ≤ k → W.heap[k]? = some (.cells c 9 fr) → W'.heap[k]? = some (.cells c 9 fr)
theorem RoundKeeps.trans {n0 B1 : Nat} {X Y Z : World} (h : RoundKeeps n0 B1 X Y) (k : RoundKeeps n0 B1 Y Z) : RoundKeeps n0 B1 X Z :=
  ⟨Nat.le_trans h.size k.size, h.old.trans k.old, fun i c fr hi hc => k.box i c fr hi (h.box i c fr hi hc), fun i c fr hi hc => k.row i c fr hi (h.row i c fr hi hc)⟩
theorem RoundKeeps.book {n0 B1 : Nat} {w : World} (hn : n0 ≤ w.heap.size) (W : World) (l : Nat) (o o' : Obj) (hl : w.heap.size ≤ l) (h : W.heap[l]? = some o) (hc : o.isCells = false) (hw : o.isWalk = false) : RoundKeeps n0 B1 W (W.putObj l o') := by
  have hne : ∀ k c t fr, W.heap[k]? = some (Obj.cells c t fr) → (W.putObj l o').heap[k]? = some (Obj.cells c t fr) := fun k c t fr hk => by
    have : k ≠ l := by
      intro e
      subst e
      rw [h] at hk
      cases hk
      cases hc
    exact (World.putObj_heap_other this).trans hk
  exact ⟨(grownBy_putObj' W l o').size, belowK_b hn W l o o' hl h hc hw, fun k c fr _ hk => hne k c _ fr hk, fun k c fr _ hk => hne k c _ fr hk⟩
theorem RoundKeeps.of_below {n0 B1 : Nat} {W W' : World} (hn : n0 ≤ W.heap.size) (h : Below W.heap.size W W') : RoundKeeps n0 B1 W W' :=
  ⟨h.size, h.mono hn, fun k c fr _ hk => (h.block k (Array.getElem?_eq_some_iff.1 hk).1).trans hk, fun k c fr _ hk => (h.block k (Array.getElem?_eq_some_iff.1 hk).1).trans hk⟩
theorem R_round {n0 B1 : Nat} {W W' : World} {v : Value} {xs : List ByteArray} (h : Kd.R Kd.string 9 W B1 (fun _ => True) v xs) (hk : RoundKeeps n0 B1 W W') : Kd.R Kd.string 9 W' B1 (fun _ => True) v xs :=
  Kd.R_mono (Kd.R_step (Kd.R_bound h) fun k ho _ => by
    obtain ⟨_, hb, _, q, hq, cells, hc⟩ := ho
    have : q = 9 := by
      rcases List.mem_cons.1 hq with h | h
      · exact h
      · cases h
    subst this
    exact (hk.row k cells (0, 0) hb hc).trans hc.symm) fun _ _ => trivial

set_option maxHeartbeats 1000000 in
set_option maxRecDepth 100000 in
theorem all_seq (v : Value) (m : Keyed2) (B : Nat) (w0 w : World) (n : Nat) (h : SnapAt w0 v m) (hb0 : Below w0.heap.size w0 w) (hB : w.heap[B]? = some (.cells #[v] 25 (0, 0))) (hB0 : w0.heap.size ≤ B) (hm : m.length ≤ 500) (hv : ∀ d ∈ defsL m, d.f3.length * 16 ≤ 140737488355328) (hk : ∀ k ∈ keysL m, k.length ≤ maxLen) :
    SeqPre Fence.wide n Tryz.prog 155 #[.pointer (some ⟨B, 0, none⟩)] (fun x : Elem => #[elemV x]) (RoundKeeps w0.heap.size w.heap.size) (ElemPre m) (fun xs => xs.map (·.1) = defsL m) (fun pre => pre.map (·.1) <+: defsL m) w := by
  intro l J Jx W hW hJ hJx hY h0
  obtain ⟨p, rfl⟩ : ∃ p, v = .pointer p := by
    rcases h with ⟨e, _⟩ | ⟨a, b, e, _⟩
    · exact ⟨_, e⟩
    · exact ⟨_, e⟩
  have hBW : W.heap[B]? = some (.cells #[.pointer p] 25 (0, 0)) := (hW.block B (Array.getElem?_eq_some_iff.1 hB).1).trans hB
  have hW0 : Below w0.heap.size w0 W := hb0.trans (hW.mono hb0.size)
  have HA := Lib.hid (all_later _ m w0 W h hW0)
  have HW := Lib.hid hW
  have HW0 := Lib.hid hW0
  have HBW := Lib.hid hBW
  have HY := Lib.hid hY
  have HJ := Lib.hid hJ
  have H0 := Lib.hid h0
  have hbox : W.cell? ⟨B, 0, none⟩ = some (.pointer p) := by simp [World.cell?, hBW]
  clear hY hJ hJx h0 hW hW0 hBW
  refine callsIn_of_wp Tryz.func155 rfl trivial ?_ rfl
  simp only [Tryz.ntmps155, List.size_toArray, List.length_cons, List.length_nil, Nat.reduceAdd, Nat.reduceSub, Array.replicate_succ, Array.replicate_zero, List.push_toArray, List.append_toArray, List.nil_append, List.cons_append]
  gi_wp2_with fail
  refine ⟨trivial, (fun h => by cases h), (callsIn_wide.2 HA.out).mono ?_⟩
  rintro e w1 ⟨mb, rfl, hmv, _, rfl⟩
  have HM := Lib.hid hmv
  clear hmv
  gi_wp2_with fail
  refine ⟨trivial, (fun h => by cases h), (callsIn_wide.2 (keysOf_calls mb W)).mono ?_⟩
  rintro e w1 ⟨rfl, rfl⟩
  gi_wp2_with fail
  refine ⟨trivial, (fun h => by cases h), (callsIn_wide.2 (sorted_R mb m W HM.out hm)).mono ?_⟩
  rintro e w2 ⟨vk, rfl, hR, hb2⟩
  obtain ⟨AK, cK, rfl, hKc, _⟩ := Kd.R_reads hR
  rw [keysB_length] at hKc
  have hszW : w.heap.size ≤ W.heap.size := HW.out.size
  have HKR : Hid (Kd.R Kd.string 9 w2 w.heap.size (fun _ => True) (.slice AK m.length cK) (keysB m)) := by
    have h1 := hR
    rw [keysB_length] at h1
    exact Kd.R_lower h1 hszW
  rw [keysB_length]
  have HJ2 := Lib.hid (HJ.out [] W w2 none H0.out (grown_of_below hb2 none) (fun r e => by cases e))
  have HB2 : Hid (Below w0.heap.size w0 w2) := HW0.out.trans (hb2.mono HW0.out.size)
  have HBW2 : Hid (w2.heap[B]? = some (.cells #[.pointer p] 25 (0, 0))) := (hb2.block B (Array.getElem?_eq_some_iff.1 HBW.out).1).trans HBW.out
  have HS2 : Hid (w.heap.size ≤ w2.heap.size) := Nat.le_trans hszW hb2.size
  clear hb2 hR
  gi_wp2_with fail
  gi_loopw [10] (fun t10 wr => ∃ (i : Nat) (pre : List Elem), t10 = .int .i64 i ∧ i ≤ m.length ∧ Hid (pre.length = i) ∧ Hid (pre.map (·.1) = (defsL m).take i) ∧ Hid (J pre wr) ∧ Hid (Below w0.heap.size w0 wr) ∧ Hid (wr.heap[B]? = some (.cells #[.pointer p] 25 (0, 0))) ∧ Hid (Kd.R Kd.string 9 wr w.heap.size (fun _ => True) (.slice AK m.length cK) (keysB m)) ∧ Hid (w.heap.size ≤ wr.heap.size)) (fun t10 _ => m.length - (intOf t10).toNat)
  case atStart => exact ⟨0, [], rfl, Nat.zero_le _, rfl, rfl, HJ2.out, HB2.out, HBW2.out, HKR.out, HS2.out⟩
  case round =>
    obtain ⟨i, pre, rfl, hi, hpl, hpm, hj, hb, hbx, hkr, hsz⟩ := hrel
    by_cases hlt : i < m.length
    · have hkc : Kd.C Kd.string wr AK m.length (keysB m) := by have := (Kd.R_reads' hkr.out).2.2; rwa [keysB_length] at this
      obtain ⟨ad, hA, hc⟩ := Kd.at_string hkc (i : Int) (by omega) (by omega)
      subst hA
      rw [Int.toNat_natCast] at hc
      obtain ⟨d, hd⟩ : ∃ d, (m[i]'hlt).2 = d := ⟨_, rfl⟩
      obtain ⟨key, hkey⟩ : ∃ key, rdOf ByteArray.empty (keysB m) (i : Int) = key := ⟨_, rfl⟩
      have hkd : key.data.toList = (m[i]'hlt).1 := by
        rw [← hkey]
        simp [rdOf, keysB, keysL, hlt, textOf]
      have hks : key.size ≤ maxLen := by
        have := hk (m[i]'hlt).1 (List.mem_map.2 ⟨_, List.getElem_mem hlt, rfl⟩)
        rw [← hkd] at this
        simpa using this
      have hdv : d.f3.length * 16 ≤ 140737488355328 := hv d (by rw [← hd]; exact List.mem_map.2 ⟨_, List.getElem_mem hlt, rfl⟩)
      rw [hkey] at hc
      have hs2 : ∃ a b, p = some ⟨a, 0, none⟩ ∧ wr.cell? ⟨a, 0, none⟩ = some (.map (some b)) ∧ MapOf wr b m := by
        rcases h.below hb.out with ⟨_, rfl⟩ | h2
        · simp at hlt
        · obtain ⟨a, b, e, h3, h4⟩ := h2
          exact ⟨a, b, by injection e, h3, h4⟩
      obtain ⟨a, b, rfl, hca, hmb⟩ := hs2
      obtain ⟨vd, ps, hrun, hRv⟩ := hmb.lookup law Tryz.underlying121 (zeroDef wr) (RD_of (DefAt.zero wr)) (keyText key hks)
      rw [sd_at, hkd, mget_at hmb.rising hlt, hd] at hRv
      obtain ⟨d', ⟨A5, c5, rfl, hl5, hC5⟩, he⟩ := RD_inv hRv
      simp only [Prod.mk.injEq, DataW.held.injEq] at he
      obtain ⟨rfl, _⟩ := he
      have hbw : wr.cell? ⟨B, 0, none⟩ = some (.pointer (some ⟨a, 0, none⟩)) := by simp [World.cell?, hbx.out]
      have HC5 := Lib.hid hC5
      have HD := Lib.hid hd
      clear hC5 hRv hmb hd hkd hkey hkc
      gi_wp2_with fail
      refine ⟨trivial, (fun h => by cases h), (callsIn_wide.2 (clone_R _ d wr ⟨A5, c5, rfl, hl5, HC5.out⟩ hdv)).mono ?_⟩
      rintro e w3 ⟨A6, c6, rfl, hR6, hb3⟩
      have hl6 := (Kd.R_reads' hR6).2.1
      have hC6 := (Kd.R_reads' hR6).2.2
      have hJ3 := HJ.out pre wr w3 none hj.out (grown_of_below hb3 none) (fun r e => by cases e)
      obtain ⟨fn, tmps, assign, body, hy, hR⟩ := HY.out pre (d, A6, c6) w3 hJ3 ⟨⟨by have := hpl.out; omega, by have := hpl.out; subst this; exact HD.out.symm⟩, hl6, hC6, _, hR6⟩
      dsimp only [elemV] at hy
      have hk3 : RoundKeeps w0.heap.size w.heap.size wr w3 := RoundKeeps.of_below hb.out.size hb3
      have HK3 := Lib.hid hk3
      have HR := Lib.hid hR
      have hnext : Hid ((pre ++ [(d, A6, c6)]).map (·.1) = (defsL m).take (i + 1)) := by
        have hpm' := hpm.out
        show (pre ++ [(d, A6, c6)]).map (·.1) = (defsL m).take (i + 1)
        rw [List.map_append, hpm', List.take_succ_eq_append_getElem (by simpa [defsL] using hlt)]
        simp [defsL, HD.out]
      clear hb3 hJ3 hC6 hR6 hR hk3 hc hca hbw hrun
      gi_wp2
      refine ⟨(fun h => by cases h), HR.out.mono ?_⟩
      rintro e W3 (⟨rfl, hJ', hK⟩ | ⟨rfl, hJx'⟩)
      · have hK4 := HK3.out.trans hK
        have HK4 := Lib.hid hK4
        have HJ4 := Lib.hid hJ'
        clear hK hJ' hK4
        gi_wp2
        go_roundw
        case rel =>
          have hlen : Hid ((pre ++ [(d, A6, c6)]).length = i + 1) := by have := hpl.out; show (pre ++ [(d, A6, c6)]).length = i + 1; simp; omega
          exact ⟨i + 1, pre ++ [(d, A6, c6)], by go_num, by omega, hlen, hnext, HJ4.out, hb.out.trans HK4.out.old, HK4.out.box B _ _ hB0 hbx.out, R_round hkr.out HK4.out, Nat.le_trans hsz.out HK4.out.size⟩
        case measure => simp [intOf]; omega
      · have HX := Lib.hid hJx'
        clear hJx'
        gi_wp2
        refine bodyPost_ret (results_none rfl _ _ _) rfl ?_
        exact ⟨⟨_, rfl⟩, .inr ⟨pre ++ [(d, A6, c6)], by rw [hnext.out]; exact List.take_prefix _ _, HX.out⟩⟩
    · obtain rfl : i = m.length := by omega
      gi_wp2
      go_end0
      exact ⟨⟨_, rfl⟩, .inl ⟨pre, by rw [hpm.out, List.take_of_length_le (by simp [defsL])], hj.out⟩⟩

end Go.Proofs.YtodpdlpncgkkdaaGreatDoor
end
