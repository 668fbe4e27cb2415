/- The walk of segment.Split. -/
import Derived.Test.YthgfdcbeajfojaaDoorName
set_option autoImplicit false
namespace Go.Proofs.YthgfdcbeajfojaaDoor
open Go.RowKit

/-- Whose a file is, and from which number on. -/
def splitOf (l : Bytes) : Option (Int × Nat) :=
  match Lib.atoiAll (Lib.cut (Lib.trimPrefix l feedB) [45]).1, parseHex (Lib.cut (Lib.trimPrefix l feedB) [45]).2.1 with
  | .ok n, .ok f => if Lib.hasPrefix l feedB = true ∧ (Lib.cut (Lib.trimPrefix l feedB) [45]).2.2 = true ∧ 0 ≤ n ∧ nameOf n f = l then some (n, f) else none
  | _, _ => none
theorem parseHex_lt {l : Bytes} {u : Nat} (h : parseHex l = .ok u) : u < 18446744073709551616 := by
  unfold parseHex at h
  split at h
  · simp [noNum, Lib.parseMag] at h
  · exact parse16_lt l 0 u (by omega) h
def RetSplit (w : World) (l : Bytes) (e : Ending) (w' : World) : Prop :=
  Mod No w w' ∧ match splitOf l with
  | some (n, f) => e = .returned (.tuple #[.int .i64 n, .int .u64 f, .bool true])
  | none => e = .returned (.tuple #[.int .i64 0, .int .u64 0, .bool false])
theorem cut_len (l s : Bytes) : (Lib.cut l s).1.length ≤ l.length ∧ (Lib.cut l s).2.1.length ≤ l.length := by
  unfold Lib.cut
  split
  · simp only [List.length_take, List.length_drop]; omega
  · simp
theorem trim_len (l p : Bytes) : (Lib.trimPrefix l p).length ≤ l.length := by
  unfold Lib.trimPrefix
  split
  · simp only [List.length_drop]; omega
  · exact Nat.le_refl _
theorem CutPrefix_any (w : World) (l : Bytes) : Calls Tryd.prog 11 #[.string (str l), .string ⟨#[102, 101, 101, 100, 45]⟩] w fun e w' => e = .returned (.tuple #[.string (str (Lib.trimPrefix l feedB)), .bool (Lib.hasPrefix l feedB)]) ∧ w' = w := by
  refine (Tryd.strings_CutPrefix (str l) ⟨#[102, 101, 101, 100, 45]⟩ w).mono ?_
  rintro e w' ⟨rfl, rfl⟩
  exact ⟨rfl, rfl⟩
theorem Cut_any (w : World) (l : Bytes) (hv : Vars w) (hl : l.length ≤ 4294967280) : Calls Tryd.prog 12 #[.string (str l), .string ⟨#[45]⟩] w fun e w' => e = .returned (.tuple #[.string (str (Lib.cut l [45]).1), .string (str (Lib.cut l [45]).2.1), .bool (Lib.cut l [45]).2.2]) ∧ Mod No w w' := by
  obtain ⟨m, hm⟩ := hv.mlen
  refine (Tryd.strings_Cut (str l) ⟨#[45]⟩ m w (by rw [str_size]; omega) hm).mono ?_
  rintro e w' ⟨rfl, n, rfl⟩
  exact ⟨rfl, (Mod.refl No w).drewN n⟩
theorem RetSplit.none {w w' : World} {l : Bytes} (hm : Mod No w w') (h : splitOf l = none) : RetSplit w l (.returned (.tuple #[.int .i64 0, .int .u64 0, .bool false])) w' := by
  unfold RetSplit
  rw [h]
  exact ⟨hm, rfl⟩
theorem RetSplit.some {w w' : World} {l : Bytes} {n : Int} {f : Nat} (hm : Mod No w w') (h : splitOf l = some (n, f)) : RetSplit w l (.returned (.tuple #[.int .i64 n, .int .u64 f, .bool true])) w' := by
  unfold RetSplit
  rw [h]
  exact ⟨hm, rfl⟩
theorem splitOf_bad {l : Bytes} (h : ∀ n, Lib.atoiAll (Lib.cut (Lib.trimPrefix l feedB) [45]).1 ≠ .ok n) : splitOf l = Option.none := by
  unfold splitOf
  split
  · rename_i n f hA hP
    exact absurd hA (h n)
  · rfl
theorem splitOf_bad2 {l : Bytes} (h : ∀ n, parseHex (Lib.cut (Lib.trimPrefix l feedB) [45]).2.1 ≠ .ok n) : splitOf l = Option.none := by
  unfold splitOf
  split
  · rename_i n f hA hP
    exact absurd hP (h f)
  · rfl
set_option maxRecDepth 100000 in
set_option maxHeartbeats 1600000 in
theorem split_bad (w : World) (l : Bytes) (hv : Vars w) (hl : l.length ≤ 1048576) (hA : ∀ n, Lib.atoiAll (Lib.cut (Lib.trimPrefix l feedB) [45]).1 ≠ .ok n) :
    Calls Tryd.prog 6 #[.string (str l)] w (RetSplit w l) := by
  have HV := Lib.hid hv; have H1 := Lib.hid (trim_len l feedB); have H2 := Lib.hid (cut_len (Lib.trimPrefix l feedB) [45]); have HL := Lib.hid hl
  clear hv hl
  have HN := Lib.hid (splitOf_bad hA)
  have HA := Lib.hid (show ∀ n, Lib.atoiAll (str (Lib.cut (Lib.trimPrefix l feedB) [45]).1).data.toList ≠ .ok n from hA)
  clear hA
  go_enter Tryd.func6, Tryd.ntmps6
  go_wp2_with (first
    | (go_at_call 11; refine (CutPrefix_any _ l).mono ?_; rintro e w1 ⟨rfl, rfl⟩)
    | (go_at_call 12; refine (Cut_any _ _ HV.out (by have := H1.out; have := HL.out; omega)).mono ?_; rintro e w2 ⟨rfl, hm⟩; have HM := Lib.hid hm; clear hm)
    | (go_at_call 13; refine (Atoi_any _ _ (HV.out.mod HM.out) (by rw [str_size]; have := H1.out; have := H2.out.1; have := HL.out; omega)).mono ?_; rintro e w3 hr; obtain ⟨hm, n1, p1, rfl⟩ := retnum_bad HA.out hr; have HM2 := Lib.hid (HM.out.seq hm); clear hm hr)
    | (go_at_call 14; refine (ParseUint_any _ _ (HV.out.mod HM2.out) (by rw [str_size]; have := H1.out; have := H2.out.2; have := HL.out; omega)).mono ?_; rintro e w4 hr; obtain ⟨hm, n2, p2, rfl⟩ := retnum_any hr; have HM3 := Lib.hid (HM2.out.seq hm); clear hm hr)
    | fail)
  all_goals go_ret3
  all_goals exact RetSplit.none HM3.out HN.out
set_option maxRecDepth 100000 in
set_option maxHeartbeats 1600000 in
theorem split_bad2 (w : World) (l : Bytes) (hv : Vars w) (hl : l.length ≤ 1048576) (n : Int) (hA : Lib.atoiAll (Lib.cut (Lib.trimPrefix l feedB) [45]).1 = .ok n) (hP : ∀ n, parseHex (Lib.cut (Lib.trimPrefix l feedB) [45]).2.1 ≠ .ok n) :
    Calls Tryd.prog 6 #[.string (str l)] w (RetSplit w l) := by
  have HV := Lib.hid hv; have H1 := Lib.hid (trim_len l feedB); have H2 := Lib.hid (cut_len (Lib.trimPrefix l feedB) [45]); have HL := Lib.hid hl
  clear hv hl
  have HN := Lib.hid (splitOf_bad2 hP)
  have HA := Lib.hid (show Lib.atoiAll (str (Lib.cut (Lib.trimPrefix l feedB) [45]).1).data.toList = .ok n from hA); have HP := Lib.hid (show ∀ n, parseHex (str (Lib.cut (Lib.trimPrefix l feedB) [45]).2.1).data.toList ≠ .ok n from hP)
  clear hA hP
  go_enter Tryd.func6, Tryd.ntmps6
  go_wp2_with (first
    | (go_at_call 11; refine (CutPrefix_any _ l).mono ?_; rintro e w1 ⟨rfl, rfl⟩)
    | (go_at_call 12; refine (Cut_any _ _ HV.out (by have := H1.out; have := HL.out; omega)).mono ?_; rintro e w2 ⟨rfl, hm⟩; have HM := Lib.hid hm; clear hm)
    | (go_at_call 13; refine (Atoi_any _ _ (HV.out.mod HM.out) (by rw [str_size]; have := H1.out; have := H2.out.1; have := HL.out; omega)).mono ?_; rintro e w3 hr; obtain ⟨hm, rfl⟩ := retnum_ok HA.out hr; have HM2 := Lib.hid (HM.out.seq hm); clear hm hr)
    | (go_at_call 14; refine (ParseUint_any _ _ (HV.out.mod HM2.out) (by rw [str_size]; have := H1.out; have := H2.out.2; have := HL.out; omega)).mono ?_; rintro e w4 hr; obtain ⟨hm, n2, p2, rfl⟩ := retnum_bad HP.out hr; have HM3 := Lib.hid (HM2.out.seq hm); clear hm hr)
    | fail)
  all_goals go_ret3
  all_goals exact RetSplit.none HM3.out HN.out
set_option maxRecDepth 100000 in
set_option maxHeartbeats 1600000 in
theorem split_ok (w : World) (l : Bytes) (hv : Vars w) (hl : l.length ≤ 1048576) (n : Int) (f : Nat) (hA : Lib.atoiAll (Lib.cut (Lib.trimPrefix l feedB) [45]).1 = .ok n) (hP : parseHex (Lib.cut (Lib.trimPrefix l feedB) [45]).2.1 = .ok f) :
    Calls Tryd.prog 6 #[.string (str l)] w (RetSplit w l) := by
  have HV := Lib.hid hv; have H1 := Lib.hid (trim_len l feedB); have H2 := Lib.hid (cut_len (Lib.trimPrefix l feedB) [45]); have HL := Lib.hid hl
  clear hv hl
  have HB := Lib.hid (Lib.atoiAll_bounds hA); have HF := Lib.hid (parseHex_lt hP); have HA := Lib.hid (show Lib.atoiAll (str (Lib.cut (Lib.trimPrefix l feedB) [45]).1).data.toList = .ok n from hA); have HP := Lib.hid (show parseHex (str (Lib.cut (Lib.trimPrefix l feedB) [45]).2.1).data.toList = .ok f from hP)
  have key : splitOf l = if Lib.hasPrefix l feedB = true ∧ (Lib.cut (Lib.trimPrefix l feedB) [45]).2.2 = true ∧ 0 ≤ n ∧ nameOf n f = l then Option.some (n, f) else Option.none := by unfold splitOf; rw [hA, hP]
  clear hA hP
  cases hb1 : Lib.hasPrefix l feedB with
  | false =>
    have HN := Lib.hid (show splitOf l = Option.none by rw [key, hb1]; simp)
    clear key
    go_enter Tryd.func6, Tryd.ntmps6
    go_wp2_with (first
      | (go_at_call 11; refine (CutPrefix_any _ l).mono ?_; rintro e w1 ⟨rfl, rfl⟩)
      | (go_at_call 12; refine (Cut_any _ _ HV.out (by have := H1.out; have := HL.out; omega)).mono ?_; rintro e w2 ⟨rfl, hm⟩; have HM := Lib.hid hm; clear hm)
      | (go_at_call 13; refine (Atoi_any _ _ (HV.out.mod HM.out) (by rw [str_size]; have := H1.out; have := H2.out.1; have := HL.out; omega)).mono ?_; rintro e w3 hr; obtain ⟨hm, rfl⟩ := retnum_ok HA.out hr; have HM2 := Lib.hid (HM.out.seq hm); clear hm hr)
      | (go_at_call 14; refine (ParseUint_any _ _ (HV.out.mod HM2.out) (by rw [str_size]; have := H1.out; have := H2.out.2; have := HL.out; omega)).mono ?_; rintro e w4 hr; obtain ⟨hm, rfl⟩ := retnum_ok HP.out hr; have HM3 := Lib.hid (HM2.out.seq hm); clear hm hr)
      | fail)
    all_goals go_ret3
    all_goals exact RetSplit.none HM3.out HN.out
  | true =>
    cases hb2 : (Lib.cut (Lib.trimPrefix l feedB) [45]).2.2 with
    | false =>
      have HN := Lib.hid (show splitOf l = Option.none by rw [key, hb2]; simp)
      clear key
      go_enter Tryd.func6, Tryd.ntmps6
      go_wp2_with (first
        | (go_at_call 11; refine (CutPrefix_any _ l).mono ?_; rintro e w1 ⟨rfl, rfl⟩)
        | (go_at_call 12; refine (Cut_any _ _ HV.out (by have := H1.out; have := HL.out; omega)).mono ?_; rintro e w2 ⟨rfl, hm⟩; have HM := Lib.hid hm; clear hm)
        | (go_at_call 13; refine (Atoi_any _ _ (HV.out.mod HM.out) (by rw [str_size]; have := H1.out; have := H2.out.1; have := HL.out; omega)).mono ?_; rintro e w3 hr; obtain ⟨hm, rfl⟩ := retnum_ok HA.out hr; have HM2 := Lib.hid (HM.out.seq hm); clear hm hr)
        | (go_at_call 14; refine (ParseUint_any _ _ (HV.out.mod HM2.out) (by rw [str_size]; have := H1.out; have := H2.out.2; have := HL.out; omega)).mono ?_; rintro e w4 hr; obtain ⟨hm, rfl⟩ := retnum_ok HP.out hr; have HM3 := Lib.hid (HM2.out.seq hm); clear hm hr)
        | fail)
      all_goals go_ret3
      all_goals exact RetSplit.none HM3.out HN.out
    | true =>
      by_cases hb3 : n < 0
      · have HN := Lib.hid (show splitOf l = Option.none by rw [key, if_neg (fun h => absurd h.2.2.1 (by omega))])
        clear key
        go_enter Tryd.func6, Tryd.ntmps6
        go_wp2_with (first
          | (go_at_call 11; refine (CutPrefix_any _ l).mono ?_; rintro e w1 ⟨rfl, rfl⟩)
          | (go_at_call 12; refine (Cut_any _ _ HV.out (by have := H1.out; have := HL.out; omega)).mono ?_; rintro e w2 ⟨rfl, hm⟩; have HM := Lib.hid hm; clear hm)
          | (go_at_call 13; refine (Atoi_any _ _ (HV.out.mod HM.out) (by rw [str_size]; have := H1.out; have := H2.out.1; have := HL.out; omega)).mono ?_; rintro e w3 hr; obtain ⟨hm, rfl⟩ := retnum_ok HA.out hr; have HM2 := Lib.hid (HM.out.seq hm); clear hm hr)
          | (go_at_call 14; refine (ParseUint_any _ _ (HV.out.mod HM2.out) (by rw [str_size]; have := H1.out; have := H2.out.2; have := HL.out; omega)).mono ?_; rintro e w4 hr; obtain ⟨hm, rfl⟩ := retnum_ok HP.out hr; have HM3 := Lib.hid (HM2.out.seq hm); clear hm hr)
          | fail)
        all_goals go_ret3
        all_goals exact RetSplit.none HM3.out HN.out
      · have hb3' : 0 ≤ n := by omega
        have hs := str_beq (nameOf n f) l
        by_cases hb4 : nameOf n f = l
        · have HN := Lib.hid (show splitOf l = Option.some (n, f) by rw [key, if_pos ⟨hb1, hb2, hb3', hb4⟩])
          rw [decide_eq_true hb4] at hs
          clear key hb4
          go_enter Tryd.func6, Tryd.ntmps6
          go_wp2_with (first
            | (go_at_call 11; refine (CutPrefix_any _ l).mono ?_; rintro e w1 ⟨rfl, rfl⟩)
            | (go_at_call 12; refine (Cut_any _ _ HV.out (by have := H1.out; have := HL.out; omega)).mono ?_; rintro e w2 ⟨rfl, hm⟩; have HM := Lib.hid hm; clear hm)
            | (go_at_call 13; refine (Atoi_any _ _ (HV.out.mod HM.out) (by rw [str_size]; have := H1.out; have := H2.out.1; have := HL.out; omega)).mono ?_; rintro e w3 hr; obtain ⟨hm, rfl⟩ := retnum_ok HA.out hr; have HM2 := Lib.hid (HM.out.seq hm); clear hm hr)
            | (go_at_call 14; refine (ParseUint_any _ _ (HV.out.mod HM2.out) (by rw [str_size]; have := H1.out; have := H2.out.2; have := HL.out; omega)).mono ?_; rintro e w4 hr; obtain ⟨hm, rfl⟩ := retnum_ok HP.out hr; have HM3 := Lib.hid (HM2.out.seq hm); clear hm hr)
            | (go_at_call 5; refine (Name_any _ n f (HV.out.mod HM3.out) HB.out.1 HB.out.2 HF.out).mono ?_; rintro e w5 ⟨rfl, hm⟩; have HM4 := Lib.hid (HM3.out.seq hm); clear hm)
            | fail)
          all_goals go_ret3
          all_goals exact RetSplit.some HM4.out HN.out
        · have HN := Lib.hid (show splitOf l = Option.none by rw [key, if_neg (fun h => hb4 h.2.2.2)])
          rw [decide_eq_false hb4] at hs
          clear key hb4
          go_enter Tryd.func6, Tryd.ntmps6
          go_wp2_with (first
            | (go_at_call 11; refine (CutPrefix_any _ l).mono ?_; rintro e w1 ⟨rfl, rfl⟩)
            | (go_at_call 12; refine (Cut_any _ _ HV.out (by have := H1.out; have := HL.out; omega)).mono ?_; rintro e w2 ⟨rfl, hm⟩; have HM := Lib.hid hm; clear hm)
            | (go_at_call 13; refine (Atoi_any _ _ (HV.out.mod HM.out) (by rw [str_size]; have := H1.out; have := H2.out.1; have := HL.out; omega)).mono ?_; rintro e w3 hr; obtain ⟨hm, rfl⟩ := retnum_ok HA.out hr; have HM2 := Lib.hid (HM.out.seq hm); clear hm hr)
            | (go_at_call 14; refine (ParseUint_any _ _ (HV.out.mod HM2.out) (by rw [str_size]; have := H1.out; have := H2.out.2; have := HL.out; omega)).mono ?_; rintro e w4 hr; obtain ⟨hm, rfl⟩ := retnum_ok HP.out hr; have HM3 := Lib.hid (HM2.out.seq hm); clear hm hr)
            | (go_at_call 5; refine (Name_any _ n f (HV.out.mod HM3.out) HB.out.1 HB.out.2 HF.out).mono ?_; rintro e w5 ⟨rfl, hm⟩; have HM4 := Lib.hid (HM3.out.seq hm); clear hm)
            | fail)
          all_goals go_ret3
          all_goals exact RetSplit.none HM4.out HN.out
theorem Split_any (w : World) (l : Bytes) (hv : Vars w) (hl : l.length ≤ 1048576) : Calls Tryd.prog 6 #[.string (str l)] w (RetSplit w l) := by
  cases hA : Lib.atoiAll (Lib.cut (Lib.trimPrefix l feedB) [45]).1 with
  | ok n =>
    cases hP : parseHex (Lib.cut (Lib.trimPrefix l feedB) [45]).2.1 with
    | ok f => exact split_ok w l hv hl n f hA hP
    | _ => exact split_bad2 w l hv hl n hA (by simp [hP])
  | _ => exact split_bad w l hv hl (by simp [hA])
end Go.Proofs.YthgfdcbeajfojaaDoor
