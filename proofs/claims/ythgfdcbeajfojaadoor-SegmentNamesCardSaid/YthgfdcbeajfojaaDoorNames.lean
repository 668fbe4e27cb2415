/- The walk of the statement on a segment's name. -/
import Derived.Test.YthgfdcbeajfojaaDoorNamed
set_option autoImplicit false
namespace Go.Proofs.YthgfdcbeajfojaaDoor
open Go.RowKit

/-- What the document's example is to be. -/
def exampleB : Bytes := [102, 101, 101, 100, 45, 51, 45, 48, 48, 48, 48, 48, 48, 48, 48, 48, 48, 48, 48, 48, 48, 102, 102]
theorem example_is : nameOf 3 255 = exampleB := by
  have e1 : Lib.itoa 3 = [51] := by
    show Lib.decDigits 3 = _
    rw [Lib.decDigits_one (by omega)]
    rfl
  have e2 : hexs 255 = [102, 102] := by
    rw [hexs_big (by omega), hexs_small (by omega)]
    rfl
  unfold nameOf beginOf padOf
  rw [e1, e2]
  rfl
set_option maxRecDepth 100000 in
theorem awake_any (w : World) (hv : Vars w) : Calls Tryd.prog 4 #[] w (fun e w' => e = .returned (.bool true) ∧ Mod No w w') := by
  have HV := Lib.hid hv
  clear hv
  have he : ((str (nameOf 3 255)).toList == [102, 101, 101, 100, 45, 51, 45, 48, 48, 48, 48, 48, 48, 48, 48, 48, 48, 48, 48, 48, 48, 102, 102]) = true := by
    rw [str_toList, example_is]
    rfl
  have hn := Name_any w 3 255 HV.out (by omega) (by omega) (by omega)
  generalize nameOf 3 255 = l at *
  have HN := Lib.hid hn
  clear hn
  go_enter Tryd.func4, Tryd.ntmps4
  go_wp2_with (first
    | (go_at_call 5; refine HN.out.mono ?_; rintro e w1 ⟨rfl, hb⟩; have HB := Lib.hid hb; clear hb)
    | fail)
  go_ret
  exact ⟨rfl, HB.out⟩
set_option maxRecDepth 100000 in
set_option maxHeartbeats 1600000 in
theorem SegmentNames_long (w : World) (n x : Nat) (s : ByteArray) (hv : Vars w) (hs : 60 < s.size) :
    Calls Tryd.prog 3 #[.int .u8 n, .int .u64 x, .string s] w (fun e w' => e = .returned (.bool true) ∧ Mod No w w') := by
  have HV := Lib.hid hv
  clear hv
  go_enter Tryd.func3, Tryd.ntmps3
  go_upto_region 2 with (first
    | (go_at_call 4; refine (awake_any _ HV.out).mono ?_; rintro e w1 ⟨rfl, hb⟩; have HB := Lib.hid hb; clear hb)
    | fail)
  go_wp2_with (first
    | (go_at_call 4; refine (awake_any _ (HV.out.mod HB.out)).mono ?_; rintro e w2 ⟨rfl, hb⟩; have HB2 := Lib.hid hb; clear hb)
    | fail)
  go_ret
  exact ⟨rfl, HB.out.seq HB2.out⟩
theorem name_begin (n : Int) (x : Nat) : (str (nameOf n x)).extract 0 (beginOf n).length = str (beginOf n) := by
  apply ByteArray.ext
  simp [str, nameOf]
set_option maxRecDepth 100000 in
set_option maxHeartbeats 1600000 in
theorem SegmentNames_none (w : World) (n x : Nat) (l : Bytes) (hv : Vars w) (hn : n < 256) (hx : x < 18446744073709551616) (hs : (str l).size ≤ 60) (h : splitOf l = Option.none) :
    Calls Tryd.prog 3 #[.int .u8 n, .int .u64 x, .string (str l)] w (fun e w' => e = .returned (.bool true) ∧ Mod No w w') := by
  have HV := Lib.hid hv
  have HX := Lib.hid hx
  have HH := Lib.hid h
  have hn1 := nameOf_len n x (by omega) (by omega) hx
  have HN := Lib.hid hn1
  have hl1 : (str (nameOf n x)).size = (nameOf n x).length := str_size _
  have hl2 : (str (beginOf n)).size = (beginOf n).length := str_size _
  obtain ⟨hn48, hnb⟩ := hn1
  have HL := Lib.hid (show l.length ≤ 1048576 by rw [str_size] at hs; omega)
  have hext : ((str (nameOf n x)).extract 0 (beginOf n).length).toList = (str (beginOf n)).toList := congrArg ByteArray.toList (name_begin n x)
  clear hv hx h
  go_enter Tryd.func3, Tryd.ntmps3
  go_wp2_with (first
    | (go_at_call 4; refine (awake_any _ HV.out).mono ?_; rintro e w1 ⟨rfl, hb⟩; have HB := Lib.hid hb; clear hb)
    | (go_at_call 5; refine (Name_any _ n x (HV.out.mod HB.out) (by omega) (by omega) HX.out).mono ?_; rintro e w2 ⟨rfl, hm⟩; have HM2 := Lib.hid (HB.out.seq hm); clear hm)
    | (go_at_call_of 6 (str (nameOf n x)); refine (Split_any _ (nameOf n x) (HV.out.mod HM2.out) (by have := HN.out; omega)).mono ?_; rintro e w3 ⟨hm, hr⟩; have HM3 := Lib.hid (HM2.out.seq hm); clear hm; rw [split_name n x (by omega) (by omega) HX.out] at hr; obtain rfl := hr)
    | (go_at_call_of 6 (str l); refine (Split_any _ l (HV.out.mod HM3.out) HL.out).mono ?_; rintro e w4 ⟨hm, hr⟩; have HM4 := Lib.hid (HM3.out.seq hm); clear hm; rw [HH.out] at hr; obtain rfl := hr)
    | (go_at_call 7; refine (Begin_any _ n (HV.out.mod HM4.out) (by omega) (by omega)).mono ?_; rintro e w5 ⟨rfl, hm⟩; have HM5 := Lib.hid (HM4.out.seq hm); clear hm)
    | (go_at_call 8; refine (Named_any _ (nameOf n x) (fun h => by have := HN.out.2; rw [h] at this; simp at this) HN.out.1 (nameOf_ok n x (by omega))).mono ?_; rintro e w6 ⟨rfl, hm⟩; have HM6 := Lib.hid (HM5.out.seq hm); clear hm)
    | fail)
  go_ret
  exact ⟨rfl, HM6.out⟩
set_option maxRecDepth 100000 in
set_option maxHeartbeats 1600000 in
theorem SegmentNames_some (w : World) (n x : Nat) (l : Bytes) (hv : Vars w) (hn : n < 256) (hx : x < 18446744073709551616) (hs : (str l).size ≤ 60) (m : Int) (y : Nat) (h : splitOf l = Option.some (m, y)) :
    Calls Tryd.prog 3 #[.int .u8 n, .int .u64 x, .string (str l)] w (fun e w' => e = .returned (.bool true) ∧ Mod No w w') := by
  have HV := Lib.hid hv
  have HX := Lib.hid hx
  have HH := Lib.hid h
  have hn1 := nameOf_len n x (by omega) (by omega) hx
  have HN := Lib.hid hn1
  have HS := Lib.hid (split_some h)
  have heq : ((str (nameOf m y)).toList == (str l).toList) = true := by rw [HS.out.1]; exact beq_self_eq_true _
  have hl1 : (str (nameOf n x)).size = (nameOf n x).length := str_size _
  have hl2 : (str (beginOf n)).size = (beginOf n).length := str_size _
  obtain ⟨hn48, hnb⟩ := hn1
  have HL := Lib.hid (show l.length ≤ 1048576 by rw [str_size] at hs; omega)
  have hext : ((str (nameOf n x)).extract 0 (beginOf n).length).toList = (str (beginOf n)).toList := congrArg ByteArray.toList (name_begin n x)
  clear hv hx h
  go_enter Tryd.func3, Tryd.ntmps3
  go_wp2_with (first
    | (go_at_call 4; refine (awake_any _ HV.out).mono ?_; rintro e w1 ⟨rfl, hb⟩; have HB := Lib.hid hb; clear hb)
    | (go_at_call_of 5 (Value.int .i64 (n : Int)); refine (Name_any _ n x (HV.out.mod HB.out) (by omega) (by omega) HX.out).mono ?_; rintro e w2 ⟨rfl, hm⟩; have HM2 := Lib.hid (HB.out.seq hm); clear hm)
    | (go_at_call_of 6 (str (nameOf n x)); refine (Split_any _ (nameOf n x) (HV.out.mod HM2.out) (by have := HN.out; omega)).mono ?_; rintro e w3 ⟨hm, hr⟩; have HM3 := Lib.hid (HM2.out.seq hm); clear hm; rw [split_name n x (by omega) (by omega) HX.out] at hr; obtain rfl := hr)
    | (go_at_call_of 6 (str l); refine (Split_any _ l (HV.out.mod HM3.out) HL.out).mono ?_; rintro e w4 ⟨hm, hr⟩; have HM4 := Lib.hid (HM3.out.seq hm); clear hm; rw [HH.out] at hr; obtain rfl := hr)
    | (go_at_call 7; refine (Begin_any _ n (HV.out.mod HM4.out) (by omega) (by omega)).mono ?_; rintro e w5 ⟨rfl, hm⟩; have HM5 := Lib.hid (HM4.out.seq hm); clear hm)
    | (go_at_call 8; refine (Named_any _ (nameOf n x) (fun h => by have := HN.out.2; rw [h] at this; simp at this) HN.out.1 (nameOf_ok n x (by omega))).mono ?_; rintro e w6 ⟨rfl, hm⟩; have HM6 := Lib.hid (HM5.out.seq hm); clear hm)
    | (go_at_call_of 5 (Value.int .i64 m); refine (Name_any _ m y (HV.out.mod HM6.out) (by have := HS.out.2.1; omega) HS.out.2.2.1 HS.out.2.2.2).mono ?_; rintro e w7 ⟨rfl, hm⟩; have HM7 := Lib.hid (HM6.out.seq hm); clear hm)
    | fail)
  go_ret
  exact ⟨rfl, HM7.out⟩
/-- The statement, called with whatever it is. -/
theorem SegmentNames_any (w : World) (n x : Nat) (s : ByteArray) (hv : Vars w) (hn : n < 256) (hx : x < 18446744073709551616) :
    Calls Tryd.prog 3 #[.int .u8 n, .int .u64 x, .string s] w (fun e w' => e = .returned (.bool true) ∧ Mod No w w') := by
  by_cases hs : 60 < s.size
  · exact SegmentNames_long w n x s hv hs
  · obtain ⟨l, rfl⟩ : ∃ l, s = str l := ⟨s.toList, (str_of s).symm⟩
    cases h : splitOf l with
    | none => exact SegmentNames_none w n x l hv hn hx (by omega) h
    | some p => exact SegmentNames_some w n x l hv hn hx (by omega) p.1 p.2 h
end Go.Proofs.YthgfdcbeajfojaaDoor
