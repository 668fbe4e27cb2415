/- The walks of strconv's ParseUint at base 16, and of Atoi: whatever the string. -/
import Derived.Test.YthgfdcbeajfojaaDoorHex
import Derived.Test.YthgfdcbeajfojaaDoorShelf
set_option autoImplicit false
namespace Go.Proofs.YthgfdcbeajfojaaDoor
open Go.RowKit

/-- A letter made small, as strconv makes it. -/
def lowOf (c : UInt8) : Nat := (bits .or .u8 (c.toNat : Int) 32).toNat
/-- What a byte is worth to the base of 16. -/
def hexVal (c : UInt8) : Option Nat := if 48 ≤ c.toNat ∧ c.toNat ≤ 57 then some (c.toNat - 48) else if 97 ≤ lowOf c ∧ lowOf c ≤ 102 then some (lowOf c - 87) else none
/-- No number. -/
def noNum : Lib.NumEnd Nat := Lib.parseMag []
/-- A number to the base of 16, behind one that is there. -/
def parse16 (acc : Nat) : Bytes → Lib.NumEnd Nat
  | [] => .ok acc
  | c :: r => match hexVal c with
    | none => noNum
    | some d => if 1152921504606846976 ≤ acc then .range else parse16 (acc * 16 + d) r
theorem parse16_lt : ∀ (l : Bytes) (acc u : Nat), acc < 18446744073709551616 → parse16 acc l = .ok u → u < 18446744073709551616
  | [], acc, u, h, e => by simp only [parse16] at e; injection e with e; omega
  | c :: r, acc, u, h, e => by
    unfold parse16 at e
    split at e
    · simp [noNum, Lib.parseMag] at e
    · rename_i d hd
      split at e
      · simp at e
      · refine parse16_lt r _ u ?_ e
        unfold hexVal at hd
        have : d < 16 := by
          split at hd
          · injection hd with hd; omega
          · split at hd
            · injection hd with hd; omega
            · simp at hd
        omega

set_option maxHeartbeats 32000000 in
set_option maxRecDepth 100000 in
theorem parse16_in (t : ByteArray) (hne : t.size ≠ 0) (hmax : t.size ≤ 9223372036854775806) (w : World) :
    Calls Tryd.prog 29 #[.string t, .int .i64 16, .int .i64 64] w fun e w' => e = .returned (Lib.uintTuple 69 (parse16 0 t.data.toList)) ∧ w' = Lib.bytesWorld w 5 t := by
  have hemp : t.toList.isEmpty = false := by
    rw [← decide_eq_emptyBytes]
    exact decide_eq_false (fun h => hne (by rw [h]; rfl))
  have hcv := Lib.run_convert_string_bytes (P := Tryd.prog) w 9 49 5 t (u := .string) Tryd.underlying9 Tryd.underlying49 Tryd.underlying5
  have hB : ∀ j, j < t.size → (Lib.bytesWorld w 5 t).cell? ⟨w.heap.size, j, none⟩ = some (.int .u8 (t.data.toList.getD j 0).toNat) := fun j hj => Lib.bytesWorld_cell w 5 t j hj
  obtain ⟨W1, hW1⟩ : ∃ W1, W1 = Lib.bytesWorld w 5 t := ⟨_, rfl⟩
  rw [← hW1] at hcv hB ⊢
  clear hW1
  obtain ⟨bs, hL⟩ : ∃ bs, bs = t.data.toList := ⟨_, rfl⟩
  have hLn : bs.length = t.size := by rw [hL, Lib.size_eq]
  rw [← hL] at hB ⊢
  clear hL
  have hmv : IntKind.u64.wrap (IntKind.u64.wrap 18446744073709551616 - 1) = 18446744073709551615 := by
    rw [IntKind.wrap_u64, IntKind.wrap_u64]
    decide
  go_enter Tryd.func29, Tryd.ntmps29
  go_wp2
  go_loop [12, 13, 101] (fun vu vn vi => ∃ (k acc : Nat) (a : Int), vu = .bool false ∧ vn = .int .u64 a ∧ vi = .int .i64 k ∧ k ≤ t.size ∧ Hid (a = (acc : Int) ∧ acc < 18446744073709551616 ∧ parse16 0 bs = parse16 acc (bs.drop k)))
    (fun _ _ vi => t.size - (intOf vi).toNat)
  case atStart => exact ⟨0, 0, 0, rfl, rfl, rfl, by omega, rfl, by omega, rfl⟩
  case round =>
    obtain ⟨k, acc, a, rfl, rfl, rfl, hk, hh⟩ := hrel
    obtain ⟨ha, hacc, hdec⟩ := hh.out
    clear hh
    have a0 : 0 ≤ a := by omega
    have a1 : a < 18446744073709551616 := by omega
    by_cases hkn : k < t.size
    · have hc := hB k hkn
      have hdrop : bs.drop k = bs[k]'(by omega) :: bs.drop (k + 1) := List.drop_eq_getElem_cons (by omega)
      have hget : bs.getD k 0 = bs[k]'(by omega) := by simp [List.getD, List.getElem?_eq_getElem (show k < bs.length by omega)]
      rw [hdrop] at hdec
      rw [hget] at hc
      generalize bs[k]'(by omega) = c at hc hdec
      have hc256 : c.toNat < 256 := c.toNat_lt
      clear hB hdrop hget
      have hv0 := bits_lo_u8 .or (c.toNat : Int) 32
      have hv1 := bits_hi_u8 .or (c.toNat : Int) 32
      obtain ⟨L, hL⟩ : ∃ L : Nat, bits .or .u8 (c.toNat : Int) 32 = (L : Int) := ⟨(bits .or .u8 (c.toNat : Int) 32).toNat, by omega⟩
      have hlow : lowOf c = L := by unfold lowOf; rw [hL]; omega
      by_cases hdig : 48 ≤ c.toNat ∧ c.toNat ≤ 57
      · obtain ⟨hd0, hd1⟩ := hdig
        have hv : hexVal c = some (c.toNat - 48) := by unfold hexVal; rw [if_pos ⟨hd0, hd1⟩]
        by_cases hcut : 1152921504606846976 ≤ acc
        · have hF : parse16 acc (c :: bs.drop (k + 1)) = .range := by simp only [parse16, hv, if_pos hcut]
          rw [hF] at hdec
          have icut : 1152921504606846976 ≤ a := by omega
          clear hcut hacc hF ha hv hlow hv0 hv1 hL
          go_wp2
          go_ret2
          first | exact ⟨rfl, rfl⟩ | exact ⟨by rw [hdec]; rfl, rfl⟩ | fail
        · have hF : parse16 acc (c :: bs.drop (k + 1)) = parse16 (acc * 16 + (c.toNat - 48)) (bs.drop (k + 1)) := by simp only [parse16, hv, if_neg hcut]
          have HN : Hid (a * 16 + ((c.toNat : Int) - 48) = ((acc * 16 + (c.toNat - 48) : Nat) : Int) ∧ acc * 16 + (c.toNat - 48) < 18446744073709551616 ∧ parse16 0 bs = parse16 (acc * 16 + (c.toNat - 48)) (bs.drop (k + 1))) := Lib.hid ⟨by omega, by omega, hdec.trans hF⟩
          have icut : a < 1152921504606846976 := by omega
          have iov : a * 16 + ((c.toNat : Int) - 48) < 18446744073709551616 := by omega
          clear hcut hacc hF hdec ha hv hlow hv0 hv1 hL
          go_wp2
          refine ⟨⟨k + 1, acc * 16 + (c.toNat - 48), a * 16 + ((c.toNat : Int) - 48), rfl, (by first | rfl | (congr 1; omega)), (by first | rfl | (congr 1; omega)), by omega, HN⟩, by simp [intOf]; omega⟩
      · by_cases hlet : 97 ≤ L ∧ L ≤ 102
        · have hv : hexVal c = some (L - 87) := by unfold hexVal; rw [if_neg hdig, hlow, if_pos hlet]
          obtain ⟨hl0, hl1⟩ := hlet
          have hn95 : ¬ ((c.toNat : Int) = 95) := fun h => by
            rw [h] at hL
            have : bits .or .u8 95 32 = 127 := by decide
            omega
          by_cases hcut : 1152921504606846976 ≤ acc
          · have hF : parse16 acc (c :: bs.drop (k + 1)) = .range := by simp only [parse16, hv, if_pos hcut]
            rw [hF] at hdec
            have icut : 1152921504606846976 ≤ a := by omega
            clear hcut hacc hF ha hv hlow hv0 hv1
            go_wp2_with (go_at_call 47; refine (Tryd.internal_strconv_lower _ _).mono ?_; rintro e w' ⟨rfl, rfl⟩; rw [hL])
            all_goals go_ret2
            all_goals first | exact ⟨rfl, rfl⟩ | exact ⟨by rw [hdec]; rfl, rfl⟩ | fail
          · have hF : parse16 acc (c :: bs.drop (k + 1)) = parse16 (acc * 16 + (L - 87)) (bs.drop (k + 1)) := by simp only [parse16, hv, if_neg hcut]
            have HN : Hid (a * 16 + ((L : Int) - 97 + 10) = ((acc * 16 + (L - 87) : Nat) : Int) ∧ acc * 16 + (L - 87) < 18446744073709551616 ∧ parse16 0 bs = parse16 (acc * 16 + (L - 87)) (bs.drop (k + 1))) := Lib.hid ⟨by omega, by omega, hdec.trans hF⟩
            have icut : a < 1152921504606846976 := by omega
            have iov : a * 16 + ((L : Int) - 97 + 10) < 18446744073709551616 := by omega
            clear hcut hacc hF hdec ha hv hlow hv0 hv1
            go_wp2_with (go_at_call 47; refine (Tryd.internal_strconv_lower _ _).mono ?_; rintro e w' ⟨rfl, rfl⟩; rw [hL])
            all_goals refine ⟨⟨k + 1, acc * 16 + (L - 87), a * 16 + ((L : Int) - 97 + 10), rfl, (by first | rfl | (congr 1; omega)), (by first | rfl | (congr 1; omega)), by omega, HN⟩, by simp [intOf]; omega⟩
        · have hv : hexVal c = none := by unfold hexVal; rw [if_neg hdig, hlow, if_neg hlet]
          have hF : parse16 acc (c :: bs.drop (k + 1)) = noNum := by simp only [parse16, hv]
          rw [hF] at hdec
          clear hacc hF ha hv hlow hv0 hv1
          have hu0 := bits_lo_u8 .or 95 32
          have hu1 := bits_hi_u8 .or 95 32
          go_wp2_with (go_at_call 47; refine (Tryd.internal_strconv_lower _ _).mono ?_; rintro e w' ⟨rfl, rfl⟩; try rw [hL])
          all_goals go_ret2
          all_goals first | exact ⟨rfl, rfl⟩ | exact ⟨by rw [hdec]; rfl, rfl⟩ | fail
    · have hkk : k = t.size := by omega
      subst hkk
      have hF : parse16 acc (bs.drop t.size) = .ok acc := by rw [List.drop_eq_nil_of_le (by omega)]; rfl
      rw [hF] at hdec
      subst ha
      clear hacc hF a0 a1
      go_wp2
      go_ret2
      first | exact ⟨rfl, rfl⟩ | exact ⟨by rw [hdec]; rfl, rfl⟩ | fail
end Go.Proofs.YthgfdcbeajfojaaDoor
