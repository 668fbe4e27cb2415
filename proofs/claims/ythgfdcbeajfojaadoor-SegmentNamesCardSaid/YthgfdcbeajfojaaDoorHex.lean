/- The walks of strconv's FormatUint at base 16. -/
import Derived.Test.YthgfdcbeajfojaaDoorStr
import Derived.Test.YthgfdcbeajfojaaDoorPlain1
set_option autoImplicit false
namespace Go.Proofs.YthgfdcbeajfojaaDoor
open Go.RowKit
attribute [local go_sem ↓ high] sliced_cut

theorem Mod.cell {S : Nat → Prop} {w w' : World} (hm : Mod S w w') {a : Addr} {v : Value} (h : w.cell? a = some v) (hn : ¬ S a.block) : w'.cell? a = some v := by
  unfold World.cell? at h ⊢
  rw [hm.block a.block (World.block_lt_of_cell? w a h) hn]
  exact h
/-- A digit to the base of 16. -/
def hexDigit (d : Nat) : UInt8 := if d < 10 then UInt8.ofNat (48 + d) else UInt8.ofNat (87 + d)
/-- A number to the base of 16. -/
def hexs (u : Nat) : Bytes := if u < 16 then [hexDigit u] else hexs (u / 16) ++ [hexDigit (u % 16)]
termination_by u
decreasing_by omega

/-- The 65 bytes that the digits are laid into. -/
def Row65 (W : World) (B : Nat) (l : Bytes) : Prop := l.length = 65 ∧ W.heap[B]? = some (.cells (bcells l).toArray 81 (0, 0))

theorem hexs_small {u : Nat} (h : u < 16) : hexs u = [hexDigit u] := by rw [hexs, if_pos h]
theorem hexs_big {u : Nat} (h : 16 ≤ u) : hexs u = hexs (u / 16) ++ [hexDigit (u % 16)] := by rw [hexs, if_neg (by omega)]
theorem hexs_pos (u : Nat) : 1 ≤ (hexs u).length := by
  rw [hexs]
  split <;> simp
theorem hexs_len : ∀ (n u : Nat), 1 ≤ n → u < 16 ^ n → (hexs u).length ≤ n
  | 0, _, h, _ => by omega
  | 1, u, _, h => by rw [hexs_small (by omega)]; simp
  | n + 2, u, _, h => by
    by_cases h16 : u < 16
    · rw [hexs_small h16]; simp
    · rw [hexs_big (by omega), List.length_append, List.length_singleton]
      have := hexs_len (n + 1) (u / 16) (by omega) (by rw [Nat.pow_succ] at h; omega)
      omega
theorem row_start (w : World) : Row65 (w.alloc (.cells Tryd.zeroCells81 81)) w.heap.size (List.replicate 65 0) := ⟨by simp, by rw [heap_alloc_last]; rfl⟩
theorem Row65.cell {W : World} {B k : Nat} {l : Bytes} (h : Row65 W B l) (hk : k < 65) : ∃ b : UInt8, W.cell? ⟨B, k, none⟩ = some (.int .u8 b.toNat) ∧ W.frozen? ⟨B, k, none⟩ = false := by
  have := bcells_get (xs := l) (j := k) (by rw [h.1]; omega)
  exact ⟨_, cell_of_heap h.2 (by simpa using this), free_of_heap h.2⟩
theorem Row65.set {W : World} {B k : Nat} {l : Bytes} (h : Row65 W B l) (b : UInt8) : Row65 (W.setCell ⟨B, k, none⟩ (.int .u8 b.toNat)) B (l.set k b) := by
  refine ⟨by simpa using h.1, ?_⟩
  simp only [World.setCell]
  rw [Array.getElem?_modify]
  simp [h.2, bcells]
/-- Behind some digits. -/
def HexAt (w : World) (x : Nat) (i u : Value) (W : World) : Prop :=
  ∃ (k a : Nat) (l : Bytes), i = .int .i64 k ∧ u = .int .u64 a ∧ k ≤ 65 ∧ a < 18446744073709551616 ∧ Row65 W w.heap.size l ∧ hexs x = hexs a ++ l.drop k ∧ Mod No w W
theorem HexAt.start (w : World) (x : Nat) (hx : x < 18446744073709551616) : HexAt w x (.int .i64 65) (.int .u64 x) (w.alloc (.cells Tryd.zeroCells81 81)) :=
  ⟨65, x, _, rfl, rfl, Nat.le_refl _, hx, row_start w, by simp, (Mod.refl No w).alloc _⟩

theorem and15 {a : Nat} (h : a < 18446744073709551616) : bits .and .u64 (a : Int) 15 = ((a % 16 : Nat) : Int) := by
  refine (u64_and_nat a 15 h (by omega)).trans ?_
  rw [show (15 : Nat) = 2 ^ 4 - 1 from rfl, Nat.and_two_pow_sub_one_eq_mod]
theorem digit_at (d : Nat) (hd : d < 16) (h : d < (⟨#[48, 49, 50, 51, 52, 53, 54, 55, 56, 57, 97, 98, 99, 100, 101, 102, 103, 104, 105, 106, 107, 108, 109, 110, 111, 112, 113, 114, 115, 116, 117, 118, 119, 120, 121, 122]⟩ : ByteArray).size) : (⟨#[48, 49, 50, 51, 52, 53, 54, 55, 56, 57, 97, 98, 99, 100, 101, 102, 103, 104, 105, 106, 107, 108, 109, 110, 111, 112, 113, 114, 115, 116, 117, 118, 119, 120, 121, 122]⟩ : ByteArray)[d] = hexDigit d := by
  obtain rfl | rfl | rfl | rfl | rfl | rfl | rfl | rfl | rfl | rfl | rfl | rfl | rfl | rfl | rfl | rfl : d = 0 ∨ d = 1 ∨ d = 2 ∨ d = 3 ∨ d = 4 ∨ d = 5 ∨ d = 6 ∨ d = 7 ∨ d = 8 ∨ d = 9 ∨ d = 10 ∨ d = 11 ∨ d = 12 ∨ d = 13 ∨ d = 14 ∨ d = 15 := by omega
  all_goals rfl
theorem HexAt.next {w W : World} {x k a d : Nat} {l : Bytes} (hk : 1 ≤ k) (hk5 : k ≤ 65) (ha : a < 18446744073709551616) (h16 : 16 ≤ a) (hd : d = a % 16) (hr : Row65 W w.heap.size l) (hh : hexs x = hexs a ++ l.drop k) (hm : Mod No w W) :
    HexAt w x (.int .i64 ((k : Int) - 1)) (.int .u64 ((a : Int) / 16)) (W.setCell ⟨w.heap.size, k - 1, none⟩ (.int .u8 (hexDigit d).toNat)) := by
  refine ⟨k - 1, a / 16, _, ?_, rfl, by omega, by omega, hr.set _, ?_, hm.setCell _ _ (fun h => absurd h (Nat.lt_irrefl _))⟩
  · congr 1; omega
  · rw [hh, hexs_big h16, List.append_assoc]
    congr 1
    rw [List.drop_eq_getElem_cons (by rw [List.length_set, hr.1]; omega : k - 1 < (l.set (k - 1) (hexDigit d)).length), List.getElem_set_self, show k - 1 + 1 = k from by omega, ← hd]
    rw [List.drop_set_of_lt (by omega)]
    rfl
theorem hex_last {w W : World} {k a : Nat} {l : Bytes} (hk : 1 ≤ k) (h16 : a < 16) (hr : Row65 W w.heap.size l) : Row65 (W.setCell ⟨w.heap.size, k - 1, none⟩ (.int .u8 (hexDigit a).toNat)) w.heap.size (l.set (k - 1) (hexDigit a)) := hr.set _
theorem slice65 (B k : Nat) (h1 : 1 ≤ k) (h2 : k ≤ 65) (W : World) : (Instr.sliceAt 81 (.pointer (some ⟨B, 0, none⟩)) (some (.int .i64 ((k : Int) - 1))) none none).run Tryd.prog W = .ok (.slice (some ⟨B, k - 1, none⟩) (65 - (k - 1)) (65 - (k - 1))) W := by
  have hal : Tryd.prog.arrayLen 81 = 65 := by kernel_rfl
  rw [run_sliceAt_array_l W 81 ⟨B, 0, none⟩ (by kernel_rfl) .i64 _ (by omega) (by rw [hal]; omega), hal]
  have hs : (sizeOf (Tryd.prog.elem 81)).run Tryd.prog W = .ok 1 W := by rfl
  rw [hs]
  have e : ((k : Int) - 1).toNat = k - 1 := by omega
  simp only [Result.andThen_ok, slicedAt, e]
  rw [if_neg (by omega), addr_add]
  simp
theorem hex_rd {W : World} {B k : Nat} {l : Bytes} (h1 : 1 ≤ k) (h2 : k ≤ 65) (h : Row65 W B l) (b : UInt8) : Rd (W.setCell ⟨B, k - 1, none⟩ (.int .u8 b.toNat)) (.slice (some ⟨B, k - 1, none⟩) (65 - (k - 1)) (65 - (k - 1))) (b :: l.drop k) := by
  have hr := h.set (k := k - 1) b
  have hl := h.1
  have hlen : (b :: l.drop k).length = 65 - (k - 1) := by rw [List.length_cons, List.length_drop]; omega
  refine ⟨by rw [hlen]; omega, some ⟨B, k - 1, none⟩, 65 - (k - 1), by rw [hlen], by omega, fun e => by simp at e, fun ad e => ?_⟩
  obtain rfl : ⟨B, k - 1, none⟩ = ad := by simpa using e
  refine ⟨heap_lt hr.2, rfl, fun j u hu => ?_⟩
  rw [addr_add]
  refine cell_of_heap hr.2 ?_
  have hd : b :: l.drop k = (l.set (k - 1) b).drop (k - 1) := by
    rw [List.drop_eq_getElem_cons (by rw [List.length_set]; omega : k - 1 < (l.set (k - 1) b).length), List.getElem_set_self, show k - 1 + 1 = k from by omega, List.drop_set_of_lt (by omega)]
  rw [hd] at hu
  simpa [bcells] using hu
set_option maxRecDepth 100000 in
theorem isPower_16 (w : World) : Calls Tryd.prog 54 #[.int .i64 16] w (fun e w' => e = .returned (.bool true) ∧ w' = w) := by
  go_enter Tryd.func54, Tryd.ntmps54
  go_wp2
  all_goals go_ret
  all_goals first | exact ⟨rfl, rfl⟩ | fail
set_option maxRecDepth 100000 in
theorem Zeros_16 (w : World) (hz : w.cell? ⟨5, 15, none⟩ = some (.int .u8 4)) : Calls Tryd.prog 55 #[.int .u64 16] w (fun e w' => e = .returned (.int .i64 4) ∧ w' = w) := by
  have h1 : IntKind.u64.wrap (bits .and .u64 16 (IntKind.u64.wrap (-16)) * 285870213051353865) / 288230376151711744 = 15 := by decide
  go_enter Tryd.func55, Tryd.ntmps55
  go_wp2
  exact bodyPost_ret (v := .int .i64 4) (by simp [results, Tryd.results55, go_sem]) rfl ⟨rfl, rfl⟩
set_option maxRecDepth 100000 in
set_option maxHeartbeats 3200000 in
theorem formatBits_any (w : World) (x : Nat) (hx : x < 18446744073709551616) (hz : w.cell? ⟨5, 15, none⟩ = some (.int .u8 4)) :
    Calls Tryd.prog 35 #[.slice none 0 0, .int .u64 x, .int .i64 16, .bool false, .bool false] w (fun e w' => e = .returned (.tuple #[.slice none 0 0, .string (str (hexs x))]) ∧ Mod No w w') := by
  have H0 := Lib.hid (HexAt.start w x hx)
  have HZ := Lib.hid (show (w.alloc (.cells Tryd.zeroCells81 81)).cell? ⟨5, 15, none⟩ = some (.int .u8 4) from ((Mod.refl No w).alloc _).cell hz (fun x => x))
  clear hz
  go_enter Tryd.func35, Tryd.ntmps35
  go_wp2_with (first
    | (go_at_call 54; refine (isPower_16 _).mono ?_; rintro e w1 ⟨rfl, rfl⟩)
    | (go_at_call 55; refine (Zeros_16 _ HZ.out).mono ?_; rintro e w1 ⟨rfl, rfl⟩)
    | fail)
  go_loopw [13, 1] (HexAt w x) (fun _ u _ => (intOf u).toNat)
  case atStart => exact H0.out
  case round =>
    obtain ⟨k, a, l, rfl, rfl, hk, ha, hr, hh, hm⟩ := hrel
    have hlen : (hexs a).length + (65 - k) ≤ 16 := by
      have h1 := congrArg List.length hh
      have h2 := hexs_len 16 x (by omega) (by omega)
      rw [List.length_append, List.length_drop, hr.1] at h1
      omega
    have HR := Lib.hid hr; have HH := Lib.hid hh; have HM := Lib.hid hm; have HL := Lib.hid hlen
    clear hr hh hm hlen
    by_cases hlt : 16 ≤ a
    · have hk2 : 51 ≤ k := by
        have := HL.out
        rw [hexs_big hlt, List.length_append, List.length_singleton] at this
        have := hexs_pos (a / 16)
        omega
      obtain ⟨b0, hc, hf⟩ := HR.out.cell (k := k - 1) (by omega)
      have e1 : (((k : Int) - 1).toNat) = k - 1 := by omega
      obtain ⟨d, hd⟩ : ∃ d, d = a % 16 := ⟨_, rfl⟩
      have hand : bits .and .u64 (a : Int) 15 = (d : Int) := by rw [hd]; exact and15 ha
      have hd16 : d < 16 := by omega
      have HD := Lib.hid hd
      clear hd
      go_wp2
      rw [digit_at d hd16]
      exact ⟨HexAt.next (by omega) hk ha hlt HD.out HR.out HH.out HM.out, by simp only [intOf]; omega⟩
    · have hk2 : 50 ≤ k := by
        have := HL.out
        have := hexs_pos a
        omega
      obtain ⟨b0, hc, hf⟩ := HR.out.cell (k := k - 1) (by omega)
      have e1 : (((k : Int) - 1).toNat) = k - 1 := by omega
      have ha16 : a < 16 := by omega
      have hdig : ∀ h, (⟨#[48, 49, 50, 51, 52, 53, 54, 55, 56, 57, 97, 98, 99, 100, 101, 102, 103, 104, 105, 106, 107, 108, 109, 110, 111, 112, 113, 114, 115, 116, 117, 118, 119, 120, 121, 122]⟩ : ByteArray)[a]'h = hexDigit a := fun h => digit_at a ha16 h
      have hsl := slice65 w.heap.size k (by omega) hk
      have hcv := rd_string (hex_rd (by omega) hk HR.out (hexDigit a))
      go_wp2
      go_ret2
      refine ⟨?_, HM.out.setCell _ _ (fun h => absurd h (Nat.lt_irrefl _))⟩
      rw [HH.out, hexs_small ha16]
      rfl
set_option maxRecDepth 100000 in
theorem FormatUint_any (w : World) (x : Nat) (hx : x < 18446744073709551616) (hz : w.cell? ⟨5, 15, none⟩ = some (.int .u8 4)) :
    Calls Tryd.prog 9 #[.int .u64 x, .int .i64 16] w (fun e w' => e = .returned (.string (str (hexs x))) ∧ Mod No w w') := by
  go_enter Tryd.func9, Tryd.ntmps9
  go_wp2_with (first
    | (go_at_call 35; refine (formatBits_any w x hx hz).mono ?_; rintro e w1 ⟨rfl, hm⟩; have HM := Lib.hid hm; clear hm)
    | go_in)
  go_ret
  exact ⟨rfl, HM.out⟩
end Go.Proofs.YthgfdcbeajfojaaDoor
