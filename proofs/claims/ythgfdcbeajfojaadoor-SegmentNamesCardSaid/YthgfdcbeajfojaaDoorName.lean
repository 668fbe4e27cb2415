/- The walks of a segment's name, and back. -/
import Derived.Test.YthgfdcbeajfojaaDoorNum
set_option autoImplicit false
namespace Go.Proofs.YthgfdcbeajfojaaDoor
open Go.RowKit

/-- "feed-". -/
def feedB : Bytes := [102, 101, 101, 100, 45]
def beginOf (n : Int) : Bytes := feedB ++ Lib.itoa n ++ [45]
def padOf (x : Nat) : Bytes := List.replicate (16 - (hexs x).length) 48 ++ hexs x
def nameOf (n : Int) (x : Nat) : Bytes := beginOf n ++ padOf x

theorem nDigits_le : ∀ (k u : Nat), 1 ≤ k → u < 10 ^ k → Lib.nDigits u ≤ k
  | 0, _, h, _ => by omega
  | k + 1, u, _, h => by
    unfold Lib.nDigits
    split
    · omega
    · rename_i h10
      have hk : 1 ≤ k := by
        rcases k with _ | k
        · simp at h; omega
        · omega
      have := nDigits_le k (u / 10) hk (by rw [Nat.pow_succ] at h; omega)
      omega
theorem itoa_len (n : Int) (h0 : -9223372036854775808 ≤ n) (h1 : n ≤ 9223372036854775807) : (Lib.itoa n).length ≤ 21 := by
  unfold Lib.itoa
  split
  · rw [List.length_cons, Lib.decDigits_length]
    have := nDigits_le 20 n.natAbs (by omega) (by omega)
    omega
  · rw [Lib.decDigits_length]
    have := nDigits_le 20 n.toNat (by omega) (by omega)
    omega
theorem lit_append (a : Array UInt8) (l : Bytes) : (⟨a⟩ : ByteArray) ++ str l = str (a.toList ++ l) := by
  have : (⟨a⟩ : ByteArray) = str a.toList := by simp [str]
  rw [this, str_append]
theorem append_lit (a : Array UInt8) (l : Bytes) : str l ++ (⟨a⟩ : ByteArray) = str (l ++ a.toList) := by
  have : (⟨a⟩ : ByteArray) = str a.toList := by simp [str]
  rw [this, str_append]
theorem repeat_one (b : UInt8) : ∀ c, Lib.repeatL [b] c = List.replicate c b
  | 0 => rfl
  | c + 1 => by rw [Lib.repeatL, repeat_one b c]; rfl

set_option maxRecDepth 100000 in
theorem Begin_any (w : World) (n : Int) (hv : Vars w) (h0 : -9223372036854775808 ≤ n) (h1 : n ≤ 9223372036854775807) :
    Calls Tryd.prog 7 #[.int .i64 n] w (fun e w' => e = .returned (.string (str (beginOf n))) ∧ Mod No w w') := by
  have hl : (str (Lib.itoa n)).size ≤ 21 := by rw [str_size]; exact itoa_len n h0 h1
  have HV := Lib.hid hv
  have H0 := Lib.hid h0
  have H1 := Lib.hid h1
  clear hv h0 h1
  go_enter Tryd.func7, Tryd.ntmps7
  go_wp2_with (first
    | (go_at_call 15; refine (Itoa_any _ n HV.out H0.out H1.out).mono ?_; rintro e w1 ⟨rfl, hm⟩; have HM := Lib.hid hm; clear hm)
    | fail)
  go_ret
  exact ⟨by rw [lit_append, append_lit]; rfl, HM.out⟩
theorem beginOf_len (n : Int) (h0 : -9223372036854775808 ≤ n) (h1 : n ≤ 9223372036854775807) : (beginOf n).length ≤ 27 := by
  have := itoa_len n h0 h1
  simp [beginOf, feedB]
  omega
set_option maxRecDepth 100000 in
theorem Name_any (w : World) (n : Int) (x : Nat) (hv : Vars w) (h0 : -9223372036854775808 ≤ n) (h1 : n ≤ 9223372036854775807) (hx : x < 18446744073709551616) :
    Calls Tryd.prog 5 #[.int .i64 n, .int .u64 x] w (fun e w' => e = .returned (.string (str (nameOf n x))) ∧ Mod No w w') := by
  have hl : (str (beginOf n)).size ≤ 27 := by rw [str_size]; exact beginOf_len n h0 h1
  have hp1 := hexs_pos x
  have hp2 := hexs_len 16 x (by omega) (by omega)
  have hsz : (str (hexs x)).size = (hexs x).length := str_size _
  obtain ⟨m, hm⟩ : ∃ m, (hexs x).length = m := ⟨_, rfl⟩
  rw [hm] at hp1 hp2 hsz
  have e1 : ((16 : Int) - (m : Int)) = ((16 - m : Nat) : Int) := by omega
  have e2 : max (0 : Int) ((16 - m : Nat) : Int) = ((16 - m : Nat) : Int) := by omega
  have HV := Lib.hid hv; have H0 := Lib.hid h0; have H1 := Lib.hid h1; have HX := Lib.hid hx; have HMM := Lib.hid hm
  clear hv h0 h1 hx hm
  go_enter Tryd.func5, Tryd.ntmps5
  go_wp2_with (first
    | (go_at_call 9; refine (FormatUint_any _ x HX.out HV.out.bru).mono ?_; rintro e w1 ⟨rfl, hm⟩; have HM := Lib.hid hm; clear hm)
    | (go_at_call 7; refine (Begin_any _ n (HV.out.mod HM.out) H0.out H1.out).mono ?_; rintro e w2 ⟨rfl, hm⟩; have HM2 := Lib.hid hm; clear hm)
    | (go_at_call 10; refine (Tryd.strings_Repeat _ (16 - m) _ (by omega) (by simp [ByteArray.size]; omega)).mono ?_; rintro e w3 ⟨rfl, hb⟩; have HB := Lib.hid hb; clear hb; rw [show Lib.repeatL (⟨#[48]⟩ : ByteArray).data.toList (16 - m) = List.replicate (16 - m) 48 from repeat_one 48 _])
    | fail)
  go_ret
  refine ⟨?_, (HM.out.seq HM2.out).seq (Mod.of_below HB.out)⟩
  have e3 : (⟨Array.replicate (16 - m) 48⟩ : ByteArray) = str (List.replicate (16 - m) 48) := by simp [str]
  rw [e3, str_append, str_append, List.append_assoc, ← HMM.out]
  rfl
end Go.Proofs.YthgfdcbeajfojaaDoor
