/- The walk of disk.Named, at names that may be. -/
import Derived.Test.YthgfdcbeajfojaaDoorSegP
import Derived.Laws.RangeString
set_option autoImplicit false
namespace Go.Proofs.YthgfdcbeajfojaaDoor
open Go.RowKit Go.Lib

/-- What Named's closure says of a rune. -/
def badRune (r : Nat) : Bool := (decide (r < 97) || decide (122 < r)) && (decide (r < 48) || decide (57 < r)) && decide (r ≠ 46) && decide (r ≠ 45)
set_option maxRecDepth 100000 in
theorem badRune_at (w : World) : PredAt Tryd.prog 17 #[] encR badRune w := fun W r _ => by
  unfold FnGives
  have z1 : ((r : Int) < 97) ↔ r < 97 := by omega
  have z2 : (122 < (r : Int)) ↔ 122 < r := by omega
  have z3 : ((r : Int) < 48) ↔ r < 48 := by omega
  have z4 : (57 < (r : Int)) ↔ 57 < r := by omega
  have z5 : ((r : Int) = 46) ↔ r = 46 := by omega
  have z6 : ((r : Int) = 45) ↔ r = 45 := by omega
  go_enter Tryd.func17, Tryd.ntmps17
  go_wp2
  all_goals go_ret
  all_goals refine ⟨congrArg (fun b => Ending.returned (Value.bool b)) (?_ : (_ : Bool) = badRune r), 0, rfl⟩
  all_goals (unfold badRune; rw [Bool.eq_iff_iff]; simp only [Bool.and_eq_true, Bool.or_eq_true, decide_eq_true_eq, bne_iff_ne, ne_eq, Bool.false_eq_true, Bool.true_eq_false, false_iff]; omega)
theorem idx_none (l : Bytes) (h : ∀ b ∈ l, byteOk b) : ∀ (f pos : Nat), idxFuncFrom badRune true (str l) f pos = -1
  | 0, _ => rfl
  | f + 1, pos => by
    unfold idxFuncFrom
    split
    · rename_i hp
      have hl : pos < l.length := by rw [str_size] at hp; exact hp
      have hb := h (l[pos]) (List.getElem_mem hl)
      have e : (str l)[pos]'hp = l[pos] := by
        show l.toArray[pos] = _
        simp
      have hd := decode_ascii (str l) pos hp (by rw [e]; unfold byteOk at hb; omega)
      rw [e] at hd
      rw [hd]
      have hn : badRune (l[pos]).toNat = false := by
        unfold badRune
        unfold byteOk at hb
        generalize (l[pos]).toNat = r at hb
        rcases hb with ⟨a, b⟩ | ⟨a, b⟩ | a | a
        · simp [show ¬ r < 48 by omega, show ¬ 57 < r by omega]
        · simp [show ¬ r < 97 by omega, show ¬ 122 < r by omega]
        · simp [a]
        · simp [a]
      simp only [hn]
      exact idx_none l h f _
    · rfl
set_option maxRecDepth 100000 in
theorem Named_any (w : World) (l : Bytes) (h1 : l ≠ []) (h2 : l.length ≤ 48) (h : ∀ b ∈ l, byteOk b) :
    Calls Tryd.prog 8 #[.string (str l)] w (fun e w' => e = .returned (.bool true) ∧ Mod No w w') := by
  have hs : (str l).size = l.length := str_size l
  have hc := Tryd.strings_ContainsFunc 17 #[] (enters_of Tryd.func17 (by kernel_rfl) rfl) badRune (str l) w (badRune_at w)
  have hn : decide (0 ≤ Lib.idxFunc badRune true (str l)) = false := by
    unfold Lib.idxFunc
    rw [idx_none l h]
    rfl
  rw [hn] at hc
  have HC := Lib.hid hc
  have he : (str l).toList.isEmpty = false := by
    rw [str_toList]
    cases l with
    | nil => exact absurd rfl h1
    | cons b r => rfl
  have hne : ¬ (str l).toList = [] := by rw [str_toList]; exact h1
  clear hc hn
  go_enter Tryd.func8, Tryd.ntmps8
  go_wp2_with (first
    | (go_at_call 16; refine HC.out.mono ?_; rintro e w1 ⟨rfl, hb⟩; have HB := Lib.hid hb; clear hb)
    | fail)
  go_ret
  exact ⟨rfl, Mod.of_below HB.out⟩
end Go.Proofs.YthgfdcbeajfojaaDoor
