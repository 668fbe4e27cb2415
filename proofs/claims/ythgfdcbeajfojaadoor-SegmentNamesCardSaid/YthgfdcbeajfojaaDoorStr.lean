/- Strings that are made of bytes. -/
import Derived.Test.YthgfdcbeajfojaaDoorBase
import Derived.Test.YthgfdcbeajfojaaDoorProg
import Derived.Laws.BytesArg
set_option autoImplicit false
namespace Go.Proofs.YthgfdcbeajfojaaDoor
open Go.RowKit

/-- The string of some bytes. -/
def str (l : Bytes) : ByteArray := ⟨l.toArray⟩
theorem str_size (l : Bytes) : (str l).size = l.length := by simp [str, ByteArray.size]
theorem loop_toList (s : ByteArray) (k : Nat) : ∀ (i : Nat) (r : List UInt8), i + k = s.size → ByteArray.toList.loop s i r = r.reverse ++ s.data.toList.drop i := by
  induction k with
  | zero =>
    intro i r h
    unfold ByteArray.toList.loop
    rw [if_neg (by omega), List.drop_of_length_le (by rw [Array.length_toList]; show s.size ≤ i; omega)]
    simp
  | succ k ih =>
    intro i r h
    unfold ByteArray.toList.loop
    rw [if_pos (by omega), ih (i + 1) _ (by omega)]
    have hi : i < s.data.toList.length := by rw [Array.length_toList]; show i < s.size; omega
    rw [List.drop_eq_getElem_cons hi, List.reverse_cons, List.append_assoc]
    congr 2
    have : i < s.data.size := by simpa using hi
    simp [ByteArray.get!, getElem!_pos s.data i this]
theorem toList_data (s : ByteArray) : s.toList = s.data.toList := by
  unfold ByteArray.toList
  rw [loop_toList s s.size 0 [] (by omega)]
  simp
theorem str_toList (l : Bytes) : (str l).toList = l := by rw [toList_data]; rfl
theorem str_inj {a b : Bytes} (h : str a = str b) : a = b := by rw [← str_toList a, h, str_toList]
theorem str_of (s : ByteArray) : str s.toList = s := by rw [toList_data]; rfl
theorem str_beq (a b : Bytes) : ((str a).toList == (str b).toList) = decide (a = b) := by rw [str_toList, str_toList]; rw [Bool.eq_iff_iff]; simp
theorem str_append (a b : Bytes) : str a ++ str b = str (a ++ b) := by
  apply ByteArray.ext
  simp [str]
/-- string(p), p bytes that are read. -/
theorem rd_string {w : World} {v : Value} {xs : Bytes} (h : Rd w v xs) : (convert 49 9 v).run Tryd.prog w = .ok (.string (str xs)) w := by
  obtain ⟨h1, A, c, rfl, hc, h2, h3⟩ := h
  cases A with
  | none =>
    obtain ⟨rfl, rfl⟩ := h2 rfl
    exact run_convert_bytes_nil w 49 5 Tryd.underlying49 Tryd.underlying5 0 0 9 Tryd.underlying9
  | some ad =>
    obtain ⟨g1, g2, g3⟩ := h3 ad rfl
    obtain ⟨b, o, sp⟩ := ad
    obtain rfl : sp = none := g2
    have hs : str xs = strOfNums (xs.map fun b => (b.toNat : Int)) := by
      unfold str strOfNums
      congr 2
      rw [List.map_map]
      refine (List.map_id'' ?_ xs).symm
      intro b
      simp
    rw [hs]
    refine run_convert_bytes_arg w 49 5 Tryd.underlying49 Tryd.underlying5 b o xs.length c _ (by simp) (fun i hi => ?_) 9 Tryd.underlying9
    have := g3 i _ (bcells_get hi)
    rw [addr_add] at this
    rw [this]
    simp [hi]
theorem Mod.drew_iff {S : Nat → Prop} {a b : World} : Mod S a b.drew = Mod S a b := propext ⟨fun h => ⟨h.os, h.tape, h.output, h.size, h.block⟩, fun h => h.drew⟩
theorem Mod.drewN_iff {S : Nat → Prop} {a b : World} {n : Nat} : Mod S a (b.drewN n) = Mod S a b := propext ⟨fun h => ⟨h.os, h.tape, h.output, h.size, h.block⟩, fun h => h.drewN n⟩
end Go.Proofs.YthgfdcbeajfojaaDoor
