/- What strconv's functions hand back, whatever the string; and which variables they read. -/
import Derived.Test.YthgfdcbeajfojaaDoorPar
set_option autoImplicit false
namespace Go.Proofs.YthgfdcbeajfojaaDoor
open Go.RowKit

/-- What strconv's functions ask of the variables that they read. -/
structure Vars (w : World) : Prop where
  syn : ∃ te pe, w.cell? ⟨2, 0, none⟩ = some (.iface te pe)
  rng : ∃ te pe, w.cell? ⟨3, 0, none⟩ = some (.iface te pe)
  bru : w.cell? ⟨5, 15, none⟩ = some (.int .u8 4)
  pow : Lib.TabIs Tryd.prog w "internal/strconv.uint64pow10" .u64 Lib.pow10Tab
  mlen : ∃ m, w.cell? ⟨1, 0, none⟩ = some (.int .i64 m)
theorem tabIs_mod {w w' : World} {name : String} {k : IntKind} {zs : List Int} (h : Lib.TabIs Tryd.prog w name k zs) (hm : Mod No w w') : Lib.TabIs Tryd.prog w' name k zs := by
  unfold Lib.TabIs World.var? at *
  cases hg : Tryd.prog.globalNamed name with
  | none => simp [hg] at h
  | some g =>
    simp only [hg, Option.bind_some] at h ⊢
    have hlt : g < w.heap.size := by
      rcases Nat.lt_or_ge g w.heap.size with h' | h'
      · exact h'
      · rw [Array.getElem?_eq_none h'] at h; simp at h
    rw [hm.block g hlt (fun x => x)]
    exact h
theorem Vars.mod {w w' : World} (h : Vars w) (hm : Mod No w w') : Vars w' := by
  obtain ⟨⟨a, b, h1⟩, ⟨c, d, h2⟩, h3, h4, ⟨m, h5⟩⟩ := h
  exact ⟨⟨a, b, hm.cell h1 (fun x => x)⟩, ⟨c, d, hm.cell h2 (fun x => x)⟩, hm.cell h3 (fun x => x), tabIs_mod h4 hm, ⟨m, hm.cell h5 (fun x => x)⟩⟩
theorem mod_bytesWorld (w : World) (t : ByteArray) : Mod No w (Lib.bytesWorld w 5 t) := by
  refine ⟨rfl, rfl, rfl, ?_, fun k hk _ => Lib.bytesWorld_at_old w 5 t k hk⟩
  simp [Lib.bytesWorld, World.freeze]
/-- What ParseUint and Atoi hand back. -/
def RetNum {α : Type} (w : World) (kind : IntKind) (res : Lib.NumEnd α) (val : α → Int) (e : Ending) (w' : World) : Prop :=
  Mod No w w' ∧ match res with
  | .ok n => e = .returned (.tuple #[.int kind (val n), .nilIface])
  | _ => ∃ n p, e = .returned (.tuple #[.int kind n, .iface 72 (.pointer (some p))])
theorem retnum_bad {α : Type} {w w' : World} {kind : IntKind} {res : Lib.NumEnd α} {val : α → Int} {e : Ending} (h : ∀ n, res ≠ .ok n) (hr : RetNum w kind res val e w') :
    Mod No w w' ∧ ∃ n p, e = .returned (.tuple #[.int kind n, .iface 72 (.pointer (some p))]) := by
  obtain ⟨hm, hr⟩ := hr
  refine ⟨hm, ?_⟩
  cases res with
  | ok n => exact absurd rfl (h n)
  | _ => exact hr
theorem retnum_any {α : Type} {w w' : World} {kind : IntKind} {res : Lib.NumEnd α} {val : α → Int} {e : Ending} (hr : RetNum w kind res val e w') :
    Mod No w w' ∧ ∃ n v, e = .returned (.tuple #[.int kind n, v]) := by
  obtain ⟨hm, hr⟩ := hr
  refine ⟨hm, ?_⟩
  cases res with
  | ok n => exact ⟨_, _, hr⟩
  | _ =>
    obtain ⟨n, p, h⟩ := hr
    exact ⟨n, _, h⟩
theorem retnum_ok {α : Type} {w w' : World} {kind : IntKind} {res : Lib.NumEnd α} {val : α → Int} {e : Ending} {n : α} (h : res = .ok n) (hr : RetNum w kind res val e w') :
    Mod No w w' ∧ e = .returned (.tuple #[.int kind (val n), .nilIface]) := by
  subst h
  exact hr
/-- ParseUint to the base of 16. -/
def parseHex (l : Bytes) : Lib.NumEnd Nat := if l = [] then noNum else parse16 0 l
set_option maxRecDepth 100000 in
theorem ParseUint_any (w : World) (t : ByteArray) (hv : Vars w) (ht : t.size ≤ 281474976710656) :
    Calls Tryd.prog 14 #[.string t, .int .i64 16, .int .i64 64] w (RetNum w .u64 (parseHex t.data.toList) (fun n => (n : Int))) := by
  have HV := Lib.hid hv
  clear hv
  by_cases h0 : t.size = 0
  · obtain rfl : t = ⟨#[]⟩ := by
      obtain ⟨a⟩ := t
      have : a.size = 0 := h0
      simp at this
      rw [this]
    obtain ⟨te, pe, hs⟩ := HV.out.syn
    go_enter Tryd.func14, Tryd.ntmps14
    go_wp2_with (first
      | (go_at_call 28; refine (Tryd.strconv_toError_syntax _ _ _ _ (.iface te pe) _ ht hs (.inr ⟨_, _, rfl⟩)).mono ?_; rintro e w1 ⟨N, rfl, hN, hw, hB⟩; have HB := Lib.hid hB; clear hB hw)
      | go_in)
    go_ret2
    exact ⟨Mod.of_below HB.out, _, _, rfl⟩
  · have hne : t.data.toList ≠ [] := fun h => h0 (by rw [Lib.size_eq t, h]; rfl)
    have hp : parseHex t.data.toList = parse16 0 t.data.toList := by unfold parseHex; rw [if_neg hne]
    rw [hp]
    have hin := parse16_in t h0 (by omega) w
    have hm1 := mod_bytesWorld w t
    have hv1 := HV.out.mod hm1
    generalize Lib.bytesWorld w 5 t = w1 at *
    have HM := Lib.hid hm1; have HV1 := Lib.hid hv1; have HIN := Lib.hid hin
    clear hm1 hv1 hin hp
    cases hr : parse16 0 t.data.toList with
    | ok n =>
      have HR := Lib.hid hr
      clear hr
      go_enter Tryd.func14, Tryd.ntmps14
      go_wp2_with (first
        | (go_at_call 29; refine HIN.out.mono ?_; rintro e w2 ⟨rfl, rfl⟩; rw [HR.out]; simp only [Lib.uintTuple])
        | fail)
      go_ret2
      exact ⟨HM.out, rfl⟩
    | range =>
      have HR := Lib.hid hr
      clear hr
      obtain ⟨te, pe, hs⟩ := HV1.out.rng
      have HS := Lib.hid hs
      clear hs
      go_enter Tryd.func14, Tryd.ntmps14
      go_wp2_with (first
        | (go_at_call 29; refine HIN.out.mono ?_; rintro e w2 ⟨rfl, rfl⟩; rw [HR.out]; simp only [Lib.uintTuple])
        | (go_at_call 28; refine (Tryd.strconv_toError_range _ _ _ _ (.iface te pe) _ ht HS.out (.inr ⟨_, _, rfl⟩)).mono ?_; rintro e w3 ⟨N, rfl, hN, hw, hB⟩; have HB := Lib.hid hB; clear hB hw)
        | fail)
      go_ret2
      exact ⟨HM.out.seq (Mod.of_below HB.out), _, _, rfl⟩
    | _ =>
      have HR := Lib.hid hr
      clear hr
      obtain ⟨te, pe, hs⟩ := HV1.out.syn
      have HS := Lib.hid hs
      clear hs
      go_enter Tryd.func14, Tryd.ntmps14
      go_wp2_with (first
        | (go_at_call 29; refine HIN.out.mono ?_; rintro e w2 ⟨rfl, rfl⟩; rw [HR.out]; simp only [Lib.uintTuple])
        | (go_at_call 28; refine (Tryd.strconv_toError_syntax _ _ _ _ (.iface te pe) _ ht HS.out (.inr ⟨_, _, rfl⟩)).mono ?_; rintro e w3 ⟨N, rfl, hN, hw, hB⟩; have HB := Lib.hid hB; clear hB hw)
        | fail)
      go_ret2
      exact ⟨HM.out.seq (Mod.of_below HB.out), _, _, rfl⟩
theorem mod_or {w w' : World} (h : w' = w ∨ ∃ t, w' = Lib.bytesWorld w 5 t) : Mod No w w' := by
  rcases h with rfl | ⟨t, rfl⟩
  · exact Mod.refl No _
  · exact mod_bytesWorld w t
theorem Atoi_any (w : World) (t : ByteArray) (hv : Vars w) (ht : t.size ≤ 281474976710656) :
    Calls Tryd.prog 13 #[.string t] w (RetNum w .i64 (Lib.atoiAll t.data.toList) (fun n => n)) := by
  cases hr : Lib.atoiAll t.data.toList with
  | ok n =>
    refine (Tryd.strconv_Atoi_ok t (by omega) n hr w).mono ?_
    rintro e w1 ⟨rfl, h⟩
    exact ⟨mod_or h, rfl⟩
  | range =>
    obtain ⟨te, pe, hs⟩ := hv.rng
    refine (Any.strconv_Atoi_range Tryd.laysC172 t ht hr (.iface te pe) w hs (.inr ⟨_, _, rfl⟩)).mono ?_
    rintro e w1 ⟨N, rfl, hN, hw, hB⟩
    exact ⟨Mod.of_below hB, _, _, rfl⟩
  | _ =>
    obtain ⟨te, pe, hs⟩ := hv.syn
    refine (Any.strconv_Atoi_syntax Tryd.laysC172 t ht hr (.iface te pe) w hs (.inr ⟨_, _, rfl⟩)).mono ?_
    rintro e w1 ⟨N, rfl, hN, hw, hB⟩
    exact ⟨Mod.of_below hB, _, _, rfl⟩
theorem mod_grow (w : World) (k : Nat) (os : Array Obj) : Mod No w (Go.Sort.grow (w.drewN k) os) := by
  refine ⟨rfl, rfl, rfl, by simp [Go.Sort.grow, World.drewN], fun i hi _ => ?_⟩
  show (w.heap ++ os)[i]? = _
  rw [Array.getElem?_append_left hi]
theorem Itoa_any (w : World) (n : Int) (hv : Vars w) (h0 : -9223372036854775808 ≤ n) (h1 : n ≤ 9223372036854775807) :
    Calls Tryd.prog 15 #[.int .i64 n] w (fun e w' => e = .returned (.string (str (Lib.itoa n))) ∧ Mod No w w') := by
  refine (Tryd.strconv_Itoa n h0 h1 w hv.pow).mono ?_
  rintro e w1 ⟨rfl, k, os, rfl⟩
  exact ⟨rfl, mod_grow w k os⟩
end Go.Proofs.YthgfdcbeajfojaaDoor
