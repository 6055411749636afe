/-
errors.As at an Errno's pointer, of an error that a *Fault wraps; api.Wrap, api.Number and api.Place of what api.Wrap makes. Conditions: as each theorem states them.
-/
import Derived.Test.YtmklkkpeolnjbaaDoorMAs
set_option linter.unusedVariables false
set_option linter.unusedSimpArgs false
namespace Go.Proofs.YtmklkkpeolnjbaaDoor.As
open Go.RowKit Go.Extern.Stop Go.Stop Go.Extern
set_option maxHeartbeats 4000000 in
set_option maxRecDepth 100000 in
/-- errors.As(f, &n), f a *Fault that wraps an Errno. -/
theorem as_errno (p : Nat) (t : Addr) (n : Int) (old : Value) (w : World) (hg : Handle w) (hu : w.cell? ⟨p, 1, none⟩ = some (.iface 35 (.int .i64 n))) (ht0 : w.cell? t = some old) (hf0 : w.frozen? t = false) :
    Calls Tryd.prog 30 #[.iface 66 (.pointer (some ⟨p, 0, none⟩)), .iface 65 (.pointer (some t))] w fun ev w' => ev = .returned (.bool true) ∧ w' = ((((w.alloc (.cells #[.pointer (some t)] 65)).alloc (.cells #[.pointer (some ⟨1, 65, none⟩), .pointer (some ⟨w.heap.size, 0, none⟩), .int .u64 150] 75)).alloc (.cells #[.pointer (some ⟨1, 65, none⟩), .pointer (some ⟨w.heap.size, 0, none⟩), .int .u64 150] 75)).alloc (.cells #[.int .i64 n] 35)).setCell t (.int .i64 n) := by
  have h1 := @run_callFunc_extern Tryd.prog 33 _ (fun args => ReflectliteValue.unpack (args.getD 0 (.tuple #[]))) Tryd.func33 (by kernel_rfl) (by kernel_rfl) (by kernel_rfl) (by kernel_rfl)
  have h2 := @run_callFunc_extern Tryd.prog 34 _ (ReflectliteValue.methodAny (ReflectliteValue.valueError "reflectlite.Value.Type" 0) (fun t _ _ _ => ReflectliteType.toType t)) Tryd.func34 (by kernel_rfl) (by kernel_rfl) (by kernel_rfl) (by kernel_rfl)
  have h3 := @run_callFunc_extern Tryd.prog 35 _ (ReflectliteValue.method (ReflectliteValue.valueError "reflectlite.Value.IsNil" 0) ReflectliteValue.isNil) Tryd.func35 (by kernel_rfl) (by kernel_rfl) (by kernel_rfl) (by kernel_rfl)
  have h4 := @run_callFunc_extern Tryd.prog 79 _ (ReflectliteType.abiMethod fun t => do pure (.int .u8 (← Rtype.kind t))) Tryd.func79 (by kernel_rfl) (by kernel_rfl) (by kernel_rfl) (by kernel_rfl)
  have h5 := @run_callFunc_extern Tryd.prog 91 _ (ReflectliteType.method ReflectliteType.elem) Tryd.func91 (by kernel_rfl) (by kernel_rfl) (by kernel_rfl) (by kernel_rfl)
  have h6 := @run_callFunc_extern Tryd.prog 92 _ (ReflectliteType.relation "Implements" ReflectliteType.implements_) Tryd.func92 (by kernel_rfl) (by kernel_rfl) (by kernel_rfl) (by kernel_rfl)
  have h7 := @run_callFunc_extern Tryd.prog 39 _ ReflectliteType.typeOf Tryd.func39 (by kernel_rfl) (by kernel_rfl) (by kernel_rfl) (by kernel_rfl)
  have h8 := @run_callFunc_extern Tryd.prog 89 _ (ReflectliteType.relation "AssignableTo" ReflectliteType.assignableTo) Tryd.func89 (by kernel_rfl) (by kernel_rfl) (by kernel_rfl) (by kernel_rfl)
  have h9 := @run_callFunc_extern Tryd.prog 40 _ (ReflectliteValue.method (ReflectliteValue.valueError "reflectlite.Value.Elem" 0) ReflectliteValue.elem) Tryd.func40 (by kernel_rfl) (by kernel_rfl) (by kernel_rfl) (by kernel_rfl)
  have h10 := @run_callFunc_extern Tryd.prog 41 _ ReflectliteValue.set Tryd.func41 (by kernel_rfl) (by kernel_rfl) (by kernel_rfl) (by kernel_rfl)
  have k1 := valueOfPE
  have k2 := typePE
  have k3 := methodKind
  have k4 := methodElem
  have k5 := methodImplements
  have k6 := methodAssignableTo
  have k7 := kindPE
  have k8 := kindE
  have k9 := elemPE
  have k10 := implementsE
  have k11 := typeOfPF
  have k12 := assignNo
  have k13 := valueOfE
  have k14 := noAs
  have k15 := hasUnwrap
  have k16 := methodUnwrap
  have k17 := typeOfE
  have k18 := assignE
  have hc1 := cell_new w (.pointer (some t)) 65
  have hc2 := cell_al hc1 (.cells #[.pointer (some ⟨1, 65, none⟩), .pointer (some ⟨w.heap.size, 0, none⟩), .int .u64 150] 75)
  have hc3 := cell_al hc2 (.cells #[.pointer (some ⟨1, 65, none⟩), .pointer (some ⟨w.heap.size, 0, none⟩), .int .u64 150] 75)
  have n8 := isNilPE _ _ _ hc2
  have hg2 := cell_al (cell_al hg (.cells #[.pointer (some t)] 65)) (.cells #[.pointer (some ⟨1, 65, none⟩), .pointer (some ⟨w.heap.size, 0, none⟩), .int .u64 150] 75)
  have hu3 := cell_al (cell_al (cell_al hu (.cells #[.pointer (some t)] 65)) (.cells #[.pointer (some ⟨1, 65, none⟩), .pointer (some ⟨w.heap.size, 0, none⟩), .int .u64 150] 75)) (.cells #[.pointer (some ⟨1, 65, none⟩), .pointer (some ⟨w.heap.size, 0, none⟩), .int .u64 150] 75)
  have el := elemVPE _ _ _ hc3
  have ht1 := cell_al ht0 (.cells #[.pointer (some t)] 65)
  have ht2 := cell_al ht1 (.cells #[.pointer (some ⟨1, 65, none⟩), .pointer (some ⟨w.heap.size, 0, none⟩), .int .u64 150] 75)
  have ht3 := cell_al ht2 (.cells #[.pointer (some ⟨1, 65, none⟩), .pointer (some ⟨w.heap.size, 0, none⟩), .int .u64 150] 75)
  have ht4 := cell_al ht3 (.cells #[.int .i64 n] 35)
  have st := setE t ⟨w.heap.size + 1 + 1 + 1, 0, none⟩ n old _ (by rw [World.cell?_alloc_at _ _ _ _ (by simp)]; rfl) ht4 (frozen_al (cell_lt ht3) (frozen_al (cell_lt ht2) (frozen_al (cell_lt ht1) (frozen_al (cell_lt ht0) hf0 _) _) _) _)
  clear ht1 ht2 ht3 ht4 hc1 hc2
  go_enter Tryd.func30, Tryd.ntmps30
  go_wp2
  refine wp_loop_rounds 2 ?_
  rw [rounds_succ]
  go_wp2
  rw [rounds_succ]
  go_wp2
  go_ret
  exact ⟨rfl, rfl⟩
/-- api.Wrap: a new *Fault. -/
theorem wrap.calls (u : TypeId) (x : Value) (at_ : Int) (w : World) :
    Calls Tryd.prog 17 #[.iface u x, .int .i64 at_] w fun e w' => e = .returned (.iface 66 (.pointer (some ⟨w.heap.size, 0, none⟩))) ∧ w' = w.alloc (.cells #[.int .i64 at_, .iface u x] 69) := by
  go_enter Tryd.func17, Tryd.ntmps17
  go_wp2
  go_ret
  exact ⟨rfl, rfl⟩
/-- An error that api.Wrap made of an Errno, at a place. -/
structure Fault (w : World) (v : Value) (n at_ : Int) : Prop where
  form : ∃ p, v = .iface 66 (.pointer (some ⟨p, 0, none⟩)) ∧ w.cell? ⟨p, 0, none⟩ = some (.int .i64 at_) ∧ w.cell? ⟨p, 1, none⟩ = some (.iface 35 (.int .i64 n))
theorem Fault.below {w w1 : World} {v : Value} {n at_ : Int} (h : Fault w v n at_) (hb : Below w.heap.size w w1) : Fault w1 v n at_ := by
  obtain ⟨p, e, h0, h1⟩ := h.form
  exact ⟨p, e, (hb.cell (cell_lt h0)).trans h0, (hb.cell (cell_lt h1)).trans h1⟩
theorem Handle.below {w w1 : World} (h : Handle w) (hb : Below w.heap.size w w1) : Handle w1 := (hb.cell (cell_lt h)).trans h
set_option maxHeartbeats 4000000 in
theorem number.calls (v : Value) (n at_ : Int) (w : World) (hg : Handle w) (hf : Fault w v n at_) :
    Calls Tryd.prog 13 #[v] w fun e w' => e = .returned (.int .i64 n) ∧ Below w.heap.size w w' := by
  obtain ⟨p, rfl, h0, h1⟩ := hf.form
  have hgA := cell_al hg (.cells #[.int .i64 0] 35)
  have hu := cell_al h1 (.cells #[.int .i64 0] 35)
  have ht := cell_new w (.int .i64 0) 35
  have hfA : (w.alloc (.cells #[.int .i64 0] 35)).frozen? ⟨w.heap.size, 0, none⟩ = false := by simp
  have TA := as_errno p ⟨w.heap.size, 0, none⟩ n (.int .i64 0) _ hgA hu ht hfA
  clear hgA hu ht hfA h0 h1 hg
  go_enter Tryd.func13, Tryd.ntmps13
  go_wp2_with (first | (go_at_call 30; refine TA.mono ?_; rintro e w' ⟨rfl, rfl⟩))
  go_ret
  exact ⟨rfl, by repeat (first | exact Below.refl _ _ | exact Nat.le_refl _ | (refine Below.setCell ?_ (by simp) _) | (refine Below.alloc ?_ (by simp <;> omega) _))⟩
set_option maxHeartbeats 4000000 in
theorem place.calls (v : Value) (n at_ : Int) (w : World) (hg : Handle w) (hf : Fault w v n at_) :
    Calls Tryd.prog 14 #[v] w fun e w' => e = .returned (.int .i64 at_) ∧ Below w.heap.size w w' := by
  obtain ⟨p, rfl, h0, h1⟩ := hf.form
  have hgA := cell_al hg (.cells #[.pointer none] 66)
  have ht := cell_new w (.pointer none) 66
  have hfA : (w.alloc (.cells #[.pointer none] 66)).frozen? ⟨w.heap.size, 0, none⟩ = false := by simp
  have hlt := cell_lt h0
  have TA : Calls Tryd.prog 30 #[.iface 66 (.pointer (some ⟨p, 0, none⟩)), .iface 67 (.pointer (some ⟨w.heap.size, 0, none⟩))] (w.alloc (.cells #[.pointer none] 66)) fun ev w' => ev = .returned (.bool true) ∧
      w'.cell? ⟨w.heap.size, 0, none⟩ = some (.pointer (some ⟨p, 0, none⟩)) ∧ w'.cell? ⟨p, 0, none⟩ = some (.int .i64 at_) ∧ Below w.heap.size w w' := by
    refine (as_fault ⟨p, 0, none⟩ ⟨w.heap.size, 0, none⟩ (.pointer none) _ hgA ht hfA).mono ?_
    rintro e w' ⟨rfl, rfl⟩
    refine ⟨rfl, World.cell?_setCell_same _ _ _ (cell_al (cell_al (cell_al (cell_al ht _) _) _) _), ?_, ?_⟩
    · rw [World.cell?_setCell_other _ _ _ _ (fun h => by have := congrArg Addr.block h; simp at this; simp at hlt; omega)]
      exact cell_al (cell_al (cell_al (cell_al (cell_al h0 _) _) _) _) _
    · repeat (first | exact Below.refl _ _ | exact Nat.le_refl _ | (refine Below.setCell ?_ (by simp) _) | (refine Below.alloc ?_ (by simp <;> omega) _))
  clear hgA ht hfA h1 hg h0
  go_enter Tryd.func14, Tryd.ntmps14
  go_wp2_with (first | (go_at_call 30; refine TA.mono ?_; rintro e w' ⟨rfl, c1, c2, hb⟩))
  go_ret
  exact ⟨rfl, hb⟩
end Go.Proofs.YtmklkkpeolnjbaaDoor.As
