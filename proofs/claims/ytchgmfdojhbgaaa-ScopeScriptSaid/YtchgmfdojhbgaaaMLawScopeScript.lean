/-
The statement ScopeScript: what names stand for, when locals are entered and left, is what the document says, deed by deed. Condition: none beyond the given row's: what the law appends to never has more than six declarations or eight locals, for their names are distinct.
-/
import Derived.Test.YtchgmfdojhbgaaaRows
import Derived.Test.YtchgmfdojhbgaaaMScopeC
import Derived.Test.YtchgmfdojhbgaaaMScopeG
import Derived.Test.YtchgmfdojhbgaaaOpens
import Derived.WalkKit
import Derived.ProofKit
import Derived.OpenShut
import Derived.ShutString
import Derived.ChangeOld
import Derived.Below
import Derived.SizedLaws
import Derived.Lib.SmallJoins
set_option linter.unusedVariables false
set_option linter.unusedSimpArgs false
namespace Go.Proofs.Ytchgmfdojhbgaaa.SRead
open Go.RowKit Go.Proofs.YtchgmfdojhbgaaaW.PrintWords Go.Proofs.YtchgmfdojhbgaaaW.PrintLast Go.Proofs.YtchgmfdojhbgaaaW.PrintMore Go.Proofs.Ytchgmfdojhbgaaa.Kit
structure S4 where
  f0 : Int
  f1 : Int
  f2 : Int
  f3 : Int
def z4 : S4 := ⟨0, 0, 0, 0⟩
def k42 : Kd S4 := Kd.iso (Kd.pair (Kd.int .u8) (Kd.pair (Kd.int .u8) (Kd.pair (Kd.int .u8) (Kd.int .u8)))) (fun x : S4 => (x.f0, x.f1, x.f2, x.f3))
theorem k42_open {w : World} {x : S4} {cs : List Value} (h : (k42).K w x cs) : cs = [.int .u8 x.f0, .int .u8 x.f1, .int .u8 x.f2, .int .u8 x.f3] := by
  obtain ⟨_, _, rfl, rfl, ⟨_, _, rfl, rfl, ⟨_, _, rfl, rfl, rfl⟩⟩⟩ := h
  exact rfl
def wf42 (x : S4) : Prop := (Lit.int .u8 x.f0).wf = true ∧ (Lit.int .u8 x.f1).wf = true ∧ (Lit.int .u8 x.f2).wf = true ∧ (Lit.int .u8 x.f3).wf = true
theorem o42 : Opens.Opens Try.prog 42 k42 wf42 :=
  Opens.imp (Opens.iso (Opens.struct Try.underlying42 (by kernel_rfl) (Opens.cons (Opens.int Try.underlying5 (by kernel_rfl)) rfl (Opens.cons (Opens.int Try.underlying5 (by kernel_rfl)) rfl (Opens.cons (Opens.int Try.underlying5 (by kernel_rfl)) rfl (Opens.last (Opens.int Try.underlying5 (by kernel_rfl)) rfl rfl))))) (fun x : S4 => (x.f0, x.f1, x.f2, x.f3)) (fun p => ⟨p.1, p.2.1, p.2.2.1, p.2.2.2⟩) (fun _ => rfl)) (fun _ h => h)
def k47 : Kd S4 := Kd.iso (Kd.pair (Kd.int .u8) (Kd.pair (Kd.int .u8) (Kd.pair (Kd.int .u8) (Kd.int .i8)))) (fun x : S4 => (x.f0, x.f1, x.f2, x.f3))
theorem k47_open {w : World} {x : S4} {cs : List Value} (h : (k47).K w x cs) : cs = [.int .u8 x.f0, .int .u8 x.f1, .int .u8 x.f2, .int .i8 x.f3] := by
  obtain ⟨_, _, rfl, rfl, ⟨_, _, rfl, rfl, ⟨_, _, rfl, rfl, rfl⟩⟩⟩ := h
  exact rfl
def wf47 (x : S4) : Prop := (Lit.int .u8 x.f0).wf = true ∧ (Lit.int .u8 x.f1).wf = true ∧ (Lit.int .u8 x.f2).wf = true ∧ (Lit.int .i8 x.f3).wf = true
theorem o47 : Opens.Opens Try.prog 47 k47 wf47 :=
  Opens.imp (Opens.iso (Opens.struct Try.underlying47 (by kernel_rfl) (Opens.cons (Opens.int Try.underlying5 (by kernel_rfl)) rfl (Opens.cons (Opens.int Try.underlying5 (by kernel_rfl)) rfl (Opens.cons (Opens.int Try.underlying5 (by kernel_rfl)) rfl (Opens.last (Opens.int Try.underlying45 (by kernel_rfl)) rfl rfl))))) (fun x : S4 => (x.f0, x.f1, x.f2, x.f3)) (fun p => ⟨p.1, p.2.1, p.2.2.1, p.2.2.2⟩) (fun _ => rfl)) (fun _ h => h)
theorem reads42 {w : World} {A : Option Addr} {n : Nat} {xs : List S4} (h : Kd.C k42 w A n xs) (hn : xs.length = n) (hw : ∀ x ∈ xs, wf42 x) (i : Nat) (hi : i < n) :
    ∃ ad a b c d, A = some ad ∧ (0 ≤ a ∧ a ≤ 255) ∧ (0 ≤ b ∧ b ≤ 255) ∧ (0 ≤ c ∧ c ≤ 255) ∧ (0 ≤ d ∧ d ≤ 255) ∧ w.cell? (ad.add (i * 4)) = some (.int .u8 a) ∧ w.cell? ⟨(ad.add (i * 4)).block, (ad.add (i * 4)).off + 1, none⟩ = some (.int .u8 b) ∧
      w.cell? ⟨(ad.add (i * 4)).block, (ad.add (i * 4)).off + 2, none⟩ = some (.int .u8 c) ∧ w.cell? ⟨(ad.add (i * 4)).block, (ad.add (i * 4)).off + 3, none⟩ = some (.int .u8 d) := by
  obtain ⟨ad, cs, e, _, hK, hc0⟩ := Kd.C_get h z4 i (by omega) (by omega)
  rw [Int.toNat_natCast] at hK hc0
  have hx : xs.getD i z4 ∈ xs := by
    rw [List.getD_eq_getElem?_getD, List.getElem?_eq_getElem (by omega)]; exact List.getElem_mem _
  have hwf := hw _ hx
  generalize xs.getD i z4 = x at hK hwf
  have hc : ∀ j u, cs[j]? = some u → w.cell? (ad.add (i * 4 + j)) = some u := hc0
  obtain rfl := k42_open hK
  obtain ⟨f0, f1, f2, f3⟩ := hwf
  refine ⟨ad, x.f0, x.f1, x.f2, x.f3, e, wf_bounds_u8 f0, wf_bounds_u8 f1, wf_bounds_u8 f2, wf_bounds_u8 f3, hc 0 _ rfl, ?_, ?_, ?_⟩
  · rw [← add_field _ _ 1 (by omega)]; exact hc 1 _ rfl
  · rw [← add_field _ _ 2 (by omega)]; exact hc 2 _ rfl
  · rw [← add_field _ _ 3 (by omega)]; exact hc 3 _ rfl
theorem reads47 {w : World} {A : Option Addr} {n : Nat} {xs : List S4} (h : Kd.C k47 w A n xs) (hn : xs.length = n) (hw : ∀ x ∈ xs, wf47 x) (i : Nat) (hi : i < n) :
    ∃ ad a b c d, A = some ad ∧ (0 ≤ a ∧ a ≤ 255) ∧ (0 ≤ b ∧ b ≤ 255) ∧ (0 ≤ c ∧ c ≤ 255) ∧ (-128 ≤ d ∧ d ≤ 127) ∧ w.cell? (ad.add (i * 4)) = some (.int .u8 a) ∧ w.cell? ⟨(ad.add (i * 4)).block, (ad.add (i * 4)).off + 1, none⟩ = some (.int .u8 b) ∧
      w.cell? ⟨(ad.add (i * 4)).block, (ad.add (i * 4)).off + 2, none⟩ = some (.int .u8 c) ∧ w.cell? ⟨(ad.add (i * 4)).block, (ad.add (i * 4)).off + 3, none⟩ = some (.int .i8 d) := by
  obtain ⟨ad, cs, e, _, hK, hc0⟩ := Kd.C_get h z4 i (by omega) (by omega)
  rw [Int.toNat_natCast] at hK hc0
  have hx : xs.getD i z4 ∈ xs := by
    rw [List.getD_eq_getElem?_getD, List.getElem?_eq_getElem (by omega)]; exact List.getElem_mem _
  have hwf := hw _ hx
  generalize xs.getD i z4 = x at hK hwf
  have hc : ∀ j u, cs[j]? = some u → w.cell? (ad.add (i * 4 + j)) = some u := hc0
  obtain rfl := k47_open hK
  obtain ⟨f0, f1, f2, f3⟩ := hwf
  refine ⟨ad, x.f0, x.f1, x.f2, x.f3, e, wf_bounds_u8 f0, wf_bounds_u8 f1, wf_bounds_u8 f2, wf_bounds_i8 f3, hc 0 _ rfl, ?_, ?_, ?_⟩
  · rw [← add_field _ _ 1 (by omega)]; exact hc 1 _ rfl
  · rw [← add_field _ _ 2 (by omega)]; exact hc 2 _ rfl
  · rw [← add_field _ _ 3 (by omega)]; exact hc 3 _ rfl
end Go.Proofs.Ytchgmfdojhbgaaa.SRead
namespace Go.Proofs.Ytchgmfdojhbgaaa.scopeScriptRow
open Go.ChangeShapes Go.WideShapes Go.ChangeAt Go.RowKit Go.Joins Go.Proofs.YtchgmfdojhbgaaaW.PrintWords
open Go.Proofs.Ytchgmfdojhbgaaa.SRead
open Go.ChangeMaps (open_string shut_string)
set_option linter.unusedVariables false
set_option linter.unusedSimpArgs false
theorem own : ownKnob Try.prog.godebug = none := by kernel_rfl
theorem laidOut : laidOutB Try.prog = true := by kernel_rfl
set_option maxRecDepth 100000 in
theorem lifted (os : Os) (started : os.Started) (H : Type) (enc : TypeId × Value → H) :
    ReturnsInHanded {} Try.checked os 4 .any (Rows.scopeScriptSpec.pre6 enc Try.prog Try.f4 Rows.scopeScriptRow.domain false) (Rows.scopeScriptSpec.post enc Try.prog Try.f4 false true false false) := by
  refine returnsInHanded_of_change_sized (C := Try.checked) own started (by kernel_rfl) Try.func4
    (ChangeSpec.witness6 (enc := enc) (C := Try.checked) false ⟨#[], #[.slice none 0 0, .slice none 0 0], []⟩ 8 (by kernel_rfl) (by kernel_rfl) (by kernel_rfl) (by kernel_rfl)) ?_
  intro W base args ds gs before hval0 hW hcnd hsz0 _
  have hsz : (DataW.weightsEach Try.prog (Try.f4.params.toList ++ Rows.scopeScriptSpec.plain.varTypes Try.prog) (ds ++ gs)).all (· ≤ reachBytes) = true := hsz0
  have hval : ∀ (j : Nat) t v, Try.f4.params[j]? = some t → args[j]? = some v → Value.okWide Try.prog W .any base t v := hval0
  have hW' := hW
  obtain ⟨p, q, hA0, hV, rfl, hfz, hnd⟩ := hW
  have hA : DataW.TrodAll enc Try.prog W 0 (fun _ => true) true Try.f4.params.toList args.toList ds p := hA0
  rw [Try.params4] at hA hval hsz
  obtain ⟨v0, vs0, d0, ds0, p0, q0, hargs, rfl, rfl, h0, r0⟩ := trodAll_cons hA
  obtain ⟨v1, vs1, d1, ds1, p1, q1, rfl, rfl, rfl, h1, r1⟩ := trodAll_cons r0
  obtain ⟨rfl, rfl, rfl⟩ := trodAll_nil r1
  obtain rfl : args = #[v0, v1] := by cases args; simp_all
  obtain ⟨rfl, rfl⟩ := trodVars_none hV
  obtain ⟨A0, len0, cap0, rfl⟩ := okWide_slice Try.underlying39 (hval 0 39 v0 rfl rfl)
  have k0 := h0
  have lt0 : ∀ x ∈ p0, x.block < W.heap.size := by obtain ⟨m, hm⟩ := k0; exact DataW.trod_lt m _ _ _ hm
  obtain ⟨l0, hl0, hcap0, hm0, hC0, hw0⟩ : ∃ xs : List S4, xs.length = len0 ∧ len0 ≤ cap0 ∧ len0 ≤ maxLen ∧ Kd.C k42 W A0 len0 xs ∧ ∀ x ∈ xs, wf42 x := by
    obtain ⟨fuel, hf⟩ := h0
    exact Opens.reads Try.underlying39 o42 (by simpa [Value.cells] using hf)
  have y0 : len0 * 4 ≤ 140737488351232 := Opens.sized hsz (j := 0) (t := 39) rfl rfl Try.underlying39 (by kernel_rfl) h0
  obtain ⟨A1, len1, cap1, rfl⟩ := okWide_slice Try.underlying40 (hval 1 40 v1 rfl rfl)
  have k1 := h1
  have lt1 : ∀ x ∈ p1, x.block < W.heap.size := by obtain ⟨m, hm⟩ := k1; exact DataW.trod_lt m _ _ _ hm
  obtain ⟨l1, hl1, hcap1, hm1, hC1, hw1⟩ : ∃ xs : List S4, xs.length = len1 ∧ len1 ≤ cap1 ∧ len1 ≤ maxLen ∧ Kd.C k47 W A1 len1 xs ∧ ∀ x ∈ xs, wf47 x := by
    obtain ⟨fuel, hf⟩ := h1
    exact Opens.reads Try.underlying40 o47 (by simpa [Value.cells] using hf)
  have y1 : len1 * 4 ≤ 140737488351232 := Opens.sized hsz (j := 1) (t := 40) rfl rfl Try.underlying40 (by kernel_rfl) h1
  clear hA0 hval0 hsz0 hsz
  refine (MScope.script.calls A0 cap0 len0 A1 cap1 len1 W (by omega) (by omega) (reads42 hC0 hl0 hw0) (reads47 hC1 hl1 hw1)).mono fun e W' ⟨he, bel0⟩ => ?_
  have bel : Below W.heap.size W W' := bel0
  subst he
  exact ⟨_, rfl, _, _, _, [], _, [], hW', trodAll_mk1 (shut_bool Try.underlying4 _), (trodAll_cons_mk (Below.trod laidOut (by kernel_rfl) (of_decide_eq_true (by kernel_rfl)) k0 bel lt0) (trodAll_cons_mk (Below.trod laidOut (by kernel_rfl) (of_decide_eq_true (by kernel_rfl)) k1 bel lt1) trodAll_mk0)), rfl, bel.frame _, fun h => by cases h⟩
theorem over : Rows.scopeScriptRow.holds Try.pinned (OpenSpec.ofChange Rows.scopeScriptSpec) :=
  OpenClaim.holds_of_wide 4 Try.f4 rfl rfl rfl rfl rfl rfl rfl ⟨rfl, rfl, rfl, rfl, rfl⟩ rfl rfl rfl rfl rfl (by kernel_rfl) Try.func4 (by kernel_rfl)
    (of_decide_eq_true (by kernel_rfl)) (by unfold Func.isWrapper; first | (rw [if_pos (by decide +kernel)]; kernel_rfl) | (rw [if_neg (by decide +kernel)]; exact ⟨rfl, rfl⟩))
    (fun os started H enc _ => lifted os started H enc)
theorem proved : Rows.ScopeScriptSaid := over
end Go.Proofs.Ytchgmfdojhbgaaa.scopeScriptRow
namespace Go.Proofs.Ytchgmfdojhbgaaa
/-- The row, under a short name, for the claim. -/
theorem scopeScript_holds : Rows.ScopeScriptSaid := scopeScriptRow.proved
end Go.Proofs.Ytchgmfdojhbgaaa
