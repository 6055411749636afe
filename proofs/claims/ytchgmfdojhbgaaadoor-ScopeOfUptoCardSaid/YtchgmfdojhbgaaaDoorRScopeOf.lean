/-
The card of ScopeOf, second form: where what came in is of bulk at most 1048576, a list of declarations is a scope just if no name stands twice, and each is by a lock that stands ahead; the first that is wrong is told. Conditions: the bound, and the listed variable errors.errorType as the card ties it to the program's text (the pruned copy of the project; other packages, commands and tests are not spoken of).
-/
import Derived.Test.YtchgmfdojhbgaaaDoorCards
import Derived.Test.YtchgmfdojhbgaaaDoorTie
import Derived.Test.YtchgmfdojhbgaaaDoorMLawScopeOf
import Derived.Test.YtchgmfdojhbgaaaDoorOpens
import Derived.Test.YtchgmfdojhbgaaaDoorBulk
import Derived.WalkKit
import Derived.ProofKit
import Derived.OpenShut
import Derived.ChangeOld
import Derived.Below
import Derived.SizedLaws
import Derived.Lib.SmallJoins
import Derived.Deep.DeepHandedRow
import Derived.LaidLaws
import Derived.LaidHandle
import Derived.Stop.Joined
set_option linter.unusedVariables false
set_option linter.unusedSimpArgs false
namespace Go.Proofs.YtchgmfdojhbgaaaDoor.SRead
open Go.RowKit Go.Proofs.YtchgmfdojhbgaaaDoorW.PrintWords Go.Proofs.YtchgmfdojhbgaaaDoorW.PrintLast Go.Proofs.YtchgmfdojhbgaaaDoorW.PrintMore Go.Proofs.YtchgmfdojhbgaaaDoor.Kit
structure S4 where
  f0 : Int
  f1 : Int
  f2 : Int
  f3 : Int
def z4 : S4 := ⟨0, 0, 0, 0⟩
def k26 : Kd S4 := Kd.iso (Kd.pair (Kd.int .u8) (Kd.pair (Kd.int .u8) (Kd.pair (Kd.int .u8) (Kd.int .u8)))) (fun x : S4 => (x.f0, x.f1, x.f2, x.f3))
theorem k26_open {w : World} {x : S4} {cs : List Value} (h : (k26).K w x cs) : cs = [.int .u8 x.f0, .int .u8 x.f1, .int .u8 x.f2, .int .u8 x.f3] := by
  obtain ⟨_, _, rfl, rfl, ⟨_, _, rfl, rfl, ⟨_, _, rfl, rfl, rfl⟩⟩⟩ := h
  exact rfl
def wf26 (x : S4) : Prop := (Lit.int .u8 x.f0).wf = true ∧ (Lit.int .u8 x.f1).wf = true ∧ (Lit.int .u8 x.f2).wf = true ∧ (Lit.int .u8 x.f3).wf = true
theorem o26 : Opens.Opens Tryd.prog 26 k26 wf26 :=
  Opens.imp (Opens.iso (Opens.struct Tryd.underlying26 (by kernel_rfl) (Opens.cons (Opens.int Tryd.underlying5 (by kernel_rfl)) rfl (Opens.cons (Opens.int Tryd.underlying5 (by kernel_rfl)) rfl (Opens.cons (Opens.int Tryd.underlying5 (by kernel_rfl)) rfl (Opens.last (Opens.int Tryd.underlying5 (by kernel_rfl)) rfl rfl))))) (fun x : S4 => (x.f0, x.f1, x.f2, x.f3)) (fun p => ⟨p.1, p.2.1, p.2.2.1, p.2.2.2⟩) (fun _ => rfl)) (fun _ h => h)
theorem reads26 {w : World} {A : Option Addr} {n : Nat} {xs : List S4} (h : Kd.C k26 w A n xs) (hn : xs.length = n) (hw : ∀ x ∈ xs, wf26 x) (i : Nat) (hi : i < n) :
    ∃ ad a b c d, A = some ad ∧ (0 ≤ a ∧ a ≤ 255) ∧ (0 ≤ b ∧ b ≤ 255) ∧ (0 ≤ c ∧ c ≤ 255) ∧ (0 ≤ d ∧ d ≤ 255) ∧ w.cell? (ad.add (i * 4)) = some (.int .u8 a) ∧ w.cell? ⟨(ad.add (i * 4)).block, (ad.add (i * 4)).off + 1, none⟩ = some (.int .u8 b) ∧
      w.cell? ⟨(ad.add (i * 4)).block, (ad.add (i * 4)).off + 2, none⟩ = some (.int .u8 c) ∧ w.cell? ⟨(ad.add (i * 4)).block, (ad.add (i * 4)).off + 3, none⟩ = some (.int .u8 d) := by
  obtain ⟨ad, cs, e, _, hK, hc0⟩ := Kd.C_get h z4 i (by omega) (by omega)
  rw [Int.toNat_natCast] at hK hc0
  have hx : xs.getD i z4 ∈ xs := by
    rw [List.getD_eq_getElem?_getD, List.getElem?_eq_getElem (by omega)]; exact List.getElem_mem _
  have hwf := hw _ hx
  generalize xs.getD i z4 = x at hK hwf
  have hc : ∀ j u, cs[j]? = some u → w.cell? (ad.add (i * 4 + j)) = some u := hc0
  obtain rfl := k26_open hK
  obtain ⟨f0, f1, f2, f3⟩ := hwf
  refine ⟨ad, x.f0, x.f1, x.f2, x.f3, e, wf_bounds_u8 f0, wf_bounds_u8 f1, wf_bounds_u8 f2, wf_bounds_u8 f3, hc 0 _ rfl, ?_, ?_, ?_⟩
  · rw [← add_field _ _ 1 (by omega)]; exact hc 1 _ rfl
  · rw [← add_field _ _ 2 (by omega)]; exact hc 2 _ rfl
  · rw [← add_field _ _ 3 (by omega)]; exact hc 3 _ rfl
end Go.Proofs.YtchgmfdojhbgaaaDoor.SRead
namespace Go.Proofs.YtchgmfdojhbgaaaDoor.scopeOfRow
open Go.ChangeShapes Go.WideShapes Go.ChangeAt Go.RowKit Go.Joins Go.Proofs.YtchgmfdojhbgaaaDoorW.PrintWords
open Go.Proofs.YtchgmfdojhbgaaaDoor.SRead
theorem own : ownKnob Tryd.prog.godebug = none := by kernel_rfl
theorem laidOut : laidOutB Tryd.prog = true := by kernel_rfl
theorem et : Tryd.prog.globalNamed "errors.errorType" = some 0 := by kernel_rfl
theorem rt : (Tryd.prog.cutTypes.find? (·.1 == "internal/reflectlite.rtype")).map (·.2) = some 77 := by kernel_rfl
theorem oneRow : ((List.range 120).filter fun t => Tryd.prog.rowNamed t [101, 114, 114, 111, 114]) = [36] := by kernel_rfl
theorem size : Tryd.prog.types.size = 120 := by kernel_rfl
/-- What the listed variable gives: its one cell. -/
theorem handle_of_laid {W : World} (h : laidMetH Tryd.prog Rows.scopeOfUptoRow.laid W) : As.Handle W := by
  have h' : laidMet Tryd.prog [] W ∧ handlesMet Tryd.prog Rows.scopeOfUptoRow.laid W := h
  obtain ⟨name, u, ty, e1, e2, e3, e4, e5⟩ := h'.2 _ (List.mem_singleton.2 rfl)
  have en : name = [101, 114, 114, 111, 114] := (Option.some.inj e1).symm
  subst en
  obtain rfl := Option.some.inj (rt.symm.trans e2)
  have hm : ty ∈ (List.range 120).filter fun t => Tryd.prog.rowNamed t [101, 114, 114, 111, 114] := List.mem_filter.2 ⟨List.mem_range.2 (by rw [← size]; exact e3), e4⟩
  rw [oneRow] at hm
  obtain rfl := List.mem_singleton.1 hm
  have hh : typeHandle Tryd.prog 36 = .pointer (some ⟨1, 36, none⟩) := by kernel_rfl
  rw [hh] at e5
  simpa using World.var?_cell et e5 0
/-- A world that meets the condition: the settled one, the variable's cell laid. -/
noncomputable def laidWorld (os : Os) : World :=
  let w0 := World.holding Tryd.prog os ⟨#[], #[], []⟩
  { w0 with heap := w0.heap.modify 0 fun
      | .cells _ t frozen => .cells #[.iface 77 (.agg #[.pointer (some ⟨1, 36, none⟩)])] t frozen
      | o => o }
theorem laid_met (os : Os) : laidMetH Tryd.prog Rows.scopeOfUptoRow.laid ((laidWorld os).forCall (fun _ _ => 0) ⟨#[], #[.slice none 0 0], []⟩).memory :=
  laidMetH_of_parts (laidMet_nil _ _) (by kernel_rfl)
theorem reads (os : Os) {H : Type} (enc : TypeId × Value → H) : ∃ places, DataW.whole enc Tryd.prog ((laidWorld os).forCall (fun _ _ => 0) ⟨#[], #[.slice none 0 0], []⟩).memory Tryd.f3.params.toList Rows.scopeOfSpec.vars false #[Value.slice none 0 0].toList 8 = some ([.nil], [], places) :=
  ⟨[], by kernel_rfl⟩
set_option maxRecDepth 100000 in
theorem lifted (os : Os) (started : os.Started) (H : Type) (enc : TypeId × Value → H) (F : Stop.Interp) :
    ReturnsInHanded {} Tryd.checked os 3 .any ((Rows.OpenSpec.upto Rows.scopeOfSpec).preRow enc Tryd.prog Tryd.f3 Rows.scopeOfUptoRow.domain false Rows.scopeOfUptoRow.laid) (((Rows.OpenSpec.upto Rows.scopeOfSpec).at F).post enc Tryd.prog Tryd.f3 false true false false) := by
  obtain ⟨places, hx⟩ := reads os enc
  refine returnsInHanded_of_row (C := Tryd.checked) (s := Rows.OpenSpec.upto Rows.scopeOfSpec) own started (by kernel_rfl) Tryd.func3
    (witness_row_at (enc := enc) (C := Tryd.checked) false (laidWorld os) #[.slice none 0 0] rfl (by kernel_rfl) (by kernel_rfl) (by kernel_rfl)
      (OpenSpec.preRow_of_cond 8 hx (by kernel_rfl) (fun k hk => by cases hk; kernel_rfl) (by kernel_rfl) (laid_met os))) ?_
  intro W base args ds gs before hval0 hW0 _ hcond _ hL _ _
  have hb_ := Bulk.bound (hcond _ rfl)
  have hg := handle_of_laid hL
  have hval : ∀ (j : Nat) t v, Tryd.f3.params[j]? = some t → args[j]? = some v → Value.okWide Tryd.prog W .any base t v := hval0
  have hW : DataW.Whole enc Tryd.prog Tryd.f3.params.toList Rows.scopeOfSpec.vars false W args.toList ds gs before := hW0
  have hW' := hW
  obtain ⟨p, q, hA0, hV, rfl, hfz, hnd⟩ := hW
  have hA : DataW.TrodAll enc Tryd.prog W 0 (fun _ => true) true Tryd.f3.params.toList args.toList ds p := hA0
  rw [Tryd.params3] at hA hval
  obtain ⟨v0, vs0, d0, ds0, p0, q0, hargs, rfl, rfl, h0, r0⟩ := trodAll_cons hA
  obtain ⟨rfl, rfl, rfl⟩ := trodAll_nil r0
  obtain rfl : args = #[v0] := by cases args; simp_all
  obtain ⟨rfl, rfl⟩ := trodVars_none hV
  obtain ⟨A0, len0, cap0, rfl⟩ := okWide_slice Tryd.underlying22 (hval 0 22 v0 rfl rfl)
  have k0 := h0
  have lt0 : ∀ x ∈ p0, x.block < W.heap.size := by obtain ⟨m, hm⟩ := k0; exact DataW.trod_lt m _ _ _ hm
  obtain ⟨l0, hl0, hcap0, hm0, hC0, hw0⟩ : ∃ xs : List S4, xs.length = len0 ∧ len0 ≤ cap0 ∧ len0 ≤ maxLen ∧ Kd.C k26 W A0 len0 xs ∧ ∀ x ∈ xs, wf26 x := by
    obtain ⟨fuel, hf⟩ := h0
    exact Opens.reads Tryd.underlying22 o26 (by simpa [Value.cells] using hf)
  simp only [List.cons_append, List.nil_append, List.append_nil, Rows.uptoBulkAll] at hb_
  have hb0_ := Bulk.slice_len Tryd.underlying22 h0
  clear hA0 hval0
  refine (MScope.scopeof.calls A0 cap0 len0 W (by omega) hg (fun i hi => reads26 hC0 hl0 hw0 i hi)).mono fun e W' ⟨he, bel0⟩ => ?_
  have bel : Below W.heap.size W W' := bel0
  subst he
  exact ⟨_, rfl, _, _, _, [], _, [], hW', trodAll_mk1 (shut_bool Tryd.underlying4 _), (trodAll_cons_mk (Below.trod laidOut (by kernel_rfl) (of_decide_eq_true (by kernel_rfl)) k0 bel lt0) trodAll_mk0), rfl, bel.frame _, fun h => by cases h⟩
theorem saidUpto : Rows.ScopeOfUptoSaid :=
  OpenClaim.holds_of_cond 3 Tryd.f3 rfl rfl rfl rfl rfl rfl rfl ⟨rfl, rfl, rfl, rfl, rfl⟩ rfl rfl rfl rfl rfl (by kernel_rfl) Tryd.func3 (by kernel_rfl)
    (of_decide_eq_true (by kernel_rfl)) (by unfold Func.isWrapper; first | (rw [if_pos (by decide +kernel)]; kernel_rfl) | (rw [if_neg (by decide +kernel)]; exact ⟨rfl, rfl⟩))
    (fun os started H enc _ F => by rw [OpenClaim.pre_eq_preRow]; exact lifted os started H enc F)
theorem plain (f : FuncId) (fn : Func) (hf : Tryd.pinned.checked.prog.funcNamed "tautochrone/tautochronelaw06.ScopeOf" = some f) (hfn : Tryd.pinned.checked.prog.funcs[f]? = some fn) :
    true = Tryd.pinned.checked.prog.looks [] ∧ ∀ (j : Nat) t, fn.params[j]? = some t → Tryd.pinned.checked.prog.wantsStandIn t = false := by
  obtain rfl : f = 3 := Option.some.inj ((show Tryd.prog.funcNamed "tautochrone/tautochronelaw06.ScopeOf" = some 3 by kernel_rfl).symm.trans hf) |>.symm
  obtain rfl : fn = Tryd.f3 := (Option.some.inj (Tryd.func3.symm.trans hfn)).symm
  refine ⟨by kernel_rfl, fun j t ht => ?_⟩
  rw [Tryd.params3] at ht
  obtain rfl : t = 22 := by simpa using Array.mem_of_getElem? ht
  exact (show Tryd.prog.wantsStandIn 22 = false by kernel_rfl)
theorem cardUpto : Rows.ScopeOfUptoCardSaid :=
  Claim7.holds_tied_plain_at .later [] _ _ _ _ saidUpto (fun _ h => by cases h) (by kernel_rfl) (fun _ h => by cases h) scopeOfUpto_row_tie rfl ⟨rfl, rfl⟩ (by kernel_rfl) rfl plain (by kernel_rfl)
end Go.Proofs.YtchgmfdojhbgaaaDoor.scopeOfRow
namespace Go.Proofs.YtchgmfdojhbgaaaDoor
/-- The card, under a short name, for the claim. -/
theorem scopeOfUptoCard_holds : Rows.ScopeOfUptoCardSaid := scopeOfRow.cardUpto
#print axioms scopeOfUptoCard_holds
end Go.Proofs.YtchgmfdojhbgaaaDoor
