/-
A step of a thread: (*Machine).Step. Conditions: as each theorem states them.
-/
import Derived.Test.YtaenjbhhpdmhgaaMTsD
set_option linter.unusedVariables false
set_option linter.unusedSimpArgs false
namespace Go.Proofs.Ytaenjbhhpdmhgaa.Tso
open Go.RowKit Go.Proofs.YtaenjbhhpdmhgaaW.PrintWords Go.Proofs.YtaenjbhhpdmhgaaW.PrintLast Go.Proofs.YtaenjbhhpdmhgaaW.PrintMore
open Go.Proofs.Ytaenjbhhpdmhgaa.Kit
open Go.Proofs.Ytaenjbhhpdmhgaa.PTsoScript
theorem prow_of {W : World} {base : Nat} {ok : Nat → Prop} {pv : Value} {ts : List Nat} (h : Kd.R kP 72 W base ok pv ts) : PRow W pv ts := by
  obtain ⟨A, c, rfl, hc, hC⟩ := Kd.R_reads h
  refine ⟨A, c, rfl, hc, hC.2.1, fun k hk => ?_⟩
  obtain ⟨ad, cs, e, _, hK, hcell⟩ := Kd.C_get hC 0 (k : Int) (by omega) (by omega)
  refine ⟨ad, e, ?_⟩
  have hK2 : cs = [.pointer (some ⟨ts.getD (k : Int).toNat 0, 0, none⟩)] := hK
  subst hK2
  have := hcell 0 _ rfl
  simp only [Int.toNat_natCast] at this
  rw [show k * kP.sz + 0 = k from by show k * 1 + 0 = k; omega] at this
  rw [this]
  simp [hk]
/-- What a call of Step leaves. -/
def StepP (w : World) (base mb : Nat) (ts : List Nat) (col : Nat → Nat) (pv : Value) (M' : Mch) (k : Int) (kind place : Int) (hit : Bool) (e : Ending) (w' : World) : Prop :=
  e = .returned (.agg (eArr k kind place hit)) ∧ Keep base mb ts col w w' ∧ ∃ col' cv', (∀ q, q < w.heap.size → col' q = col q) ∧ Mach w' base mb col' ts cv' pv M'
set_option maxHeartbeats 8000000 in
set_option maxRecDepth 100000 in
theorem step_none.calls (base mb : Nat) (col : Nat → Nat) (ts : List Nat) (cv pv : Value) (M : Mch) (k : Int) (w : World) (hM : Mach w base mb col ts cv pv M) (hbase : base ≤ w.heap.size) (hk : ¬ (0 ≤ k ∧ k < ts.length)) :
    Calls Try.prog 12 #[.pointer (some ⟨mb, 0, none⟩), .int .i64 k] w (StepP w base mb ts col pv M k 0 0 false) := by
  have hbl : Below w.heap.size w (w.alloc (Obj.cells #[.int .i64 0, .int .i64 0, .int .i64 0, .bool false] 40 (0, 0))) := below_alloc (Below.refl _ _) _
  have e4 := heap_alloc_new w (Obj.cells #[.int .i64 0, .int .i64 0, .int .i64 0, .bool false] 40 (0, 0))
  go_enter Try.func12, Try.ntmps12
  go_upto_region 1 with go_in
  have hM := hM.below hbl
  have hB := Keep.of (base := base) (mb := mb) (ts := ts) (col := col) hbl
  have hg4 : base ≤ w.heap.size := hbase
  clear hbl
  generalize w.alloc (Obj.cells #[.int .i64 0, .int .i64 0, .int .i64 0, .bool false] 40 (0, 0)) = w1 at *
  generalize hG : w.heap.size = G4 at e4 hg4 ⊢
  have hn4 : w.heap.size ≤ G4 := Nat.le_of_eq hG
  clear hG
  have TG := get.calls mb cv pv M.steps ts k w1 hM.blk (prow_of hM.ptrs)
  rw [dif_neg hk] at TG
  have x40 := (blk_cell e4 0).trans rfl
  have x41 := (blk_cell e4 1).trans rfl
  have x42 := (blk_cell e4 2).trans rfl
  have x43 := (blk_cell e4 3).trans rfl
  have f4 := blk_frozen e4
  go_wp2_with (first | (go_at_call 29; refine TG.mono ?_; rintro e w2 ⟨rfl, h2⟩; obtain rfl := h2.symm))
  refine bodyPost_ret (results_c rfl _ _ G4 40 (eArr k 0 0 false) (0, 0) _ rfl (put_ev e4) Try.underlying40 rfl (by kernel_rfl)) rfl ?_
  exact ⟨rfl, hB.ev hn4, _, _, fun _ _ => rfl, hM.event e4⟩
end Go.Proofs.Ytaenjbhhpdmhgaa.Tso
