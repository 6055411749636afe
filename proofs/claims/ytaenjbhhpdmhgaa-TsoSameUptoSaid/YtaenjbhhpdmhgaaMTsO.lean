/-
A flush as a plain function of the machine. Conditions: as each theorem states them.
-/
import Derived.Test.YtaenjbhhpdmhgaaMTsK
set_option linter.unusedVariables false
set_option linter.unusedSimpArgs false
namespace Go.Proofs.Ytaenjbhhpdmhgaa.Tso
open Go.RowKit Go.Proofs.YtaenjbhhpdmhgaaW.PrintWords Go.Proofs.YtaenjbhhpdmhgaaW.PrintLast Go.Proofs.YtaenjbhhpdmhgaaW.PrintMore
open Go.Proofs.Ytaenjbhhpdmhgaa.Kit
open Go.Proofs.Ytaenjbhhpdmhgaa.PTsoScript
/-- A flush of a thread that there is. -/
def flushF (M : Mch) (k : Nat) : Mch × Int × Int × Bool :=
  match M.thr[k]? with
  | none => (M, 0, 0, false)
  | some t => match t.wr with
    | [] => (M, 0, 0, false)
    | x :: l => ({ cells := M.cells.set x.f0.toNat x.f1, thr := M.thr.set k { t with wr := l }, steps := M.steps }, 4, x.f0, false)
theorem flushF.calls (base mb k : Nat) (col : Nat → Nat) (ts : List Nat) (cv pv : Value) (M : Mch) (w : World) (hM : Mach w base mb col ts cv pv M) (hk : k < ts.length) (hbase : base ≤ w.heap.size)
    (hf : ∀ t ∈ M.thr, t.wr.length ≤ 4194304 ∧ ∀ x ∈ t.wr, 0 ≤ x.f0 ∧ x.f0 < M.cells.length) :
    Calls Try.prog 13 #[.pointer (some ⟨mb, 0, none⟩), .int .i64 (k : Int)] w (StepP w base mb ts col pv (flushF M k).1 (k : Int) (flushF M k).2.1 (flushF M k).2.2.1 (flushF M k).2.2.2) := by
  have hk2 : k < M.thr.length := by rw [← hM.len]; exact hk
  have h1 : ts[k]? = some ts[k] := List.getElem?_eq_getElem hk
  have h2 : M.thr[k]? = some M.thr[k] := List.getElem?_eq_getElem hk2
  have hmem : M.thr[k] ∈ M.thr := List.getElem_mem hk2
  generalize ts[k] = b at h1
  generalize M.thr[k] = t at h2 hmem
  obtain ⟨cvt, wv, ov, hT⟩ := hM.thr k b t h1 h2
  obtain ⟨hl, hx⟩ := hf t hmem
  unfold flushF
  rw [h2]
  cases hw : t.wr with
  | nil =>
    simp only [hw]
    exact flush_empty.calls base mb k b col ts cv pv cvt wv ov M t w hM h1 h2 hT hbase hw
  | cons x l =>
    simp only [hw]
    exact flush.calls base mb k b col ts cv pv cvt wv ov M t w hM h1 h2 hT hbase x l hw (hx x (by rw [hw]; exact List.mem_cons_self)) hl
end Go.Proofs.Ytaenjbhhpdmhgaa.Tso
