/-
A step as a plain function of the machine, but for Do and Choose: (*Machine).do, Step. Conditions: as each theorem states them.
-/
import Derived.Test.YtaenjbhhpdmhgaaMTsH
set_option linter.unusedVariables false
set_option linter.unusedSimpArgs false
namespace Go.Proofs.Ytaenjbhhpdmhgaa.Tso
open Go.RowKit Go.Proofs.YtaenjbhhpdmhgaaW.PrintWords Go.Proofs.YtaenjbhhpdmhgaaW.PrintLast Go.Proofs.YtaenjbhhpdmhgaaW.PrintMore
open Go.Proofs.Ytaenjbhhpdmhgaa.Kit
open Go.Proofs.Ytaenjbhhpdmhgaa.PTsoScript
def U64 (v : Int) : Prop := 0 ≤ v ∧ v < 18446744073709551616
theorem regS_ok {rs : List Int} (h : ∀ v ∈ rs, U64 v) (r : Int) : U64 (regS rs r) := by
  unfold regS
  split
  · rename_i hr
    rcases Nat.lt_or_ge r.toNat rs.length with hl | hl
    · simp only [List.getD_eq_getElem?_getD, List.getElem?_eq_getElem hl, Option.getD_some]
      exact h _ (List.getElem_mem hl)
    · simp only [List.getD_eq_getElem?_getD, List.getElem?_eq_none hl, Option.getD_none]
      exact ⟨by decide, by decide⟩
  · exact ⟨by decide, by decide⟩
def cellI (L : Nat) (v i : Int) : Nat := (cellS L v i).toNat
theorem cellI_lt {L : Nat} (h : 0 < L) (v i : Int) : cellI L v i < L := by
  have h1 : 0 ≤ cellS L v i := Int.emod_nonneg _ (by omega)
  have h2 : cellS L v i < L := Int.emod_lt_of_pos _ (by omega)
  unfold cellI
  omega
theorem cellI_eq {L : Nat} (h : 0 < L) (v i : Int) : cellS L v i = (cellI L v i : Int) := by
  have h1 : 0 ≤ cellS L v i := Int.emod_nonneg _ (by omega)
  unfold cellI
  omega
/-- What an instruction does: the cells, the thread, and what is shown of it. -/
def doF (cells : List Int) (t : Thr) (x : S28) : List Int × Thr × Int × Int × Bool :=
  let i := cellI cells.length x.f6 (if x.f0 = 4 ∨ x.f0 = 5 then regS t.rs x.f3 else 0)
  if x.f0 = 0 then (cells, { t with rs := t.rs.set x.f2.toNat x.f6, at_ := t.at_ + 1 }, 6, 0, false)
  else if x.f0 = 1 then (cells, { t with rs := t.rs.set x.f2.toNat (regS t.rs x.f3), at_ := t.at_ + 1 }, 6, 0, false)
  else if x.f0 = 4 then (cells, { t with rs := t.rs.set x.f2.toNat (seenS t.wr (i : Int) (cells.getD i 0)), at_ := t.at_ + 1 }, 2, (i : Int), (findN t.wr (i : Int) t.wr.length).2)
  else if x.f0 = 5 then (cells, { t with wr := t.wr ++ [⟨(i : Int), regS t.rs x.f4⟩], at_ := t.at_ + 1 }, 3, (i : Int), false)
  else if x.f0 = 6 then (cells, { t with at_ := x.f7 }, 1, x.f7, false)
  else if x.f0 = 7 then (if regS t.rs x.f3 = 0 then (cells, { t with at_ := x.f7 }, 1, x.f7, false) else (cells, { t with at_ := t.at_ + 1 }, 1, t.at_ + 1, false))
  else if x.f0 = 8 then (if cells.getD i 0 = 0 then (cells.set i 1, { t with at_ := t.at_ + 1 }, 5, (i : Int), true) else (cells, t, 5, (i : Int), false))
  else if x.f0 = 9 then (cells, { t with wr := t.wr ++ [⟨(i : Int), 0⟩], at_ := t.at_ + 1 }, 3, (i : Int), false)
  else if x.f0 = 10 then (cells.set i (IntKind.u64.wrap (cells.getD i 0 + regS t.rs x.f3)), { t with at_ := t.at_ + 1 }, 2, (i : Int), false)
  else if x.f0 = 11 then (cells, { t with at_ := t.at_ + 1 }, 6, 0, false)
  else if x.f0 = 12 then (cells, { t with out := t.out ++ [regS t.rs x.f3], at_ := t.at_ + 1 }, 6, 0, false)
  else (cells, { t with halted := true }, 6, 0, false)
/-- What a step needs. -/
structure Fit (cells : List Int) (t : Thr) (x : S28) : Prop where
  op : x.f0 = 0 ∨ x.f0 = 1 ∨ x.f0 = 4 ∨ x.f0 = 5 ∨ x.f0 = 6 ∨ x.f0 = 7 ∨ x.f0 = 8 ∨ x.f0 = 9 ∨ x.f0 = 10 ∨ x.f0 = 11 ∨ x.f0 = 12 ∨ x.f0 = 13
  tgt : x.f0 = 0 ∨ x.f0 = 1 ∨ x.f0 = 4 → 0 ≤ x.f2 ∧ x.f2 < 8
  val : U64 x.f6
  regs : ∀ v ∈ t.rs, U64 v
  pos : x.f0 = 4 ∨ x.f0 = 5 ∨ x.f0 = 8 ∨ x.f0 = 9 ∨ x.f0 = 10 → 0 < cells.length
  len : cells.length ≤ 1048576
  wr : t.wr.length ≤ 4194304
  out : t.out.length ≤ 4194304
  at_ : 0 ≤ t.at_ ∧ t.at_ < 1000000
theorem getD_at {l : List Int} {i : Nat} (h : i < l.length) : l.getD i 0 = l[i] := by simp [List.getD_eq_getElem?_getD, List.getElem?_eq_getElem h]
theorem doF.calls (base mb k b : Nat) (col : Nat → Nat) (ts : List Nat) (cv pv cvt wv ov : Value) (M : Mch) (t : Thr) (x : S28) (w : World) (hM : Mach w base mb col ts cv pv M) (hk : ts[k]? = some b) (ht : M.thr[k]? = some t)
    (hT : ThrM w base (fun q => col q = k + 1) b t cvt wv ov) (hbase : base ≤ w.heap.size) (ge : Nat) (ce : Array Value) (hge : w.heap[ge]? = some (Obj.cells ce 40 (0, 0))) (hf : Fit M.cells t x) :
    Calls Try.prog 31 #[.pointer (some ⟨mb, 0, none⟩), .pointer (some ⟨b, 0, none⟩), .agg #[.int .i64 x.f0, .int .i64 x.f1, .int .i64 x.f2, .int .i64 x.f3, .int .i64 x.f4, .int .i64 x.f5, .int .u64 x.f6, .int .i64 x.f7]] w
      (DoP w base mb ts col pv k M (doF M.cells t x).1 (doF M.cells t x).2.1 (doF M.cells t x).2.2.1 (doF M.cells t x).2.2.2.1 (doF M.cells t x).2.2.2.2 ge ce) := by
  unfold doF
  have hr := regS_ok hf.regs x.f3
  rcases hf.op with h | h | h | h | h | h | h | h | h | h | h | h
  · simpa [h] using do0.calls base mb k b col ts cv pv cvt wv ov M t x w hM hk ht hT hbase hf.at_ ge ce hge h (hf.tgt (by omega))
  · simpa [h] using do1.calls base mb k b col ts cv pv cvt wv ov M t x w hM hk ht hT hbase hf.at_ ge ce hge h (hf.tgt (by omega))
  · have hc := hf.pos (by omega)
    have := do4.calls base mb k b col ts cv pv cvt wv ov M t x w hM hk ht hT hbase hf.at_ ge ce hge h (hf.tgt (by omega)) hf.len hf.val hr _ (cellI_lt hc x.f6 (regS t.rs x.f3)) hf.wr (cellI_eq hc _ _)
    rw [← getD_at] at this
    simpa [h] using this
  · have hc := hf.pos (by omega)
    simpa [h] using do5.calls base mb k b col ts cv pv cvt wv ov M t x w hM hk ht hT hbase hf.at_ ge ce hge h hf.len hf.val hr _ (cellI_lt hc x.f6 (regS t.rs x.f3)) hf.wr (cellI_eq hc _ _)
  · simpa [h] using do6.calls base mb k b col ts cv pv cvt wv ov M t x w hM hk ht hT hbase hf.at_ ge ce hge h
  · by_cases hz : regS t.rs x.f3 = 0
    · simpa [h, hz] using do7a.calls base mb k b col ts cv pv cvt wv ov M t x w hM hk ht hT hbase hf.at_ ge ce hge h hz
    · simpa [h, hz] using do7b.calls base mb k b col ts cv pv cvt wv ov M t x w hM hk ht hT hbase hf.at_ ge ce hge h hz
  · have hc := hf.pos (by omega)
    by_cases hz : M.cells[cellI M.cells.length x.f6 0]'(cellI_lt hc x.f6 0) = 0
    · have := do8a.calls base mb k b col ts cv pv cvt wv ov M t x w hM hk ht hT hbase hf.at_ ge ce hge h hf.len hf.val _ (cellI_lt hc x.f6 0) hf.wr (cellI_eq hc _ _) hz
      rw [← getD_at] at hz
      simp only [List.getD_eq_getElem?_getD] at hz
      simpa [h, hz] using this
    · have := do8b.calls base mb k b col ts cv pv cvt wv ov M t x w hM hk ht hT hbase hf.at_ ge ce hge h hf.len hf.val _ (cellI_lt hc x.f6 0) hf.wr (cellI_eq hc _ _) hz
      rw [← getD_at] at hz
      simp only [List.getD_eq_getElem?_getD] at hz
      simpa [h, hz] using this
  · have hc := hf.pos (by omega)
    simpa [h] using do9.calls base mb k b col ts cv pv cvt wv ov M t x w hM hk ht hT hbase hf.at_ ge ce hge h hf.len hf.val _ (cellI_lt hc x.f6 0) hf.wr (cellI_eq hc _ _)
  · have hc := hf.pos (by omega)
    have := do10.calls base mb k b col ts cv pv cvt wv ov M t x w hM hk ht hT hbase hf.at_ ge ce hge h hf.len hf.val _ (cellI_lt hc x.f6 0) hf.wr (cellI_eq hc _ _)
    rw [← getD_at] at this
    simpa [h] using this
  · simpa [h] using do11.calls base mb k b col ts cv pv cvt wv ov M t x w hM hk ht hT hbase hf.at_ ge ce hge h
  · simpa [h] using do12.calls base mb k b col ts cv pv cvt wv ov M t x w hM hk ht hT hbase hf.at_ ge ce hge h hf.out
  · simpa [h] using do13.calls base mb k b col ts cv pv cvt wv ov M t x w hM hk ht hT hbase hf.at_ ge ce hge h
/-- A step of a thread that there is. -/
def stepF (M : Mch) (k : Nat) : Mch × Int × Int × Bool :=
  match M.thr[k]? with
  | none => (M, 0, 0, false)
  | some t => if t.halted = true then (M, 0, 0, false) else
    match t.codes[t.at_.toNat]? with
    | none => (M, 0, 0, false)
    | some x => if (x.f0 = 8 ∨ x.f0 = 10 ∨ x.f0 = 11 ∨ x.f0 = 13) ∧ 0 < t.wr.length then (M, 0, 0, false)
      else ({ cells := (doF M.cells t x).1, thr := M.thr.set k (doF M.cells t x).2.1, steps := wrap64 (M.steps + 1) }, (doF M.cells t x).2.2)
/-- A machine whose threads may step. -/
def Fits (M : Mch) : Prop := ∀ t ∈ M.thr, t.halted = false → ∃ x, t.codes[t.at_.toNat]? = some x ∧ Fit M.cells t x
theorem stepF.calls (base mb k : Nat) (col : Nat → Nat) (ts : List Nat) (cv pv : Value) (M : Mch) (w : World) (hM : Mach w base mb col ts cv pv M) (hk : k < ts.length) (hbase : base ≤ w.heap.size) (hf : Fits M) :
    Calls Try.prog 12 #[.pointer (some ⟨mb, 0, none⟩), .int .i64 (k : Int)] w (StepP w base mb ts col pv (stepF M k).1 (k : Int) (stepF M k).2.1 (stepF M k).2.2.1 (stepF M k).2.2.2) := by
  have hk2 : k < M.thr.length := by rw [← hM.len]; exact hk
  have h1 : ts[k]? = some ts[k] := List.getElem?_eq_getElem hk
  have h2 : M.thr[k]? = some M.thr[k] := List.getElem?_eq_getElem hk2
  have hmem : M.thr[k] ∈ M.thr := List.getElem_mem hk2
  generalize ts[k] = b at h1
  generalize M.thr[k] = t at h2 hmem
  obtain ⟨cvt, wv, ov, hT⟩ := hM.thr k b t h1 h2
  unfold stepF
  rw [h2]
  by_cases hh : t.halted = true
  · simp only [hh, if_true]
    exact step_halted.calls base mb k b col ts cv pv cvt wv ov M t w hM h1 h2 hT hbase hh
  · have hh' : t.halted = false := by simpa using hh
    obtain ⟨x, hx, hfit⟩ := hf t hmem hh'
    obtain ⟨hp, hpx⟩ := List.getElem?_eq_some_iff.mp hx
    have hat : t.at_ = (t.at_.toNat : Int) := by have := hfit.at_.1; omega
    simp only [hh', hx]
    by_cases hw : (x.f0 = 8 ∨ x.f0 = 10 ∨ x.f0 = 11 ∨ x.f0 = 13) ∧ 0 < t.wr.length
    · simp only [hw, and_self, if_true, Bool.false_eq_true, if_false]
      exact step_wait.calls base mb k b col ts cv pv cvt wv ov M t w hM h1 h2 hT hbase hh' _ hp hat (by rw [hpx]; exact hw.1) hw.2
    · simp only [hw, if_false, Bool.false_eq_true]
      refine step.calls base mb k b col ts cv pv cvt wv ov M t w hM h1 h2 hT hbase hh' _ hp hat (by
        rw [hpx]
        intro h
        exact Nat.eq_zero_of_not_pos (fun hpos => hw ⟨h, hpos⟩)) _ _ _ _ _ ?_
      rw [hpx]
      intro w1 col1 cv1 cvt1 wv1 ov1 ge ce hM1 hT1 hb1 hge
      exact doF.calls base mb k b col1 ts cv1 pv cvt1 wv1 ov1 { M with steps := wrap64 (M.steps + 1) } t x w1 hM1 h1 h2 hT1 hb1 ge ce hge hfit
end Go.Proofs.Ytaenjbhhpdmhgaa.Tso
