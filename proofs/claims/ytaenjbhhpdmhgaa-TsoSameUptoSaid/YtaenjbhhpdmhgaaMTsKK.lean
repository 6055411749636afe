/-
A step of any code as a plain function of the machine. Conditions: as each theorem states them.
-/
import Derived.Test.YtaenjbhhpdmhgaaMTsK
import Derived.Test.YtaenjbhhpdmhgaaMTsZ
set_option linter.unusedVariables false
set_option linter.unusedSimpArgs false
namespace Go.Proofs.Ytaenjbhhpdmhgaa.Tso
open Go.RowKit Go.Proofs.YtaenjbhhpdmhgaaW.PrintWords Go.Proofs.YtaenjbhhpdmhgaaW.PrintLast Go.Proofs.YtaenjbhhpdmhgaaW.PrintMore
open Go.Proofs.Ytaenjbhhpdmhgaa.Kit
open Go.Proofs.Ytaenjbhhpdmhgaa.PTsoScript
def applyS (d a b : Int) : Int := (word_Apply.f d a b).getD 0
def pickS (a b c : Int) : Int := (word_Pick.f a b c).getD 0
theorem truth_some (b : Bool) : word_truth.f b = some (if b then 1 else 0) := by cases b <;> rfl
theorem apply_some (d a b : Int) (hb : 0 ≤ b) : word_Apply.f d a b = some (applyS d a b) := by
  have h : ∃ r, word_Apply.f d a b = some r := by
    have h64 : 0 ≤ Int.tmod b 64 := by rw [Int.tmod_eq_emod_of_nonneg hb]; omega
    unfold word_Apply.f
    simp only [truth_some, Option.bind_some, if_pos h64]
    repeat (first | exact ⟨_, rfl⟩ | split)
  obtain ⟨r, hr⟩ := h
  unfold applyS
  rw [hr]
  rfl
theorem pick_some (a b c : Int) : word_Pick.f a b c = some (pickS a b c) := by
  have h : ∃ r, word_Pick.f a b c = some r := by
    unfold word_Pick.f
    rw [truth_some]
    exact ⟨_, rfl⟩
  obtain ⟨r, hr⟩ := h
  unfold pickS
  rw [hr]
  rfl
theorem u64_wrap (x : Int) : U64 (IntKind.u64.wrap x) := by
  unfold U64
  rw [IntKind.wrap_u64]
  omega
theorem u64_bit (b : Bool) : U64 (if b then 1 else 0) := by cases b <;> exact ⟨by decide, by decide⟩
theorem u64_shl (a n : Int) : U64 (shl .u64 a n) := by unfold shl; exact u64_wrap _
theorem u64_shr (a n : Int) (ha : U64 a) : U64 (shr .u64 a n) := by
  unfold shr
  generalize min n.toNat IntKind.u64.bits = m
  have h2 : (0 : Int) < 2 ^ m := Int.pow_pos (by decide)
  exact ⟨Int.ediv_nonneg ha.1 (Int.le_of_lt h2), Int.lt_of_le_of_lt (Int.ediv_le_self _ ha.1) ha.2⟩
theorem u64_bits (op : BinOp) (a b : Int) : U64 (Go.bits op .u64 a b) := by unfold Go.bits; exact u64_wrap _
theorem apply_u64 (d a b : Int) (ha : U64 a) (hb : U64 b) : U64 (applyS d a b) := by
  have h := apply_some d a b hb.1
  have h64 : 0 ≤ Int.tmod b 64 := by rw [Int.tmod_eq_emod_of_nonneg hb.1]; omega
  unfold word_Apply.f at h
  simp only [truth_some, Option.bind_some, if_pos h64] at h
  generalize applyS d a b = r at h ⊢
  by_cases h0 : d = 0
  · rw [if_pos h0] at h; rw [← Option.some.inj h]; exact u64_wrap _
  rw [if_neg h0] at h
  by_cases h1 : d = 1
  · rw [if_pos h1] at h; rw [← Option.some.inj h]; exact u64_wrap _
  rw [if_neg h1] at h
  by_cases h2 : d = 2
  · rw [if_pos h2] at h; rw [← Option.some.inj h]; exact u64_wrap _
  rw [if_neg h2] at h
  by_cases h3 : d = 3
  · rw [if_pos h3] at h; rw [← Option.some.inj h]; exact u64_bits _ _ _
  rw [if_neg h3] at h
  by_cases h4 : d = 4
  · rw [if_pos h4] at h; rw [← Option.some.inj h]; exact u64_bits _ _ _
  rw [if_neg h4] at h
  by_cases h5 : d = 5
  · rw [if_pos h5] at h; rw [← Option.some.inj h]; exact u64_bits _ _ _
  rw [if_neg h5] at h
  by_cases h6 : d = 6
  · rw [if_pos h6] at h; rw [← Option.some.inj h]; exact u64_shl _ _
  rw [if_neg h6] at h
  by_cases h7 : d = 7
  · rw [if_pos h7] at h; rw [← Option.some.inj h]; exact u64_shr _ _ ha
  rw [if_neg h7] at h
  by_cases h8 : d = 8
  · rw [if_pos h8] at h; rw [← Option.some.inj h]; exact u64_bit _
  rw [if_neg h8] at h
  by_cases h9 : d = 9
  · rw [if_pos h9] at h; rw [← Option.some.inj h]; exact u64_bit _
  rw [if_neg h9] at h
  rw [← Option.some.inj h]; exact ⟨by decide, by decide⟩
theorem pick_u64 (a b c : Int) : U64 (pickS a b c) := by
  have h := pick_some a b c
  unfold word_Pick.f at h
  rw [truth_some] at h
  generalize pickS a b c = r at h ⊢
  simp only [Option.bind_some] at h
  rw [← Option.some.inj h]
  exact u64_bits _ _ _
/-- What an instruction does: the cells, the thread, and what is shown of it. -/
def doG (cells : List Int) (t : Thr) (x : S28) : List Int × Thr × Int × Int × Bool :=
  let i := cellI cells.length x.f6 (if x.f0 = 4 ∨ x.f0 = 5 then regS t.rs x.f3 else 0)
  if x.f0 = 0 then (cells, { t with rs := t.rs.set x.f2.toNat x.f6, at_ := t.at_ + 1 }, 6, 0, false)
  else if x.f0 = 1 then (cells, { t with rs := t.rs.set x.f2.toNat (regS t.rs x.f3), at_ := t.at_ + 1 }, 6, 0, false)
  else if x.f0 = 2 then (cells, { t with rs := t.rs.set x.f2.toNat (applyS x.f1 (regS t.rs x.f3) (regS t.rs x.f4)), at_ := t.at_ + 1 }, 6, 0, false)
  else if x.f0 = 3 then (cells, { t with rs := t.rs.set x.f2.toNat (pickS (regS t.rs x.f3) (regS t.rs x.f4) (regS t.rs x.f5)), at_ := t.at_ + 1 }, 6, 0, false)
  else if x.f0 = 4 then (cells, { t with rs := t.rs.set x.f2.toNat (seenS t.wr (i : Int) (cells.getD i 0)), at_ := t.at_ + 1 }, 2, (i : Int), (findN t.wr (i : Int) t.wr.length).2)
  else if x.f0 = 5 then (cells, { t with wr := t.wr ++ [⟨(i : Int), regS t.rs x.f4⟩], at_ := t.at_ + 1 }, 3, (i : Int), false)
  else if x.f0 = 6 then (cells, { t with at_ := x.f7 }, 1, x.f7, false)
  else if x.f0 = 7 then (if regS t.rs x.f3 = 0 then (cells, { t with at_ := x.f7 }, 1, x.f7, false) else (cells, { t with at_ := t.at_ + 1 }, 1, t.at_ + 1, false))
  else if x.f0 = 8 then (if cells.getD i 0 = 0 then (cells.set i 1, { t with at_ := t.at_ + 1 }, 5, (i : Int), true) else (cells, t, 5, (i : Int), false))
  else if x.f0 = 9 then (cells, { t with wr := t.wr ++ [⟨(i : Int), 0⟩], at_ := t.at_ + 1 }, 3, (i : Int), false)
  else if x.f0 = 10 then (cells.set i (IntKind.u64.wrap (cells.getD i 0 + regS t.rs x.f3)), { t with at_ := t.at_ + 1 }, 2, (i : Int), false)
  else if x.f0 = 11 then (cells, { t with at_ := t.at_ + 1 }, 6, 0, false)
  else if x.f0 = 12 then (cells, { t with out := t.out ++ [regS t.rs x.f3], at_ := t.at_ + 1 }, 6, 0, false)
  else (cells, { t with halted := true }, 6, 0, false)
/-- What a step needs. -/
structure FitG (cells : List Int) (t : Thr) (x : S28) : Prop where
  op : x.f0 = 0 ∨ x.f0 = 1 ∨ x.f0 = 2 ∨ x.f0 = 3 ∨ x.f0 = 4 ∨ x.f0 = 5 ∨ x.f0 = 6 ∨ x.f0 = 7 ∨ x.f0 = 8 ∨ x.f0 = 9 ∨ x.f0 = 10 ∨ x.f0 = 11 ∨ x.f0 = 12 ∨ x.f0 = 13
  tgt : x.f0 = 0 ∨ x.f0 = 1 ∨ x.f0 = 2 ∨ x.f0 = 3 ∨ x.f0 = 4 → 0 ≤ x.f2 ∧ x.f2 < 8
  val : U64 x.f6
  regs : ∀ v ∈ t.rs, U64 v
  pos : x.f0 = 4 ∨ x.f0 = 5 ∨ x.f0 = 8 ∨ x.f0 = 9 ∨ x.f0 = 10 → 0 < cells.length
  len : cells.length ≤ 1048576
  wr : t.wr.length ≤ 4194304
  out : t.out.length ≤ 4194304
  at_ : 0 ≤ t.at_ ∧ t.at_ < 1000000
theorem doG.calls (base mb k b : Nat) (col : Nat → Nat) (ts : List Nat) (cv pv cvt wv ov : Value) (M : Mch) (t : Thr) (x : S28) (w : World) (hM : Mach w base mb col ts cv pv M) (hk : ts[k]? = some b) (ht : M.thr[k]? = some t)
    (hT : ThrM w base (fun q => col q = k + 1) b t cvt wv ov) (hbase : base ≤ w.heap.size) (ge : Nat) (ce : Array Value) (hge : w.heap[ge]? = some (Obj.cells ce 40 (0, 0))) (hf : FitG M.cells t x) :
    Calls Try.prog 31 #[.pointer (some ⟨mb, 0, none⟩), .pointer (some ⟨b, 0, none⟩), .agg #[.int .i64 x.f0, .int .i64 x.f1, .int .i64 x.f2, .int .i64 x.f3, .int .i64 x.f4, .int .i64 x.f5, .int .u64 x.f6, .int .i64 x.f7]] w
      (DoP w base mb ts col pv k M (doG M.cells t x).1 (doG M.cells t x).2.1 (doG M.cells t x).2.2.1 (doG M.cells t x).2.2.2.1 (doG M.cells t x).2.2.2.2 ge ce) := by
  unfold doG
  have hr := regS_ok hf.regs x.f3
  rcases hf.op with h | h | h | h | h | h | h | h | h | h | h | h | h | h
  · simpa [h] using do0.calls base mb k b col ts cv pv cvt wv ov M t x w hM hk ht hT hbase hf.at_ ge ce hge h (hf.tgt (by omega))
  · simpa [h] using do1.calls base mb k b col ts cv pv cvt wv ov M t x w hM hk ht hT hbase hf.at_ ge ce hge h (hf.tgt (by omega))
  · simpa [h] using do2.calls base mb k b col ts cv pv cvt wv ov M t x w hM hk ht hT hbase hf.at_ ge ce hge h (hf.tgt (by omega)) _ (apply_some _ _ _ (regS_ok hf.regs x.f4).1)
  · simpa [h] using do3.calls base mb k b col ts cv pv cvt wv ov M t x w hM hk ht hT hbase hf.at_ ge ce hge h (hf.tgt (by omega)) _ (pick_some _ _ _)
  · have hc := hf.pos (by omega)
    have := do4.calls base mb k b col ts cv pv cvt wv ov M t x w hM hk ht hT hbase hf.at_ ge ce hge h (hf.tgt (by omega)) hf.len hf.val hr _ (cellI_lt hc x.f6 (regS t.rs x.f3)) hf.wr (cellI_eq hc _ _)
    rw [← getD_at] at this
    simpa [h] using this
  · have hc := hf.pos (by omega)
    simpa [h] using do5.calls base mb k b col ts cv pv cvt wv ov M t x w hM hk ht hT hbase hf.at_ ge ce hge h hf.len hf.val hr _ (cellI_lt hc x.f6 (regS t.rs x.f3)) hf.wr (cellI_eq hc _ _)
  · simpa [h] using do6.calls base mb k b col ts cv pv cvt wv ov M t x w hM hk ht hT hbase hf.at_ ge ce hge h
  · by_cases hz : regS t.rs x.f3 = 0
    · simpa [h, hz] using do7a.calls base mb k b col ts cv pv cvt wv ov M t x w hM hk ht hT hbase hf.at_ ge ce hge h hz
    · simpa [h, hz] using do7b.calls base mb k b col ts cv pv cvt wv ov M t x w hM hk ht hT hbase hf.at_ ge ce hge h hz
  · have hc := hf.pos (by omega)
    by_cases hz : M.cells[cellI M.cells.length x.f6 0]'(cellI_lt hc x.f6 0) = 0
    · have := do8a.calls base mb k b col ts cv pv cvt wv ov M t x w hM hk ht hT hbase hf.at_ ge ce hge h hf.len hf.val _ (cellI_lt hc x.f6 0) hf.wr (cellI_eq hc _ _) hz
      rw [← getD_at] at hz
      simp only [List.getD_eq_getElem?_getD] at hz
      simpa [h, hz] using this
    · have := do8b.calls base mb k b col ts cv pv cvt wv ov M t x w hM hk ht hT hbase hf.at_ ge ce hge h hf.len hf.val _ (cellI_lt hc x.f6 0) hf.wr (cellI_eq hc _ _) hz
      rw [← getD_at] at hz
      simp only [List.getD_eq_getElem?_getD] at hz
      simpa [h, hz] using this
  · have hc := hf.pos (by omega)
    simpa [h] using do9.calls base mb k b col ts cv pv cvt wv ov M t x w hM hk ht hT hbase hf.at_ ge ce hge h hf.len hf.val _ (cellI_lt hc x.f6 0) hf.wr (cellI_eq hc _ _)
  · have hc := hf.pos (by omega)
    have := do10.calls base mb k b col ts cv pv cvt wv ov M t x w hM hk ht hT hbase hf.at_ ge ce hge h hf.len hf.val _ (cellI_lt hc x.f6 0) hf.wr (cellI_eq hc _ _)
    rw [← getD_at] at this
    simpa [h] using this
  · simpa [h] using do11.calls base mb k b col ts cv pv cvt wv ov M t x w hM hk ht hT hbase hf.at_ ge ce hge h
  · simpa [h] using do12.calls base mb k b col ts cv pv cvt wv ov M t x w hM hk ht hT hbase hf.at_ ge ce hge h hf.out
  · simpa [h] using do13.calls base mb k b col ts cv pv cvt wv ov M t x w hM hk ht hT hbase hf.at_ ge ce hge h
/-- A step of a thread that there is. -/
def stepG (M : Mch) (k : Nat) : Mch × Int × Int × Bool :=
  match M.thr[k]? with
  | none => (M, 0, 0, false)
  | some t => if t.halted = true then (M, 0, 0, false) else
    match t.codes[t.at_.toNat]? with
    | none => (M, 0, 0, false)
    | some x => if (x.f0 = 8 ∨ x.f0 = 10 ∨ x.f0 = 11 ∨ x.f0 = 13) ∧ 0 < t.wr.length then (M, 0, 0, false)
      else ({ cells := (doG M.cells t x).1, thr := M.thr.set k (doG M.cells t x).2.1, steps := wrap64 (M.steps + 1) }, (doG M.cells t x).2.2)
/-- A machine whose threads may step. -/
def FitsG (M : Mch) : Prop := ∀ t ∈ M.thr, t.halted = false → ∃ x, t.codes[t.at_.toNat]? = some x ∧ FitG M.cells t x
theorem stepG.calls (base mb k : Nat) (col : Nat → Nat) (ts : List Nat) (cv pv : Value) (M : Mch) (w : World) (hM : Mach w base mb col ts cv pv M) (hk : k < ts.length) (hbase : base ≤ w.heap.size) (hf : FitsG M) :
    Calls Try.prog 12 #[.pointer (some ⟨mb, 0, none⟩), .int .i64 (k : Int)] w (StepP w base mb ts col pv (stepG M k).1 (k : Int) (stepG M k).2.1 (stepG M k).2.2.1 (stepG M k).2.2.2) := by
  have hk2 : k < M.thr.length := by rw [← hM.len]; exact hk
  have h1 : ts[k]? = some ts[k] := List.getElem?_eq_getElem hk
  have h2 : M.thr[k]? = some M.thr[k] := List.getElem?_eq_getElem hk2
  have hmem : M.thr[k] ∈ M.thr := List.getElem_mem hk2
  generalize ts[k] = b at h1
  generalize M.thr[k] = t at h2 hmem
  obtain ⟨cvt, wv, ov, hT⟩ := hM.thr k b t h1 h2
  unfold stepG
  rw [h2]
  by_cases hh : t.halted = true
  · simp only [hh, if_true]
    exact step_halted.calls base mb k b col ts cv pv cvt wv ov M t w hM h1 h2 hT hbase hh
  · have hh' : t.halted = false := by simpa using hh
    obtain ⟨x, hx, hfit⟩ := hf t hmem hh'
    obtain ⟨hp, hpx⟩ := List.getElem?_eq_some_iff.mp hx
    have hat : t.at_ = (t.at_.toNat : Int) := by have := hfit.at_.1; omega
    simp only [hh', hx]
    by_cases hw : (x.f0 = 8 ∨ x.f0 = 10 ∨ x.f0 = 11 ∨ x.f0 = 13) ∧ 0 < t.wr.length
    · simp only [hw, and_self, if_true, Bool.false_eq_true, if_false]
      exact step_wait.calls base mb k b col ts cv pv cvt wv ov M t w hM h1 h2 hT hbase hh' _ hp hat (by rw [hpx]; exact hw.1) hw.2
    · simp only [hw, if_false, Bool.false_eq_true]
      refine step.calls base mb k b col ts cv pv cvt wv ov M t w hM h1 h2 hT hbase hh' _ hp hat (by
        rw [hpx]
        intro h
        exact Nat.eq_zero_of_not_pos (fun hpos => hw ⟨h, hpos⟩)) _ _ _ _ _ ?_
      rw [hpx]
      intro w1 col1 cv1 cvt1 wv1 ov1 ge ce hM1 hT1 hb1 hge
      exact doG.calls base mb k b col1 ts cv1 pv cvt1 wv1 ov1 { M with steps := wrap64 (M.steps + 1) } t x w1 hM1 h1 h2 hT1 hb1 ge ce hge hfit
end Go.Proofs.Ytaenjbhhpdmhgaa.Tso
