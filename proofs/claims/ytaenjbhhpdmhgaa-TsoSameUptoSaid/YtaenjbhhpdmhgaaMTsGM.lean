/-
A machine of an image that may be: what each step and flush keeps. Conditions: as each theorem states them.
-/
import Derived.Test.YtaenjbhhpdmhgaaMTsKK
import Derived.Test.YtaenjbhhpdmhgaaMTsO
import Derived.Test.YtaenjbhhpdmhgaaMTsP
set_option linter.unusedVariables false
set_option linter.unusedSimpArgs false
namespace Go.Proofs.Ytaenjbhhpdmhgaa.Tso
open Go.RowKit Go.Proofs.YtaenjbhhpdmhgaaW.PrintWords Go.Proofs.YtaenjbhhpdmhgaaW.PrintLast Go.Proofs.YtaenjbhhpdmhgaaW.PrintMore
open Go.Proofs.Ytaenjbhhpdmhgaa.Kit
open Go.Proofs.Ytaenjbhhpdmhgaa.PTsoScript
structure GoodT (c N : Nat) (t : Thr) : Prop where
  th : Pure.thS c t.codes
  u : ∀ x ∈ t.codes, U64 x.f6
  rl : t.rs.length = 8
  rs : ∀ v ∈ t.rs, U64 v
  a0 : 0 ≤ t.at_
  a1 : t.at_.toNat < t.codes.length
  wl : t.wr.length ≤ N
  wr : ∀ x ∈ t.wr, 0 ≤ x.f0 ∧ x.f0 < c ∧ U64 x.f1
  out : t.out.length ≤ N
structure GoodM (c N : Nat) (M : Mch) : Prop where
  cl : M.cells.length = c
  cu : ∀ v ∈ M.cells, U64 v
  c1 : c ≤ 1048576
  thr : ∀ t ∈ M.thr, GoodT c N t
theorem GoodT.mono {c N N' : Nat} {t : Thr} (h : GoodT c N t) (hn : N ≤ N') : GoodT c N' t := { h with wl := Nat.le_trans h.wl hn, out := Nat.le_trans h.out hn }
theorem GoodM.mono {c N N' : Nat} {M : Mch} (h : GoodM c N M) (hn : N ≤ N') : GoodM c N' M := { h with thr := fun t ht => (h.thr t ht).mono hn }
section
variable {c N : Nat} {t : Thr} {x : S28} (h : GoodT c N t) (hx : t.codes[t.at_.toNat]? = some x)
include h hx
theorem GoodT.may : Pure.MayS x.f0 x.f1 x.f2 x.f3 x.f4 x.f5 x.f6 x.f7 := (h.th.2 x (List.mem_of_getElem? hx)).1
theorem GoodT.gc : Pure.gcX t.codes.length x := h.th.1.2.2.2 x (List.mem_of_getElem? hx)
theorem GoodT.pos (ho : x.f0 = 4 ∨ x.f0 = 5 ∨ x.f0 = 8 ∨ x.f0 = 9 ∨ x.f0 = 10) : 0 < c := by
  have h1 := (h.th.2 x (List.mem_of_getElem? hx)).2 ho
  have h2 := (h.u x (List.mem_of_getElem? hx)).1
  omega
theorem GoodT.next (h13 : x.f0 ≠ 13) (h6 : x.f0 ≠ 6) : (t.at_ + 1).toNat < t.codes.length := by
  have ha0 := h.a0
  have ha1 := h.a1
  rcases Nat.lt_or_ge (t.at_.toNat + 1) t.codes.length with hlt | hge
  · omega
  · have hl := h.th.1.2.2.1
    unfold Pure.lastS at hl
    rw [show (t.codes.length : Int) - 1 = ((t.codes.length - 1 : Nat) : Int) by omega, Pure.rdT_at _ _ (by omega)] at hl
    obtain ⟨h1, h2⟩ := List.getElem?_eq_some_iff.mp hx
    have e : t.codes[t.codes.length - 1]'(by omega) = x := by
      rw [← h2]
      congr 1
      omega
    rw [e] at hl
    omega
theorem GoodT.tgt (ho : x.f0 = 6 ∨ x.f0 = 7) : 0 ≤ x.f7 ∧ x.f7.toNat < t.codes.length := by
  have := (h.gc hx).2.2.2.1 ho
  omega
theorem good_fit {cells : List Int} (hc : cells.length = c) (c1 : c ≤ 1048576) (hN : N ≤ 4194304) : FitG cells t x := by
  obtain ⟨m0, m1, m2, m3, m4, m5, m6, m7⟩ := h.may hx
  have hl := h.th.1.2.1
  have ha0 := h.a0
  have ha1 := h.a1
  exact ⟨by omega, fun ho => m6 (by omega), h.u x (List.mem_of_getElem? hx), h.rs, fun ho => by rw [hc]; exact h.pos hx ho, by omega, Nat.le_trans h.wl hN, Nat.le_trans h.out hN, by omega⟩
end
theorem good_fits {c N : Nat} {M : Mch} (h : GoodM c N M) (hN : N ≤ 4194304) : FitsG M := by
  intro t ht _
  have hT := h.thr t ht
  exact ⟨_, List.getElem?_eq_getElem hT.a1, good_fit hT (List.getElem?_eq_getElem hT.a1) h.cl h.c1 hN⟩
theorem u64_set {l : List Int} (h : ∀ v ∈ l, U64 v) (i : Nat) {x : Int} (hx : U64 x) : ∀ v ∈ l.set i x, U64 v := by
  intro v hv
  rcases List.mem_or_eq_of_mem_set hv with h1 | h1
  · exact h v h1
  · rw [h1]; exact hx
theorem findN_u64 {b : List S82} {c : Nat} (h : ∀ x ∈ b, 0 ≤ x.f0 ∧ x.f0 < c ∧ U64 x.f1) (i : Int) : ∀ n : Nat, n ≤ b.length → U64 (findN b i n).1 := by
  intro n
  induction n with
  | zero => intro _; show U64 0; exact ⟨by decide, by decide⟩
  | succ n ih =>
    intro hn
    unfold findN
    split
    · have hm : rd_T82 b n ∈ b := by
        unfold rd_T82
        rw [Int.toNat_natCast, List.getD_eq_getElem?_getD, List.getElem?_eq_getElem (by omega)]
        exact List.getElem_mem _
      exact (h _ hm).2.2
    · exact ih (by omega)
theorem seen_u64 {b : List S82} {c : Nat} (h : ∀ x ∈ b, 0 ≤ x.f0 ∧ x.f0 < c ∧ U64 x.f1) (i u : Int) (hu : U64 u) : U64 (seenS b i u) := by
  unfold seenS
  split
  · exact findN_u64 h i _ (Nat.le_refl _)
  · exact hu
theorem getD_u64' {l : List Int} (hl : ∀ x ∈ l, U64 x) (i : Nat) : U64 (l.getD i 0) := by
  rcases Nat.lt_or_ge i l.length with h | h
  · rw [getD_at h]; exact hl _ (List.getElem_mem h)
  · rw [List.getD_eq_getElem?_getD, List.getElem?_eq_none h]; exact ⟨by decide, by decide⟩
theorem good_do {c N : Nat} {cells : List Int} {t : Thr} {x : S28} (h : GoodT c N t) (hx : t.codes[t.at_.toNat]? = some x) (hc : cells.length = c) (hcu : ∀ v ∈ cells, U64 v) :
    (doG cells t x).1.length = c ∧ (∀ v ∈ (doG cells t x).1, U64 v) ∧ GoodT c (N + 1) (doG cells t x).2.1 := by
  obtain ⟨m0, m1, m2, m3, m4, m5, m6, m7⟩ := h.may hx
  have hnext := h.next hx
  have htgt := h.tgt hx
  have hpos := h.pos hx
  have hr := regS_ok h.rs
  have hT := h.mono (Nat.le_succ N)
  have ha0 := h.a0
  have hu := h.u x (List.mem_of_getElem? hx)
  have hadv : x.f0 ≠ 13 → x.f0 ≠ 6 → GoodT c (N + 1) { t with at_ := t.at_ + 1 } := fun a b => { hT with a0 := by show 0 ≤ t.at_ + 1; omega, a1 := hnext a b }
  have hset : ∀ v, U64 v → x.f0 ≠ 13 → x.f0 ≠ 6 → GoodT c (N + 1) { t with rs := t.rs.set x.f2.toNat v, at_ := t.at_ + 1 } := fun v hv a b => { hadv a b with rl := by show (t.rs.set _ _).length = 8; rw [List.length_set]; exact h.rl, rs := u64_set h.rs _ hv }
  have hput : ∀ (i : Nat) (v : Int), i < c → U64 v → x.f0 ≠ 13 → x.f0 ≠ 6 → GoodT c (N + 1) { t with wr := t.wr ++ [⟨(i : Int), v⟩], at_ := t.at_ + 1 } := fun i v hi hv a b => { hadv a b with
    wl := by show (t.wr ++ [_]).length ≤ N + 1; rw [List.length_append]; exact Nat.add_le_add_right h.wl 1,
    wr := by
      intro y hy
      rcases List.mem_append.mp hy with hy | hy
      · exact h.wr y hy
      · rw [List.mem_singleton.mp hy]; exact ⟨Int.natCast_nonneg _, by show (i : Int) < c; omega, hv⟩ }
  unfold doG
  have hop : x.f0 = 0 ∨ x.f0 = 1 ∨ x.f0 = 2 ∨ x.f0 = 3 ∨ x.f0 = 4 ∨ x.f0 = 5 ∨ x.f0 = 6 ∨ x.f0 = 7 ∨ x.f0 = 8 ∨ x.f0 = 9 ∨ x.f0 = 10 ∨ x.f0 = 11 ∨ x.f0 = 12 ∨ x.f0 = 13 := by omega
  rcases hop with o | o | o | o | o | o | o | o | o | o | o | o | o | o
  · simp only [o, Int.reduceEq, ite_true, ite_false, or_false, false_or, or_true, true_or]; exact ⟨hc, hcu, hset _ hu (by omega) (by omega)⟩
  · simp only [o, Int.reduceEq, ite_true, ite_false, or_false, false_or, or_true, true_or]; exact ⟨hc, hcu, hset _ (hr _) (by omega) (by omega)⟩
  · simp only [o, Int.reduceEq, ite_true, ite_false, or_false, false_or, or_true, true_or]; exact ⟨hc, hcu, hset _ (apply_u64 _ _ _ (hr _) (hr _)) (by omega) (by omega)⟩
  · simp only [o, Int.reduceEq, ite_true, ite_false, or_false, false_or, or_true, true_or]; exact ⟨hc, hcu, hset _ (pick_u64 _ _ _) (by omega) (by omega)⟩
  · simp only [o, Int.reduceEq, ite_true, ite_false, or_false, false_or, or_true, true_or]; exact ⟨hc, hcu, hset _ (seen_u64 h.wr _ _ (getD_u64' hcu _)) (by omega) (by omega)⟩
  · simp only [o, Int.reduceEq, ite_true, ite_false, or_false, false_or, or_true, true_or]; exact ⟨hc, hcu, hput _ _ (by rw [← hc]; exact cellI_lt (by rw [hc]; exact hpos (by omega)) _ _) (hr _) (by omega) (by omega)⟩
  · simp only [o, Int.reduceEq, ite_true, ite_false, or_false, false_or, or_true, true_or]; exact ⟨hc, hcu, { hT with a0 := (htgt (by omega)).1, a1 := (htgt (by omega)).2 }⟩
  · by_cases hz : regS t.rs x.f3 = 0
    · simp only [o, hz, Int.reduceEq, ite_true, ite_false, or_false, false_or, or_true, true_or]; exact ⟨hc, hcu, { hT with a0 := (htgt (by omega)).1, a1 := (htgt (by omega)).2 }⟩
    · simp only [o, hz, Int.reduceEq, ite_true, ite_false, or_false, false_or, or_true, true_or]; exact ⟨hc, hcu, hadv (by omega) (by omega)⟩
  · simp only [o, Int.reduceEq, ite_true, ite_false, or_false, false_or, or_true, true_or]
    split
    · exact ⟨by rw [List.length_set]; exact hc, u64_set hcu _ ⟨by decide, by decide⟩, hadv (by omega) (by omega)⟩
    · exact ⟨hc, hcu, hT⟩
  · simp only [o, Int.reduceEq, ite_true, ite_false, or_false, false_or, or_true, true_or]; exact ⟨hc, hcu, hput _ _ (by rw [← hc]; exact cellI_lt (by rw [hc]; exact hpos (by omega)) _ _) ⟨by decide, by decide⟩ (by omega) (by omega)⟩
  · simp only [o, Int.reduceEq, ite_true, ite_false, or_false, false_or, or_true, true_or]; exact ⟨by rw [List.length_set]; exact hc, u64_set hcu _ (u64_wrap _), hadv (by omega) (by omega)⟩
  · simp only [o, Int.reduceEq, ite_true, ite_false, or_false, false_or, or_true, true_or]; exact ⟨hc, hcu, hadv (by omega) (by omega)⟩
  · simp only [o, Int.reduceEq, ite_true, ite_false, or_false, false_or, or_true, true_or]; exact ⟨hc, hcu, { hadv (by omega) (by omega) with out := by show (t.out ++ [_]).length ≤ N + 1; rw [List.length_append]; exact Nat.add_le_add_right h.out 1 }⟩
  · simp only [o, Int.reduceEq, ite_true, ite_false, or_false, false_or, or_true, true_or]; exact ⟨hc, hcu, { hT with }⟩
theorem good_step {c N : Nat} {M : Mch} (h : GoodM c N M) (k : Nat) : GoodM c (N + 1) (stepG M k).1 := by
  have h' := h.mono (Nat.le_succ N)
  unfold stepG
  cases hk : M.thr[k]? with
  | none => exact h'
  | some t =>
    have hT := h.thr t (List.mem_of_getElem? hk)
    simp only
    split
    · exact h'
    · rw [List.getElem?_eq_getElem hT.a1]
      simp only
      split
      · exact h'
      · obtain ⟨g1, g2, g3⟩ := good_do hT (List.getElem?_eq_getElem hT.a1) h.cl h.cu
        refine ⟨g1, g2, h.c1, fun t2 ht2 => ?_⟩
        rcases List.mem_or_eq_of_mem_set ht2 with h1 | h1
        · exact h'.thr t2 h1
        · rw [h1]; exact g3
theorem good_flush {c N : Nat} {M : Mch} (h : GoodM c N M) (k : Nat) : GoodM c N (flushF M k).1 := by
  unfold flushF
  cases hk : M.thr[k]? with
  | none => exact h
  | some t =>
    have hT := h.thr t (List.mem_of_getElem? hk)
    cases hw : t.wr with
    | nil => simp only [hw]; exact h
    | cons x l =>
      simp only [hw]
      have hx := hT.wr x (by rw [hw]; exact List.mem_cons_self)
      refine ⟨by rw [List.length_set]; exact h.cl, u64_set h.cu _ hx.2.2, h.c1, fun t2 ht2 => ?_⟩
      rcases List.mem_or_eq_of_mem_set ht2 with h1 | h1
      · exact h.thr t2 h1
      · rw [h1]
        have hl := hT.wl
        rw [hw] at hl
        exact { hT with wl := Nat.le_of_succ_le hl, wr := fun y hy => hT.wr y (by rw [hw]; exact List.mem_cons_of_mem _ hy) }
theorem step_len (M : Mch) (k : Nat) : (stepG M k).1.thr.length = M.thr.length := by
  unfold stepG
  repeat' split
  all_goals simp
theorem flush_len (M : Mch) (k : Nat) : (flushF M k).1.thr.length = M.thr.length := by
  unfold flushF
  repeat' split
  all_goals simp
theorem step_far (M : Mch) {k q : Nat} (h : q ≠ k) : (stepG M k).1.thr[q]? = M.thr[q]? := by
  unfold stepG
  repeat' split
  all_goals first | rfl | exact List.getElem?_set_ne (fun e => h e.symm)
theorem flush_far (M : Mch) {k q : Nat} (h : q ≠ k) : (flushF M k).1.thr[q]? = M.thr[q]? := by
  unfold flushF
  repeat' split
  all_goals first | rfl | exact List.getElem?_set_ne (fun e => h e.symm)
end Go.Proofs.Ytaenjbhhpdmhgaa.Tso
