/-
The walks of dead.reached and of the function inside it. Conditions: as each theorem states them.
-/
import Derived.Test.YtpibifgllbfgmaaPureDeA
import Derived.Test.YtpibifgllbfgmaaRows
import Derived.Test.YtpibifgllbfgmaaOpens
import Derived.WalkKit
import Derived.ProofKit
import Derived.OpenShut
import Derived.ShutString
import Derived.ChangeOld
import Derived.Below
import Derived.SizedLaws
import Derived.Lib.SmallJoins
set_option linter.unusedSimpArgs false
set_option linter.unusedVariables false
namespace Go.Proofs.Ytpibifgllbfgmaa.Pure
open Go.RowKit Go.Proofs.YtpibifgllbfgmaaW.PrintWords Go.Proofs.YtpibifgllbfgmaaW.PrintLast Go.Proofs.YtpibifgllbfgmaaW.PrintMore Go.Proofs.Ytpibifgllbfgmaa.Kit
open Go.Proofs.Ytpibifgllbfgmaa.PDeadOf
attribute [local go_sem] max2_int min2_int max_two min_two max_three min_three max_four min_four   -- for this text's walks alone
/-- What the function inside reached finds in memory: the codes, the marks, itself. -/
structure In28 (w0 w : World) (A : Option Addr) (n c B1 B3 B4 g cg : Nat) (fv : Value) (o : List Bool) : Prop where
  b1 : w.heap[B1]? = some (.cells #[.slice A n c] 22 (0, 0))
  b3 : w.heap[B3]? = some (.cells #[.slice (some ⟨g, 0, none⟩) n cg] 39 (0, 0))
  b4 : w.heap[B4]? = some (.cells #[fv] 53 (0, 0))
  row : Kd.R Kd.bool 4 w w0.heap.size (fun _ => True) (.slice (some ⟨g, 0, none⟩) n cg) o
  below : Below w0.heap.size w0 w
/-- All blocks that there were, but one, are as they were. -/
def Kp (w w' : World) (g : Nat) : Prop := w.heap.size ≤ w'.heap.size ∧ ∀ k, k < w.heap.size → k ≠ g → w'.heap[k]? = w.heap[k]?
theorem Kp.refl (w : World) (g : Nat) : Kp w w g := ⟨Nat.le_refl _, fun _ _ _ => rfl⟩
theorem Kp.trans {w w1 w2 : World} {g : Nat} (h : Kp w w1 g) (h2 : Kp w1 w2 g) : Kp w w2 g := ⟨Nat.le_trans h.1 h2.1, fun k hk hg => (h2.2 k (Nat.lt_of_lt_of_le hk h.1) hg).trans (h.2 k hk hg)⟩
theorem Kp.below {w w1 : World} {g : Nat} (h : Below w.heap.size w w1) : Kp w w1 g := ⟨h.size, fun k hk _ => h.block k hk⟩
theorem Kp.set (w : World) (g i : Nat) (v : Value) : Kp w (w.setCell ⟨g, i, none⟩ v) g := ⟨by simp, fun k _ hg => Below.heap_setCell w ⟨g, i, none⟩ v k hg⟩
theorem R_kp {α : Type} {d : Kd α} {e : Nat} {w w1 : World} {base g : Nat} {ok : Nat → Prop} {v : Value} {xs : List α} (h : Kd.R d e w base ok v xs) (hk : Kp w w1 g) (hok : ∀ k, ok k → k ≠ g) : Kd.R d e w1 base ok v xs :=
  Kd.R_step h (fun k ho hlt => hk.2 k hlt (hok k ho))
theorem rdOf_at {o : List Bool} {i : Nat} (h : i < o.length) : rdOf false o (i : Int) = at_ o i := by
  unfold rdOf at_; rw [Int.toNat_natCast, List.getD_eq_getElem?_getD, List.getD_eq_getElem?_getD, List.getElem?_eq_getElem h]; rfl
theorem at_out {o : List Bool} {i : Nat} (h : o.length ≤ i) : at_ o i = true := by
  unfold at_; rw [List.getD_eq_getElem?_getD, List.getElem?_eq_none h]; rfl
theorem row_cell {w : World} {base : Nat} {ok : Nat → Prop} {g n cg : Nat} {o : List Bool} (h : Kd.R Kd.bool 4 w base ok (.slice (some ⟨g, 0, none⟩) n cg) o) (i : Nat) (hi : i < n) :
    w.cell? ⟨g, i, none⟩ = some (.bool (at_ o i)) ∧ w.frozen? ⟨g, i, none⟩ = false := by
  have hn := (Kd.R_reads' h).1
  have := Kd.R_celln false h (i : Int) (by omega) (by omega)
  rw [Int.toNat_natCast, rdOf_at (by omega)] at this
  exact this
set_option maxHeartbeats 4000000 in
set_option maxRecDepth 100000 in
theorem go28_back {l : List S31} {A : Option Addr} {c B1 B3 B4 g cg : Nat} {fv : Value} {w0 : World} {i : Nat} {o : List Bool} {w : World} (hl : l.length ≤ 4096)
    (hat : at_ o i = true) (hi : i ≤ 4096) (hI : In28 w0 w A l.length c B1 B3 B4 g cg fv o) :
    Calls Try.prog 28 #[.int .i64 i, .pointer (some ⟨B1, 0, none⟩), .pointer (some ⟨B3, 0, none⟩), .pointer (some ⟨B4, 0, none⟩)] w fun e w' => e = .returned (.tuple #[]) ∧ In28 w0 w' A l.length c B1 B3 B4 g cg fv o ∧ Kp w w' g := by
  have x1 := blk_cell hI.b1 0
  have x3 := blk_cell hI.b3 0
  replace hI := Aside0.mk hI
  by_cases hin : i < l.length
  · obtain ⟨xo, fo⟩ := row_cell hI.out.row i hin
    rw [hat] at xo
    have hi1 : (i : Int) < (l.length : Int) := by omega
    have hi2 : ¬ (i : Int) ≥ (l.length : Int) := by omega
    go_enter Try.func28, Try.ntmps28
    go_wp2
    refine bodyPost_ret (v := .tuple #[]) (by simp [results, Try.results28, go_sem]) rfl ?_
    exact ⟨rfl, hI.out, Kp.refl _ _⟩
  · have hi1 : (i : Int) ≥ (l.length : Int) := by omega
    go_enter Try.func28, Try.ntmps28
    go_wp2
    refine bodyPost_ret (v := .tuple #[]) (by simp [results, Try.results28, go_sem]) rfl ?_
    exact ⟨rfl, hI.out, Kp.refl _ _⟩
def go28.T2 : Bool × List (List Nat × List Nat) := (true, [([], []), ([], []), ([0, 1], [0, 1]), ([2], [2]), ([], []), ([], []), ([5], [5]), ([3, 4, 6], [3, 4, 6]), ([7], [7]), ([], [])])
def go28.B2 : List Nat := [0, 0, 3, 7, 0, 0, 32, 127, 255, 0]
theorem go28.tab2 : rtab .any (opsOf Try.f28 2) = go28.T2 := by kernel_rfl
theorem go28.bits2 : waitsOk go28.T2.2 go28.B2 = true := by kernel_rfl
def fv28 (B1 B3 B4 : Nat) : Value := .func (.func 28) #[] #[.pointer (some ⟨B1, 0, none⟩), .pointer (some ⟨B3, 0, none⟩), .pointer (some ⟨B4, 0, none⟩)]
set_option maxHeartbeats 4000000 in
set_option maxRecDepth 100000 in
theorem go28.calls (l : List S31) (A : Option Addr) (c B1 B3 B4 g cg : Nat) (w0 : World) (hC : Kd.C k31 w0 A l.length l) (hc : l.length ≤ c) (hl : l.length ≤ 4096)
    (hg : w0.heap.size ≤ g) (n1 : B1 ≠ g) (n3 : B3 ≠ g) (n4 : B4 ≠ g) :
    ∀ (f i : Nat) (o : List Bool) (w : World), free o ≤ f → i ≤ 4096 → In28 w0 w A l.length c B1 B3 B4 g cg (fv28 B1 B3 B4) o →
    Calls Try.prog 28 #[.int .i64 i, .pointer (some ⟨B1, 0, none⟩), .pointer (some ⟨B3, 0, none⟩), .pointer (some ⟨B4, 0, none⟩)] w fun e w' => e = .returned (.tuple #[]) ∧ In28 w0 w' A l.length c B1 B3 B4 g cg (fv28 B1 B3 B4) (dfs l f i o) ∧ Kp w w' g := by
  intro f
  induction f with
  | zero => intro i o w hf hi hI; exact go28_back hl (free_zero (Nat.le_zero.mp hf) i) hi hI
  | succ f ih =>
    intro i o w hf hi hI
    rw [dfs]
    by_cases hat : at_ o i = true
    · rw [if_pos hat]; exact go28_back hl hat hi hI
    rw [if_neg hat]
    have hat : at_ o i = false := by simpa using hat
    have hn := (Kd.R_reads' hI.row).1
    have hin : i < l.length := by
      refine Decidable.byContradiction fun h => ?_
      rw [at_out (by omega)] at hat; cases hat
    have hfs := free_set o i hat
    have x1 := blk_cell hI.b1 0
    have x3 := blk_cell hI.b3 0
    obtain ⟨xo, fo⟩ := row_cell hI.row i hin
    rw [hat] at xo
    have hi1 : (i : Int) < (l.length : Int) := by omega
    have hi2 : ¬ (i : Int) ≥ (l.length : Int) := by omega
    have hI1 : In28 w0 (w.setCell ⟨g, i, none⟩ (.bool true)) A l.length c B1 B3 B4 g cg (fv28 B1 B3 B4) (o.set i true) := by
      have := Kd.R_putn hI.row (i : Int) true
      rw [Int.toNat_natCast] at this
      exact ⟨blk_far hI.b1 n1 _, blk_far hI.b3 n3 _, blk_far hI.b4 n4 _, this, below_set hI.below hg⟩
    obtain ⟨ad, eA, _⟩ := at_T31 hC i (by omega) (by omega)
    subst eA
    obtain ⟨x, hx⟩ : ∃ x, x = l[i] := ⟨_, rfl⟩
    have hnx : nx l i = (nextS x.f0 x.f7 i l.length).map Int.toNat := by unfold nx; rw [List.getElem?_eq_getElem hin, hx]
    obtain ⟨kn, hkn⟩ : ∃ k, code_Next.f k x.f0 x.f1 x.f2 x.f3 x.f4 x.f5 x.f6 x.f7 i l.length = some (nextS x.f0 x.f7 i l.length) := Ev.rounds (next_ev x.f0 x.f1 x.f2 x.f3 x.f4 x.f5 x.f6 x.f7 i l.length (by omega) (by omega))
    have hmem : ∀ m ∈ nextS x.f0 x.f7 i l.length, 0 ≤ m ∧ m < l.length := fun m hm => nextS_mem hm (by omega)
    have hlen2 := nextS_len x.f0 x.f7 i l.length
    generalize nextS x.f0 x.f7 i l.length = ns at hnx hkn hmem hlen2
    have hbI := hI.below
    replace hI := Aside0.mk hI
    rw [hnx]
    clear hnx
    obtain ⟨F, hF⟩ : ∃ F : List Bool → Nat → List Bool, F = fun p m => dfs l f m p := ⟨_, rfl⟩
    rw [← hF]
    have hFF : ∀ p m, F p m = dfs l f m p := fun p m => by rw [hF]
    clear hF
    have hfree : free (o.set i true) ≤ f := by have := hfs; have := hf; omega
    replace hFF := Aside0.mk hFF
    replace hfs := Aside0.mk hfs
    replace hf := Aside0.mk hf
    replace hn := Aside0.mk hn
    replace ih := Aside0.mk ih
    replace hmem := Aside0.mk hmem
    replace hkn' := Aside0.mk hkn
    replace hI1 := Aside0.mk hI1
    go_enter Try.func28, Try.ntmps28
    go_upto_region 2 with go_in
    clear x1 x3 xo fo hI
    have hkp := Kp.set w g i (.bool true)
    generalize w.setCell ⟨g, i, none⟩ (.bool true) = w1 at hI1 hkp ⊢
    replace hkp := Aside0.mk hkp
    have hb1 := hI1.out.below
    obtain ⟨ad', eA', y0, y1, y2, y3, y4, y5, y6, y7⟩ := at_T31 (Kd.C_below hC hb1) i (by omega) (by omega)
    obtain rfl := Option.some.inj eA'
    rw [rdT_at l i hin, ← hx, Int.toNat_natCast] at y0 y1 y2 y3 y4 y5 y6 y7
    replace hx := Aside0.mk hx
    have x1 := blk_cell hI1.out.b1 0
    have lB1 := blk_lt hI1.out.b1
    have lX : (ad.add (i * 8)).block < w1.heap.size := World.block_lt_of_cell? w1 _ y0
    clear eA' hb1 hbI hC hat
    refine start_ (n := 10) (S := fun w' => Below w1.heap.size w1 w') (ds := []) #[false, false, false, false, false, false, false, false, false, false] (by kernel_rfl) rfl rfl (below_drew (Below.refl _ _)) (fun hHeld => ?_); refine with_tabW go28.tab2 go28.bits2 (fun HT_ HW_ => ?_)
    refine take_ (i := 0) (N := some 20) (v := ?_) (a' := ?_) #[true, false, false, false, false, false, false, false, false, false] rfl rfl (take_ofW HT_.out HW_.out (by kernel_rfl)) (fun _ _ _ h => h) (Or.inl ⟨by first | rfl | kernel_rfl, ?_⟩) hHeld ?_ ?_
    rotate_left
    · intro w' s0
      have z1 := (s0.cell (by exact lB1)).trans x1
      go_simp
      with_reducible rfl
    rotate_left
    · simp only [Act.put, List.setIfInBounds_toArray, List.set_cons_zero, List.set_cons_succ, i64_w, i32_w]
      rfl
    refine pure_ (i := 1) (N := some 21) (v := ?_) (a' := ?_) #[true, true, false, false, false, false, false, false, false, false] rfl rfl (any_of HT_.out (by kernel_rfl)) (fun _ _ _ h => h) (Or.inl ⟨by first | rfl | kernel_rfl, ?_⟩) ?_ ?_
    rotate_left
    · intro w'
      go_simp
      with_reducible rfl
    rotate_left
    · simp only [Act.put, List.setIfInBounds_toArray, List.set_cons_zero, List.set_cons_succ, i64_w, i32_w]
      rfl
    refine pure_ (i := 2) (N := some 22) (v := ?_) (a' := ?_) #[true, true, true, false, false, false, false, false, false, false] rfl rfl (any_of HT_.out (by kernel_rfl)) (fun _ _ _ h => h) (Or.inl ⟨by first | rfl | kernel_rfl, ?_⟩) ?_ ?_
    rotate_left
    · intro w'
      go_simp
      with_reducible rfl
    rotate_left
    · simp only [Act.put, List.setIfInBounds_toArray, List.set_cons_zero, List.set_cons_succ, i64_w, i32_w]
      rfl
    refine take_ (i := 3) (N := some 23) (v := ?_) (a' := ?_) #[true, true, true, true, false, false, false, false, false, false] rfl rfl (take_ofW HT_.out HW_.out (by kernel_rfl)) (fun _ _ _ h => h) (Or.inl ⟨by first | rfl | kernel_rfl, ?_⟩) hHeld ?_ ?_
    rotate_left
    · intro w' s0
      have z0 := (s0.cell (by exact lX)).trans y0
      have z1 := (s0.cell (by exact lX)).trans y1
      have z2 := (s0.cell (by exact lX)).trans y2
      have z3 := (s0.cell (by exact lX)).trans y3
      have z4 := (s0.cell (by exact lX)).trans y4
      have z5 := (s0.cell (by exact lX)).trans y5
      have z6 := (s0.cell (by exact lX)).trans y6
      have z7 := (s0.cell (by exact lX)).trans y7
      go_simp
      with_reducible rfl
    rotate_left
    · simp only [Act.put, List.setIfInBounds_toArray, List.set_cons_zero, List.set_cons_succ, i64_w, i32_w]
      rfl
    refine pure_ (i := 4) (N := some 24) (v := ?_) (a' := ?_) #[true, true, true, true, true, false, false, false, false, false] rfl rfl (any_of HT_.out (by kernel_rfl)) (fun _ _ _ h => h) (Or.inl ⟨by first | rfl | kernel_rfl, ?_⟩) ?_ ?_
    rotate_left
    · intro w'
      go_simp
      with_reducible rfl
    rotate_left
    · simp only [Act.put, List.setIfInBounds_toArray, List.set_cons_zero, List.set_cons_succ, i64_w, i32_w]
      rfl
    refine take_ (i := 5) (N := some 25) (v := ?_) (a' := ?_) #[true, true, true, true, true, true, false, false, false, false] rfl rfl (take_ofW HT_.out HW_.out (by kernel_rfl)) (fun _ _ _ h => h) (Or.inl ⟨by first | rfl | kernel_rfl, ?_⟩) hHeld ?_ ?_
    rotate_left
    · intro w' s0
      have z1 := (s0.cell (by exact lB1)).trans x1
      go_simp
      with_reducible rfl
    rotate_left
    · simp only [Act.put, List.setIfInBounds_toArray, List.set_cons_zero, List.set_cons_succ, i64_w, i32_w]
      rfl
    refine pure_ (i := 6) (N := some 26) (v := ?_) (a' := ?_) #[true, true, true, true, true, true, true, false, false, false] rfl rfl (any_of HT_.out (by kernel_rfl)) (fun _ _ _ h => h) (Or.inl ⟨by first | rfl | kernel_rfl, ?_⟩) ?_ ?_
    rotate_left
    · intro w'
      go_simp
      with_reducible rfl
    rotate_left
    · simp only [Act.put, List.setIfInBounds_toArray, List.set_cons_zero, List.set_cons_succ, i64_w, i32_w]
      rfl
    refine pure_ (i := 9) (N := some 29) (v := ?_) (a' := ?_) #[true, true, true, true, true, true, true, false, false, true] rfl rfl (any_of HT_.out (by kernel_rfl)) (fun _ _ _ h => h) (Or.inl ⟨by first | rfl | kernel_rfl, ?_⟩) ?_ ?_
    rotate_left
    · intro w'
      go_simp
      with_reducible rfl
    rotate_left
    · simp only [Act.put, List.setIfInBounds_toArray, List.set_cons_zero, List.set_cons_succ, i64_w, i32_w]
      rfl
    refine one_ (i := 7) (N := some 27) #[true, true, true, true, true, true, true, true, false, true] rfl rfl (one_of HT_.out (by kernel_rfl)) (by decide) (fun K hK => ?_)
    refine goes_ Try.func23 (by kernel_rfl) rfl #[.agg #[.int .i64 x.f0, .int .i64 x.f1, .int .i64 x.f2, .int .i64 x.f3, .int .i64 x.f4, .int .i64 x.f5, .int .u64 x.f6, .int .i64 x.f7], .int .i64 i, .int .i64 (l.length : Int)] (by first | rfl | kernel_rfl) rfl rfl (by first | rfl | kernel_rfl) ?_
    refine (code_Next.calls kn x.f0 x.f1 x.f2 x.f3 x.f4 x.f5 x.f6 x.f7 i l.length _ w1.drew hkn).mono ?_
    rintro e w8 ⟨vn, rfl, hRn, hb8⟩
    have hHeld := hHeld.trans (hb8.mono hHeld.size)
    obtain ⟨An, cn, rfl, hcn, hCn⟩ := Kd.R_reads hRn
    refine ⟨_, rfl, hK.out _ _ hHeld (fun hHeld => ?_)⟩
    clear hK K
    refine norm_ (a' := ?_) ?_ ?_
    rotate_left
    · show Act.put _ (some 27) _ = _
      simp only [Act.put, List.setIfInBounds_toArray, List.set_cons_zero, List.set_cons_succ, i64_w, i32_w]
      rfl
    refine pure_ (i := 8) (N := some 28) (v := ?_) (a' := ?_) #[true, true, true, true, true, true, true, true, true, true] rfl rfl (any_of HT_.out (by kernel_rfl)) (fun _ _ _ h => h) (Or.inl ⟨by first | rfl | kernel_rfl, ?_⟩) ?_ ?_
    rotate_left
    · intro w'
      go_simp
      with_reducible rfl
    rotate_left
    · simp only [Act.put, List.setIfInBounds_toArray, List.set_cons_zero, List.set_cons_succ, i64_w, i32_w]
      rfl
    refine done_ (done_of HT_.out (by kernel_rfl)) ?_
    clear HT_ HW_
    clear x1 y0 y1 y2 y3 y4 y5 y6 y7 lB1 lX hkn hkn'
    have hI2 : In28 w0 w8 (some ad) l.length c B1 B3 B4 g cg (fv28 B1 B3 B4) (o.set i true) := ⟨blk_below hI1.out.b1 hHeld, blk_below hI1.out.b3 hHeld, blk_below hI1.out.b4 hHeld, Kd.R_below hI1.out.row hHeld, hI1.out.below.trans (hHeld.mono hI1.out.below.size)⟩
    have hgw : g < w1.heap.size := by
      obtain ⟨cells, hcc⟩ := own_typed hI1.out.row.2.choose_spec.1 g (by simp [Value.ownBlock])
      exact blk_lt hcc
    have hkp2 := hkp.out.trans (Kp.below (g := g) hHeld)
    have hRn2 : Kd.R (Kd.int .i64) 3 w8 w1.heap.size (fun k => k ≠ g) (.slice An ns.length cn) ns := Kd.R_mono (Kd.R_bound hRn) (fun k hk => by have := hk.2.1; have e : (w1.drew).heap.size = w1.heap.size := rfl; omega)
    clear hI1 hkp hHeld hRn hb8 hCn
    go_wp2
    go_loopw [29] (fun v29 wr => ∃ q : Nat, v29 = .int .i64 q ∧ q ≤ ns.length ∧ In28 w0 wr (some ad) l.length c B1 B3 B4 g cg (fv28 B1 B3 B4) (((ns.take q).map Int.toNat).foldl F (o.set i true)) ∧ Kp w wr g ∧ Kd.R (Kd.int .i64) 3 wr w1.heap.size (fun k => k ≠ g) (.slice An ns.length cn) ns)
      (fun v29 _ => ns.length - (intOf v29).toNat)
    case atStart => exact ⟨0, rfl, by omega, hI2, hkp2, hRn2⟩
    case round =>
      clear hI2 hkp2 hRn2
      obtain ⟨q, rfl, hq, hI, hkp, hR⟩ := hrel
      by_cases hqn : q < ns.length
      · have hqi : (q : Int) < (ns.length : Int) := by omega
        obtain ⟨adn, eAn, xn⟩ := Kd.at_int (Kd.R_reads' hR).2.2 (q : Int) (by omega) (by omega)
        subst eAn
        rw [rd_get ns q hqn, Int.toNat_natCast] at xn
        have hm := hmem.out ns[q] (List.getElem_mem hqn)
        have htk : ((ns.take (q + 1)).map Int.toNat).foldl F (o.set i true) = F (((ns.take q).map Int.toNat).foldl F (o.set i true)) ns[q].toNat := by
          rw [List.take_add_one, List.getElem?_eq_getElem hqn, List.map_append, List.foldl_append]; rfl
        obtain ⟨m, hmn⟩ : ∃ m : Nat, ns[q] = (m : Int) := ⟨ns[q].toNat, by omega⟩
        rw [hmn] at xn hm htk
        rw [Int.toNat_natCast] at htk
        have x3 := blk_cell hI.b3 0
        have x4 : wr.cell? ⟨B4, 0, none⟩ = some (.func (.func 28) #[] #[.pointer (some ⟨B1, 0, none⟩), .pointer (some ⟨B3, 0, none⟩), .pointer (some ⟨B4, 0, none⟩)]) := (blk_cell hI.b4 0).trans rfl
        have hle : free (((ns.take q).map Int.toNat).foldl F (o.set i true)) ≤ f := by
          have key : ∀ (ms : List Nat) (p : List Bool), free p ≤ f → free (ms.foldl F p) ≤ f := by
            intro ms
            induction ms with
            | nil => intro p hp; exact hp
            | cons a ms ihm => intro p hp; exact ihm _ (by rw [hFF.out]; exact Nat.le_trans (dfs_post l f a p hp).1.le.free hp)
          exact key _ _ hfree
        have TC := ih.out m _ wr hle (by omega) hI
        rw [← hFF.out, ← htk] at TC
        replace hmn := Aside0.mk hmn
        replace htk := Aside0.mk htk
        go_wp2_with (first
          | (go_at_call 28; refine TC.mono ?_; rintro e w9 ⟨rfl, hI9, hk9⟩))
        go_roundw
        case rel => exact ⟨q + 1, by first | rfl | go_num, by omega, hI9, hkp.trans hk9, R_kp hR hk9 (fun _ hk => hk)⟩
        case measure => simp [intOf]; omega
      · obtain rfl : q = ns.length := by omega
        rw [List.take_length] at hI
        go_wp2
        go_end0
        exact ⟨rfl, hI, hkp⟩
theorem run_store_func (P : Program) (w : World) (a : Addr) (f : Fn) (x y : Array Value) (m : Mode) : (store a (.func f x y) m).run P w = stored P w a (.func f x y) m := run_store P w a _ m rfl
attribute [local go_sem] run_store_func
set_option maxHeartbeats 4000000 in
set_option maxRecDepth 100000 in
theorem reached.calls (l : List S31) (A : Option Addr) (c : Nat) (w : World) (hC : Kd.C k31 w A l.length l) (hc : l.length ≤ c) (hl : l.length ≤ 4096) (hl0 : 0 < l.length) :
    Calls Try.prog 26 #[.slice A l.length c] w fun e w' => ∃ v, e = .returned v ∧ Kd.R Kd.bool 4 w' w.heap.size (fun _ => True) v (reachS l) ∧ Below w.heap.size w w' := by
  go_enter Try.func26, Try.ntmps26
  go_upto_region 1 with go_in
  have e1 := heap_alloc_new w (Obj.cells #[.slice A l.length c] 22 (0, 0))
  have HB1 : Below w.heap.size w (w.alloc (Obj.cells #[.slice A l.length c] 22 (0, 0))) := (Below.refl _ _).alloc (Nat.le_refl _) _
  generalize w.alloc (Obj.cells #[.slice A l.length c] 22 (0, 0)) = w1 at e1 HB1 ⊢
  obtain ⟨B1, hB1⟩ : ∃ B, B = w.heap.size := ⟨_, rfl⟩
  rw [← hB1] at e1 ⊢
  replace hB1 := Aside0.mk hB1
  have x1 := blk_cell e1 0
  go_upto_region 3 with (first | ((with_reducible refine gate_dst (N := 7) rfl ?_); refine Kd.R_make Kd.bool w.heap.size 4 rfl (N := 7) rfl 39 _ _ rfl (l.length : Int) rfl rfl Try.underlying39 (.bool false) 1 info4 rfl (by decide) (by omega) false (ok := fun _ => True) (okp := fun _ => True) rfl (fun _ hk => hk) trivial (by omega) (by omega) HB1 (by have := HB1.size; omega) ?_; intro v2 w2 ho2 hb2 hg2 hn2; rw [Int.toNat_natCast] at ho2; obtain ⟨g, cg, rfl, hgb, hgl, hcl, hgh⟩ := Kd.R_form ho2 (by rw [List.length_replicate]; omega); rw [List.length_replicate] at ho2) | go_in)
  have e1 := (hg2.block B1 (blk_lt e1) (by simp)).trans e1
  clear x1 hg2 hn2 HB1
  have e3 := blk_alloc (heap_alloc_new w2 (Obj.cells #[.slice (some ⟨g, 0, none⟩) l.length cg] 39 (0, 0))) (Obj.cells #[.nilFunc] 53 (0, 0))
  have e4 := heap_alloc_new (w2.alloc (Obj.cells #[.slice (some ⟨g, 0, none⟩) l.length cg] 39 (0, 0))) (Obj.cells #[.nilFunc] 53 (0, 0))
  have hbb : Below w2.heap.size w2 ((w2.alloc (Obj.cells #[.slice (some ⟨g, 0, none⟩) l.length cg] 39 (0, 0))).alloc (Obj.cells #[.nilFunc] 53 (0, 0))) := below_alloc (below_alloc (Below.refl _ _) _) _
  rw [show (w2.alloc (Obj.cells #[.slice (some ⟨g, 0, none⟩) l.length cg] 39 (0, 0))).heap.size = w2.heap.size + 1 from Array.size_push _] at e4
  generalize ((w2.alloc (Obj.cells #[.slice (some ⟨g, 0, none⟩) l.length cg] 39 (0, 0))).alloc (Obj.cells #[.nilFunc] 53 (0, 0))) = w4 at e3 e4 hbb ⊢
  have n1 : B1 ≠ g := by
    rintro rfl
    rw [e1] at hgh; cases hgh
  have l1 := blk_lt e1
  obtain ⟨B3, hB3⟩ : ∃ B, B = w2.heap.size := ⟨_, rfl⟩
  rw [← hB3] at e3 e4 ⊢
  obtain ⟨B4, hB4⟩ : ∃ B, B = B3 + 1 := ⟨_, rfl⟩
  rw [← hB4] at e4 ⊢
  have n3 : B3 ≠ g := by omega
  have n4 : B4 ≠ g := by omega
  have n14 : B1 ≠ B4 := by omega
  have n34 : B3 ≠ B4 := by omega
  have g4 : w.heap.size ≤ B4 := by have := hb2.size; omega
  have e1 := blk_below e1 hbb
  have ho2 := Kd.R_below ho2 hbb
  have hb2 := hb2.trans (hbb.mono hb2.size)
  replace hB3 := Aside0.mk hB3
  replace hB4 := Aside0.mk hB4
  have x1 := blk_cell e1 0
  have x3 := blk_cell e3 0
  have x4 := blk_cell e4 0
  have f4 := blk_frozen e4 0
  go_upto_region 4 with go_in
  have e4 := blk_put e4 0 (fv28 B1 B3 B4) rfl
  have e1 := blk_far (p := ⟨B4, 0, none⟩) e1 n14 (fv28 B1 B3 B4)
  have e3 := blk_far (p := ⟨B4, 0, none⟩) e3 n34 (fv28 B1 B3 B4)
  have ho2 : Kd.R Kd.bool 4 (w4.setCell ⟨B4, 0, none⟩ (fv28 B1 B3 B4)) w.heap.size (fun _ => True) (.slice (some ⟨g, 0, none⟩) l.length cg) (List.replicate l.length false) :=
    Kd.R_mono (Kd.R_far (p := ⟨B4, 0, none⟩) (Kd.R_far1 ho2 rfl (g := B4) (by simp [Value.ownBlock, n4])) (fun k hk => hk.2) (fv28 B1 B3 B4)) (fun _ _ => trivial)
  have hb2 : Below w.heap.size w (w4.setCell ⟨B4, 0, none⟩ (fv28 B1 B3 B4)) := below_set hb2 g4
  clear x1 x3 x4 f4 hbb hgl hgh
  change Code.wp Try.prog _ _ _ (w4.setCell ⟨B4, 0, none⟩ (fv28 B1 B3 B4))
  generalize w4.setCell ⟨B4, 0, none⟩ (fv28 B1 B3 B4) = w5 at e1 e3 e4 ho2 hb2 ⊢
  have TC := go28.calls l A c B1 B3 B4 g cg w hC hc hl hgb n1 n3 n4 l.length 0 (List.replicate l.length false) w5 (by unfold free; rw [List.count_replicate]; simp) (by omega) ⟨e1, e3, e4, ho2, hb2⟩
  have x4 : w5.cell? ⟨B4, 0, none⟩ = some (.func (.func 28) #[] #[.pointer (some ⟨B1, 0, none⟩), .pointer (some ⟨B3, 0, none⟩), .pointer (some ⟨B4, 0, none⟩)]) := (blk_cell e4 0).trans rfl
  go_upto_region 5 with (first
    | (go_at_call 28; refine TC.mono ?_; rintro e w9 ⟨rfl, hI9, hk9⟩)
    | go_in)
  have x3 := blk_cell hI9.b3 0
  go_wp2
  go_ret
  exact ⟨_, rfl, hI9.row, hI9.below⟩
end Go.Proofs.Ytpibifgllbfgmaa.Pure
