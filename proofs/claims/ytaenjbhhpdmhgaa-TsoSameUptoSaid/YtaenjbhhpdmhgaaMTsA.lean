/-
The machine of layer 23 in memory, and its small functions by contract. Conditions: as each theorem states them.
-/
import Derived.Test.YtaenjbhhpdmhgaaWSized
import Derived.Test.YtaenjbhhpdmhgaaKit
import Derived.WalkKit
import Derived.ProofKit
import Derived.RegionTactic
import Derived.ChangeAlike
import Derived.BigRegion
import Derived.Laws.LoneSync
import Derived.Laws.Pointers
import Derived.RegionCalls
set_option linter.unusedVariables false
set_option linter.unusedSimpArgs false
namespace Go.Proofs.Ytaenjbhhpdmhgaa.Tso
open Go.RowKit Go.Proofs.YtaenjbhhpdmhgaaW.PrintWords Go.Proofs.YtaenjbhhpdmhgaaW.PrintLast Go.Proofs.YtaenjbhhpdmhgaaW.PrintMore
open Go.Proofs.Ytaenjbhhpdmhgaa.Kit
open Go.Proofs.Ytaenjbhhpdmhgaa.PTsoScript
/-! ### a thread's block -/
/-- A thread's thirteen cells: its codes, where it stands, its eight registers, its writes, its output, whether it has halted. -/
def tArr (cv : Value) (at_ : Int) (rs : List Int) (wv ov : Value) (h : Bool) : Array Value := ([cv, .int .i64 at_] ++ rs.map (Value.int .u64) ++ [wv, ov, .bool h]).toArray
abbrev TBlk (w : World) (tb : Nat) (cv : Value) (at_ : Int) (rs : List Int) (wv ov : Value) (h : Bool) : Prop := w.heap[tb]? = some (Obj.cells (tArr cv at_ rs wv ov h) 77 (0, 0))
section
variable {w : World} {tb : Nat} {cv wv ov : Value} {at_ : Int} {rs : List Int} {h : Bool}
theorem t_c0 (hb : TBlk w tb cv at_ rs wv ov h) : w.cell? ⟨tb, 0, none⟩ = some cv := (blk_cell hb 0).trans rfl
theorem t_c1 (hb : TBlk w tb cv at_ rs wv ov h) : w.cell? ⟨tb, 1, none⟩ = some (.int .i64 at_) := (blk_cell hb 1).trans rfl
theorem t_reg (hb : TBlk w tb cv at_ rs wv ov h) (r : Nat) (hr : r < rs.length) : w.cell? ⟨tb, 2 + r, none⟩ = some (.int .u64 rs[r]) := by
  rw [blk_cell hb (2 + r)]
  unfold tArr
  rw [List.getElem?_toArray, List.getElem?_append_left (by simp; omega), List.getElem?_append_right (by simp)]
  simp [hr]
theorem t_c10 (hb : TBlk w tb cv at_ rs wv ov h) (hl : rs.length = 8) : w.cell? ⟨tb, 10, none⟩ = some wv := by
  rw [blk_cell hb 10]; unfold tArr; simp [List.getElem?_append, hl]
theorem t_c11 (hb : TBlk w tb cv at_ rs wv ov h) (hl : rs.length = 8) : w.cell? ⟨tb, 11, none⟩ = some ov := by
  rw [blk_cell hb 11]; unfold tArr; simp [List.getElem?_append, hl]
theorem t_c12 (hb : TBlk w tb cv at_ rs wv ov h) (hl : rs.length = 8) : w.cell? ⟨tb, 12, none⟩ = some (.bool h) := by
  rw [blk_cell hb 12]; unfold tArr; simp [List.getElem?_append, hl]
theorem t_set1 (hb : TBlk w tb cv at_ rs wv ov h) (n : Int) : TBlk (w.setCell ⟨tb, 1, none⟩ (.int .i64 n)) tb cv n rs wv ov h :=
  blk_put hb 1 _ (by unfold tArr; simp)
theorem t_setr (hb : TBlk w tb cv at_ rs wv ov h) (r : Nat) (hr : r < rs.length) (v : Int) : TBlk (w.setCell ⟨tb, 2 + r, none⟩ (.int .u64 v)) tb cv at_ (rs.set r v) wv ov h :=
  blk_put hb (2 + r) _ (by
    unfold tArr
    rw [List.setIfInBounds_toArray, List.append_assoc, List.set_append_right _ _ (by simp), List.set_append_left _ _ (by simp; omega)]
    simp [List.map_set])
theorem t_set10 (hb : TBlk w tb cv at_ rs wv ov h) (hl : rs.length = 8) (v : Value) : TBlk (w.setCell ⟨tb, 10, none⟩ v) tb cv at_ rs v ov h :=
  blk_put hb 10 _ (by
    unfold tArr
    rw [List.setIfInBounds_toArray, List.set_append_right _ _ (by simp [hl])]
    simp [hl])
theorem t_set11 (hb : TBlk w tb cv at_ rs wv ov h) (hl : rs.length = 8) (v : Value) : TBlk (w.setCell ⟨tb, 11, none⟩ v) tb cv at_ rs wv v h :=
  blk_put hb 11 _ (by
    unfold tArr
    rw [List.setIfInBounds_toArray, List.set_append_right _ _ (by simp [hl])]
    simp [hl])
theorem t_set12 (hb : TBlk w tb cv at_ rs wv ov h) (hl : rs.length = 8) (b : Bool) : TBlk (w.setCell ⟨tb, 12, none⟩ (.bool b)) tb cv at_ rs wv ov b :=
  blk_put hb 12 _ (by
    unfold tArr
    rw [List.setIfInBounds_toArray, List.set_append_right _ _ (by simp [hl])]
    simp [hl])
end
/-- A register's value; 0 of none. -/
def regS (rs : List Int) (r : Int) : Int := if 0 ≤ r ∧ r < 8 then rs.getD r.toNat 0 else 0
theorem reg.calls (tb : Nat) (cv wv ov : Value) (at_ : Int) (rs : List Int) (h : Bool) (r : Int) (w : World) (hl : rs.length = 8) (hb : TBlk w tb cv at_ rs wv ov h) :
    Calls Try.prog 46 #[.pointer (some ⟨tb, 0, none⟩), .int .i64 r] w fun e w' => e = .returned (.int .u64 (regS rs r)) ∧ w' = w := by
  by_cases hr : 0 ≤ r ∧ r < 8
  · obtain ⟨q, rfl⟩ := Int.eq_ofNat_of_zero_le hr.1
    have h1 : ¬ (q : Int) < 0 := by omega
    have h2 : ¬ (q : Int) ≥ 8 := by omega
    have h3 : (q : Int) < 8 := by omega
    have hc := t_reg hb q (by omega)
    have e : regS rs (q : Int) = rs[q]'(by omega) := by
      unfold regS
      rw [if_pos hr, Int.toNat_natCast, List.getD_eq_getElem?_getD, List.getElem?_eq_getElem (by omega)]
      rfl
    rw [e]
    generalize rs[q]'(by omega) = v at hc
    go_enter Try.func46, Try.ntmps46
    go_wp2
    go_ret
    exact ⟨rfl, rfl⟩
  · have e : regS rs r = 0 := by unfold regS; rw [if_neg hr]
    rw [e]
    go_enter Try.func46, Try.ntmps46
    by_cases h1 : r < 0
    · go_wp2
      go_ret
      exact ⟨rfl, rfl⟩
    · have h2 : r ≥ 8 := by omega
      go_wp2
      go_ret
      exact ⟨rfl, rfl⟩
/-! ### the machine's block -/
abbrev MBlk (w : World) (mb : Nat) (cv pv : Value) (n : Int) : Prop := w.heap[mb]? = some (Obj.cells #[cv, pv, .int .i64 n] 71 (0, 0))
/-- Where threads stand: the row of pointers. -/
def PRow (w : World) (pv : Value) (ts : List Nat) : Prop := ∃ A c, pv = .slice A ts.length c ∧ ts.length ≤ c ∧ ts.length ≤ 9223372036854775807 ∧ ∀ (k : Nat) (h : k < ts.length), ∃ ad, A = some ad ∧ w.cell? (ad.add k) = some (.pointer (some ⟨ts[k], 0, none⟩))
theorem get.calls (mb : Nat) (cv pv : Value) (n : Int) (ts : List Nat) (k : Int) (w : World) (hm : MBlk w mb cv pv n) (hp : PRow w pv ts) :
    Calls Try.prog 29 #[.pointer (some ⟨mb, 0, none⟩), .int .i64 k] w fun e w' => e = .returned (.pointer (if h : 0 ≤ k ∧ k < ts.length then some ⟨ts[k.toNat]'(by omega), 0, none⟩ else none)) ∧ w' = w := by
  obtain ⟨A, c, rfl, hc, hmx, hcell⟩ := hp
  have x1 : w.cell? ⟨mb, 1, none⟩ = some (.slice A ts.length c) := (blk_cell hm 1).trans rfl
  by_cases hk : 0 ≤ k ∧ k < ts.length
  · obtain ⟨q, rfl⟩ := Int.eq_ofNat_of_zero_le hk.1
    obtain ⟨ad, rfl, hq⟩ := hcell q (by omega)
    have h1 : ¬ (q : Int) < 0 := by omega
    have h2 : ¬ (q : Int) ≥ (ts.length : Int) := by omega
    have h3 : (q : Int) < (ts.length : Int) := by omega
    rw [dif_pos hk]
    simp only [Int.toNat_natCast]
    generalize ts[q]'(by omega) = b at hq
    clear hcell
    go_enter Try.func29, Try.ntmps29
    go_wp2
    go_ret
    exact ⟨rfl, rfl⟩
  · rw [dif_neg hk]
    clear hcell
    go_enter Try.func29, Try.ntmps29
    by_cases h1 : k < 0
    · go_wp2
      go_ret
      exact ⟨rfl, rfl⟩
    · have h2 : k ≥ (ts.length : Int) := by omega
      go_wp2
      go_ret
      exact ⟨rfl, rfl⟩
/-! ### the count of steps -/
theorem add.calls (mb : Nat) (cv pv : Value) (n : Int) (w : World) (hm : MBlk w mb cv pv n) :
    Calls Try.prog 30 #[.pointer (some ⟨mb, 2, none⟩), .int .i64 1] w fun e w' => e = .returned (.int .i64 (wrap64 (n + 1))) ∧ w' = w.setCell ⟨mb, 2, none⟩ (.int .i64 (wrap64 (n + 1))) := by
  have x2 : w.cell? ⟨mb, 2, none⟩ = some (.int .i64 n) := (blk_cell hm 2).trans rfl
  have hz := blk_frozen hm 2
  have hadd := run_call_add (P := Try.prog) Try.func44 (by kernel_rfl) (by kernel_rfl) (by kernel_rfl) .i64 (by kernel_rfl) (y := 1) (s := wrap64 (n + 1)) x2 hz (by simp [go_sem, i64_w])
  go_enter Try.func30, Try.ntmps30
  go_wp2
  go_ret
  exact ⟨rfl, rfl⟩
theorem load64.calls (mb : Nat) (cv pv : Value) (n : Int) (w : World) (hm : MBlk w mb cv pv n) :
    Calls Try.prog 41 #[.pointer (some ⟨mb, 2, none⟩)] w fun e w' => e = .returned (.int .i64 n) ∧ w' = w := by
  have x2 : w.cell? ⟨mb, 2, none⟩ = some (.int .i64 n) := (blk_cell hm 2).trans rfl
  have hld := run_call_load (P := Try.prog) Try.func55 (by kernel_rfl) (by kernel_rfl) (by kernel_rfl) .i64 (by kernel_rfl) x2
  go_enter Try.func41, Try.ntmps41
  go_wp2
  go_ret
  exact ⟨rfl, rfl⟩
theorem m_set2 {w : World} {mb : Nat} {cv pv : Value} {n : Int} (hm : MBlk w mb cv pv n) (n' : Int) : MBlk (w.setCell ⟨mb, 2, none⟩ (.int .i64 n')) mb cv pv n' := blk_put hm 2 _ rfl
theorem steps.calls (mb : Nat) (cv pv : Value) (n : Int) (w : World) (hm : MBlk w mb cv pv n) :
    Calls Try.prog 26 #[.pointer (some ⟨mb, 0, none⟩)] w fun e w' => e = .returned (.int .i64 n) ∧ w' = w := by
  go_enter Try.func26, Try.ntmps26
  go_wp2_with (first | (go_at_call 41; refine (load64.calls mb cv pv n w hm).mono ?_; rintro e w1 ⟨rfl, rfl⟩))
  go_ret
  exact ⟨rfl, rfl⟩
/-! ### cells -/
theorem cell.calls (mb : Nat) (A : Option Addr) (L c : Nat) (pv : Value) (n : Int) (a b : Int) (w : World) (hm : MBlk w mb (.slice A L c) pv n) (hL : 0 < L) (hL2 : L ≤ 1048576) (ha : 0 ≤ a ∧ a < 18446744073709551616) (hb : 0 ≤ b ∧ b < 18446744073709551616) :
    Calls Try.prog 47 #[.pointer (some ⟨mb, 0, none⟩), .int .u64 a, .int .u64 b] w fun e w' => e = .returned (.int .i64 (IntKind.u64.wrap (a + b) % (L : Int))) ∧ w' = w := by
  have x0 : w.cell? ⟨mb, 0, none⟩ = some (.slice A L c) := (blk_cell hm 0).trans rfl
  have e1 : IntKind.u64.wrap (L : Int) = (L : Int) := by rw [IntKind.wrap_u64]; omega
  have e0 : ¬ (L : Int) = 0 := by omega
  have hw : 0 ≤ IntKind.u64.wrap (a + b) := by rw [IntKind.wrap_u64]; omega
  generalize hs : IntKind.u64.wrap (a + b) = s at hw ⊢
  have e2 : 0 ≤ s % (L : Int) ∧ s % (L : Int) < (L : Int) := ⟨Int.emod_nonneg _ e0, Int.emod_lt_of_pos _ (by omega)⟩
  have e3 : wrap64 (s % (L : Int)) = s % (L : Int) := wrap_in (by omega) (by omega)
  go_enter Try.func47, Try.ntmps47
  go_wp2
  go_ret
  exact ⟨rfl, rfl⟩
/-! ### what a thread shows -/
theorem halted.calls (mb : Nat) (cv pv : Value) (n : Int) (ts : List Nat) (k : Nat) (w : World) (hm : MBlk w mb cv pv n) (hp : PRow w pv ts) (hk : k < ts.length) (cv2 wv ov : Value) (at_ : Int) (rs : List Int) (h : Bool) (hl : rs.length = 8) (hb : TBlk w ts[k] cv2 at_ rs wv ov h) :
    Calls Try.prog 18 #[.pointer (some ⟨mb, 0, none⟩), .int .i64 (k : Int)] w fun e w' => e = .returned (.bool h) ∧ w' = w := by
  have TG := get.calls mb cv pv n ts k w hm hp
  rw [dif_pos ⟨by omega, by omega⟩] at TG
  simp only [Int.toNat_natCast] at TG
  have y := t_c12 hb hl
  generalize ts[k] = b at TG y
  go_enter Try.func18, Try.ntmps18
  go_wp2_with (first | (go_at_call 29; refine TG.mono ?_; rintro e w1 ⟨rfl, rfl⟩))
  go_ret
  exact ⟨rfl, rfl⟩
theorem at.calls (mb : Nat) (cv pv : Value) (n : Int) (ts : List Nat) (k : Nat) (w : World) (hm : MBlk w mb cv pv n) (hp : PRow w pv ts) (hk : k < ts.length) (cv2 wv ov : Value) (at_ : Int) (rs : List Int) (h : Bool) (hl : rs.length = 8) (hb : TBlk w ts[k] cv2 at_ rs wv ov h) :
    Calls Try.prog 19 #[.pointer (some ⟨mb, 0, none⟩), .int .i64 (k : Int)] w fun e w' => e = .returned (.int .i64 at_) ∧ w' = w := by
  have TG := get.calls mb cv pv n ts k w hm hp
  rw [dif_pos ⟨by omega, by omega⟩] at TG
  simp only [Int.toNat_natCast] at TG
  have y := t_c1 hb
  generalize ts[k] = b at TG y
  go_enter Try.func19, Try.ntmps19
  go_wp2_with (first | (go_at_call 29; refine TG.mono ?_; rintro e w1 ⟨rfl, rfl⟩))
  go_ret
  exact ⟨rfl, rfl⟩
theorem waiting.calls (mb : Nat) (cv pv : Value) (n : Int) (ts : List Nat) (k : Nat) (w : World) (hm : MBlk w mb cv pv n) (hp : PRow w pv ts) (hk : k < ts.length) (cv2 ov : Value) (A : Option Addr) (q c : Nat) (at_ : Int) (rs : List Int) (h : Bool) (hl : rs.length = 8) (hb : TBlk w ts[k] cv2 at_ rs (.slice A q c) ov h) :
    Calls Try.prog 17 #[.pointer (some ⟨mb, 0, none⟩), .int .i64 (k : Int)] w fun e w' => e = .returned (.int .i64 (q : Int)) ∧ w' = w := by
  have TG := get.calls mb cv pv n ts k w hm hp
  rw [dif_pos ⟨by omega, by omega⟩] at TG
  simp only [Int.toNat_natCast] at TG
  have y := t_c10 hb hl
  generalize ts[k] = b at TG y
  go_enter Try.func17, Try.ntmps17
  go_wp2_with (first | (go_at_call 29; refine TG.mono ?_; rintro e w1 ⟨rfl, rfl⟩))
  go_ret
  exact ⟨rfl, rfl⟩
/-- A thread that there is not. -/
theorem none.calls (mb : Nat) (cv pv : Value) (n : Int) (ts : List Nat) (k : Int) (w : World) (hm : MBlk w mb cv pv n) (hp : PRow w pv ts) (hk : ¬ (0 ≤ k ∧ k < ts.length)) :
    Calls Try.prog 18 #[.pointer (some ⟨mb, 0, none⟩), .int .i64 k] w (fun e w' => e = .returned (.bool true) ∧ w' = w) ∧
    Calls Try.prog 19 #[.pointer (some ⟨mb, 0, none⟩), .int .i64 k] w (fun e w' => e = .returned (.int .i64 (-1)) ∧ w' = w) ∧
    Calls Try.prog 17 #[.pointer (some ⟨mb, 0, none⟩), .int .i64 k] w (fun e w' => e = .returned (.int .i64 0) ∧ w' = w) ∧
    Calls Try.prog 16 #[.pointer (some ⟨mb, 0, none⟩), .int .i64 k] w (fun e w' => e = .returned (.slice none 0 0) ∧ w' = w) := by
  have TG := get.calls mb cv pv n ts k w hm hp
  rw [dif_neg hk] at TG
  refine ⟨?_, ?_, ?_, ?_⟩
  · go_enter Try.func18, Try.ntmps18
    go_wp2_with (first | (go_at_call 29; refine TG.mono ?_; rintro e w1 ⟨rfl, rfl⟩))
    go_ret
    exact ⟨rfl, rfl⟩
  · go_enter Try.func19, Try.ntmps19
    go_wp2_with (first | (go_at_call 29; refine TG.mono ?_; rintro e w1 ⟨rfl, rfl⟩))
    go_ret
    exact ⟨rfl, rfl⟩
  · go_enter Try.func17, Try.ntmps17
    go_wp2_with (first | (go_at_call 29; refine TG.mono ?_; rintro e w1 ⟨rfl, rfl⟩))
    go_ret
    exact ⟨rfl, rfl⟩
  · go_enter Try.func16, Try.ntmps16
    go_wp2_with (first | (go_at_call 29; refine TG.mono ?_; rintro e w1 ⟨rfl, rfl⟩))
    go_ret
    exact ⟨rfl, rfl⟩
end Go.Proofs.Ytaenjbhhpdmhgaa.Tso
