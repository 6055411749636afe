/-
The statement ScopeLeave: what was entered behind a mark is no more when that is left, and may be entered again. The law walked by the contracts of the scope's methods, its three loops by what the locals are at each round. Condition: none beyond the statement's own.
-/
import Derived.Test.YtchgmfdojhbgaaaRows
import Derived.Test.YtchgmfdojhbgaaaMScopeC
import Derived.WalkKit
import Derived.ProofKit
import Derived.OpenShut
import Derived.ShutString
import Derived.ChangeOld
import Derived.Below
import Derived.SizedLaws
set_option linter.unusedVariables false
set_option linter.unusedSimpArgs false
namespace Go.Proofs.Ytchgmfdojhbgaaa.MScope
open Go.RowKit Go.Proofs.YtchgmfdojhbgaaaW.PrintWords Go.Proofs.YtchgmfdojhbgaaaW.PrintLast Go.Proofs.YtchgmfdojhbgaaaW.PrintMore
open Go.Proofs.Ytchgmfdojhbgaaa.Kit Go.ChangeMaps Go.MapKept
attribute [local go_sem] max2_int min2_int max_two min_two max_three min_three max_four min_four   -- for this text's walks alone
/-- The letter at i. -/
def nm (i : Nat) : ByteArray := ⟨#[UInt8.ofNat (97 + i)]⟩
def LK (k : Nat) : List Lc := (List.range k).map fun i => ⟨nm i, 0, 0⟩
def LM (k j : Nat) : List Lc := LK k ++ (List.range j).map fun i => ⟨nm (13 + i), 1, 3⟩
theorem LK_step (k : Nat) : LK k ++ [⟨nm k, 0, 0⟩] = LK (k + 1) := by simp [LK, List.range_succ]
theorem LM_step (k j : Nat) : LM k j ++ [⟨nm (13 + j), 1, 3⟩] = LM k (j + 1) := by simp [LM, List.range_succ]
theorem LK_len (k : Nat) : (LK k).length = k := by simp [LK]
theorem LM_len (k j : Nat) : (LM k j).length = k + j := by simp [LM, LK_len]
theorem LM_take (k j : Nat) : (LM k j).take k = LK k := by
  rw [LM, List.take_append_of_le_length (by rw [LK_len]; omega), List.take_of_length_le (by rw [LK_len]; omega)]
theorem free1 : ∀ k, k < 13 → (fnd [] (LK k) (nm k)).1 = 0 := by decide +kernel
theorem free2 : ∀ k, k < 13 → ∀ j, j < 13 → (fnd [] (LM k j) (nm (13 + j))).1 = 0 := by decide +kernel
theorem known : ∀ k, k < 13 → ∀ i, i < 26 → fnd [] (LK k) (nm i) = if i < k then (4, 0, 0, ⟨#[]⟩) else (0, 0, 0, ⟨#[]⟩) := by decide +kernel
def abc : ByteArray := ⟨#[97, 98, 99, 100, 101, 102, 103, 104, 105, 106, 107, 108, 109, 110, 111, 112, 113, 114, 115, 116, 117, 118, 119, 120, 121, 122]⟩
theorem abc_at : ∀ i, i < 26 → abc.extract i (i + 1) = nm i := by decide +kernel
theorem slice_at (w : World) (i : Nat) (hi : i < 26) (l h : Int) (hl : l = i) (hh : h = i + 1) :
    (Instr.slice 9 (.string abc) (some (.int .i64 l)) (some (.int .i64 h)) none).run Try.prog w = .ok (.string (nm i)) w := by
  have e := run_slice_string (P := Try.prog) w 9 abc .i64 .i64 l h Try.underlying9 (by omega) (by omega) (by rw [hh]; show (i : Int) + 1 ≤ ((26 : Nat) : Int); omega)
  rw [e, hl, hh, show ((i : Int) + 1).toNat = i + 1 by omega, Int.toNat_natCast, abc_at i hi]
set_option maxHeartbeats 1000000 in
set_option maxRecDepth 100000 in
theorem leaves.calls (a b : Int) (w : World) (a0 : 0 ≤ a) (a1 : a ≤ 255) (b0 : 0 ≤ b) (b1 : b ≤ 255) :
    Calls Try.prog 5 #[.int .u8 a, .int .u8 b] w fun e w' => e = .returned (.bool true) ∧ Below w.heap.size w w' := by
  obtain ⟨K, hK⟩ : ∃ K : Nat, a % 13 = K := ⟨(a % 13).toNat, by omega⟩
  obtain ⟨J, hJ⟩ : ∃ J : Nat, b % 13 = J := ⟨(b % 13).toNat, by omega⟩
  have hK13 : K < 13 := by omega
  have hJ13 : J < 13 := by omega
  go_enter Try.func5, Try.ntmps5
  go_upto_region 3 with (first
    | (go_at_call 6; refine (awake.calls w).mono ?_; rintro e w1 ⟨rfl, hb1⟩)
    | go_in)
  go_upto_region 8 with (first
    | (go_at_call 7; refine (of.calls (w := w1) (b0 := 0) (D := []) (World.ownsRow_nil _ _ _ _) rfl (by decide)).mono ?_; rintro e w2 ⟨p, m, rfl, hS, hb2⟩)
    | go_in)
  have HB : Below w.heap.size w w2 := hb1.trans (hb2.mono hb1.size)
  have hS := hS.lower (base' := w.heap.size) hb1.size
  clear hb1 hb2
  go_wp2
  clear hK hJ
  go_loopw [10] (fun i wr => ∃ n : Nat, n ≤ K ∧ i = .int .i64 n ∧ (∃ v, Sc wr w.heap.size p m v [] (LK n)) ∧ Below w.heap.size w wr)
    (fun i _ => K - (intOf i).toNat)
  case atStart => exact ⟨0, by omega, rfl, ⟨_, hS⟩, HB⟩
  case round =>
    obtain ⟨n, hn, rfl, ⟨v, hS⟩, HB⟩ := hrel
    by_cases hnk : n < K
    · have hsl := slice_at wr n (by omega) n (n + 1) rfl rfl
      rw [abc] at hsl
      go_wp2_with (first
        | (go_at_call 8; refine (enter_free (nm n) 0 0 0 (LK (n + 1)) (by decide) (LK_step n) (free1 n (by omega)) hS (by rw [LK_len]; omega)).mono ?_; rintro e w3 ⟨rfl, v3, hS3, hst⟩)
        | go_in)
      go_roundw
      case rel => exact ⟨n + 1, by omega, by first | rfl | go_num, ⟨_, hS3⟩, HB.trans hst.below⟩
      case measure => simp [intOf]; omega
    · obtain rfl : n = K := by omega
      go_upto_region 13 with go_in
      go_wp2_with (first
        | (go_at_call 13; refine (mark.calls hS).mono ?_; rintro e w4 ⟨rfl, hb⟩; rw [LK_len]; have hS := hS.below hb; have HB := HB.trans (hb.mono HB.size))
        | go_in)
      rw [show LK n = LM n 0 by simp [LM]] at hS
      go_loopw [12] (fun i wr => ∃ j : Nat, j ≤ J ∧ i = .int .i64 j ∧ (∃ v, Sc wr w.heap.size p m v [] (LM n j)) ∧ Below w.heap.size w wr)
        (fun i _ => J - (intOf i).toNat)
      case atStart => exact ⟨0, by omega, rfl, ⟨_, hS⟩, HB⟩
      case round =>
        clear hS HB
        obtain ⟨j, hj, rfl, ⟨v, hS⟩, HB⟩ := hrel
        by_cases hjk : j < J
        · have hsl := slice_at wr (13 + j) (by omega) (13 + j) (14 + j) (by omega) (by omega)
          rw [abc] at hsl
          go_wp2_with (first
            | (go_at_call 8; refine (enter_free (nm (13 + j)) 1 3 3 (LM n (j + 1)) (by decide) (LM_step n j) (free2 n (by omega) j (by omega)) hS (by rw [LM_len]; omega)).mono ?_; rintro e w5 ⟨rfl, v5, hS5, hst⟩)
            | go_in)
          go_roundw
          case rel => exact ⟨j + 1, by omega, by first | rfl | go_num, ⟨_, hS5⟩, HB.trans hst.below⟩
          case measure => simp [intOf]; omega
        · obtain rfl : j = J := by omega
          go_wp2_with (first
            | (go_at_call 10; refine (leave.calls n hS).mono ?_; rintro e w6 ⟨rfl, v6, hS6, hst⟩; have HB := HB.trans hst.below)
            | go_in)
          have hS : Sc w6 w.heap.size p m v6 [] (LK n) := by
            rw [LM_len, Int.toNat_natCast, LM_take] at hS6
            split at hS6
            · exact hS6
            · have : j = 0 := by omega
              subst this
              simpa [LM] using hS6
          clear hS6
          go_loopw [13] (fun i wr => ∃ q : Nat, q ≤ 26 ∧ i = .int .i64 q ∧ (∃ v, Sc wr w.heap.size p m v [] (LK n)) ∧ Below w.heap.size w wr)
            (fun i _ => 26 - (intOf i).toNat)
          case atStart => exact ⟨0, by omega, rfl, ⟨_, hS⟩, HB⟩
          case round =>
            clear hS HB
            obtain ⟨q, hq, rfl, ⟨v, hS⟩, HB⟩ := hrel
            by_cases hq26 : q < 26
            · have hsl := slice_at wr q (by omega) q (q + 1) rfl rfl
              rw [abc] at hsl
              have hf := known n (by omega) q (by omega)
              by_cases hqn : q < n
              · rw [if_pos hqn] at hf
                go_wp2_with (first
                  | (go_at_call 9; refine (find_at (nm q) hf hS (by rw [LK_len]; omega)).mono ?_; rintro e w7 ⟨rfl, hS7, hst⟩)
                  | go_in)
                go_roundw
                case rel => exact ⟨q + 1, by omega, by first | rfl | go_num, ⟨_, hS7⟩, HB.trans hst.below⟩
                case measure => simp [intOf]; omega
              · rw [if_neg hqn] at hf
                have hnq : n ≤ q := by omega
                go_wp2_with (first
                  | (go_at_call 9; refine (find_at (nm q) hf hS (by rw [LK_len]; omega)).mono ?_; rintro e w7 ⟨rfl, hS7, hst⟩)
                  | go_in)
                go_roundw
                case rel => exact ⟨q + 1, by omega, by first | rfl | go_num, ⟨_, hS7⟩, HB.trans hst.below⟩
                case measure => simp [intOf]; omega
            · have hfn := known n (by omega) 13 (by omega)
              rw [if_neg (by omega)] at hfn
              go_wp2_with (first
                | (go_at_call 13; refine (mark.calls hS).mono ?_; rintro e w8 ⟨rfl, hb⟩; rw [LK_len]; have hS := hS.below hb; have HB := HB.trans (hb.mono HB.size))
                | (go_at_call 8; refine (enter_free ⟨#[110]⟩ 0 0 0 (LK n ++ [⟨⟨#[110]⟩, 0, 0⟩]) (by decide) rfl (by show (fnd [] (LK n) (nm 13)).1 = 0; rw [hfn]) hS (by rw [LK_len]; omega)).mono ?_; rintro e w9 ⟨rfl, v9, hS9, hst⟩; have HB := HB.trans hst.below)
                | go_in)
              go_ret
              exact ⟨rfl, HB⟩
end Go.Proofs.Ytchgmfdojhbgaaa.MScope
namespace Go.Proofs.Ytchgmfdojhbgaaa.scopeLeave
open Go.ChangeShapes Go.WideShapes Go.ChangeAt Go.RowKit Go.Proofs.Ytchgmfdojhbgaaa.Kit
open Go.ChangeMaps (open_string shut_string)
theorem own : ownKnob Try.prog.godebug = none := by kernel_rfl
set_option maxRecDepth 100000 in
theorem lifted (os : Os) (started : os.Started) (H : Type) (enc : TypeId × Value → H) :
    ReturnsInHanded {} Try.checked os 5 .any (Rows.scopeLeaveSpec.pre6 enc Try.prog Try.f5 Rows.scopeLeaveRow.domain false) (Rows.scopeLeaveSpec.post enc Try.prog Try.f5 false true false false) := by
  refine returnsInHanded_of_change_sized (C := Try.checked) own started (by kernel_rfl) Try.func5
    (ChangeSpec.witness6 (enc := enc) (C := Try.checked) false ⟨#[], #[.int .u8 0, .int .u8 0], []⟩ 8 (by kernel_rfl) (by kernel_rfl) (by kernel_rfl) (by kernel_rfl)) ?_
  intro W base args ds gs before hval0 hW hcnd hsz0 _
  have hval : ∀ (j : Nat) t v, Try.f5.params[j]? = some t → args[j]? = some v → Value.okWide Try.prog W .any base t v := hval0
  have hW' := hW
  obtain ⟨p, q, hA0, hV, rfl, hfz, hnd⟩ := hW
  have hA : DataW.TrodAll enc Try.prog W 0 (fun _ => true) true Try.f5.params.toList args.toList ds p := hA0
  rw [Try.params5] at hA hval
  obtain ⟨v0, vs0, d0, ds0, p0, q0, hargs, rfl, rfl, h0, r0⟩ := trodAll_cons hA
  obtain ⟨v1, vs1, d1, ds1, p1, q1, rfl, rfl, rfl, h1, r1⟩ := trodAll_cons r0
  obtain ⟨rfl, rfl, rfl⟩ := trodAll_nil r1
  obtain rfl : args = #[v0, v1] := by cases args; simp_all
  obtain ⟨rfl, rfl⟩ := trodVars_none hV
  obtain ⟨a0, rfl, rfl, rfl, w0⟩ := open_int Try.underlying5 (hval 0 5 v0 rfl rfl) h0
  obtain ⟨a1, rfl, rfl, rfl, w1⟩ := open_int Try.underlying5 (hval 1 5 v1 rfl rfl) h1
  clear hA0 hval0 hsz0
  obtain ⟨x0, y0⟩ := wf_bounds_u8 w0
  obtain ⟨x1, y1⟩ := wf_bounds_u8 w1
  refine (MScope.leaves.calls a0 a1 W x0 y0 x1 y1).mono fun e W' ⟨he, bel⟩ => ?_
  subst he
  exact ⟨_, rfl, _, _, _, [], _, [], hW', trodAll_mk1 (shut_bool Try.underlying4 _), (trodAll_cons_mk (shut_int Try.underlying5 w0) (trodAll_cons_mk (shut_int Try.underlying5 w1) trodAll_mk0)), rfl, bel.frame _, fun h => by cases h⟩
theorem over : Rows.scopeLeaveRow.holds Try.pinned (OpenSpec.ofChange Rows.scopeLeaveSpec) :=
  OpenClaim.holds_of_wide 5 Try.f5 rfl rfl rfl rfl rfl rfl rfl ⟨rfl, rfl, rfl, rfl, rfl⟩ rfl rfl rfl rfl rfl (by kernel_rfl) Try.func5 (by kernel_rfl)
    (of_decide_eq_true (by kernel_rfl)) (by unfold Func.isWrapper; first | (rw [if_pos (by decide +kernel)]; kernel_rfl) | (rw [if_neg (by decide +kernel)]; exact ⟨rfl, rfl⟩))
    (fun os started H enc _ => lifted os started H enc)
theorem proved : Rows.ScopeLeaveSaid := over
end Go.Proofs.Ytchgmfdojhbgaaa.scopeLeave
namespace Go.Proofs.Ytchgmfdojhbgaaa
/-- The row, under a short name, for the claim. -/
theorem scopeLeave_holds : Rows.ScopeLeaveSaid := scopeLeave.proved
end Go.Proofs.Ytchgmfdojhbgaaa
