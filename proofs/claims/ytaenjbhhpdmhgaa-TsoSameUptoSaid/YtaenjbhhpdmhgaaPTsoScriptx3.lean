/-
For TsoScript: what the Go functions that it reaches compute, as plain Lean functions, and the walks that show it; conditions as each theorem states them. (Written by a program of this session on the kit's print.)
-/
import Derived.Test.YtaenjbhhpdmhgaaWSized
import Derived.Test.YtaenjbhhpdmhgaaPTsoScriptx2
-- PRINTED by print.py (a twelfth state) out of the translation. Not trusted: Lean checks it.
namespace Go.Proofs.Ytaenjbhhpdmhgaa.PTsoScript
open Go.RowKit Go.Proofs.YtaenjbhhpdmhgaaW.PrintWords Go.Proofs.YtaenjbhhpdmhgaaW.PrintLast Go.Proofs.YtaenjbhhpdmhgaaW.PrintMore
attribute [local go_sem] max2_int min2_int max_two min_two max_three min_three max_four min_four   -- for this text's walks alone
set_option linter.unusedVariables false
set_option linter.unusedSimpArgs false

/-! ### code_Good: function 33 -/
mutual
def code_Good.j0 : Nat → List (S28) → Bool → Option (Bool)
 | 0, _, _ => none
 | k + 1, x0, x19 => if x19 = true then (some false) else (if 0 ≤ (wrap64 ((x0.length : Int) - 1)) then (if (wrap64 ((x0.length : Int) - 1)) < (x0.length : Int) then (if ((rd_T28 x0 (wrap64 ((x0.length : Int) - 1))).f0) = 13 then (code_Good.j1 k x0 false) else (code_Good.j1 k x0 (((rd_T28 x0 (wrap64 ((x0.length : Int) - 1))).f0) != 6))) else (none)) else (none))
def code_Good.j1 : Nat → List (S28) → Bool → Option (Bool)
 | 0, _, _ => none
 | k + 1, x0, x32 => if x32 = true then (some false) else (code_Good.l0 k x0 x0 (x0.length : Int) 0)
def code_Good.l0 : Nat → List (S28) → List (S28) → Int → Int → Option (Bool)
 | 0, _, _, _, _ => none
 | k + 1, x0, x33, x34, x35 => if x35 < x34 then (if 0 ≤ x35 then (if x35 < (x33.length : Int) then (if ((rd_T28 x33 x35).f0) < 0 then (code_Good.j3 k x0 x33 x34 x35 true ((rd_T28 x33 x35).f0) ((rd_T28 x33 x35).f1) ((rd_T28 x33 x35).f2) ((rd_T28 x33 x35).f3) ((rd_T28 x33 x35).f4) ((rd_T28 x33 x35).f5) ((rd_T28 x33 x35).f6) ((rd_T28 x33 x35).f7)) else (if ((rd_T28 x33 x35).f0) > 13 then (code_Good.j3 k x0 x33 x34 x35 true ((rd_T28 x33 x35).f0) ((rd_T28 x33 x35).f1) ((rd_T28 x33 x35).f2) ((rd_T28 x33 x35).f3) ((rd_T28 x33 x35).f4) ((rd_T28 x33 x35).f5) ((rd_T28 x33 x35).f6) ((rd_T28 x33 x35).f7)) else (if ((rd_T28 x33 x35).f0) = 2 then ((word_Tight.f ((rd_T28 x33 x35).f1)).bind fun t129 => (code_Good.j3 k x0 x33 x34 x35 (t129 == 0) ((rd_T28 x33 x35).f0) ((rd_T28 x33 x35).f1) ((rd_T28 x33 x35).f2) ((rd_T28 x33 x35).f3) ((rd_T28 x33 x35).f4) ((rd_T28 x33 x35).f5) ((rd_T28 x33 x35).f6) ((rd_T28 x33 x35).f7))) else (code_Good.j3 k x0 x33 x34 x35 false ((rd_T28 x33 x35).f0) ((rd_T28 x33 x35).f1) ((rd_T28 x33 x35).f2) ((rd_T28 x33 x35).f3) ((rd_T28 x33 x35).f4) ((rd_T28 x33 x35).f5) ((rd_T28 x33 x35).f6) ((rd_T28 x33 x35).f7))))) else (none)) else (none)) else (some true)
def code_Good.j3 : Nat → List (S28) → List (S28) → Int → Int → Bool → Int → Int → Int → Int → Int → Int → Int → Int → Option (Bool)
 | 0, _, _, _, _, _, _, _, _, _, _, _, _, _ => none
 | k + 1, x0, x33, x34, x35, x57, x129000, x129001, x129002, x129003, x129004, x129005, x129006, x129007 => if x57 = true then (some false) else ((code_Jumps.f x129000 x129001 x129002 x129003 x129004 x129005 x129006 x129007).bind fun bt130 => (if bt130.1 = true then (if x129007 < 0 then (code_Good.j4 k x0 x33 x34 x35 true x129000 x129001 x129002 x129003 x129004 x129005 x129006 x129007) else (code_Good.j4 k x0 x33 x34 x35 (decide (x129007 ≥ (x0.length : Int))) x129000 x129001 x129002 x129003 x129004 x129005 x129006 x129007)) else (code_Good.j4 k x0 x33 x34 x35 false x129000 x129001 x129002 x129003 x129004 x129005 x129006 x129007)))
def code_Good.j4 : Nat → List (S28) → List (S28) → Int → Int → Bool → Int → Int → Int → Int → Int → Int → Int → Int → Option (Bool)
 | 0, _, _, _, _, _, _, _, _, _, _, _, _, _ => none
 | k + 1, x0, x33, x34, x35, x75, x129000, x129001, x129002, x129003, x129004, x129005, x129006, x129007 => if x75 = true then (some false) else ((code_Defines.f x129000 x129001 x129002 x129003 x129004 x129005 x129006 x129007).bind fun bt132 => (if bt132.1 < 0 then (code_Good.j5 k x0 x33 x34 x35 true x129000 x129001 x129002 x129003 x129004 x129005 x129006 x129007) else (code_Good.j5 k x0 x33 x34 x35 (decide (bt132.1 > 65535)) x129000 x129001 x129002 x129003 x129004 x129005 x129006 x129007)))
def code_Good.j5 : Nat → List (S28) → List (S28) → Int → Int → Bool → Int → Int → Int → Int → Int → Int → Int → Int → Option (Bool)
 | 0, _, _, _, _, _, _, _, _, _, _, _, _, _ => none
 | k + 1, x0, x33, x34, x35, x86, x129000, x129001, x129002, x129003, x129004, x129005, x129006, x129007 => if x86 = true then (some false) else ((code_Uses.f k x129000 x129001 x129002 x129003 x129004 x129005 x129006 x129007).bind fun t134 => (code_Good.l1 k x0 x33 x34 x35 t134 (t134.length : Int) 0))
def code_Good.l1 : Nat → List (S28) → List (S28) → Int → Int → List Int → Int → Int → Option (Bool)
 | 0, _, _, _, _, _, _, _ => none
 | k + 1, x0, x33, x34, x35, x88, x89, x90 => if x90 < x89 then (if 0 ≤ x90 then (if x90 < (x88.length : Int) then (if (rd x88 x90) < 0 then (some false) else (if (rd x88 x90) > 65535 then (some false) else (code_Good.l1 k x0 x33 x34 x35 x88 x89 (wrap64 (x90 + 1))))) else (none)) else (none)) else (code_Good.l0 k x0 x33 x34 (wrap64 (x35 + 1)))
end
def code_Good.f (k : Nat) (l0 : List (S28)) : Option (Bool) := if (l0.length : Int) = 0 then (code_Good.j0 k l0 true) else (code_Good.j0 k l0 (decide ((l0.length : Int) > 4096)))
theorem code_Good.mono_l : ∀ k, (∀ y0 y1, LeO (code_Good.j0 k y0 y1) (code_Good.j0 (k + 1) y0 y1)) ∧ (∀ y0 y1, LeO (code_Good.j1 k y0 y1) (code_Good.j1 (k + 1) y0 y1)) ∧ (∀ y0 y1 y2 y3, LeO (code_Good.l0 k y0 y1 y2 y3) (code_Good.l0 (k + 1) y0 y1 y2 y3)) ∧ (∀ y0 y1 y2 y3 y4 y5 y6 y7 y8 y9 y10 y11 y12, LeO (code_Good.j3 k y0 y1 y2 y3 y4 y5 y6 y7 y8 y9 y10 y11 y12) (code_Good.j3 (k + 1) y0 y1 y2 y3 y4 y5 y6 y7 y8 y9 y10 y11 y12)) ∧ (∀ y0 y1 y2 y3 y4 y5 y6 y7 y8 y9 y10 y11 y12, LeO (code_Good.j4 k y0 y1 y2 y3 y4 y5 y6 y7 y8 y9 y10 y11 y12) (code_Good.j4 (k + 1) y0 y1 y2 y3 y4 y5 y6 y7 y8 y9 y10 y11 y12)) ∧ (∀ y0 y1 y2 y3 y4 y5 y6 y7 y8 y9 y10 y11 y12, LeO (code_Good.j5 k y0 y1 y2 y3 y4 y5 y6 y7 y8 y9 y10 y11 y12) (code_Good.j5 (k + 1) y0 y1 y2 y3 y4 y5 y6 y7 y8 y9 y10 y11 y12)) ∧ (∀ y0 y1 y2 y3 y4 y5 y6, LeO (code_Good.l1 k y0 y1 y2 y3 y4 y5 y6) (code_Good.l1 (k + 1) y0 y1 y2 y3 y4 y5 y6))
 | 0 => ⟨fun _ _ r h => by simp [code_Good.j0] at h, fun _ _ r h => by simp [code_Good.j1] at h, fun _ _ _ _ r h => by simp [code_Good.l0] at h, fun _ _ _ _ _ _ _ _ _ _ _ _ _ r h => by simp [code_Good.j3] at h, fun _ _ _ _ _ _ _ _ _ _ _ _ _ r h => by simp [code_Good.j4] at h, fun _ _ _ _ _ _ _ _ _ _ _ _ _ r h => by simp [code_Good.j5] at h, fun _ _ _ _ _ _ _ r h => by simp [code_Good.l1] at h⟩
 | k + 1 => by
  obtain ⟨ih0, ih1, ih2, ih3, ih4, ih5, ih6⟩ := code_Good.mono_l k
  refine ⟨?_, ?_, ?_, ?_, ?_, ?_, ?_⟩
  ·
   intro y0 y1
   unfold code_Good.j0
   repeat' first
   | (with_reducible exact ih0 _ _)
   | (with_reducible exact ih1 _ _)
   | (with_reducible exact ih2 _ _ _ _)
   | (with_reducible exact ih3 _ _ _ _ _ _ _ _ _ _ _ _ _)
   | (with_reducible exact ih4 _ _ _ _ _ _ _ _ _ _ _ _ _)
   | (with_reducible exact ih5 _ _ _ _ _ _ _ _ _ _ _ _ _)
   | (with_reducible exact ih6 _ _ _ _ _ _ _)
   | (with_reducible exact code_Uses.mono _ _ _ _ _ _ _ _ _)
   | (with_reducible exact LeO.refl _)
   | (with_reducible exact LeO.none _)
   | (with_reducible refine LeO.ite ?_ ?_)
   | (with_reducible refine LeO.bind ?_ (fun _ => ?_))
   | exact ih0 _ _
   | exact ih1 _ _
   | exact ih2 _ _ _ _
   | exact ih3 _ _ _ _ _ _ _ _ _ _ _ _ _
   | exact ih4 _ _ _ _ _ _ _ _ _ _ _ _ _
   | exact ih5 _ _ _ _ _ _ _ _ _ _ _ _ _
   | exact ih6 _ _ _ _ _ _ _
   | exact code_Uses.mono _ _ _ _ _ _ _ _ _
   | exact LeO.none _
   | refine LeO.ite ?_ ?_
   | refine LeO.bind ?_ (fun _ => ?_)
  ·
   intro y0 y1
   unfold code_Good.j1
   repeat' first
   | (with_reducible exact ih0 _ _)
   | (with_reducible exact ih1 _ _)
   | (with_reducible exact ih2 _ _ _ _)
   | (with_reducible exact ih3 _ _ _ _ _ _ _ _ _ _ _ _ _)
   | (with_reducible exact ih4 _ _ _ _ _ _ _ _ _ _ _ _ _)
   | (with_reducible exact ih5 _ _ _ _ _ _ _ _ _ _ _ _ _)
   | (with_reducible exact ih6 _ _ _ _ _ _ _)
   | (with_reducible exact code_Uses.mono _ _ _ _ _ _ _ _ _)
   | (with_reducible exact LeO.refl _)
   | (with_reducible exact LeO.none _)
   | (with_reducible refine LeO.ite ?_ ?_)
   | (with_reducible refine LeO.bind ?_ (fun _ => ?_))
   | exact ih0 _ _
   | exact ih1 _ _
   | exact ih2 _ _ _ _
   | exact ih3 _ _ _ _ _ _ _ _ _ _ _ _ _
   | exact ih4 _ _ _ _ _ _ _ _ _ _ _ _ _
   | exact ih5 _ _ _ _ _ _ _ _ _ _ _ _ _
   | exact ih6 _ _ _ _ _ _ _
   | exact code_Uses.mono _ _ _ _ _ _ _ _ _
   | exact LeO.none _
   | refine LeO.ite ?_ ?_
   | refine LeO.bind ?_ (fun _ => ?_)
  ·
   intro y0 y1 y2 y3
   unfold code_Good.l0
   repeat' first
   | (with_reducible exact ih0 _ _)
   | (with_reducible exact ih1 _ _)
   | (with_reducible exact ih2 _ _ _ _)
   | (with_reducible exact ih3 _ _ _ _ _ _ _ _ _ _ _ _ _)
   | (with_reducible exact ih4 _ _ _ _ _ _ _ _ _ _ _ _ _)
   | (with_reducible exact ih5 _ _ _ _ _ _ _ _ _ _ _ _ _)
   | (with_reducible exact ih6 _ _ _ _ _ _ _)
   | (with_reducible exact code_Uses.mono _ _ _ _ _ _ _ _ _)
   | (with_reducible exact LeO.refl _)
   | (with_reducible exact LeO.none _)
   | (with_reducible refine LeO.ite ?_ ?_)
   | (with_reducible refine LeO.bind ?_ (fun _ => ?_))
   | exact ih0 _ _
   | exact ih1 _ _
   | exact ih2 _ _ _ _
   | exact ih3 _ _ _ _ _ _ _ _ _ _ _ _ _
   | exact ih4 _ _ _ _ _ _ _ _ _ _ _ _ _
   | exact ih5 _ _ _ _ _ _ _ _ _ _ _ _ _
   | exact ih6 _ _ _ _ _ _ _
   | exact code_Uses.mono _ _ _ _ _ _ _ _ _
   | exact LeO.none _
   | refine LeO.ite ?_ ?_
   | refine LeO.bind ?_ (fun _ => ?_)
  ·
   intro y0 y1 y2 y3 y4 y5 y6 y7 y8 y9 y10 y11 y12
   unfold code_Good.j3
   repeat' first
   | (with_reducible exact ih0 _ _)
   | (with_reducible exact ih1 _ _)
   | (with_reducible exact ih2 _ _ _ _)
   | (with_reducible exact ih3 _ _ _ _ _ _ _ _ _ _ _ _ _)
   | (with_reducible exact ih4 _ _ _ _ _ _ _ _ _ _ _ _ _)
   | (with_reducible exact ih5 _ _ _ _ _ _ _ _ _ _ _ _ _)
   | (with_reducible exact ih6 _ _ _ _ _ _ _)
   | (with_reducible exact code_Uses.mono _ _ _ _ _ _ _ _ _)
   | (with_reducible exact LeO.refl _)
   | (with_reducible exact LeO.none _)
   | (with_reducible refine LeO.ite ?_ ?_)
   | (with_reducible refine LeO.bind ?_ (fun _ => ?_))
   | exact ih0 _ _
   | exact ih1 _ _
   | exact ih2 _ _ _ _
   | exact ih3 _ _ _ _ _ _ _ _ _ _ _ _ _
   | exact ih4 _ _ _ _ _ _ _ _ _ _ _ _ _
   | exact ih5 _ _ _ _ _ _ _ _ _ _ _ _ _
   | exact ih6 _ _ _ _ _ _ _
   | exact code_Uses.mono _ _ _ _ _ _ _ _ _
   | exact LeO.none _
   | refine LeO.ite ?_ ?_
   | refine LeO.bind ?_ (fun _ => ?_)
  ·
   intro y0 y1 y2 y3 y4 y5 y6 y7 y8 y9 y10 y11 y12
   unfold code_Good.j4
   repeat' first
   | (with_reducible exact ih0 _ _)
   | (with_reducible exact ih1 _ _)
   | (with_reducible exact ih2 _ _ _ _)
   | (with_reducible exact ih3 _ _ _ _ _ _ _ _ _ _ _ _ _)
   | (with_reducible exact ih4 _ _ _ _ _ _ _ _ _ _ _ _ _)
   | (with_reducible exact ih5 _ _ _ _ _ _ _ _ _ _ _ _ _)
   | (with_reducible exact ih6 _ _ _ _ _ _ _)
   | (with_reducible exact code_Uses.mono _ _ _ _ _ _ _ _ _)
   | (with_reducible exact LeO.refl _)
   | (with_reducible exact LeO.none _)
   | (with_reducible refine LeO.ite ?_ ?_)
   | (with_reducible refine LeO.bind ?_ (fun _ => ?_))
   | exact ih0 _ _
   | exact ih1 _ _
   | exact ih2 _ _ _ _
   | exact ih3 _ _ _ _ _ _ _ _ _ _ _ _ _
   | exact ih4 _ _ _ _ _ _ _ _ _ _ _ _ _
   | exact ih5 _ _ _ _ _ _ _ _ _ _ _ _ _
   | exact ih6 _ _ _ _ _ _ _
   | exact code_Uses.mono _ _ _ _ _ _ _ _ _
   | exact LeO.none _
   | refine LeO.ite ?_ ?_
   | refine LeO.bind ?_ (fun _ => ?_)
  ·
   intro y0 y1 y2 y3 y4 y5 y6 y7 y8 y9 y10 y11 y12
   unfold code_Good.j5
   repeat' first
   | (with_reducible exact ih0 _ _)
   | (with_reducible exact ih1 _ _)
   | (with_reducible exact ih2 _ _ _ _)
   | (with_reducible exact ih3 _ _ _ _ _ _ _ _ _ _ _ _ _)
   | (with_reducible exact ih4 _ _ _ _ _ _ _ _ _ _ _ _ _)
   | (with_reducible exact ih5 _ _ _ _ _ _ _ _ _ _ _ _ _)
   | (with_reducible exact ih6 _ _ _ _ _ _ _)
   | (with_reducible exact code_Uses.mono _ _ _ _ _ _ _ _ _)
   | (with_reducible exact LeO.refl _)
   | (with_reducible exact LeO.none _)
   | (with_reducible refine LeO.ite ?_ ?_)
   | (with_reducible refine LeO.bind ?_ (fun _ => ?_))
   | exact ih0 _ _
   | exact ih1 _ _
   | exact ih2 _ _ _ _
   | exact ih3 _ _ _ _ _ _ _ _ _ _ _ _ _
   | exact ih4 _ _ _ _ _ _ _ _ _ _ _ _ _
   | exact ih5 _ _ _ _ _ _ _ _ _ _ _ _ _
   | exact ih6 _ _ _ _ _ _ _
   | exact code_Uses.mono _ _ _ _ _ _ _ _ _
   | exact LeO.none _
   | refine LeO.ite ?_ ?_
   | refine LeO.bind ?_ (fun _ => ?_)
  ·
   intro y0 y1 y2 y3 y4 y5 y6
   unfold code_Good.l1
   repeat' first
   | (with_reducible exact ih0 _ _)
   | (with_reducible exact ih1 _ _)
   | (with_reducible exact ih2 _ _ _ _)
   | (with_reducible exact ih3 _ _ _ _ _ _ _ _ _ _ _ _ _)
   | (with_reducible exact ih4 _ _ _ _ _ _ _ _ _ _ _ _ _)
   | (with_reducible exact ih5 _ _ _ _ _ _ _ _ _ _ _ _ _)
   | (with_reducible exact ih6 _ _ _ _ _ _ _)
   | (with_reducible exact code_Uses.mono _ _ _ _ _ _ _ _ _)
   | (with_reducible exact LeO.refl _)
   | (with_reducible exact LeO.none _)
   | (with_reducible refine LeO.ite ?_ ?_)
   | (with_reducible refine LeO.bind ?_ (fun _ => ?_))
   | exact ih0 _ _
   | exact ih1 _ _
   | exact ih2 _ _ _ _
   | exact ih3 _ _ _ _ _ _ _ _ _ _ _ _ _
   | exact ih4 _ _ _ _ _ _ _ _ _ _ _ _ _
   | exact ih5 _ _ _ _ _ _ _ _ _ _ _ _ _
   | exact ih6 _ _ _ _ _ _ _
   | exact code_Uses.mono _ _ _ _ _ _ _ _ _
   | exact LeO.none _
   | refine LeO.ite ?_ ?_
   | refine LeO.bind ?_ (fun _ => ?_)
theorem code_Good.mono : ∀ a0 k, LeO (code_Good.f k a0) (code_Good.f (k + 1) a0) := by
 intro a0 k
 obtain ⟨ih0, ih1, ih2, ih3, ih4, ih5, ih6⟩ := code_Good.mono_l k
 unfold code_Good.f
 repeat' first
   | (with_reducible exact ih0 _ _)
   | (with_reducible exact ih1 _ _)
   | (with_reducible exact ih2 _ _ _ _)
   | (with_reducible exact ih3 _ _ _ _ _ _ _ _ _ _ _ _ _)
   | (with_reducible exact ih4 _ _ _ _ _ _ _ _ _ _ _ _ _)
   | (with_reducible exact ih5 _ _ _ _ _ _ _ _ _ _ _ _ _)
   | (with_reducible exact ih6 _ _ _ _ _ _ _)
   | (with_reducible exact code_Uses.mono _ _ _ _ _ _ _ _ _)
   | (with_reducible exact LeO.refl _)
   | (with_reducible exact LeO.none _)
   | (with_reducible refine LeO.ite ?_ ?_)
   | (with_reducible refine LeO.bind ?_ (fun _ => ?_))
   | exact ih0 _ _
   | exact ih1 _ _
   | exact ih2 _ _ _ _
   | exact ih3 _ _ _ _ _ _ _ _ _ _ _ _ _
   | exact ih4 _ _ _ _ _ _ _ _ _ _ _ _ _
   | exact ih5 _ _ _ _ _ _ _ _ _ _ _ _ _
   | exact ih6 _ _ _ _ _ _ _
   | exact code_Uses.mono _ _ _ _ _ _ _ _ _
   | exact LeO.none _
   | refine LeO.ite ?_ ?_
   | refine LeO.bind ?_ (fun _ => ?_)
set_option maxHeartbeats 8000000 in
set_option maxRecDepth 100000 in
theorem code_Good.calls (k : Nat) (A0 : Option Addr) (c0 : Nat) (l0 : List (S28)) (r : Bool) (w : World) (hr0 : Kd.C k28 w A0 l0.length l0) (hc0 : l0.length ≤ c0) (h : code_Good.f k l0 = some r) :
  Calls Try.prog 33 #[.slice A0 l0.length c0] w fun e w' => e = .returned (.bool r) ∧ Below w.heap.size w w' := by
 have hu28 := Try.underlying28
 have HR0 := Aside0.mk hr0
 have HC0 := Aside0.mk hc0
 clear hr0 hc0
 have HB := Aside0.mk (Below.refl w.heap.size w)
 have H : (if (l0.length : Int) = 0 then (code_Good.j0 k l0 true) else (code_Good.j0 k l0 (decide ((l0.length : Int) > 4096)))) = some r := h
 clear h
 have HC2 := Aside0.mk H
 clear H
 go_enter Try.func33, Try.ntmps33
 go_upto_region 1 with (fail)
 go_cut [19] (fun v19 wc => ∃ (kq : Nat) (x19_1 : Bool), v19 = .bool x19_1 ∧ Aside0 (code_Good.j0 kq l0 x19_1 = some r) ∧ Aside0 (kq ≤ k) ∧ Aside0 (Below w.heap.size w wc))
 case first =>
  have H := HC2.out
  clear HC2
  by_cases c3 : (l0.length : Int) = 0
  ·
   rw [if_pos c3] at H
   have c3b0 : ((l0.length : Int) == 0) = true := beq_iff_eq.mpr c3
   have c3b1 : ((l0.length : Int) != 0) = false := bne_eq_false_iff_eq.mpr c3
   clear c3
   (first | rw [c3b0] | (simp only [i64_w, i32_w]; rw [c3b0]) | skip)
   have H' := Aside0.mk H
   clear H
   go_wp2
   go_meet
   case rel => exact ⟨_, (true), (by first | rfl | (simp; done) | (simp [*]; done)), H', ⟨by first | omega | exact Nat.le_refl _⟩, ⟨by repeat (first | (with_reducible first | exact HB.out | apply below_alloc | apply pw_below_drewN | apply below_drew1) | exact HB.out)⟩⟩
  ·
   rw [if_neg c3] at H
   have c3b0 : ((l0.length : Int) == 0) = false := beq_eq_false_iff_ne.mpr c3
   have c3b1 : ((l0.length : Int) != 0) = true := bne_iff_ne.mpr c3
   have c3b2 : ¬ (l0 = []) := fun h_ => c3 (by rw [h_]; rfl)
   (first | rw [c3b0] | (simp only [i64_w, i32_w]; rw [c3b0]) | skip)
   have H' := Aside0.mk H
   clear H
   go_wp2
   go_meet
   case rel => exact ⟨_, (decide ((l0.length : Int) > 4096)), (by first | rfl | (simp; done) | (simp [*]; done)), H', ⟨by first | omega | exact Nat.le_refl _⟩, ⟨by repeat (first | (with_reducible first | exact HB.out | apply below_alloc | apply pw_below_drewN | apply below_drew1) | exact HB.out)⟩⟩
 case rest =>
  clear HC2
  try clear p2
  try clear c3
  try clear c3b0
  try clear c3b1
  try clear c3b2
  obtain ⟨kq, x19_1, rfl, HA, HJ1, HB⟩ := hcut
  cases kq with
  | zero => exact absurd HA.out (by simp [code_Good.j0])
  | succ kj1 =>
   have H := HA.out
   clear HA
   simp only [code_Good.j0] at H
   by_cases c4 : x19_1 = true
   ·
    subst c4
    have H1 : (some false) = some r := by rw [if_pos rfl] at H; exact H
    clear H
    have H := H1
    clear H1
    obtain rfl := Option.some.inj H
    go_wp2
    go_ret
    exact ⟨by first | rfl | (simp [errW_none, errW_some] <;> rfl) | (simp [*, errW_none, errW_some] <;> rfl), by repeat (first | (with_reducible first | exact HB.out | apply below_alloc | apply pw_below_drewN | apply below_drew1) | exact HB.out)⟩
   ·
    replace c4 := Bool.eq_false_iff.mpr c4
    subst c4
    have H1 : (if 0 ≤ (wrap64 ((l0.length : Int) - 1)) then (if (wrap64 ((l0.length : Int) - 1)) < (l0.length : Int) then (if ((rd_T28 l0 (wrap64 ((l0.length : Int) - 1))).f0) = 13 then (code_Good.j1 kj1 l0 false) else (code_Good.j1 kj1 l0 (((rd_T28 l0 (wrap64 ((l0.length : Int) - 1))).f0) != 6))) else (none)) else (none)) = some r := by rw [if_neg (show ¬ (false = true) by decide)] at H; exact H
    clear H
    have H := H1
    clear H1
    obtain ⟨ji5, hji5⟩ : ∃ j_ : Int, (wrap64 ((l0.length : Int) - 1)) = j_ := ⟨_, rfl⟩
    replace H : (if 0 ≤ (ji5) then (if (ji5) < (l0.length : Int) then (if ((rd_T28 l0 (ji5)).f0) = 13 then (code_Good.j1 kj1 l0 false) else (code_Good.j1 kj1 l0 (((rd_T28 l0 (ji5)).f0) != 6))) else (none)) else (none)) = some r := by first | (rw [hji5] at H; exact H) | (simp only [hji5] at H ⊢; exact H)
    have hji5w : (IntKind.i64.wrap ((l0.length : Int) - 1)) = ji5 := (i64_w _).trans hji5
    by_cases c6 : 0 ≤ (ji5)
    ·
     rw [if_pos c6] at H
     have c6b0 : decide (0 ≤ (ji5)) = true := decide_eq_true c6
     clear c6
     by_cases c7 : (ji5) < (l0.length : Int)
     ·
      rw [if_pos c7] at H
      have c7b0 : decide ((ji5) < (l0.length : Int)) = true := decide_eq_true c7
      clear c7
      have HC8 := Aside0.mk H
      clear H
      have p126 : 0 ≤ ((ji5) : Int) := of_decide_eq_true (by first | (with_reducible assumption) | assumption)
      have q126 : (ji5) < (l0.length : Int) := of_decide_eq_true (by first | (with_reducible assumption) | assumption)
      obtain ⟨ad126, e126, hx126_0, hx126_1, hx126_2, hx126_3, hx126_4, hx126_5, hx126_6, hx126_7⟩ := at_T28 HR0.out (ji5) p126 q126
      cases e126
      replace hx126_0 := (HB.out.cell (World.block_lt_of_cell? w _ hx126_0)).trans hx126_0
      replace hx126_1 := (HB.out.cell (World.block_lt_of_cell? w _ hx126_1)).trans hx126_1
      replace hx126_2 := (HB.out.cell (World.block_lt_of_cell? w _ hx126_2)).trans hx126_2
      replace hx126_3 := (HB.out.cell (World.block_lt_of_cell? w _ hx126_3)).trans hx126_3
      replace hx126_4 := (HB.out.cell (World.block_lt_of_cell? w _ hx126_4)).trans hx126_4
      replace hx126_5 := (HB.out.cell (World.block_lt_of_cell? w _ hx126_5)).trans hx126_5
      replace hx126_6 := (HB.out.cell (World.block_lt_of_cell? w _ hx126_6)).trans hx126_6
      replace hx126_7 := (HB.out.cell (World.block_lt_of_cell? w _ hx126_7)).trans hx126_7
      replace p126 := eq_true p126
      replace q126 := eq_true q126
      go_upto_region 4 with (fail)
      go_cut [32] (fun v32 wc => ∃ (kq : Nat) (x32_7 : Bool), v32 = .bool x32_7 ∧ Aside0 (code_Good.j1 kq l0 x32_7 = some r) ∧ Aside0 (kq ≤ kj1) ∧ Aside0 (Below w.heap.size w wc))
      case first =>
       have H := HC8.out
       clear HC8
       by_cases c9 : ((rd_T28 l0 (ji5)).f0) = 13
       ·
        rw [if_pos c9] at H
        have c9b0 : (((rd_T28 l0 (ji5)).f0) == 13) = true := beq_iff_eq.mpr c9
        have c9b1 : (((rd_T28 l0 (ji5)).f0) != 13) = false := bne_eq_false_iff_eq.mpr c9
        clear c9
        (first | rw [c9b0] | (simp only [i64_w, i32_w]; rw [c9b0]) | skip)
        have H' := Aside0.mk H
        clear H
        go_wp2
        go_meet
        case rel => exact ⟨_, (false), (by first | rfl | (simp; done) | (simp [*]; done)), H', ⟨by have := HJ1.out; first | omega | exact Nat.le_refl _⟩, ⟨by repeat (first | (with_reducible first | exact HB.out | apply below_alloc | apply pw_below_drewN | apply below_drew1) | exact HB.out)⟩⟩
       ·
        rw [if_neg c9] at H
        have c9b0 : (((rd_T28 l0 (ji5)).f0) == 13) = false := beq_eq_false_iff_ne.mpr c9
        have c9b1 : (((rd_T28 l0 (ji5)).f0) != 13) = true := bne_iff_ne.mpr c9
        (first | rw [c9b0] | (simp only [i64_w, i32_w]; rw [c9b0]) | skip)
        have H' := Aside0.mk H
        clear H
        go_wp2
        go_meet
        case rel => exact ⟨_, ((((rd_T28 l0 (ji5)).f0) != 6)), (by first | rfl | (simp; done) | (simp only [← hji5] <;> (first | rfl | simp)) | (simp [*]; done)), H', ⟨by have := HJ1.out; first | omega | exact Nat.le_refl _⟩, ⟨by repeat (first | (with_reducible first | exact HB.out | apply below_alloc | apply pw_below_drewN | apply below_drew1) | exact HB.out)⟩⟩
      case rest =>
       clear HC8
       try clear p1
       try clear q1
       try clear hx1
       try clear p2
       try clear c3
       try clear c3b0
       try clear c3b1
       try clear c3b2
       try clear c4
       try clear c6
       try clear c6b0
       try clear p6
       try clear c7
       try clear c7b0
       try clear c9
       try clear c9b0
       try clear c9b1
       try clear hx126_0
       try clear hx126_1
       try clear hx126_2
       try clear hx126_3
       try clear hx126_4
       try clear hx126_5
       try clear hx126_6
       try clear hx126_7
       try clear p126
       try clear p2
       try clear q126
       obtain ⟨kq, x32_7, rfl, HA, HJ7, HB⟩ := hcut
       cases kq with
       | zero => exact absurd HA.out (by simp [code_Good.j1])
       | succ kj7 =>
        have H := HA.out
        clear HA
        simp only [code_Good.j1] at H
        by_cases c10 : x32_7 = true
        ·
         subst c10
         have H1 : (some false) = some r := by rw [if_pos rfl] at H; exact H
         clear H
         have H := H1
         clear H1
         obtain rfl := Option.some.inj H
         go_wp2
         go_ret
         exact ⟨by first | rfl | (simp [errW_none, errW_some] <;> rfl) | (simp only [← hji5]; first | rfl | (simp [errW_none, errW_some] <;> rfl)) | (simp [*, errW_none, errW_some] <;> rfl), by repeat (first | (with_reducible first | exact HB.out | apply below_alloc | apply pw_below_drewN | apply below_drew1) | exact HB.out)⟩
        ·
         replace c10 := Bool.eq_false_iff.mpr c10
         subst c10
         have H1 : (code_Good.l0 kj7 l0 l0 (l0.length : Int) 0) = some r := by rw [if_neg (show ¬ (false = true) by decide)] at H; exact H
         clear H
         have H := H1
         clear H1
         have H' := Aside0.mk H
         clear H
         go_wp2
         go_loopg [35] kj7 (fun kq v35 w' => ∃ (x35_3 : Int), v35 = .int .i64 x35_3 ∧ Aside0 (code_Good.l0 kq l0 l0 (l0.length : Int) x35_3 = some r) ∧ Aside0 (kq ≤ kj7) ∧ Aside0 (Below w.heap.size w w'))
         case atStart => exact ⟨(0), (by first | rfl | (simp; done) | (simp [*]; done)), H', ⟨Nat.le_refl _⟩, ⟨by repeat (first | (with_reducible first | exact HB.out | apply below_alloc | apply pw_below_drewN | apply below_drew1) | exact HB.out)⟩⟩
         case round =>
          clear H'
          try clear c1
          try clear p1
          try clear q1
          try clear hx1
          try clear p2
          try clear c3
          try clear c3b0
          try clear c3b1
          try clear c3b2
          try clear c4
          try clear c6
          try clear c6b0
          try clear p6
          try clear c7
          try clear c7b0
          try clear c9
          try clear c9b0
          try clear c9b1
          try clear c10
          try clear hx126_0
          try clear hx126_1
          try clear hx126_2
          try clear hx126_3
          try clear hx126_4
          try clear hx126_5
          try clear hx126_6
          try clear hx126_7
          try clear p1
          try clear p126
          try clear p2
          try clear p6
          try clear q1
          try clear q126
          obtain ⟨x35_3, rfl, HA, HK3, HB⟩ := hrel
          cases gk with
          | zero => exact absurd HA.out (by simp [code_Good.l0])
          | succ k3 =>
           have H := HA.out
           clear HA
           simp only [code_Good.l0] at H
           by_cases c11 : x35_3 < (l0.length : Int)
           ·
            rw [if_pos c11] at H
            have c11b0 : decide (x35_3 < (l0.length : Int)) = true := decide_eq_true c11
            clear c11
            by_cases c12 : 0 ≤ x35_3
            ·
             rw [if_pos c12] at H
             have c12b0 : decide (0 ≤ x35_3) = true := decide_eq_true c12
             clear c12
             by_cases c13 : x35_3 < (l0.length : Int)
             ·
              rw [if_pos c13] at H
              have c13b0 : decide (x35_3 < (l0.length : Int)) = true := decide_eq_true c13
              clear c13
              have HC14 := Aside0.mk H
              clear H
              have p127 : 0 ≤ (x35_3 : Int) := of_decide_eq_true (by first | (with_reducible assumption) | assumption)
              have q127 : x35_3 < (l0.length : Int) := of_decide_eq_true (by first | (with_reducible assumption) | assumption)
              obtain ⟨ad127, e127, hx127_0, hx127_1, hx127_2, hx127_3, hx127_4, hx127_5, hx127_6, hx127_7⟩ := at_T28 HR0.out x35_3 p127 q127
              obtain rfl : ad126 = ad127 := (by injection e127)
              replace hx127_0 := (HB.out.cell (World.block_lt_of_cell? w _ hx127_0)).trans hx127_0
              replace hx127_1 := (HB.out.cell (World.block_lt_of_cell? w _ hx127_1)).trans hx127_1
              replace hx127_2 := (HB.out.cell (World.block_lt_of_cell? w _ hx127_2)).trans hx127_2
              replace hx127_3 := (HB.out.cell (World.block_lt_of_cell? w _ hx127_3)).trans hx127_3
              replace hx127_4 := (HB.out.cell (World.block_lt_of_cell? w _ hx127_4)).trans hx127_4
              replace hx127_5 := (HB.out.cell (World.block_lt_of_cell? w _ hx127_5)).trans hx127_5
              replace hx127_6 := (HB.out.cell (World.block_lt_of_cell? w _ hx127_6)).trans hx127_6
              replace hx127_7 := (HB.out.cell (World.block_lt_of_cell? w _ hx127_7)).trans hx127_7
              replace p127 := eq_true p127
              replace q127 := eq_true q127
              go_upto_region 9 with (first | ((with_reducible refine gate_dst (N := 5) rfl ?_); (try (refine gate_guard (by rfl) ?_; dsimp only)); refine box_event ?hg (N := 5) ?hd (cs := #[.int .i64 0, .int .i64 0, .int .i64 0, .int .i64 0, .int .i64 0, .int .i64 0, .int .u64 0, .int .i64 0]) (t := 28) ?hr ?_; (case hd => rfl); (case hg => rfl); (case hr => first | (go_simp; done) | (go_simp; rfl)); intro gb128 hg w15 hbox hb; have n0_ := Aside0.mk (below_step (by repeat (first | (with_reducible first | exact HB.out | apply below_alloc | apply pw_below_drewN | apply below_drew1) | exact HB.out)) hb); have n1_ := Aside0.mk (hbox); have n2_ := Aside0.mk ((by rw [hg]; exact (below_size (by repeat (first | (with_reducible first | exact HB.out | apply below_alloc | apply pw_below_drewN | apply below_drew1) | exact HB.out))) : w.heap.size ≤ gb128)); have n3_ := Aside0.mk ((by rw [hg]; exact (below_size (by repeat (first | (with_reducible first | exact HB.out | apply below_alloc | apply pw_below_drewN | apply below_drew1) | exact HB.out))) : w.heap.size ≤ gb128)); clear HB; have HB := n0_; have BK128 := n1_; have GW128 := n2_; have GE128 := n3_; clear n0_ n1_ n2_ n3_; clear hb hbox hg; have hcz16_0 : w15.cell? ⟨gb128, 0, none⟩ = some (.int .i64 0) := (blk_cell BK128.out 0).trans rfl; have hcz16_1 : w15.cell? ⟨gb128, 1, none⟩ = some (.int .i64 0) := (blk_cell BK128.out 1).trans rfl; have hcz16_2 : w15.cell? ⟨gb128, 2, none⟩ = some (.int .i64 0) := (blk_cell BK128.out 2).trans rfl; have hcz16_3 : w15.cell? ⟨gb128, 3, none⟩ = some (.int .i64 0) := (blk_cell BK128.out 3).trans rfl; have hcz16_4 : w15.cell? ⟨gb128, 4, none⟩ = some (.int .i64 0) := (blk_cell BK128.out 4).trans rfl; have hcz16_5 : w15.cell? ⟨gb128, 5, none⟩ = some (.int .i64 0) := (blk_cell BK128.out 5).trans rfl; have hcz16_6 : w15.cell? ⟨gb128, 6, none⟩ = some (.int .u64 0) := (blk_cell BK128.out 6).trans rfl; have hcz16_7 : w15.cell? ⟨gb128, 7, none⟩ = some (.int .i64 0) := (blk_cell BK128.out 7).trans rfl; have hfz16_0 := blk_frozen BK128.out 0; have hfz16_1 := blk_frozen BK128.out 1; have hfz16_2 := blk_frozen BK128.out 2; have hfz16_3 := blk_frozen BK128.out 3; have hfz16_4 := blk_frozen BK128.out 4; have hfz16_5 := blk_frozen BK128.out 5; have hfz16_6 := blk_frozen BK128.out 6; have hfz16_7 := blk_frozen BK128.out 7))
              (try simp only [Act.put, List.setIfInBounds_toArray, List.set_cons_zero, List.set_cons_succ])
              go_cut [57] (fun v57 wc => ∃ (kq : Nat) (x57_13 : Bool), v57 = .bool x57_13 ∧ Aside0 (code_Good.j3 kq l0 l0 (l0.length : Int) x35_3 x57_13 ((rd_T28 l0 x35_3).f0) ((rd_T28 l0 x35_3).f1) ((rd_T28 l0 x35_3).f2) ((rd_T28 l0 x35_3).f3) ((rd_T28 l0 x35_3).f4) ((rd_T28 l0 x35_3).f5) ((rd_T28 l0 x35_3).f6) ((rd_T28 l0 x35_3).f7) = some r) ∧ Aside0 (kq ≤ k3) ∧ Aside0 (wc.heap[gb128]? = some (.cells #[.int .i64 ((rd_T28 l0 x35_3).f0), .int .i64 ((rd_T28 l0 x35_3).f1), .int .i64 ((rd_T28 l0 x35_3).f2), .int .i64 ((rd_T28 l0 x35_3).f3), .int .i64 ((rd_T28 l0 x35_3).f4), .int .i64 ((rd_T28 l0 x35_3).f5), .int .u64 ((rd_T28 l0 x35_3).f6), .int .i64 ((rd_T28 l0 x35_3).f7)] 28 (0, 0))) ∧ Aside0 (Below w.heap.size w wc))
              case first =>
               have H := HC14.out
               clear HC14
               by_cases c17 : ((rd_T28 l0 x35_3).f0) < 0
               ·
                rw [if_pos c17] at H
                have c17b0 : decide (((rd_T28 l0 x35_3).f0) < 0) = true := decide_eq_true c17
                clear c17
                (first | rw [c17b0] | (simp only [i64_w, i32_w]; rw [c17b0]) | skip)
                have H' := Aside0.mk H
                clear H
                have hcz18_0 : w15.cell? ⟨gb128, 0, none⟩ = some (.int .i64 0) := (blk_cell BK128.out 0).trans rfl
                have hcz18_1 : w15.cell? ⟨gb128, 1, none⟩ = some (.int .i64 0) := (blk_cell BK128.out 1).trans rfl
                have hcz18_2 : w15.cell? ⟨gb128, 2, none⟩ = some (.int .i64 0) := (blk_cell BK128.out 2).trans rfl
                have hcz18_3 : w15.cell? ⟨gb128, 3, none⟩ = some (.int .i64 0) := (blk_cell BK128.out 3).trans rfl
                have hcz18_4 : w15.cell? ⟨gb128, 4, none⟩ = some (.int .i64 0) := (blk_cell BK128.out 4).trans rfl
                have hcz18_5 : w15.cell? ⟨gb128, 5, none⟩ = some (.int .i64 0) := (blk_cell BK128.out 5).trans rfl
                have hcz18_6 : w15.cell? ⟨gb128, 6, none⟩ = some (.int .u64 0) := (blk_cell BK128.out 6).trans rfl
                have hcz18_7 : w15.cell? ⟨gb128, 7, none⟩ = some (.int .i64 0) := (blk_cell BK128.out 7).trans rfl
                have hfz18_0 := blk_frozen BK128.out 0
                have hfz18_1 := blk_frozen BK128.out 1
                have hfz18_2 := blk_frozen BK128.out 2
                have hfz18_3 := blk_frozen BK128.out 3
                have hfz18_4 := blk_frozen BK128.out 4
                have hfz18_5 := blk_frozen BK128.out 5
                have hfz18_6 := blk_frozen BK128.out 6
                have hfz18_7 := blk_frozen BK128.out 7
                go_wp2
                go_meet
                case rel => exact ⟨_, (true), (by first | rfl | (simp; done) | (simp [*]; done)), H', ⟨by have := HJ1.out; have := HJ7.out; have := HK3.out; first | omega | exact Nat.le_refl _⟩, ⟨by (with_reducible repeat (first | refine blk_drewN ?_ _ | refine blk_drew ?_ | refine blk_alloc ?_ _)); refine blk_put (cs := #[.int .i64 ((rd_T28 l0 x35_3).f0), .int .i64 ((rd_T28 l0 x35_3).f1), .int .i64 ((rd_T28 l0 x35_3).f2), .int .i64 ((rd_T28 l0 x35_3).f3), .int .i64 ((rd_T28 l0 x35_3).f4), .int .i64 ((rd_T28 l0 x35_3).f5), .int .u64 ((rd_T28 l0 x35_3).f6), .int .i64 0]) ?_ 7 _ rfl; (with_reducible repeat (first | refine blk_drewN ?_ _ | refine blk_drew ?_ | refine blk_alloc ?_ _)); refine blk_put (cs := #[.int .i64 ((rd_T28 l0 x35_3).f0), .int .i64 ((rd_T28 l0 x35_3).f1), .int .i64 ((rd_T28 l0 x35_3).f2), .int .i64 ((rd_T28 l0 x35_3).f3), .int .i64 ((rd_T28 l0 x35_3).f4), .int .i64 ((rd_T28 l0 x35_3).f5), .int .u64 0, .int .i64 0]) ?_ 6 _ rfl; (with_reducible repeat (first | refine blk_drewN ?_ _ | refine blk_drew ?_ | refine blk_alloc ?_ _)); refine blk_put (cs := #[.int .i64 ((rd_T28 l0 x35_3).f0), .int .i64 ((rd_T28 l0 x35_3).f1), .int .i64 ((rd_T28 l0 x35_3).f2), .int .i64 ((rd_T28 l0 x35_3).f3), .int .i64 ((rd_T28 l0 x35_3).f4), .int .i64 0, .int .u64 0, .int .i64 0]) ?_ 5 _ rfl; (with_reducible repeat (first | refine blk_drewN ?_ _ | refine blk_drew ?_ | refine blk_alloc ?_ _)); refine blk_put (cs := #[.int .i64 ((rd_T28 l0 x35_3).f0), .int .i64 ((rd_T28 l0 x35_3).f1), .int .i64 ((rd_T28 l0 x35_3).f2), .int .i64 ((rd_T28 l0 x35_3).f3), .int .i64 0, .int .i64 0, .int .u64 0, .int .i64 0]) ?_ 4 _ rfl; (with_reducible repeat (first | refine blk_drewN ?_ _ | refine blk_drew ?_ | refine blk_alloc ?_ _)); refine blk_put (cs := #[.int .i64 ((rd_T28 l0 x35_3).f0), .int .i64 ((rd_T28 l0 x35_3).f1), .int .i64 ((rd_T28 l0 x35_3).f2), .int .i64 0, .int .i64 0, .int .i64 0, .int .u64 0, .int .i64 0]) ?_ 3 _ rfl; (with_reducible repeat (first | refine blk_drewN ?_ _ | refine blk_drew ?_ | refine blk_alloc ?_ _)); refine blk_put (cs := #[.int .i64 ((rd_T28 l0 x35_3).f0), .int .i64 ((rd_T28 l0 x35_3).f1), .int .i64 0, .int .i64 0, .int .i64 0, .int .i64 0, .int .u64 0, .int .i64 0]) ?_ 2 _ rfl; (with_reducible repeat (first | refine blk_drewN ?_ _ | refine blk_drew ?_ | refine blk_alloc ?_ _)); refine blk_put (cs := #[.int .i64 ((rd_T28 l0 x35_3).f0), .int .i64 0, .int .i64 0, .int .i64 0, .int .i64 0, .int .i64 0, .int .u64 0, .int .i64 0]) ?_ 1 _ rfl; (with_reducible repeat (first | refine blk_drewN ?_ _ | refine blk_drew ?_ | refine blk_alloc ?_ _)); refine blk_put (cs := #[.int .i64 0, .int .i64 0, .int .i64 0, .int .i64 0, .int .i64 0, .int .i64 0, .int .u64 0, .int .i64 0]) ?_ 0 _ rfl; (with_reducible repeat (first | refine blk_drewN ?_ _ | refine blk_drew ?_ | refine blk_alloc ?_ _)); exact BK128.out⟩, ⟨by repeat (first | (with_reducible first | exact HB.out | apply below_alloc | apply pw_below_drewN | apply below_drew1 | refine below_set ?_ GE128.out) | exact HB.out)⟩⟩
               ·
                rw [if_neg c17] at H
                have c17b0 : decide (((rd_T28 l0 x35_3).f0) < 0) = false := decide_eq_false c17
                clear c17
                (first | rw [c17b0] | (simp only [i64_w, i32_w]; rw [c17b0]) | skip)
                by_cases c19 : ((rd_T28 l0 x35_3).f0) > 13
                ·
                 rw [if_pos c19] at H
                 have c19b0 : decide (13 < ((rd_T28 l0 x35_3).f0)) = true := decide_eq_true c19
                 clear c19
                 have H' := Aside0.mk H
                 clear H
                 have hcz20_0 : w15.cell? ⟨gb128, 0, none⟩ = some (.int .i64 0) := (blk_cell BK128.out 0).trans rfl
                 have hcz20_1 : w15.cell? ⟨gb128, 1, none⟩ = some (.int .i64 0) := (blk_cell BK128.out 1).trans rfl
                 have hcz20_2 : w15.cell? ⟨gb128, 2, none⟩ = some (.int .i64 0) := (blk_cell BK128.out 2).trans rfl
                 have hcz20_3 : w15.cell? ⟨gb128, 3, none⟩ = some (.int .i64 0) := (blk_cell BK128.out 3).trans rfl
                 have hcz20_4 : w15.cell? ⟨gb128, 4, none⟩ = some (.int .i64 0) := (blk_cell BK128.out 4).trans rfl
                 have hcz20_5 : w15.cell? ⟨gb128, 5, none⟩ = some (.int .i64 0) := (blk_cell BK128.out 5).trans rfl
                 have hcz20_6 : w15.cell? ⟨gb128, 6, none⟩ = some (.int .u64 0) := (blk_cell BK128.out 6).trans rfl
                 have hcz20_7 : w15.cell? ⟨gb128, 7, none⟩ = some (.int .i64 0) := (blk_cell BK128.out 7).trans rfl
                 have hfz20_0 := blk_frozen BK128.out 0
                 have hfz20_1 := blk_frozen BK128.out 1
                 have hfz20_2 := blk_frozen BK128.out 2
                 have hfz20_3 := blk_frozen BK128.out 3
                 have hfz20_4 := blk_frozen BK128.out 4
                 have hfz20_5 := blk_frozen BK128.out 5
                 have hfz20_6 := blk_frozen BK128.out 6
                 have hfz20_7 := blk_frozen BK128.out 7
                 go_wp2
                 go_meet
                 case rel => exact ⟨_, (true), (by first | rfl | (simp; done) | (simp [*]; done)), H', ⟨by have := HJ1.out; have := HJ7.out; have := HK3.out; first | omega | exact Nat.le_refl _⟩, ⟨by (with_reducible repeat (first | refine blk_drewN ?_ _ | refine blk_drew ?_ | refine blk_alloc ?_ _)); refine blk_put (cs := #[.int .i64 ((rd_T28 l0 x35_3).f0), .int .i64 ((rd_T28 l0 x35_3).f1), .int .i64 ((rd_T28 l0 x35_3).f2), .int .i64 ((rd_T28 l0 x35_3).f3), .int .i64 ((rd_T28 l0 x35_3).f4), .int .i64 ((rd_T28 l0 x35_3).f5), .int .u64 ((rd_T28 l0 x35_3).f6), .int .i64 0]) ?_ 7 _ rfl; (with_reducible repeat (first | refine blk_drewN ?_ _ | refine blk_drew ?_ | refine blk_alloc ?_ _)); refine blk_put (cs := #[.int .i64 ((rd_T28 l0 x35_3).f0), .int .i64 ((rd_T28 l0 x35_3).f1), .int .i64 ((rd_T28 l0 x35_3).f2), .int .i64 ((rd_T28 l0 x35_3).f3), .int .i64 ((rd_T28 l0 x35_3).f4), .int .i64 ((rd_T28 l0 x35_3).f5), .int .u64 0, .int .i64 0]) ?_ 6 _ rfl; (with_reducible repeat (first | refine blk_drewN ?_ _ | refine blk_drew ?_ | refine blk_alloc ?_ _)); refine blk_put (cs := #[.int .i64 ((rd_T28 l0 x35_3).f0), .int .i64 ((rd_T28 l0 x35_3).f1), .int .i64 ((rd_T28 l0 x35_3).f2), .int .i64 ((rd_T28 l0 x35_3).f3), .int .i64 ((rd_T28 l0 x35_3).f4), .int .i64 0, .int .u64 0, .int .i64 0]) ?_ 5 _ rfl; (with_reducible repeat (first | refine blk_drewN ?_ _ | refine blk_drew ?_ | refine blk_alloc ?_ _)); refine blk_put (cs := #[.int .i64 ((rd_T28 l0 x35_3).f0), .int .i64 ((rd_T28 l0 x35_3).f1), .int .i64 ((rd_T28 l0 x35_3).f2), .int .i64 ((rd_T28 l0 x35_3).f3), .int .i64 0, .int .i64 0, .int .u64 0, .int .i64 0]) ?_ 4 _ rfl; (with_reducible repeat (first | refine blk_drewN ?_ _ | refine blk_drew ?_ | refine blk_alloc ?_ _)); refine blk_put (cs := #[.int .i64 ((rd_T28 l0 x35_3).f0), .int .i64 ((rd_T28 l0 x35_3).f1), .int .i64 ((rd_T28 l0 x35_3).f2), .int .i64 0, .int .i64 0, .int .i64 0, .int .u64 0, .int .i64 0]) ?_ 3 _ rfl; (with_reducible repeat (first | refine blk_drewN ?_ _ | refine blk_drew ?_ | refine blk_alloc ?_ _)); refine blk_put (cs := #[.int .i64 ((rd_T28 l0 x35_3).f0), .int .i64 ((rd_T28 l0 x35_3).f1), .int .i64 0, .int .i64 0, .int .i64 0, .int .i64 0, .int .u64 0, .int .i64 0]) ?_ 2 _ rfl; (with_reducible repeat (first | refine blk_drewN ?_ _ | refine blk_drew ?_ | refine blk_alloc ?_ _)); refine blk_put (cs := #[.int .i64 ((rd_T28 l0 x35_3).f0), .int .i64 0, .int .i64 0, .int .i64 0, .int .i64 0, .int .i64 0, .int .u64 0, .int .i64 0]) ?_ 1 _ rfl; (with_reducible repeat (first | refine blk_drewN ?_ _ | refine blk_drew ?_ | refine blk_alloc ?_ _)); refine blk_put (cs := #[.int .i64 0, .int .i64 0, .int .i64 0, .int .i64 0, .int .i64 0, .int .i64 0, .int .u64 0, .int .i64 0]) ?_ 0 _ rfl; (with_reducible repeat (first | refine blk_drewN ?_ _ | refine blk_drew ?_ | refine blk_alloc ?_ _)); exact BK128.out⟩, ⟨by repeat (first | (with_reducible first | exact HB.out | apply below_alloc | apply pw_below_drewN | apply below_drew1 | refine below_set ?_ GE128.out) | exact HB.out)⟩⟩
                ·
                 rw [if_neg c19] at H
                 have c19b0 : decide (13 < ((rd_T28 l0 x35_3).f0)) = false := decide_eq_false c19
                 clear c19
                 by_cases c21 : ((rd_T28 l0 x35_3).f0) = 2
                 ·
                  rw [if_pos c21] at H
                  have c21b0 : (((rd_T28 l0 x35_3).f0) == 2) = true := beq_iff_eq.mpr c21
                  have c21b1 : (((rd_T28 l0 x35_3).f0) != 2) = false := bne_eq_false_iff_eq.mpr c21
                  clear c21
                  replace H := Option.bind_eq_some_iff.mp H
                  obtain ⟨t129, A220, H⟩ := H
                  replace H : (code_Good.j3 k3 l0 l0 (l0.length : Int) x35_3 (t129 == 0) ((rd_T28 l0 x35_3).f0) ((rd_T28 l0 x35_3).f1) ((rd_T28 l0 x35_3).f2) ((rd_T28 l0 x35_3).f3) ((rd_T28 l0 x35_3).f4) ((rd_T28 l0 x35_3).f5) ((rd_T28 l0 x35_3).f6) ((rd_T28 l0 x35_3).f7)) = some r := H
                  have A22 := Aside0.mk A220
                  clear A220
                  have H' := Aside0.mk H
                  clear H
                  have hcz23_0 : w15.cell? ⟨gb128, 0, none⟩ = some (.int .i64 0) := (blk_cell BK128.out 0).trans rfl
                  have hcz23_1 : w15.cell? ⟨gb128, 1, none⟩ = some (.int .i64 0) := (blk_cell BK128.out 1).trans rfl
                  have hcz23_2 : w15.cell? ⟨gb128, 2, none⟩ = some (.int .i64 0) := (blk_cell BK128.out 2).trans rfl
                  have hcz23_3 : w15.cell? ⟨gb128, 3, none⟩ = some (.int .i64 0) := (blk_cell BK128.out 3).trans rfl
                  have hcz23_4 : w15.cell? ⟨gb128, 4, none⟩ = some (.int .i64 0) := (blk_cell BK128.out 4).trans rfl
                  have hcz23_5 : w15.cell? ⟨gb128, 5, none⟩ = some (.int .i64 0) := (blk_cell BK128.out 5).trans rfl
                  have hcz23_6 : w15.cell? ⟨gb128, 6, none⟩ = some (.int .u64 0) := (blk_cell BK128.out 6).trans rfl
                  have hcz23_7 : w15.cell? ⟨gb128, 7, none⟩ = some (.int .i64 0) := (blk_cell BK128.out 7).trans rfl
                  have hfz23_0 := blk_frozen BK128.out 0
                  have hfz23_1 := blk_frozen BK128.out 1
                  have hfz23_2 := blk_frozen BK128.out 2
                  have hfz23_3 := blk_frozen BK128.out 3
                  have hfz23_4 := blk_frozen BK128.out 4
                  have hfz23_5 := blk_frozen BK128.out 5
                  have hfz23_6 := blk_frozen BK128.out 6
                  have hfz23_7 := blk_frozen BK128.out 7
                  go_wp2_with (first | (go_at_call 50; (with_reducible refine (word_Tight.calls ((rd_T28 l0 x35_3).f1) t129 _ A22.out).mono ?_); rintro e w24 ⟨rfl, hb⟩; have n0_ := Aside0.mk (blk_below (g := gb128) (o := .cells #[.int .i64 ((rd_T28 l0 x35_3).f0), .int .i64 ((rd_T28 l0 x35_3).f1), .int .i64 ((rd_T28 l0 x35_3).f2), .int .i64 ((rd_T28 l0 x35_3).f3), .int .i64 ((rd_T28 l0 x35_3).f4), .int .i64 ((rd_T28 l0 x35_3).f5), .int .u64 ((rd_T28 l0 x35_3).f6), .int .i64 ((rd_T28 l0 x35_3).f7)] 28 (0, 0)) (by (with_reducible repeat (first | refine blk_drewN ?_ _ | refine blk_drew ?_ | refine blk_alloc ?_ _)); refine blk_put (cs := #[.int .i64 ((rd_T28 l0 x35_3).f0), .int .i64 ((rd_T28 l0 x35_3).f1), .int .i64 ((rd_T28 l0 x35_3).f2), .int .i64 ((rd_T28 l0 x35_3).f3), .int .i64 ((rd_T28 l0 x35_3).f4), .int .i64 ((rd_T28 l0 x35_3).f5), .int .u64 ((rd_T28 l0 x35_3).f6), .int .i64 0]) ?_ 7 _ rfl; (with_reducible repeat (first | refine blk_drewN ?_ _ | refine blk_drew ?_ | refine blk_alloc ?_ _)); refine blk_put (cs := #[.int .i64 ((rd_T28 l0 x35_3).f0), .int .i64 ((rd_T28 l0 x35_3).f1), .int .i64 ((rd_T28 l0 x35_3).f2), .int .i64 ((rd_T28 l0 x35_3).f3), .int .i64 ((rd_T28 l0 x35_3).f4), .int .i64 ((rd_T28 l0 x35_3).f5), .int .u64 0, .int .i64 0]) ?_ 6 _ rfl; (with_reducible repeat (first | refine blk_drewN ?_ _ | refine blk_drew ?_ | refine blk_alloc ?_ _)); refine blk_put (cs := #[.int .i64 ((rd_T28 l0 x35_3).f0), .int .i64 ((rd_T28 l0 x35_3).f1), .int .i64 ((rd_T28 l0 x35_3).f2), .int .i64 ((rd_T28 l0 x35_3).f3), .int .i64 ((rd_T28 l0 x35_3).f4), .int .i64 0, .int .u64 0, .int .i64 0]) ?_ 5 _ rfl; (with_reducible repeat (first | refine blk_drewN ?_ _ | refine blk_drew ?_ | refine blk_alloc ?_ _)); refine blk_put (cs := #[.int .i64 ((rd_T28 l0 x35_3).f0), .int .i64 ((rd_T28 l0 x35_3).f1), .int .i64 ((rd_T28 l0 x35_3).f2), .int .i64 ((rd_T28 l0 x35_3).f3), .int .i64 0, .int .i64 0, .int .u64 0, .int .i64 0]) ?_ 4 _ rfl; (with_reducible repeat (first | refine blk_drewN ?_ _ | refine blk_drew ?_ | refine blk_alloc ?_ _)); refine blk_put (cs := #[.int .i64 ((rd_T28 l0 x35_3).f0), .int .i64 ((rd_T28 l0 x35_3).f1), .int .i64 ((rd_T28 l0 x35_3).f2), .int .i64 0, .int .i64 0, .int .i64 0, .int .u64 0, .int .i64 0]) ?_ 3 _ rfl; (with_reducible repeat (first | refine blk_drewN ?_ _ | refine blk_drew ?_ | refine blk_alloc ?_ _)); refine blk_put (cs := #[.int .i64 ((rd_T28 l0 x35_3).f0), .int .i64 ((rd_T28 l0 x35_3).f1), .int .i64 0, .int .i64 0, .int .i64 0, .int .i64 0, .int .u64 0, .int .i64 0]) ?_ 2 _ rfl; (with_reducible repeat (first | refine blk_drewN ?_ _ | refine blk_drew ?_ | refine blk_alloc ?_ _)); refine blk_put (cs := #[.int .i64 ((rd_T28 l0 x35_3).f0), .int .i64 0, .int .i64 0, .int .i64 0, .int .i64 0, .int .i64 0, .int .u64 0, .int .i64 0]) ?_ 1 _ rfl; (with_reducible repeat (first | refine blk_drewN ?_ _ | refine blk_drew ?_ | refine blk_alloc ?_ _)); refine blk_put (cs := #[.int .i64 0, .int .i64 0, .int .i64 0, .int .i64 0, .int .i64 0, .int .i64 0, .int .u64 0, .int .i64 0]) ?_ 0 _ rfl; (with_reducible repeat (first | refine blk_drewN ?_ _ | refine blk_drew ?_ | refine blk_alloc ?_ _)); exact BK128.out) hb); have n1_ := Aside0.mk (below_step (by repeat (first | (with_reducible first | exact HB.out | apply below_alloc | apply pw_below_drewN | apply below_drew1 | refine below_set ?_ GE128.out) | exact HB.out)) hb); clear BK128; clear HB; have BK128 := n0_; have HB := n1_; clear n0_ n1_; (try clear hb); (try clear hb2); (try clear hk); (try clear hi)))
                  go_meet
                  case rel => exact ⟨_, ((t129 == 0)), (by first | rfl | (simp; done) | (simp [*]; done)), H', ⟨by have := HJ1.out; have := HJ7.out; have := HK3.out; first | omega | exact Nat.le_refl _⟩, ⟨by (with_reducible repeat (first | refine blk_drewN ?_ _ | refine blk_drew ?_ | refine blk_alloc ?_ _)); exact BK128.out⟩, ⟨by repeat (first | (with_reducible first | exact HB.out | apply below_alloc | apply pw_below_drewN | apply below_drew1 | refine below_set ?_ GE128.out) | exact HB.out)⟩⟩
                 ·
                  rw [if_neg c21] at H
                  have c21b0 : (((rd_T28 l0 x35_3).f0) == 2) = false := beq_eq_false_iff_ne.mpr c21
                  have c21b1 : (((rd_T28 l0 x35_3).f0) != 2) = true := bne_iff_ne.mpr c21
                  have H' := Aside0.mk H
                  clear H
                  have hcz25_0 : w15.cell? ⟨gb128, 0, none⟩ = some (.int .i64 0) := (blk_cell BK128.out 0).trans rfl
                  have hcz25_1 : w15.cell? ⟨gb128, 1, none⟩ = some (.int .i64 0) := (blk_cell BK128.out 1).trans rfl
                  have hcz25_2 : w15.cell? ⟨gb128, 2, none⟩ = some (.int .i64 0) := (blk_cell BK128.out 2).trans rfl
                  have hcz25_3 : w15.cell? ⟨gb128, 3, none⟩ = some (.int .i64 0) := (blk_cell BK128.out 3).trans rfl
                  have hcz25_4 : w15.cell? ⟨gb128, 4, none⟩ = some (.int .i64 0) := (blk_cell BK128.out 4).trans rfl
                  have hcz25_5 : w15.cell? ⟨gb128, 5, none⟩ = some (.int .i64 0) := (blk_cell BK128.out 5).trans rfl
                  have hcz25_6 : w15.cell? ⟨gb128, 6, none⟩ = some (.int .u64 0) := (blk_cell BK128.out 6).trans rfl
                  have hcz25_7 : w15.cell? ⟨gb128, 7, none⟩ = some (.int .i64 0) := (blk_cell BK128.out 7).trans rfl
                  have hfz25_0 := blk_frozen BK128.out 0
                  have hfz25_1 := blk_frozen BK128.out 1
                  have hfz25_2 := blk_frozen BK128.out 2
                  have hfz25_3 := blk_frozen BK128.out 3
                  have hfz25_4 := blk_frozen BK128.out 4
                  have hfz25_5 := blk_frozen BK128.out 5
                  have hfz25_6 := blk_frozen BK128.out 6
                  have hfz25_7 := blk_frozen BK128.out 7
                  go_wp2
                  go_meet
                  case rel => exact ⟨_, (false), (by first | rfl | (simp; done) | (simp [*]; done)), H', ⟨by have := HJ1.out; have := HJ7.out; have := HK3.out; first | omega | exact Nat.le_refl _⟩, ⟨by (with_reducible repeat (first | refine blk_drewN ?_ _ | refine blk_drew ?_ | refine blk_alloc ?_ _)); refine blk_put (cs := #[.int .i64 ((rd_T28 l0 x35_3).f0), .int .i64 ((rd_T28 l0 x35_3).f1), .int .i64 ((rd_T28 l0 x35_3).f2), .int .i64 ((rd_T28 l0 x35_3).f3), .int .i64 ((rd_T28 l0 x35_3).f4), .int .i64 ((rd_T28 l0 x35_3).f5), .int .u64 ((rd_T28 l0 x35_3).f6), .int .i64 0]) ?_ 7 _ rfl; (with_reducible repeat (first | refine blk_drewN ?_ _ | refine blk_drew ?_ | refine blk_alloc ?_ _)); refine blk_put (cs := #[.int .i64 ((rd_T28 l0 x35_3).f0), .int .i64 ((rd_T28 l0 x35_3).f1), .int .i64 ((rd_T28 l0 x35_3).f2), .int .i64 ((rd_T28 l0 x35_3).f3), .int .i64 ((rd_T28 l0 x35_3).f4), .int .i64 ((rd_T28 l0 x35_3).f5), .int .u64 0, .int .i64 0]) ?_ 6 _ rfl; (with_reducible repeat (first | refine blk_drewN ?_ _ | refine blk_drew ?_ | refine blk_alloc ?_ _)); refine blk_put (cs := #[.int .i64 ((rd_T28 l0 x35_3).f0), .int .i64 ((rd_T28 l0 x35_3).f1), .int .i64 ((rd_T28 l0 x35_3).f2), .int .i64 ((rd_T28 l0 x35_3).f3), .int .i64 ((rd_T28 l0 x35_3).f4), .int .i64 0, .int .u64 0, .int .i64 0]) ?_ 5 _ rfl; (with_reducible repeat (first | refine blk_drewN ?_ _ | refine blk_drew ?_ | refine blk_alloc ?_ _)); refine blk_put (cs := #[.int .i64 ((rd_T28 l0 x35_3).f0), .int .i64 ((rd_T28 l0 x35_3).f1), .int .i64 ((rd_T28 l0 x35_3).f2), .int .i64 ((rd_T28 l0 x35_3).f3), .int .i64 0, .int .i64 0, .int .u64 0, .int .i64 0]) ?_ 4 _ rfl; (with_reducible repeat (first | refine blk_drewN ?_ _ | refine blk_drew ?_ | refine blk_alloc ?_ _)); refine blk_put (cs := #[.int .i64 ((rd_T28 l0 x35_3).f0), .int .i64 ((rd_T28 l0 x35_3).f1), .int .i64 ((rd_T28 l0 x35_3).f2), .int .i64 0, .int .i64 0, .int .i64 0, .int .u64 0, .int .i64 0]) ?_ 3 _ rfl; (with_reducible repeat (first | refine blk_drewN ?_ _ | refine blk_drew ?_ | refine blk_alloc ?_ _)); refine blk_put (cs := #[.int .i64 ((rd_T28 l0 x35_3).f0), .int .i64 ((rd_T28 l0 x35_3).f1), .int .i64 0, .int .i64 0, .int .i64 0, .int .i64 0, .int .u64 0, .int .i64 0]) ?_ 2 _ rfl; (with_reducible repeat (first | refine blk_drewN ?_ _ | refine blk_drew ?_ | refine blk_alloc ?_ _)); refine blk_put (cs := #[.int .i64 ((rd_T28 l0 x35_3).f0), .int .i64 0, .int .i64 0, .int .i64 0, .int .i64 0, .int .i64 0, .int .u64 0, .int .i64 0]) ?_ 1 _ rfl; (with_reducible repeat (first | refine blk_drewN ?_ _ | refine blk_drew ?_ | refine blk_alloc ?_ _)); refine blk_put (cs := #[.int .i64 0, .int .i64 0, .int .i64 0, .int .i64 0, .int .i64 0, .int .i64 0, .int .u64 0, .int .i64 0]) ?_ 0 _ rfl; (with_reducible repeat (first | refine blk_drewN ?_ _ | refine blk_drew ?_ | refine blk_alloc ?_ _)); exact BK128.out⟩, ⟨by repeat (first | (with_reducible first | exact HB.out | apply below_alloc | apply pw_below_drewN | apply below_drew1 | refine below_set ?_ GE128.out) | exact HB.out)⟩⟩
              case rest =>
               clear HC14
               try clear c1
               try clear p1
               try clear q1
               try clear hx1
               try clear c2
               try clear p2
               try clear c3
               try clear c3b0
               try clear c3b1
               try clear c3b2
               try clear c4
               try clear c6
               try clear c6b0
               try clear p6
               try clear c7
               try clear c7b0
               try clear c9
               try clear c9b0
               try clear c9b1
               try clear c10
               try clear c11
               try clear c11b0
               try clear c12
               try clear c12b0
               try clear p12
               try clear q12
               try clear hx12
               try clear c13
               try clear c13b0
               try clear c17
               try clear c17b0
               try clear c19
               try clear c19b0
               try clear c21
               try clear c21b0
               try clear c21b1
               try clear hcz16_0
               try clear hcz16_1
               try clear hcz16_2
               try clear hcz16_3
               try clear hcz16_4
               try clear hcz16_5
               try clear hcz16_6
               try clear hcz16_7
               try clear hcz18_0
               try clear hcz18_1
               try clear hcz18_2
               try clear hcz18_3
               try clear hcz18_4
               try clear hcz18_5
               try clear hcz18_6
               try clear hcz18_7
               try clear hcz20_0
               try clear hcz20_1
               try clear hcz20_2
               try clear hcz20_3
               try clear hcz20_4
               try clear hcz20_5
               try clear hcz20_6
               try clear hcz20_7
               try clear hcz23_0
               try clear hcz23_1
               try clear hcz23_2
               try clear hcz23_3
               try clear hcz23_4
               try clear hcz23_5
               try clear hcz23_6
               try clear hcz23_7
               try clear hcz25_0
               try clear hcz25_1
               try clear hcz25_2
               try clear hcz25_3
               try clear hcz25_4
               try clear hcz25_5
               try clear hcz25_6
               try clear hcz25_7
               try clear hfz16_0
               try clear hfz16_1
               try clear hfz16_2
               try clear hfz16_3
               try clear hfz16_4
               try clear hfz16_5
               try clear hfz16_6
               try clear hfz16_7
               try clear hfz18_0
               try clear hfz18_1
               try clear hfz18_2
               try clear hfz18_3
               try clear hfz18_4
               try clear hfz18_5
               try clear hfz18_6
               try clear hfz18_7
               try clear hfz20_0
               try clear hfz20_1
               try clear hfz20_2
               try clear hfz20_3
               try clear hfz20_4
               try clear hfz20_5
               try clear hfz20_6
               try clear hfz20_7
               try clear hfz23_0
               try clear hfz23_1
               try clear hfz23_2
               try clear hfz23_3
               try clear hfz23_4
               try clear hfz23_5
               try clear hfz23_6
               try clear hfz23_7
               try clear hfz25_0
               try clear hfz25_1
               try clear hfz25_2
               try clear hfz25_3
               try clear hfz25_4
               try clear hfz25_5
               try clear hfz25_6
               try clear hfz25_7
               try clear hx126_0
               try clear hx126_1
               try clear hx126_2
               try clear hx126_3
               try clear hx126_4
               try clear hx126_5
               try clear hx126_6
               try clear hx126_7
               try clear hx127_0
               try clear hx127_1
               try clear hx127_2
               try clear hx127_3
               try clear hx127_4
               try clear hx127_5
               try clear hx127_6
               try clear hx127_7
               try clear p1
               try clear p126
               try clear p127
               try clear p2
               try clear p6
               try clear q1
               try clear q126
               try clear q127
               obtain ⟨kq, x57_13, rfl, HA, HJ13, BK128, HB⟩ := hcut
               cases kq with
               | zero => exact absurd HA.out (by simp [code_Good.j3])
               | succ kj13 =>
                have H := HA.out
                clear HA
                simp only [code_Good.j3] at H
                by_cases c26 : x57_13 = true
                ·
                 subst c26
                 have H1 : (some false) = some r := by rw [if_pos rfl] at H; exact H
                 clear H
                 have H := H1
                 clear H1
                 obtain rfl := Option.some.inj H
                 go_wp2
                 go_ret
                 exact ⟨by first | rfl | (simp [errW_none, errW_some] <;> rfl) | (simp only [← hji5]; first | rfl | (simp [errW_none, errW_some] <;> rfl)) | (simp [*, errW_none, errW_some] <;> rfl), by repeat (first | (with_reducible first | exact HB.out | apply below_alloc | apply pw_below_drewN | apply below_drew1 | refine below_set ?_ GE128.out) | exact HB.out)⟩
                ·
                 replace c26 := Bool.eq_false_iff.mpr c26
                 subst c26
                 have H1 : ((code_Jumps.f ((rd_T28 l0 x35_3).f0) ((rd_T28 l0 x35_3).f1) ((rd_T28 l0 x35_3).f2) ((rd_T28 l0 x35_3).f3) ((rd_T28 l0 x35_3).f4) ((rd_T28 l0 x35_3).f5) ((rd_T28 l0 x35_3).f6) ((rd_T28 l0 x35_3).f7)).bind fun bt130 => (if bt130.1 = true then (if ((rd_T28 l0 x35_3).f7) < 0 then (code_Good.j4 kj13 l0 l0 (l0.length : Int) x35_3 true ((rd_T28 l0 x35_3).f0) ((rd_T28 l0 x35_3).f1) ((rd_T28 l0 x35_3).f2) ((rd_T28 l0 x35_3).f3) ((rd_T28 l0 x35_3).f4) ((rd_T28 l0 x35_3).f5) ((rd_T28 l0 x35_3).f6) ((rd_T28 l0 x35_3).f7)) else (code_Good.j4 kj13 l0 l0 (l0.length : Int) x35_3 (decide (((rd_T28 l0 x35_3).f7) ≥ (l0.length : Int))) ((rd_T28 l0 x35_3).f0) ((rd_T28 l0 x35_3).f1) ((rd_T28 l0 x35_3).f2) ((rd_T28 l0 x35_3).f3) ((rd_T28 l0 x35_3).f4) ((rd_T28 l0 x35_3).f5) ((rd_T28 l0 x35_3).f6) ((rd_T28 l0 x35_3).f7))) else (code_Good.j4 kj13 l0 l0 (l0.length : Int) x35_3 false ((rd_T28 l0 x35_3).f0) ((rd_T28 l0 x35_3).f1) ((rd_T28 l0 x35_3).f2) ((rd_T28 l0 x35_3).f3) ((rd_T28 l0 x35_3).f4) ((rd_T28 l0 x35_3).f5) ((rd_T28 l0 x35_3).f6) ((rd_T28 l0 x35_3).f7)))) = some r := by rw [if_neg (show ¬ (false = true) by decide)] at H; exact H
                 clear H
                 have H := H1
                 clear H1
                 replace H := Option.bind_eq_some_iff.mp H
                 obtain ⟨⟨t130, t131⟩, A270, H⟩ := H
                 replace H : (if t130 = true then (if ((rd_T28 l0 x35_3).f7) < 0 then (code_Good.j4 kj13 l0 l0 (l0.length : Int) x35_3 true ((rd_T28 l0 x35_3).f0) ((rd_T28 l0 x35_3).f1) ((rd_T28 l0 x35_3).f2) ((rd_T28 l0 x35_3).f3) ((rd_T28 l0 x35_3).f4) ((rd_T28 l0 x35_3).f5) ((rd_T28 l0 x35_3).f6) ((rd_T28 l0 x35_3).f7)) else (code_Good.j4 kj13 l0 l0 (l0.length : Int) x35_3 (decide (((rd_T28 l0 x35_3).f7) ≥ (l0.length : Int))) ((rd_T28 l0 x35_3).f0) ((rd_T28 l0 x35_3).f1) ((rd_T28 l0 x35_3).f2) ((rd_T28 l0 x35_3).f3) ((rd_T28 l0 x35_3).f4) ((rd_T28 l0 x35_3).f5) ((rd_T28 l0 x35_3).f6) ((rd_T28 l0 x35_3).f7))) else (code_Good.j4 kj13 l0 l0 (l0.length : Int) x35_3 false ((rd_T28 l0 x35_3).f0) ((rd_T28 l0 x35_3).f1) ((rd_T28 l0 x35_3).f2) ((rd_T28 l0 x35_3).f3) ((rd_T28 l0 x35_3).f4) ((rd_T28 l0 x35_3).f5) ((rd_T28 l0 x35_3).f6) ((rd_T28 l0 x35_3).f7))) = some r := H
                 have A27 := Aside0.mk A270
                 clear A270
                 have HC28 := Aside0.mk H
                 clear H
                 have hcz29_0 : wc.cell? ⟨gb128, 0, none⟩ = some (.int .i64 ((rd_T28 l0 x35_3).f0)) := (blk_cell BK128.out 0).trans rfl
                 have hcz29_1 : wc.cell? ⟨gb128, 1, none⟩ = some (.int .i64 ((rd_T28 l0 x35_3).f1)) := (blk_cell BK128.out 1).trans rfl
                 have hcz29_2 : wc.cell? ⟨gb128, 2, none⟩ = some (.int .i64 ((rd_T28 l0 x35_3).f2)) := (blk_cell BK128.out 2).trans rfl
                 have hcz29_3 : wc.cell? ⟨gb128, 3, none⟩ = some (.int .i64 ((rd_T28 l0 x35_3).f3)) := (blk_cell BK128.out 3).trans rfl
                 have hcz29_4 : wc.cell? ⟨gb128, 4, none⟩ = some (.int .i64 ((rd_T28 l0 x35_3).f4)) := (blk_cell BK128.out 4).trans rfl
                 have hcz29_5 : wc.cell? ⟨gb128, 5, none⟩ = some (.int .i64 ((rd_T28 l0 x35_3).f5)) := (blk_cell BK128.out 5).trans rfl
                 have hcz29_6 : wc.cell? ⟨gb128, 6, none⟩ = some (.int .u64 ((rd_T28 l0 x35_3).f6)) := (blk_cell BK128.out 6).trans rfl
                 have hcz29_7 : wc.cell? ⟨gb128, 7, none⟩ = some (.int .i64 ((rd_T28 l0 x35_3).f7)) := (blk_cell BK128.out 7).trans rfl
                 have hfz29_0 := blk_frozen BK128.out 0
                 have hfz29_1 := blk_frozen BK128.out 1
                 have hfz29_2 := blk_frozen BK128.out 2
                 have hfz29_3 := blk_frozen BK128.out 3
                 have hfz29_4 := blk_frozen BK128.out 4
                 have hfz29_5 := blk_frozen BK128.out 5
                 have hfz29_6 := blk_frozen BK128.out 6
                 have hfz29_7 := blk_frozen BK128.out 7
                 go_upto_region 12 with (first | ((with_reducible refine gate_callee (f := 51) rfl ?_); refine goesL_ (some 60) rfl rfl Try.func51 (by kernel_rfl) rfl #[.agg #[.int .i64 ((rd_T28 l0 x35_3).f0), .int .i64 ((rd_T28 l0 x35_3).f1), .int .i64 ((rd_T28 l0 x35_3).f2), .int .i64 ((rd_T28 l0 x35_3).f3), .int .i64 ((rd_T28 l0 x35_3).f4), .int .i64 ((rd_T28 l0 x35_3).f5), .int .u64 ((rd_T28 l0 x35_3).f6), .int .i64 ((rd_T28 l0 x35_3).f7)]] rfl (by (try simp only [List.map_toArray, List.map_cons, List.map_nil]); first | done | rfl | (simp only [List.length_drop, List.length_take]; rfl)) ?_; (with_reducible refine (code_Jumps.calls ((rd_T28 l0 x35_3).f0) ((rd_T28 l0 x35_3).f1) ((rd_T28 l0 x35_3).f2) ((rd_T28 l0 x35_3).f3) ((rd_T28 l0 x35_3).f4) ((rd_T28 l0 x35_3).f5) ((rd_T28 l0 x35_3).f6) ((rd_T28 l0 x35_3).f7) t130 t131 _ A27.out).mono ?_); rintro e w30 ⟨rfl, hb⟩; refine ⟨_, rfl, ?_⟩; have n0_ := Aside0.mk (blk_below (g := gb128) (o := .cells #[.int .i64 ((rd_T28 l0 x35_3).f0), .int .i64 ((rd_T28 l0 x35_3).f1), .int .i64 ((rd_T28 l0 x35_3).f2), .int .i64 ((rd_T28 l0 x35_3).f3), .int .i64 ((rd_T28 l0 x35_3).f4), .int .i64 ((rd_T28 l0 x35_3).f5), .int .u64 ((rd_T28 l0 x35_3).f6), .int .i64 ((rd_T28 l0 x35_3).f7)] 28 (0, 0)) (by (with_reducible repeat (first | refine blk_drewN ?_ _ | refine blk_drew ?_ | refine blk_alloc ?_ _)); exact BK128.out) hb); have n1_ := Aside0.mk (below_step (by repeat (first | (with_reducible first | exact HB.out | apply below_alloc | apply pw_below_drewN | apply below_drew1 | refine below_set ?_ GE128.out) | exact HB.out)) hb); clear BK128; clear HB; have BK128 := n0_; have HB := n1_; clear n0_ n1_; (try clear hb); (try clear hb2); (try clear hk); (try clear hi)))
                 (try simp only [Act.put, List.setIfInBounds_toArray, List.set_cons_zero, List.set_cons_succ])
                 go_cut [75] (fun v75 wc => ∃ (kq : Nat) (x75_27 : Bool), v75 = .bool x75_27 ∧ Aside0 (code_Good.j4 kq l0 l0 (l0.length : Int) x35_3 x75_27 ((rd_T28 l0 x35_3).f0) ((rd_T28 l0 x35_3).f1) ((rd_T28 l0 x35_3).f2) ((rd_T28 l0 x35_3).f3) ((rd_T28 l0 x35_3).f4) ((rd_T28 l0 x35_3).f5) ((rd_T28 l0 x35_3).f6) ((rd_T28 l0 x35_3).f7) = some r) ∧ Aside0 (kq ≤ kj13) ∧ Aside0 (wc.heap[gb128]? = some (.cells #[.int .i64 ((rd_T28 l0 x35_3).f0), .int .i64 ((rd_T28 l0 x35_3).f1), .int .i64 ((rd_T28 l0 x35_3).f2), .int .i64 ((rd_T28 l0 x35_3).f3), .int .i64 ((rd_T28 l0 x35_3).f4), .int .i64 ((rd_T28 l0 x35_3).f5), .int .u64 ((rd_T28 l0 x35_3).f6), .int .i64 ((rd_T28 l0 x35_3).f7)] 28 (0, 0))) ∧ Aside0 (Below w.heap.size w wc))
                 case first =>
                  have H := HC28.out
                  clear HC28
                  by_cases c31 : t130 = true
                  ·
                   subst c31
                   have H1 : (if ((rd_T28 l0 x35_3).f7) < 0 then (code_Good.j4 kj13 l0 l0 (l0.length : Int) x35_3 true ((rd_T28 l0 x35_3).f0) ((rd_T28 l0 x35_3).f1) ((rd_T28 l0 x35_3).f2) ((rd_T28 l0 x35_3).f3) ((rd_T28 l0 x35_3).f4) ((rd_T28 l0 x35_3).f5) ((rd_T28 l0 x35_3).f6) ((rd_T28 l0 x35_3).f7)) else (code_Good.j4 kj13 l0 l0 (l0.length : Int) x35_3 (decide (((rd_T28 l0 x35_3).f7) ≥ (l0.length : Int))) ((rd_T28 l0 x35_3).f0) ((rd_T28 l0 x35_3).f1) ((rd_T28 l0 x35_3).f2) ((rd_T28 l0 x35_3).f3) ((rd_T28 l0 x35_3).f4) ((rd_T28 l0 x35_3).f5) ((rd_T28 l0 x35_3).f6) ((rd_T28 l0 x35_3).f7))) = some r := by rw [if_pos rfl] at H; exact H
                   clear H
                   have H := H1
                   clear H1
                   by_cases c32 : ((rd_T28 l0 x35_3).f7) < 0
                   ·
                    rw [if_pos c32] at H
                    have c32b0 : decide (((rd_T28 l0 x35_3).f7) < 0) = true := decide_eq_true c32
                    clear c32
                    (first | rw [c32b0] | (simp only [i64_w, i32_w]; rw [c32b0]) | skip)
                    have H' := Aside0.mk H
                    clear H
                    have hcz33_0 : w30.cell? ⟨gb128, 0, none⟩ = some (.int .i64 ((rd_T28 l0 x35_3).f0)) := (blk_cell BK128.out 0).trans rfl
                    have hcz33_1 : w30.cell? ⟨gb128, 1, none⟩ = some (.int .i64 ((rd_T28 l0 x35_3).f1)) := (blk_cell BK128.out 1).trans rfl
                    have hcz33_2 : w30.cell? ⟨gb128, 2, none⟩ = some (.int .i64 ((rd_T28 l0 x35_3).f2)) := (blk_cell BK128.out 2).trans rfl
                    have hcz33_3 : w30.cell? ⟨gb128, 3, none⟩ = some (.int .i64 ((rd_T28 l0 x35_3).f3)) := (blk_cell BK128.out 3).trans rfl
                    have hcz33_4 : w30.cell? ⟨gb128, 4, none⟩ = some (.int .i64 ((rd_T28 l0 x35_3).f4)) := (blk_cell BK128.out 4).trans rfl
                    have hcz33_5 : w30.cell? ⟨gb128, 5, none⟩ = some (.int .i64 ((rd_T28 l0 x35_3).f5)) := (blk_cell BK128.out 5).trans rfl
                    have hcz33_6 : w30.cell? ⟨gb128, 6, none⟩ = some (.int .u64 ((rd_T28 l0 x35_3).f6)) := (blk_cell BK128.out 6).trans rfl
                    have hcz33_7 : w30.cell? ⟨gb128, 7, none⟩ = some (.int .i64 ((rd_T28 l0 x35_3).f7)) := (blk_cell BK128.out 7).trans rfl
                    have hfz33_0 := blk_frozen BK128.out 0
                    have hfz33_1 := blk_frozen BK128.out 1
                    have hfz33_2 := blk_frozen BK128.out 2
                    have hfz33_3 := blk_frozen BK128.out 3
                    have hfz33_4 := blk_frozen BK128.out 4
                    have hfz33_5 := blk_frozen BK128.out 5
                    have hfz33_6 := blk_frozen BK128.out 6
                    have hfz33_7 := blk_frozen BK128.out 7
                    go_wp2
                    go_meet
                    case rel => exact ⟨_, (true), (by first | rfl | (simp; done) | (simp [*]; done)), H', ⟨by have := HJ1.out; have := HJ7.out; have := HK3.out; have := HJ13.out; first | omega | exact Nat.le_refl _⟩, ⟨by (with_reducible repeat (first | refine blk_drewN ?_ _ | refine blk_drew ?_ | refine blk_alloc ?_ _)); exact BK128.out⟩, ⟨by repeat (first | (with_reducible first | exact HB.out | apply below_alloc | apply pw_below_drewN | apply below_drew1 | refine below_set ?_ GE128.out) | exact HB.out)⟩⟩
                   ·
                    rw [if_neg c32] at H
                    have c32b0 : decide (((rd_T28 l0 x35_3).f7) < 0) = false := decide_eq_false c32
                    clear c32
                    (first | rw [c32b0] | (simp only [i64_w, i32_w]; rw [c32b0]) | skip)
                    have H' := Aside0.mk H
                    clear H
                    have hcz34_0 : w30.cell? ⟨gb128, 0, none⟩ = some (.int .i64 ((rd_T28 l0 x35_3).f0)) := (blk_cell BK128.out 0).trans rfl
                    have hcz34_1 : w30.cell? ⟨gb128, 1, none⟩ = some (.int .i64 ((rd_T28 l0 x35_3).f1)) := (blk_cell BK128.out 1).trans rfl
                    have hcz34_2 : w30.cell? ⟨gb128, 2, none⟩ = some (.int .i64 ((rd_T28 l0 x35_3).f2)) := (blk_cell BK128.out 2).trans rfl
                    have hcz34_3 : w30.cell? ⟨gb128, 3, none⟩ = some (.int .i64 ((rd_T28 l0 x35_3).f3)) := (blk_cell BK128.out 3).trans rfl
                    have hcz34_4 : w30.cell? ⟨gb128, 4, none⟩ = some (.int .i64 ((rd_T28 l0 x35_3).f4)) := (blk_cell BK128.out 4).trans rfl
                    have hcz34_5 : w30.cell? ⟨gb128, 5, none⟩ = some (.int .i64 ((rd_T28 l0 x35_3).f5)) := (blk_cell BK128.out 5).trans rfl
                    have hcz34_6 : w30.cell? ⟨gb128, 6, none⟩ = some (.int .u64 ((rd_T28 l0 x35_3).f6)) := (blk_cell BK128.out 6).trans rfl
                    have hcz34_7 : w30.cell? ⟨gb128, 7, none⟩ = some (.int .i64 ((rd_T28 l0 x35_3).f7)) := (blk_cell BK128.out 7).trans rfl
                    have hfz34_0 := blk_frozen BK128.out 0
                    have hfz34_1 := blk_frozen BK128.out 1
                    have hfz34_2 := blk_frozen BK128.out 2
                    have hfz34_3 := blk_frozen BK128.out 3
                    have hfz34_4 := blk_frozen BK128.out 4
                    have hfz34_5 := blk_frozen BK128.out 5
                    have hfz34_6 := blk_frozen BK128.out 6
                    have hfz34_7 := blk_frozen BK128.out 7
                    go_wp2
                    go_meet
                    case rel => exact ⟨_, (decide (((rd_T28 l0 x35_3).f7) ≥ (l0.length : Int))), (by first | rfl | (simp; done) | (simp [*]; done)), H', ⟨by have := HJ1.out; have := HJ7.out; have := HK3.out; have := HJ13.out; first | omega | exact Nat.le_refl _⟩, ⟨by (with_reducible repeat (first | refine blk_drewN ?_ _ | refine blk_drew ?_ | refine blk_alloc ?_ _)); exact BK128.out⟩, ⟨by repeat (first | (with_reducible first | exact HB.out | apply below_alloc | apply pw_below_drewN | apply below_drew1 | refine below_set ?_ GE128.out) | exact HB.out)⟩⟩
                  ·
                   replace c31 := Bool.eq_false_iff.mpr c31
                   subst c31
                   have H1 : (code_Good.j4 kj13 l0 l0 (l0.length : Int) x35_3 false ((rd_T28 l0 x35_3).f0) ((rd_T28 l0 x35_3).f1) ((rd_T28 l0 x35_3).f2) ((rd_T28 l0 x35_3).f3) ((rd_T28 l0 x35_3).f4) ((rd_T28 l0 x35_3).f5) ((rd_T28 l0 x35_3).f6) ((rd_T28 l0 x35_3).f7)) = some r := by rw [if_neg (show ¬ (false = true) by decide)] at H; exact H
                   clear H
                   have H := H1
                   clear H1
                   have H' := Aside0.mk H
                   clear H
                   go_wp2
                   go_meet
                   case rel => exact ⟨_, (false), (by first | rfl | (simp; done) | (simp [*]; done)), H', ⟨by have := HJ1.out; have := HJ7.out; have := HK3.out; have := HJ13.out; first | omega | exact Nat.le_refl _⟩, ⟨by (with_reducible repeat (first | refine blk_drewN ?_ _ | refine blk_drew ?_ | refine blk_alloc ?_ _)); exact BK128.out⟩, ⟨by repeat (first | (with_reducible first | exact HB.out | apply below_alloc | apply pw_below_drewN | apply below_drew1 | refine below_set ?_ GE128.out) | exact HB.out)⟩⟩
                 case rest =>
                  clear HC28
                  try clear c1
                  try clear p1
                  try clear q1
                  try clear hx1
                  try clear c2
                  try clear p2
                  try clear c3
                  try clear c3b0
                  try clear c3b1
                  try clear c3b2
                  try clear c4
                  try clear c5
                  try clear c6
                  try clear c6b0
                  try clear p6
                  try clear c7
                  try clear c7b0
                  try clear c9
                  try clear c9b0
                  try clear c9b1
                  try clear c10
                  try clear c11
                  try clear c11b0
                  try clear c12
                  try clear c12b0
                  try clear p12
                  try clear q12
                  try clear hx12
                  try clear c13
                  try clear c13b0
                  try clear c17
                  try clear c17b0
                  try clear c19
                  try clear c19b0
                  try clear c21
                  try clear c21b0
                  try clear c21b1
                  try clear c26
                  try clear c31
                  try clear c32
                  try clear c32b0
                  try clear hcz16_0
                  try clear hcz16_1
                  try clear hcz16_2
                  try clear hcz16_3
                  try clear hcz16_4
                  try clear hcz16_5
                  try clear hcz16_6
                  try clear hcz16_7
                  try clear hcz18_0
                  try clear hcz18_1
                  try clear hcz18_2
                  try clear hcz18_3
                  try clear hcz18_4
                  try clear hcz18_5
                  try clear hcz18_6
                  try clear hcz18_7
                  try clear hcz20_0
                  try clear hcz20_1
                  try clear hcz20_2
                  try clear hcz20_3
                  try clear hcz20_4
                  try clear hcz20_5
                  try clear hcz20_6
                  try clear hcz20_7
                  try clear hcz23_0
                  try clear hcz23_1
                  try clear hcz23_2
                  try clear hcz23_3
                  try clear hcz23_4
                  try clear hcz23_5
                  try clear hcz23_6
                  try clear hcz23_7
                  try clear hcz25_0
                  try clear hcz25_1
                  try clear hcz25_2
                  try clear hcz25_3
                  try clear hcz25_4
                  try clear hcz25_5
                  try clear hcz25_6
                  try clear hcz25_7
                  try clear hcz29_0
                  try clear hcz29_1
                  try clear hcz29_2
                  try clear hcz29_3
                  try clear hcz29_4
                  try clear hcz29_5
                  try clear hcz29_6
                  try clear hcz29_7
                  try clear hcz33_0
                  try clear hcz33_1
                  try clear hcz33_2
                  try clear hcz33_3
                  try clear hcz33_4
                  try clear hcz33_5
                  try clear hcz33_6
                  try clear hcz33_7
                  try clear hcz34_0
                  try clear hcz34_1
                  try clear hcz34_2
                  try clear hcz34_3
                  try clear hcz34_4
                  try clear hcz34_5
                  try clear hcz34_6
                  try clear hcz34_7
                  try clear hfz16_0
                  try clear hfz16_1
                  try clear hfz16_2
                  try clear hfz16_3
                  try clear hfz16_4
                  try clear hfz16_5
                  try clear hfz16_6
                  try clear hfz16_7
                  try clear hfz18_0
                  try clear hfz18_1
                  try clear hfz18_2
                  try clear hfz18_3
                  try clear hfz18_4
                  try clear hfz18_5
                  try clear hfz18_6
                  try clear hfz18_7
                  try clear hfz20_0
                  try clear hfz20_1
                  try clear hfz20_2
                  try clear hfz20_3
                  try clear hfz20_4
                  try clear hfz20_5
                  try clear hfz20_6
                  try clear hfz20_7
                  try clear hfz23_0
                  try clear hfz23_1
                  try clear hfz23_2
                  try clear hfz23_3
                  try clear hfz23_4
                  try clear hfz23_5
                  try clear hfz23_6
                  try clear hfz23_7
                  try clear hfz25_0
                  try clear hfz25_1
                  try clear hfz25_2
                  try clear hfz25_3
                  try clear hfz25_4
                  try clear hfz25_5
                  try clear hfz25_6
                  try clear hfz25_7
                  try clear hfz29_0
                  try clear hfz29_1
                  try clear hfz29_2
                  try clear hfz29_3
                  try clear hfz29_4
                  try clear hfz29_5
                  try clear hfz29_6
                  try clear hfz29_7
                  try clear hfz33_0
                  try clear hfz33_1
                  try clear hfz33_2
                  try clear hfz33_3
                  try clear hfz33_4
                  try clear hfz33_5
                  try clear hfz33_6
                  try clear hfz33_7
                  try clear hfz34_0
                  try clear hfz34_1
                  try clear hfz34_2
                  try clear hfz34_3
                  try clear hfz34_4
                  try clear hfz34_5
                  try clear hfz34_6
                  try clear hfz34_7
                  try clear hx126_0
                  try clear hx126_1
                  try clear hx126_2
                  try clear hx126_3
                  try clear hx126_4
                  try clear hx126_5
                  try clear hx126_6
                  try clear hx126_7
                  try clear hx127_0
                  try clear hx127_1
                  try clear hx127_2
                  try clear hx127_3
                  try clear hx127_4
                  try clear hx127_5
                  try clear hx127_6
                  try clear hx127_7
                  try clear p1
                  try clear p12
                  try clear p126
                  try clear p127
                  try clear p2
                  try clear p6
                  try clear q1
                  try clear q12
                  try clear q126
                  try clear q127
                  obtain ⟨kq, x75_27, rfl, HA, HJ27, BK128, HB⟩ := hcut
                  cases kq with
                  | zero => exact absurd HA.out (by simp [code_Good.j4])
                  | succ kj27 =>
                   have H := HA.out
                   clear HA
                   simp only [code_Good.j4] at H
                   by_cases c35 : x75_27 = true
                   ·
                    subst c35
                    have H1 : (some false) = some r := by rw [if_pos rfl] at H; exact H
                    clear H
                    have H := H1
                    clear H1
                    obtain rfl := Option.some.inj H
                    go_wp2
                    go_ret
                    exact ⟨by first | rfl | (simp [errW_none, errW_some] <;> rfl) | (simp only [← hji5]; first | rfl | (simp [errW_none, errW_some] <;> rfl)) | (simp [*, errW_none, errW_some] <;> rfl), by repeat (first | (with_reducible first | exact HB.out | apply below_alloc | apply pw_below_drewN | apply below_drew1 | refine below_set ?_ GE128.out) | exact HB.out)⟩
                   ·
                    replace c35 := Bool.eq_false_iff.mpr c35
                    subst c35
                    have H1 : ((code_Defines.f ((rd_T28 l0 x35_3).f0) ((rd_T28 l0 x35_3).f1) ((rd_T28 l0 x35_3).f2) ((rd_T28 l0 x35_3).f3) ((rd_T28 l0 x35_3).f4) ((rd_T28 l0 x35_3).f5) ((rd_T28 l0 x35_3).f6) ((rd_T28 l0 x35_3).f7)).bind fun bt132 => (if bt132.1 < 0 then (code_Good.j5 kj27 l0 l0 (l0.length : Int) x35_3 true ((rd_T28 l0 x35_3).f0) ((rd_T28 l0 x35_3).f1) ((rd_T28 l0 x35_3).f2) ((rd_T28 l0 x35_3).f3) ((rd_T28 l0 x35_3).f4) ((rd_T28 l0 x35_3).f5) ((rd_T28 l0 x35_3).f6) ((rd_T28 l0 x35_3).f7)) else (code_Good.j5 kj27 l0 l0 (l0.length : Int) x35_3 (decide (bt132.1 > 65535)) ((rd_T28 l0 x35_3).f0) ((rd_T28 l0 x35_3).f1) ((rd_T28 l0 x35_3).f2) ((rd_T28 l0 x35_3).f3) ((rd_T28 l0 x35_3).f4) ((rd_T28 l0 x35_3).f5) ((rd_T28 l0 x35_3).f6) ((rd_T28 l0 x35_3).f7)))) = some r := by rw [if_neg (show ¬ (false = true) by decide)] at H; exact H
                    clear H
                    have H := H1
                    clear H1
                    replace H := Option.bind_eq_some_iff.mp H
                    obtain ⟨⟨t132, t133⟩, A360, H⟩ := H
                    replace H : (if t132 < 0 then (code_Good.j5 kj27 l0 l0 (l0.length : Int) x35_3 true ((rd_T28 l0 x35_3).f0) ((rd_T28 l0 x35_3).f1) ((rd_T28 l0 x35_3).f2) ((rd_T28 l0 x35_3).f3) ((rd_T28 l0 x35_3).f4) ((rd_T28 l0 x35_3).f5) ((rd_T28 l0 x35_3).f6) ((rd_T28 l0 x35_3).f7)) else (code_Good.j5 kj27 l0 l0 (l0.length : Int) x35_3 (decide (t132 > 65535)) ((rd_T28 l0 x35_3).f0) ((rd_T28 l0 x35_3).f1) ((rd_T28 l0 x35_3).f2) ((rd_T28 l0 x35_3).f3) ((rd_T28 l0 x35_3).f4) ((rd_T28 l0 x35_3).f5) ((rd_T28 l0 x35_3).f6) ((rd_T28 l0 x35_3).f7))) = some r := H
                    have A36 := Aside0.mk A360
                    clear A360
                    have HC37 := Aside0.mk H
                    clear H
                    have hcz38_0 : wc.cell? ⟨gb128, 0, none⟩ = some (.int .i64 ((rd_T28 l0 x35_3).f0)) := (blk_cell BK128.out 0).trans rfl
                    have hcz38_1 : wc.cell? ⟨gb128, 1, none⟩ = some (.int .i64 ((rd_T28 l0 x35_3).f1)) := (blk_cell BK128.out 1).trans rfl
                    have hcz38_2 : wc.cell? ⟨gb128, 2, none⟩ = some (.int .i64 ((rd_T28 l0 x35_3).f2)) := (blk_cell BK128.out 2).trans rfl
                    have hcz38_3 : wc.cell? ⟨gb128, 3, none⟩ = some (.int .i64 ((rd_T28 l0 x35_3).f3)) := (blk_cell BK128.out 3).trans rfl
                    have hcz38_4 : wc.cell? ⟨gb128, 4, none⟩ = some (.int .i64 ((rd_T28 l0 x35_3).f4)) := (blk_cell BK128.out 4).trans rfl
                    have hcz38_5 : wc.cell? ⟨gb128, 5, none⟩ = some (.int .i64 ((rd_T28 l0 x35_3).f5)) := (blk_cell BK128.out 5).trans rfl
                    have hcz38_6 : wc.cell? ⟨gb128, 6, none⟩ = some (.int .u64 ((rd_T28 l0 x35_3).f6)) := (blk_cell BK128.out 6).trans rfl
                    have hcz38_7 : wc.cell? ⟨gb128, 7, none⟩ = some (.int .i64 ((rd_T28 l0 x35_3).f7)) := (blk_cell BK128.out 7).trans rfl
                    have hfz38_0 := blk_frozen BK128.out 0
                    have hfz38_1 := blk_frozen BK128.out 1
                    have hfz38_2 := blk_frozen BK128.out 2
                    have hfz38_3 := blk_frozen BK128.out 3
                    have hfz38_4 := blk_frozen BK128.out 4
                    have hfz38_5 := blk_frozen BK128.out 5
                    have hfz38_6 := blk_frozen BK128.out 6
                    have hfz38_7 := blk_frozen BK128.out 7
                    go_upto_region 15 with (first | ((with_reducible refine gate_callee (f := 42) rfl ?_); refine goesL_ (some 78) rfl rfl Try.func42 (by kernel_rfl) rfl #[.agg #[.int .i64 ((rd_T28 l0 x35_3).f0), .int .i64 ((rd_T28 l0 x35_3).f1), .int .i64 ((rd_T28 l0 x35_3).f2), .int .i64 ((rd_T28 l0 x35_3).f3), .int .i64 ((rd_T28 l0 x35_3).f4), .int .i64 ((rd_T28 l0 x35_3).f5), .int .u64 ((rd_T28 l0 x35_3).f6), .int .i64 ((rd_T28 l0 x35_3).f7)]] rfl (by (try simp only [List.map_toArray, List.map_cons, List.map_nil]); first | done | rfl | (simp only [List.length_drop, List.length_take]; rfl)) ?_; (with_reducible refine (code_Defines.calls ((rd_T28 l0 x35_3).f0) ((rd_T28 l0 x35_3).f1) ((rd_T28 l0 x35_3).f2) ((rd_T28 l0 x35_3).f3) ((rd_T28 l0 x35_3).f4) ((rd_T28 l0 x35_3).f5) ((rd_T28 l0 x35_3).f6) ((rd_T28 l0 x35_3).f7) t132 t133 _ A36.out).mono ?_); rintro e w39 ⟨rfl, hb⟩; refine ⟨_, rfl, ?_⟩; have n0_ := Aside0.mk (blk_below (g := gb128) (o := .cells #[.int .i64 ((rd_T28 l0 x35_3).f0), .int .i64 ((rd_T28 l0 x35_3).f1), .int .i64 ((rd_T28 l0 x35_3).f2), .int .i64 ((rd_T28 l0 x35_3).f3), .int .i64 ((rd_T28 l0 x35_3).f4), .int .i64 ((rd_T28 l0 x35_3).f5), .int .u64 ((rd_T28 l0 x35_3).f6), .int .i64 ((rd_T28 l0 x35_3).f7)] 28 (0, 0)) (by (with_reducible repeat (first | refine blk_drewN ?_ _ | refine blk_drew ?_ | refine blk_alloc ?_ _)); exact BK128.out) hb); have n1_ := Aside0.mk (below_step (by repeat (first | (with_reducible first | exact HB.out | apply below_alloc | apply pw_below_drewN | apply below_drew1 | refine below_set ?_ GE128.out) | exact HB.out)) hb); clear BK128; clear HB; have BK128 := n0_; have HB := n1_; clear n0_ n1_; (try clear hb); (try clear hb2); (try clear hk); (try clear hi)))
                    (try simp only [Act.put, List.setIfInBounds_toArray, List.set_cons_zero, List.set_cons_succ])
                    go_cut [86] (fun v86 wc => ∃ (kq : Nat) (x86_36 : Bool), v86 = .bool x86_36 ∧ Aside0 (code_Good.j5 kq l0 l0 (l0.length : Int) x35_3 x86_36 ((rd_T28 l0 x35_3).f0) ((rd_T28 l0 x35_3).f1) ((rd_T28 l0 x35_3).f2) ((rd_T28 l0 x35_3).f3) ((rd_T28 l0 x35_3).f4) ((rd_T28 l0 x35_3).f5) ((rd_T28 l0 x35_3).f6) ((rd_T28 l0 x35_3).f7) = some r) ∧ Aside0 (kq ≤ kj27) ∧ Aside0 (wc.heap[gb128]? = some (.cells #[.int .i64 ((rd_T28 l0 x35_3).f0), .int .i64 ((rd_T28 l0 x35_3).f1), .int .i64 ((rd_T28 l0 x35_3).f2), .int .i64 ((rd_T28 l0 x35_3).f3), .int .i64 ((rd_T28 l0 x35_3).f4), .int .i64 ((rd_T28 l0 x35_3).f5), .int .u64 ((rd_T28 l0 x35_3).f6), .int .i64 ((rd_T28 l0 x35_3).f7)] 28 (0, 0))) ∧ Aside0 (Below w.heap.size w wc))
                    case first =>
                     have H := HC37.out
                     clear HC37
                     by_cases c40 : t132 < 0
                     ·
                      rw [if_pos c40] at H
                      have c40b0 : decide (t132 < 0) = true := decide_eq_true c40
                      clear c40
                      (first | rw [c40b0] | (simp only [i64_w, i32_w]; rw [c40b0]) | skip)
                      have H' := Aside0.mk H
                      clear H
                      go_wp2
                      go_meet
                      case rel => exact ⟨_, (true), (by first | rfl | (simp; done) | (simp [*]; done)), H', ⟨by have := HJ1.out; have := HJ7.out; have := HK3.out; have := HJ13.out; have := HJ27.out; first | omega | exact Nat.le_refl _⟩, ⟨by (with_reducible repeat (first | refine blk_drewN ?_ _ | refine blk_drew ?_ | refine blk_alloc ?_ _)); exact BK128.out⟩, ⟨by repeat (first | (with_reducible first | exact HB.out | apply below_alloc | apply pw_below_drewN | apply below_drew1 | refine below_set ?_ GE128.out) | exact HB.out)⟩⟩
                     ·
                      rw [if_neg c40] at H
                      have c40b0 : decide (t132 < 0) = false := decide_eq_false c40
                      clear c40
                      (first | rw [c40b0] | (simp only [i64_w, i32_w]; rw [c40b0]) | skip)
                      have H' := Aside0.mk H
                      clear H
                      go_wp2
                      go_meet
                      case rel => exact ⟨_, (decide (t132 > 65535)), (by first | rfl | (simp; done) | (simp [*]; done)), H', ⟨by have := HJ1.out; have := HJ7.out; have := HK3.out; have := HJ13.out; have := HJ27.out; first | omega | exact Nat.le_refl _⟩, ⟨by (with_reducible repeat (first | refine blk_drewN ?_ _ | refine blk_drew ?_ | refine blk_alloc ?_ _)); exact BK128.out⟩, ⟨by repeat (first | (with_reducible first | exact HB.out | apply below_alloc | apply pw_below_drewN | apply below_drew1 | refine below_set ?_ GE128.out) | exact HB.out)⟩⟩
                    case rest =>
                     clear HC37
                     try clear c1
                     try clear p1
                     try clear q1
                     try clear hx1
                     try clear c2
                     try clear p2
                     try clear c3
                     try clear c3b0
                     try clear c3b1
                     try clear c3b2
                     try clear c4
                     try clear c5
                     try clear c6
                     try clear c6b0
                     try clear p6
                     try clear c7
                     try clear c7b0
                     try clear c9
                     try clear c9b0
                     try clear c9b1
                     try clear c10
                     try clear c11
                     try clear c11b0
                     try clear c12
                     try clear c12b0
                     try clear p12
                     try clear q12
                     try clear hx12
                     try clear c13
                     try clear c13b0
                     try clear c17
                     try clear c17b0
                     try clear c19
                     try clear c19b0
                     try clear c21
                     try clear c21b0
                     try clear c21b1
                     try clear c26
                     try clear c31
                     try clear c32
                     try clear c32b0
                     try clear c35
                     try clear c40
                     try clear c40b0
                     try clear hcz16_0
                     try clear hcz16_1
                     try clear hcz16_2
                     try clear hcz16_3
                     try clear hcz16_4
                     try clear hcz16_5
                     try clear hcz16_6
                     try clear hcz16_7
                     try clear hcz18_0
                     try clear hcz18_1
                     try clear hcz18_2
                     try clear hcz18_3
                     try clear hcz18_4
                     try clear hcz18_5
                     try clear hcz18_6
                     try clear hcz18_7
                     try clear hcz20_0
                     try clear hcz20_1
                     try clear hcz20_2
                     try clear hcz20_3
                     try clear hcz20_4
                     try clear hcz20_5
                     try clear hcz20_6
                     try clear hcz20_7
                     try clear hcz23_0
                     try clear hcz23_1
                     try clear hcz23_2
                     try clear hcz23_3
                     try clear hcz23_4
                     try clear hcz23_5
                     try clear hcz23_6
                     try clear hcz23_7
                     try clear hcz25_0
                     try clear hcz25_1
                     try clear hcz25_2
                     try clear hcz25_3
                     try clear hcz25_4
                     try clear hcz25_5
                     try clear hcz25_6
                     try clear hcz25_7
                     try clear hcz29_0
                     try clear hcz29_1
                     try clear hcz29_2
                     try clear hcz29_3
                     try clear hcz29_4
                     try clear hcz29_5
                     try clear hcz29_6
                     try clear hcz29_7
                     try clear hcz33_0
                     try clear hcz33_1
                     try clear hcz33_2
                     try clear hcz33_3
                     try clear hcz33_4
                     try clear hcz33_5
                     try clear hcz33_6
                     try clear hcz33_7
                     try clear hcz34_0
                     try clear hcz34_1
                     try clear hcz34_2
                     try clear hcz34_3
                     try clear hcz34_4
                     try clear hcz34_5
                     try clear hcz34_6
                     try clear hcz34_7
                     try clear hcz38_0
                     try clear hcz38_1
                     try clear hcz38_2
                     try clear hcz38_3
                     try clear hcz38_4
                     try clear hcz38_5
                     try clear hcz38_6
                     try clear hcz38_7
                     try clear hfz16_0
                     try clear hfz16_1
                     try clear hfz16_2
                     try clear hfz16_3
                     try clear hfz16_4
                     try clear hfz16_5
                     try clear hfz16_6
                     try clear hfz16_7
                     try clear hfz18_0
                     try clear hfz18_1
                     try clear hfz18_2
                     try clear hfz18_3
                     try clear hfz18_4
                     try clear hfz18_5
                     try clear hfz18_6
                     try clear hfz18_7
                     try clear hfz20_0
                     try clear hfz20_1
                     try clear hfz20_2
                     try clear hfz20_3
                     try clear hfz20_4
                     try clear hfz20_5
                     try clear hfz20_6
                     try clear hfz20_7
                     try clear hfz23_0
                     try clear hfz23_1
                     try clear hfz23_2
                     try clear hfz23_3
                     try clear hfz23_4
                     try clear hfz23_5
                     try clear hfz23_6
                     try clear hfz23_7
                     try clear hfz25_0
                     try clear hfz25_1
                     try clear hfz25_2
                     try clear hfz25_3
                     try clear hfz25_4
                     try clear hfz25_5
                     try clear hfz25_6
                     try clear hfz25_7
                     try clear hfz29_0
                     try clear hfz29_1
                     try clear hfz29_2
                     try clear hfz29_3
                     try clear hfz29_4
                     try clear hfz29_5
                     try clear hfz29_6
                     try clear hfz29_7
                     try clear hfz33_0
                     try clear hfz33_1
                     try clear hfz33_2
                     try clear hfz33_3
                     try clear hfz33_4
                     try clear hfz33_5
                     try clear hfz33_6
                     try clear hfz33_7
                     try clear hfz34_0
                     try clear hfz34_1
                     try clear hfz34_2
                     try clear hfz34_3
                     try clear hfz34_4
                     try clear hfz34_5
                     try clear hfz34_6
                     try clear hfz34_7
                     try clear hfz38_0
                     try clear hfz38_1
                     try clear hfz38_2
                     try clear hfz38_3
                     try clear hfz38_4
                     try clear hfz38_5
                     try clear hfz38_6
                     try clear hfz38_7
                     try clear hx126_0
                     try clear hx126_1
                     try clear hx126_2
                     try clear hx126_3
                     try clear hx126_4
                     try clear hx126_5
                     try clear hx126_6
                     try clear hx126_7
                     try clear hx127_0
                     try clear hx127_1
                     try clear hx127_2
                     try clear hx127_3
                     try clear hx127_4
                     try clear hx127_5
                     try clear hx127_6
                     try clear hx127_7
                     try clear p1
                     try clear p12
                     try clear p126
                     try clear p127
                     try clear p2
                     try clear p6
                     try clear q1
                     try clear q12
                     try clear q126
                     try clear q127
                     obtain ⟨kq, x86_36, rfl, HA, HJ36, BK128, HB⟩ := hcut
                     cases kq with
                     | zero => exact absurd HA.out (by simp [code_Good.j5])
                     | succ kj36 =>
                      have H := HA.out
                      clear HA
                      simp only [code_Good.j5] at H
                      by_cases c41 : x86_36 = true
                      ·
                       subst c41
                       have H1 : (some false) = some r := by rw [if_pos rfl] at H; exact H
                       clear H
                       have H := H1
                       clear H1
                       obtain rfl := Option.some.inj H
                       go_wp2
                       go_ret
                       exact ⟨by first | rfl | (simp [errW_none, errW_some] <;> rfl) | (simp only [← hji5]; first | rfl | (simp [errW_none, errW_some] <;> rfl)) | (simp [*, errW_none, errW_some] <;> rfl), by repeat (first | (with_reducible first | exact HB.out | apply below_alloc | apply pw_below_drewN | apply below_drew1 | refine below_set ?_ GE128.out) | exact HB.out)⟩
                      ·
                       replace c41 := Bool.eq_false_iff.mpr c41
                       subst c41
                       have H1 : ((code_Uses.f kj36 ((rd_T28 l0 x35_3).f0) ((rd_T28 l0 x35_3).f1) ((rd_T28 l0 x35_3).f2) ((rd_T28 l0 x35_3).f3) ((rd_T28 l0 x35_3).f4) ((rd_T28 l0 x35_3).f5) ((rd_T28 l0 x35_3).f6) ((rd_T28 l0 x35_3).f7)).bind fun t134 => (code_Good.l1 kj36 l0 l0 (l0.length : Int) x35_3 t134 (t134.length : Int) 0)) = some r := by rw [if_neg (show ¬ (false = true) by decide)] at H; exact H
                       clear H
                       have H := H1
                       clear H1
                       replace H := Option.bind_eq_some_iff.mp H
                       obtain ⟨t134, A420, H⟩ := H
                       replace H : (code_Good.l1 kj36 l0 l0 (l0.length : Int) x35_3 t134 (t134.length : Int) 0) = some r := H
                       have A42 := Aside0.mk A420
                       clear A420
                       have H' := Aside0.mk H
                       clear H
                       have hcz43_0 : wc.cell? ⟨gb128, 0, none⟩ = some (.int .i64 ((rd_T28 l0 x35_3).f0)) := (blk_cell BK128.out 0).trans rfl
                       have hcz43_1 : wc.cell? ⟨gb128, 1, none⟩ = some (.int .i64 ((rd_T28 l0 x35_3).f1)) := (blk_cell BK128.out 1).trans rfl
                       have hcz43_2 : wc.cell? ⟨gb128, 2, none⟩ = some (.int .i64 ((rd_T28 l0 x35_3).f2)) := (blk_cell BK128.out 2).trans rfl
                       have hcz43_3 : wc.cell? ⟨gb128, 3, none⟩ = some (.int .i64 ((rd_T28 l0 x35_3).f3)) := (blk_cell BK128.out 3).trans rfl
                       have hcz43_4 : wc.cell? ⟨gb128, 4, none⟩ = some (.int .i64 ((rd_T28 l0 x35_3).f4)) := (blk_cell BK128.out 4).trans rfl
                       have hcz43_5 : wc.cell? ⟨gb128, 5, none⟩ = some (.int .i64 ((rd_T28 l0 x35_3).f5)) := (blk_cell BK128.out 5).trans rfl
                       have hcz43_6 : wc.cell? ⟨gb128, 6, none⟩ = some (.int .u64 ((rd_T28 l0 x35_3).f6)) := (blk_cell BK128.out 6).trans rfl
                       have hcz43_7 : wc.cell? ⟨gb128, 7, none⟩ = some (.int .i64 ((rd_T28 l0 x35_3).f7)) := (blk_cell BK128.out 7).trans rfl
                       have hfz43_0 := blk_frozen BK128.out 0
                       have hfz43_1 := blk_frozen BK128.out 1
                       have hfz43_2 := blk_frozen BK128.out 2
                       have hfz43_3 := blk_frozen BK128.out 3
                       have hfz43_4 := blk_frozen BK128.out 4
                       have hfz43_5 := blk_frozen BK128.out 5
                       have hfz43_6 := blk_frozen BK128.out 6
                       have hfz43_7 := blk_frozen BK128.out 7
                       go_wp2_with (first | ((with_reducible refine gate_callee (f := 43) rfl ?_); refine goesL_ (some 88) rfl rfl Try.func43 (by kernel_rfl) rfl #[.agg #[.int .i64 ((rd_T28 l0 x35_3).f0), .int .i64 ((rd_T28 l0 x35_3).f1), .int .i64 ((rd_T28 l0 x35_3).f2), .int .i64 ((rd_T28 l0 x35_3).f3), .int .i64 ((rd_T28 l0 x35_3).f4), .int .i64 ((rd_T28 l0 x35_3).f5), .int .u64 ((rd_T28 l0 x35_3).f6), .int .i64 ((rd_T28 l0 x35_3).f7)]] rfl (by (try simp only [List.map_toArray, List.map_cons, List.map_nil]); first | done | rfl | (simp only [List.length_drop, List.length_take]; rfl)) ?_; (with_reducible refine (code_Uses.calls kj36 ((rd_T28 l0 x35_3).f0) ((rd_T28 l0 x35_3).f1) ((rd_T28 l0 x35_3).f2) ((rd_T28 l0 x35_3).f3) ((rd_T28 l0 x35_3).f4) ((rd_T28 l0 x35_3).f5) ((rd_T28 l0 x35_3).f6) ((rd_T28 l0 x35_3).f7) t134 _ A42.out).mono ?_); rintro e w44 ⟨v135, rfl, ho0, hb⟩; refine ⟨_, rfl, ?_⟩; have n0_ := Aside0.mk (Kd.R_lower ho0 (below_size (by repeat (first | (with_reducible first | exact HB.out | apply below_alloc | apply pw_below_drewN | apply below_drew1 | refine below_set ?_ GE128.out) | exact HB.out)))); have n1_ := Aside0.mk (blk_below (g := gb128) (o := .cells #[.int .i64 ((rd_T28 l0 x35_3).f0), .int .i64 ((rd_T28 l0 x35_3).f1), .int .i64 ((rd_T28 l0 x35_3).f2), .int .i64 ((rd_T28 l0 x35_3).f3), .int .i64 ((rd_T28 l0 x35_3).f4), .int .i64 ((rd_T28 l0 x35_3).f5), .int .u64 ((rd_T28 l0 x35_3).f6), .int .i64 ((rd_T28 l0 x35_3).f7)] 28 (0, 0)) (by (with_reducible repeat (first | refine blk_drewN ?_ _ | refine blk_drew ?_ | refine blk_alloc ?_ _)); exact BK128.out) hb); have n2_ := Aside0.mk (below_step (by repeat (first | (with_reducible first | exact HB.out | apply below_alloc | apply pw_below_drewN | apply below_drew1 | refine below_set ?_ GE128.out) | exact HB.out)) hb); clear BK128; clear HB; have HO136 := n0_; have BK128 := n1_; have HB := n2_; clear n0_ n1_ n2_; (try clear hb); (try clear hb2); (try clear hk); (try clear hi); (try clear ho0); obtain ⟨Ao45, co45, eo45⟩ := Kd.R_slice HO136.out; subst eo45))
                       go_loopg [90] kj36 (fun kq v90 w' => ∃ (x90_7 : Int), v90 = .int .i64 x90_7 ∧ Aside0 (code_Good.l1 kq l0 l0 (l0.length : Int) x35_3 t134 (t134.length : Int) x90_7 = some r) ∧ Aside0 (kq ≤ kj36) ∧ Aside0 (Kd.R (Kd.int .i64) 3 w' w.heap.size (fun _ => True) (.slice Ao45 t134.length co45) t134) ∧ Aside0 (w'.heap[gb128]? = some (.cells #[.int .i64 ((rd_T28 l0 x35_3).f0), .int .i64 ((rd_T28 l0 x35_3).f1), .int .i64 ((rd_T28 l0 x35_3).f2), .int .i64 ((rd_T28 l0 x35_3).f3), .int .i64 ((rd_T28 l0 x35_3).f4), .int .i64 ((rd_T28 l0 x35_3).f5), .int .u64 ((rd_T28 l0 x35_3).f6), .int .i64 ((rd_T28 l0 x35_3).f7)] 28 (0, 0))) ∧ Aside0 (Below w.heap.size w w'))
                       case atStart => exact ⟨(0), (by first | rfl | (simp; done) | (simp [*]; done)), H', ⟨Nat.le_refl _⟩, ⟨by (with_reducible repeat (first | apply Kd.R_alloc | apply Kd.R_drewN | apply Kd.R_drew)); exact HO136.out⟩, ⟨by (with_reducible repeat (first | refine blk_drewN ?_ _ | refine blk_drew ?_ | refine blk_alloc ?_ _)); exact BK128.out⟩, ⟨by repeat (first | (with_reducible first | exact HB.out | apply below_alloc | apply pw_below_drewN | apply below_drew1 | refine below_set ?_ GE128.out) | exact HB.out)⟩⟩
                       case round =>
                        clear H'
                        try clear c1
                        try clear p1
                        try clear q1
                        try clear hx1
                        try clear c2
                        try clear p2
                        try clear c3
                        try clear c3b0
                        try clear c3b1
                        try clear c3b2
                        try clear c4
                        try clear c5
                        try clear c6
                        try clear c6b0
                        try clear p6
                        try clear c7
                        try clear c7b0
                        try clear c9
                        try clear c9b0
                        try clear c9b1
                        try clear c10
                        try clear c11
                        try clear c11b0
                        try clear c12
                        try clear c12b0
                        try clear p12
                        try clear q12
                        try clear hx12
                        try clear c13
                        try clear c13b0
                        try clear c17
                        try clear c17b0
                        try clear c19
                        try clear c19b0
                        try clear c21
                        try clear c21b0
                        try clear c21b1
                        try clear c26
                        try clear c31
                        try clear c32
                        try clear c32b0
                        try clear c35
                        try clear c40
                        try clear c40b0
                        try clear c41
                        try clear c42
                        try clear c43
                        try clear hcz16_0
                        try clear hcz16_1
                        try clear hcz16_2
                        try clear hcz16_3
                        try clear hcz16_4
                        try clear hcz16_5
                        try clear hcz16_6
                        try clear hcz16_7
                        try clear hcz18_0
                        try clear hcz18_1
                        try clear hcz18_2
                        try clear hcz18_3
                        try clear hcz18_4
                        try clear hcz18_5
                        try clear hcz18_6
                        try clear hcz18_7
                        try clear hcz20_0
                        try clear hcz20_1
                        try clear hcz20_2
                        try clear hcz20_3
                        try clear hcz20_4
                        try clear hcz20_5
                        try clear hcz20_6
                        try clear hcz20_7
                        try clear hcz23_0
                        try clear hcz23_1
                        try clear hcz23_2
                        try clear hcz23_3
                        try clear hcz23_4
                        try clear hcz23_5
                        try clear hcz23_6
                        try clear hcz23_7
                        try clear hcz25_0
                        try clear hcz25_1
                        try clear hcz25_2
                        try clear hcz25_3
                        try clear hcz25_4
                        try clear hcz25_5
                        try clear hcz25_6
                        try clear hcz25_7
                        try clear hcz29_0
                        try clear hcz29_1
                        try clear hcz29_2
                        try clear hcz29_3
                        try clear hcz29_4
                        try clear hcz29_5
                        try clear hcz29_6
                        try clear hcz29_7
                        try clear hcz33_0
                        try clear hcz33_1
                        try clear hcz33_2
                        try clear hcz33_3
                        try clear hcz33_4
                        try clear hcz33_5
                        try clear hcz33_6
                        try clear hcz33_7
                        try clear hcz34_0
                        try clear hcz34_1
                        try clear hcz34_2
                        try clear hcz34_3
                        try clear hcz34_4
                        try clear hcz34_5
                        try clear hcz34_6
                        try clear hcz34_7
                        try clear hcz38_0
                        try clear hcz38_1
                        try clear hcz38_2
                        try clear hcz38_3
                        try clear hcz38_4
                        try clear hcz38_5
                        try clear hcz38_6
                        try clear hcz38_7
                        try clear hcz43_0
                        try clear hcz43_1
                        try clear hcz43_2
                        try clear hcz43_3
                        try clear hcz43_4
                        try clear hcz43_5
                        try clear hcz43_6
                        try clear hcz43_7
                        try clear hfz16_0
                        try clear hfz16_1
                        try clear hfz16_2
                        try clear hfz16_3
                        try clear hfz16_4
                        try clear hfz16_5
                        try clear hfz16_6
                        try clear hfz16_7
                        try clear hfz18_0
                        try clear hfz18_1
                        try clear hfz18_2
                        try clear hfz18_3
                        try clear hfz18_4
                        try clear hfz18_5
                        try clear hfz18_6
                        try clear hfz18_7
                        try clear hfz20_0
                        try clear hfz20_1
                        try clear hfz20_2
                        try clear hfz20_3
                        try clear hfz20_4
                        try clear hfz20_5
                        try clear hfz20_6
                        try clear hfz20_7
                        try clear hfz23_0
                        try clear hfz23_1
                        try clear hfz23_2
                        try clear hfz23_3
                        try clear hfz23_4
                        try clear hfz23_5
                        try clear hfz23_6
                        try clear hfz23_7
                        try clear hfz25_0
                        try clear hfz25_1
                        try clear hfz25_2
                        try clear hfz25_3
                        try clear hfz25_4
                        try clear hfz25_5
                        try clear hfz25_6
                        try clear hfz25_7
                        try clear hfz29_0
                        try clear hfz29_1
                        try clear hfz29_2
                        try clear hfz29_3
                        try clear hfz29_4
                        try clear hfz29_5
                        try clear hfz29_6
                        try clear hfz29_7
                        try clear hfz33_0
                        try clear hfz33_1
                        try clear hfz33_2
                        try clear hfz33_3
                        try clear hfz33_4
                        try clear hfz33_5
                        try clear hfz33_6
                        try clear hfz33_7
                        try clear hfz34_0
                        try clear hfz34_1
                        try clear hfz34_2
                        try clear hfz34_3
                        try clear hfz34_4
                        try clear hfz34_5
                        try clear hfz34_6
                        try clear hfz34_7
                        try clear hfz38_0
                        try clear hfz38_1
                        try clear hfz38_2
                        try clear hfz38_3
                        try clear hfz38_4
                        try clear hfz38_5
                        try clear hfz38_6
                        try clear hfz38_7
                        try clear hfz43_0
                        try clear hfz43_1
                        try clear hfz43_2
                        try clear hfz43_3
                        try clear hfz43_4
                        try clear hfz43_5
                        try clear hfz43_6
                        try clear hfz43_7
                        try clear hx126_0
                        try clear hx126_1
                        try clear hx126_2
                        try clear hx126_3
                        try clear hx126_4
                        try clear hx126_5
                        try clear hx126_6
                        try clear hx126_7
                        try clear hx127_0
                        try clear hx127_1
                        try clear hx127_2
                        try clear hx127_3
                        try clear hx127_4
                        try clear hx127_5
                        try clear hx127_6
                        try clear hx127_7
                        try clear p1
                        try clear p12
                        try clear p126
                        try clear p127
                        try clear p2
                        try clear p6
                        try clear q1
                        try clear q12
                        try clear q126
                        try clear q127
                        obtain ⟨x90_7, rfl, HA, HK7, HO_88, BK128, HB⟩ := hrel
                        cases gk with
                        | zero => exact absurd HA.out (by simp [code_Good.l1])
                        | succ k7 =>
                         have H := HA.out
                         clear HA
                         simp only [code_Good.l1] at H
                         by_cases c46 : x90_7 < (t134.length : Int)
                         ·
                          rw [if_pos c46] at H
                          have c46b0 : decide (x90_7 < (t134.length : Int)) = true := decide_eq_true c46
                          clear c46
                          by_cases c47 : 0 ≤ x90_7
                          ·
                           rw [if_pos c47] at H
                           have c47b0 : decide (0 ≤ x90_7) = true := decide_eq_true c47
                           clear c47
                           by_cases c48 : x90_7 < (t134.length : Int)
                           ·
                            rw [if_pos c48] at H
                            have c48b0 : decide (x90_7 < (t134.length : Int)) = true := decide_eq_true c48
                            clear c48
                            by_cases c49 : (rd t134 x90_7) < 0
                            ·
                             rw [if_pos c49] at H
                             have c49b0 : decide ((rd t134 x90_7) < 0) = true := decide_eq_true c49
                             clear c49
                             obtain rfl := Option.some.inj H
                             have p137 : 0 ≤ (x90_7 : Int) := of_decide_eq_true (by first | (with_reducible assumption) | assumption)
                             have q137 : x90_7 < (t134.length : Int) := of_decide_eq_true (by first | (with_reducible assumption) | assumption)
                             obtain ⟨ad137, e137, hx137_0⟩ := Kd.at_int (Kd.R_reads' HO_88.out).2.2 x90_7 p137 q137
                             cases e137
                             replace p137 := eq_true p137
                             replace q137 := eq_true q137
                             go_wp2
                             go_ret
                             exact ⟨by first | rfl | (simp [errW_none, errW_some] <;> rfl) | (simp only [← hji5]; first | rfl | (simp [errW_none, errW_some] <;> rfl)) | (simp [*, errW_none, errW_some] <;> rfl), by repeat (first | (with_reducible first | exact HB.out | apply below_alloc | apply pw_below_drewN | apply below_drew1 | refine below_set ?_ GE128.out) | exact HB.out)⟩
                            ·
                             rw [if_neg c49] at H
                             have c49b0 : decide ((rd t134 x90_7) < 0) = false := decide_eq_false c49
                             clear c49
                             by_cases c50 : (rd t134 x90_7) > 65535
                             ·
                              rw [if_pos c50] at H
                              have c50b0 : decide (65535 < (rd t134 x90_7)) = true := decide_eq_true c50
                              clear c50
                              obtain rfl := Option.some.inj H
                              have p137 : 0 ≤ (x90_7 : Int) := of_decide_eq_true (by first | (with_reducible assumption) | assumption)
                              have q137 : x90_7 < (t134.length : Int) := of_decide_eq_true (by first | (with_reducible assumption) | assumption)
                              obtain ⟨ad137, e137, hx137_0⟩ := Kd.at_int (Kd.R_reads' HO_88.out).2.2 x90_7 p137 q137
                              cases e137
                              replace p137 := eq_true p137
                              replace q137 := eq_true q137
                              go_wp2
                              go_ret
                              exact ⟨by first | rfl | (simp [errW_none, errW_some] <;> rfl) | (simp only [← hji5]; first | rfl | (simp [errW_none, errW_some] <;> rfl)) | (simp [*, errW_none, errW_some] <;> rfl), by repeat (first | (with_reducible first | exact HB.out | apply below_alloc | apply pw_below_drewN | apply below_drew1 | refine below_set ?_ GE128.out) | exact HB.out)⟩
                             ·
                              rw [if_neg c50] at H
                              have c50b0 : decide (65535 < (rd t134 x90_7)) = false := decide_eq_false c50
                              clear c50
                              have H' := Aside0.mk H
                              clear H
                              have p137 : 0 ≤ (x90_7 : Int) := of_decide_eq_true (by first | (with_reducible assumption) | assumption)
                              have q137 : x90_7 < (t134.length : Int) := of_decide_eq_true (by first | (with_reducible assumption) | assumption)
                              obtain ⟨ad137, e137, hx137_0⟩ := Kd.at_int (Kd.R_reads' HO_88.out).2.2 x90_7 p137 q137
                              cases e137
                              replace p137 := eq_true p137
                              replace q137 := eq_true q137
                              go_wp2
                              go_roundg k7
                              case measure => have := HJ1.out; have := HJ7.out; have := HK3.out; have := HJ13.out; have := HJ27.out; have := HJ36.out; have := HK7.out; omega
                              case rel => exact ⟨(wrap64 (x90_7 + 1)), (by first | rfl | (simp; done) | (simp [*]; done)), H', ⟨by have := HJ1.out; have := HJ7.out; have := HK3.out; have := HJ13.out; have := HJ27.out; have := HJ36.out; have := HK7.out; omega⟩, ⟨by (with_reducible repeat (first | apply Kd.R_alloc | apply Kd.R_drewN | apply Kd.R_drew)); exact HO_88.out⟩, ⟨by (with_reducible repeat (first | refine blk_drewN ?_ _ | refine blk_drew ?_ | refine blk_alloc ?_ _)); exact BK128.out⟩, ⟨by repeat (first | (with_reducible first | exact HB.out | apply below_alloc | apply pw_below_drewN | apply below_drew1 | refine below_set ?_ GE128.out) | exact HB.out)⟩⟩
                           ·
                            rw [if_neg c48] at H
                            exact absurd H (by simp)
                          ·
                           rw [if_neg c47] at H
                           exact absurd H (by simp)
                         ·
                          rw [if_neg c46] at H
                          have c46b0 : decide (x90_7 < (t134.length : Int)) = false := decide_eq_false c46
                          clear c46
                          have H' := Aside0.mk H
                          clear H
                          go_wp2
                          go_roundg k7
                          case measure => have := HJ1.out; have := HJ7.out; have := HK3.out; have := HJ13.out; have := HJ27.out; have := HJ36.out; have := HK7.out; omega
                          case rel => exact ⟨(wrap64 (x35_3 + 1)), (by first | rfl | (simp; done) | (simp [*]; done)), H', ⟨by have := HJ1.out; have := HJ7.out; have := HK3.out; have := HJ13.out; have := HJ27.out; have := HJ36.out; have := HK7.out; omega⟩, ⟨by repeat (first | (with_reducible first | exact HB.out | apply below_alloc | apply pw_below_drewN | apply below_drew1 | refine below_set ?_ GE128.out) | exact HB.out)⟩⟩
             ·
              rw [if_neg c13] at H
              exact absurd H (by simp)
            ·
             rw [if_neg c12] at H
             exact absurd H (by simp)
           ·
            rw [if_neg c11] at H
            have c11b0 : decide (x35_3 < (l0.length : Int)) = false := decide_eq_false c11
            clear c11
            obtain rfl := Option.some.inj H
            go_wp2
            go_ret
            exact ⟨by first | rfl | (simp [errW_none, errW_some] <;> rfl) | (simp only [← hji5]; first | rfl | (simp [errW_none, errW_some] <;> rfl)) | (simp [*, errW_none, errW_some] <;> rfl), by repeat (first | (with_reducible first | exact HB.out | apply below_alloc | apply pw_below_drewN | apply below_drew1) | exact HB.out)⟩
     ·
      rw [if_neg c7] at H
      exact absurd H (by simp)
    ·
     rw [if_neg c6] at H
     exact absurd H (by simp)

end Go.Proofs.Ytaenjbhhpdmhgaa.PTsoScript
