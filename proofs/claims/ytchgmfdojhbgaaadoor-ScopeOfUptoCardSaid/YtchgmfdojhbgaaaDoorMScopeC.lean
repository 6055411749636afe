/-
The contracts of Enter, Find at a known answer, and the law's own first test 'awake', walked whole. Conditions: as each theorem states them.
-/
import Derived.Test.YtchgmfdojhbgaaaDoorMScopeB
set_option linter.unusedVariables false
set_option linter.unusedSimpArgs false
namespace Go.Proofs.YtchgmfdojhbgaaaDoor.MScope
open Go.RowKit Go.Proofs.YtchgmfdojhbgaaaDoorW.PrintWords Go.Proofs.YtchgmfdojhbgaaaDoorW.PrintLast Go.Proofs.YtchgmfdojhbgaaaDoorW.PrintMore
open Go.Proofs.YtchgmfdojhbgaaaDoor.Kit Go.ChangeMaps Go.MapKept
attribute [local go_sem] max2_int min2_int max_two min_two max_three min_three max_four min_four   -- for this text's walks alone
def D2 : List Dc := [⟨false, 0, ⟨#[97]⟩, 0, ⟨#[]⟩, 0⟩, ⟨true, 0, ⟨#[108]⟩, 0, ⟨#[]⟩, 0⟩]
theorem okk2 : okk [] D2 = true := by decide
theorem Sc.lower {w : World} {base base' p m : Nat} {v : Value} {D : List Dc} {L : List Lc} (h : Sc w base p m v D L) (hb : base' ≤ base) : Sc w base' p m v D L :=
  ⟨h.hp, h.hm, own_weaken h.hv hb, Nat.le_trans hb h.pb, Nat.le_trans hb h.mb⟩
theorem lit2 (w : World) : (w.alloc (Obj.cells #[.bool false, .int .i64 0, .string ⟨#[97]⟩, .int .i64 0, .string ⟨#[]⟩, .int .i64 0, .bool true, .int .i64 0, .string ⟨#[108]⟩, .int .i64 0, .string ⟨#[]⟩, .int .i64 0] 29 (0, 0))).ownsRow w.heap.size 29 6 (.slice (some ⟨w.heap.size, 0, none⟩) 2 2) D2.length (D2.flatMap Dc.cells) :=
  World.ownsRow_lit w _ 2 (Nat.le_refl _) (by decide) rfl
theorem enter_free {w : World} {base p m : Nat} {v : Value} {D : List Dc} {L : List Lc} (n : ByteArray) (l c cc : Int) (L' : List Lc) (hc : (if 0 < c then c else 0) = cc) (hL' : L ++ [⟨n, l, cc⟩] = L') (hf : (fnd D L n).1 = 0) (h : Sc w base p m v D L) (hL : (L.length + 1) * 32 ≤ 140737488355328) :
    Calls Tryd.prog 12 #[.pointer (some ⟨p, 0, none⟩), .string n, .int .i64 l, .int .i64 c] w fun e w' =>
      e = .returned (.bool true) ∧ ∃ v', Sc w' base p m v' D L' ∧ Step base w w' := by
  subst hc hL'
  have := enter.calls n l c h hL
  rwa [if_pos hf, decide_eq_true hf] at this
theorem enter_taken {w : World} {base p m : Nat} {v : Value} {D : List Dc} {L : List Lc} (n : ByteArray) (l c : Int) (hf : ¬ (fnd D L n).1 = 0) (h : Sc w base p m v D L) (hL : (L.length + 1) * 32 ≤ 140737488355328) :
    Calls Tryd.prog 12 #[.pointer (some ⟨p, 0, none⟩), .string n, .int .i64 l, .int .i64 c] w fun e w' =>
      e = .returned (.bool false) ∧ ∃ v', Sc w' base p m v' D L ∧ Step base w w' := by
  have := enter.calls n l c h hL
  rwa [if_neg hf, decide_eq_false hf] at this
theorem find_at {w : World} {base p m : Nat} {v : Value} {D : List Dc} {L : List Lc} (n : ByteArray) {k l c : Int} {b : ByteArray} (hf : fnd D L n = (k, l, c, b)) (h : Sc w base p m v D L) (hL : L.length ≤ 4611686018427387904) :
    Calls Tryd.prog 11 #[.pointer (some ⟨p, 0, none⟩), .string n] w fun e w' => e = .returned (.tuple #[.int .i64 k, .int .i64 l, .int .i64 c, .string b]) ∧ Sc w' base p m v D L ∧ Step base w w' := by
  have := find.calls n h hL
  rw [hf] at this
  exact this.mono fun e w' ⟨he, hb⟩ => ⟨he, h.below hb, Step.new hb (Nat.le_trans h.pb (Nat.le_of_lt h.lt))⟩
theorem fnd_a : fnd D2 [] ⟨#[97]⟩ = (2, 0, 0, ⟨#[]⟩) := by decide
theorem fnd_i : (fnd D2 [] ⟨#[105]⟩).1 = 0 := by decide
theorem fnd_i2 : fnd D2 [⟨⟨#[105]⟩, 0, 4⟩] ⟨#[105]⟩ = (5, 0, 4, ⟨#[]⟩) := by decide
theorem fnd_a2 : (fnd D2 [⟨⟨#[105]⟩, 0, 4⟩] ⟨#[97]⟩).1 = 2 := by decide
theorem lit2g (w : World) (g : Nat) (hg : g = w.heap.size) : (w.alloc (Obj.cells #[.bool false, .int .i64 0, .string ⟨#[97]⟩, .int .i64 0, .string ⟨#[]⟩, .int .i64 0, .bool true, .int .i64 0, .string ⟨#[108]⟩, .int .i64 0, .string ⟨#[]⟩, .int .i64 0] 29 (0, 0))).ownsRow w.heap.size 29 6 (.slice (some ⟨g, 0, none⟩) 2 2) D2.length (D2.flatMap Dc.cells) := by
  subst hg; exact lit2 w
set_option maxHeartbeats 200000 in
set_option maxRecDepth 100000 in
theorem awake.calls (w : World) : Calls Tryd.prog 4 #[] w fun e w' => e = .returned (.bool true) ∧ Below w.heap.size w w' := by
  have HB := Aside0.mk ((Below.refl w.heap.size w).alloc (Nat.le_refl _) (Obj.cells #[.bool false, .int .i64 0, .string ⟨#[97]⟩, .int .i64 0, .string ⟨#[]⟩, .int .i64 0, .bool true, .int .i64 0, .string ⟨#[108]⟩, .int .i64 0, .string ⟨#[]⟩, .int .i64 0] 29 (0, 0)))
  go_enter Tryd.func4, Tryd.ntmps4
  go_upto_region 6 with (first
    | (go_at_call 7; refine (of.calls (lit2 w) okk2 (by decide)).mono ?_; rintro e w1 ⟨p, m, rfl, hS, hb⟩; have HB := Aside0.mk (HB.out.trans (hb.mono (by simp))); have hS := Aside0.mk (hS.lower (base' := w.heap.size) (by simp)))
    | (go_at_call 11; refine (find_at ⟨#[97]⟩ fnd_a hS.out (by simp)).mono ?_; rintro e w2 ⟨rfl, hS2, hst⟩; have HB := Aside0.mk (HB.out.trans hst.below); have hS := Aside0.mk hS2)
    | (go_at_call 12; refine (enter_free ⟨#[105]⟩ 0 4 4 [⟨⟨#[105]⟩, 0, 4⟩] (by decide) (by rfl) fnd_i hS.out (by simp)).mono ?_; rintro e w3 ⟨rfl, v3, hS3, hst⟩; have HB := Aside0.mk (HB.out.trans hst.below); have hS := Aside0.mk hS3)
    | go_in)
  go_wp2_with (first
    | (go_at_call 11; refine (find_at ⟨#[105]⟩ fnd_i2 hS.out (by simp)).mono ?_; rintro e w4 ⟨rfl, hS4, hst⟩; have HB := Aside0.mk (HB.out.trans hst.below); have hS := Aside0.mk hS4)
    | (go_at_call 12; refine (enter_taken ⟨#[97]⟩ 0 0 (by rw [fnd_a2]; decide) hS.out (by simp)).mono ?_; rintro e w5 ⟨rfl, v5, hS5, hst⟩; have HB := Aside0.mk (HB.out.trans hst.below))
    | go_in)
  go_ret
  exact ⟨rfl, HB.out⟩
end Go.Proofs.YtchgmfdojhbgaaaDoor.MScope
