/-
The law's awake: the document's examples hold. Conditions: as each theorem states them.
-/
import Derived.Test.YtmklkkpeolnjbaaDoorMCut
set_option linter.unusedVariables false
set_option linter.unusedSimpArgs false
namespace Go.Proofs.YtmklkkpeolnjbaaDoor.Lex
open Go.RowKit Go.Proofs.YtmklkkpeolnjbaaDoorW.PrintWords Go.Proofs.YtmklkkpeolnjbaaDoorW.PrintLast Go.Proofs.YtmklkkpeolnjbaaDoorW.PrintMore
open Go.Proofs.YtmklkkpeolnjbaaDoor.Kit Go.ChangeMaps Go.MapKept
open Go.Proofs.YtmklkkpeolnjbaaDoor.PLexCut
theorem awk1 : cutS ⟨#[97, 49, 60, 60, 50, 32, 35, 32, 120]⟩ 10 0 [] = .inl [⟨1, ⟨#[97, 49]⟩, 0, 0⟩, ⟨4, ⟨#[60, 60]⟩, 0, 2⟩, ⟨3, ⟨#[50]⟩, 2, 4⟩, ⟨0, ⟨#[]⟩, 0, 9⟩] := by kernel_rfl
theorem awk2 : cutS ⟨#[50, 97]⟩ 3 0 [] = .inr 0 := by kernel_rfl
def awkTs : List Tok := [⟨1, ⟨#[97, 49]⟩, 0, 0⟩, ⟨4, ⟨#[60, 60]⟩, 0, 2⟩, ⟨3, ⟨#[50]⟩, 2, 4⟩, ⟨0, ⟨#[]⟩, 0, 9⟩]
theorem cut_awk1 (w : World) : Calls Tryd.prog 10 #[.string ⟨#[97, 49, 60, 60, 50, 32, 35, 32, 120]⟩] w fun e w' => Below w.heap.size w w' ∧ ∃ A c, e = .returned (.tuple #[.slice A 4 c, .nilIface]) ∧ 4 ≤ c ∧ Kd.C kTok w' A 4 awkTs := by
  have h := cut.calls ⟨#[97, 49, 60, 60, 50, 32, 35, 32, 120]⟩ w (by decide)
  rw [show (⟨#[97, 49, 60, 60, 50, 32, 35, 32, 120]⟩ : ByteArray).size + 1 = 10 from rfl, awk1] at h
  exact h
theorem cut_awk2 (w : World) : Calls Tryd.prog 10 #[.string ⟨#[50, 97]⟩] w fun e w' => Below w.heap.size w w' ∧ ∃ v, e = .returned (.tuple #[.slice none 0 0, v]) ∧ As.Fault w' v 1 0 := by
  have h := cut.calls ⟨#[50, 97]⟩ w (by decide)
  rw [show (⟨#[50, 97]⟩ : ByteArray).size + 1 = 3 from rfl, awk2] at h
  exact h
set_option maxRecDepth 20000 in
theorem awake.calls (w : World) (hg : As.Handle w) : Calls Tryd.prog 9 #[] w fun e w' => e = .returned (.bool true) ∧ Below w.heap.size w w' := by
  have C1 := cut_awk1
  have C2 := cut_awk2
  go_enter Tryd.func9, Tryd.ntmps9
  go_upto_region 2 with (first
    | (go_at_call 10; refine (C1 w).mono ?_; rintro e w1 ⟨hb1, A, c, rfl, hc, hC⟩)
    | go_in)
  go_upto_region 3 with (first
    | (go_at_call 10; refine (C2 w1).mono ?_; rintro e w2 ⟨hb2, v, rfl, hF⟩)
    | go_in)
  have hg2 := (hg.below hb1).below hb2
  have hC2 := Kd.C_below hC hb2
  obtain ⟨ad, rfl, c01, c02, c03, c04⟩ := at_Tok hC2 0 (by decide) (by decide)
  obtain ⟨_, e1, c11, c12, c13, c14⟩ := at_Tok hC2 1 (by decide) (by decide)
  obtain rfl := Option.some.inj e1
  obtain ⟨_, e2, c21, c22, c23, c24⟩ := at_Tok hC2 2 (by decide) (by decide)
  obtain rfl := Option.some.inj e2
  obtain ⟨_, e3, c31, c32, c33, c34⟩ := at_Tok hC2 3 (by decide) (by decide)
  obtain rfl := Option.some.inj e3
  clear e1 e2 e3
  have r0 : rdTok awkTs 0 = ⟨1, ⟨#[97, 49]⟩, 0, 0⟩ := rfl
  have r1 : rdTok awkTs 1 = ⟨4, ⟨#[60, 60]⟩, 0, 2⟩ := rfl
  have r2 : rdTok awkTs 2 = ⟨3, ⟨#[50]⟩, 2, 4⟩ := rfl
  have r3 : rdTok awkTs 3 = ⟨0, ⟨#[]⟩, 0, 9⟩ := rfl
  rw [r0] at c02; rw [r1] at c12; rw [r2] at c23; rw [r3] at c34
  have e0 : Int.toNat 0 * 4 = 0 := rfl
  have e1 : Int.toNat 1 * 4 = 4 := rfl
  have e2 : Int.toNat 2 * 4 = 8 := rfl
  have e3 : Int.toNat 3 * 4 = 12 := rfl
  rw [e0] at c02; rw [e1] at c12; rw [e2] at c23; rw [e3] at c34
  clear e0 e1 e2 e3
  replace c02 : w2.cell? ⟨ad.block, ad.off + 1, none⟩ = some (.string ⟨#[97, 49]⟩) := c02
  replace c12 : w2.cell? ⟨ad.block, ad.off + 5, none⟩ = some (.string ⟨#[60, 60]⟩) := c12
  replace c23 : w2.cell? ⟨ad.block, ad.off + 10, none⟩ = some (.int .u64 2) := c23
  replace c34 : w2.cell? ⟨ad.block, ad.off + 15, none⟩ = some (.int .i64 9) := c34
  clear c01 c03 c04 c11 c13 c14 c21 c22 c24 c31 c32 c33 r0 r1 r2 r3 hC hC2
  have N1 := As.number.calls v 1 0 w2 hg2 hF
  go_wp2_with (first
    | (go_at_call 13; refine N1.mono ?_; rintro e w3 ⟨rfl, hb3⟩; have P1 := As.place.calls v 1 0 w3 (hg2.below hb3) (hF.below hb3))
    | (go_at_call 14; refine P1.mono ?_; rintro e w4 ⟨rfl, hb4⟩))
  go_ret
  have b12 := hb1.trans (hb2.mono hb1.size)
  have b13 := b12.trans (hb3.mono b12.size)
  exact ⟨rfl, b13.trans (hb4.mono b13.size)⟩
end Go.Proofs.YtmklkkpeolnjbaaDoor.Lex
