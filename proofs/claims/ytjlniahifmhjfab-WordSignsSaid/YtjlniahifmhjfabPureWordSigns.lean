/-
The statement WordSigns, of numbers alone: signs, and how tight they bind, are what the document says. Condition: none beyond the statement's own.
-/
import Derived.Test.YtjlniahifmhjfabMWordSignsx1
import Derived.Test.YtjlniahifmhjfabKit
import Derived.KernelRfl
set_option linter.unusedSimpArgs false
set_option linter.unusedVariables false
namespace Go.Proofs.Ytjlniahifmhjfab.Pure
open Go.RowKit Go.Proofs.Ytjlniahifmhjfab.PWordSigns Go.Proofs.YtjlniahifmhjfabW.PrintWords Go.Proofs.YtjlniahifmhjfabW.PrintLast Go.Proofs.YtjlniahifmhjfabW.PrintMore Go.Proofs.Ytjlniahifmhjfab.Kit

theorem awake_some : tautochronelaw01_awake.f = some true := by decide +kernel
theorem tight_out (a : Int) (h : a < 0 ∨ 9 < a) : word_Tight.f a = some 0 := by
  unfold word_Tight.f
  simp only [Option.bind_some]
  rcases h with h | h
  · rw [if_pos h]
  · rw [if_neg (by omega), if_pos (by simp; omega)]
def signs : List ByteArray := [(⟨#[43]⟩ : ByteArray), (⟨#[45]⟩ : ByteArray), (⟨#[42]⟩ : ByteArray), (⟨#[38]⟩ : ByteArray), (⟨#[124]⟩ : ByteArray), (⟨#[94]⟩ : ByteArray), (⟨#[60, 60]⟩ : ByteArray), (⟨#[62, 62]⟩ : ByteArray), (⟨#[61, 61]⟩ : ByteArray), (⟨#[60]⟩ : ByteArray)]
/-- What stands behind the loop, of the text that it has made. -/
def last (a : Int) (s : ByteArray) : Option Bool := (word_Tight.f a).bind fun t => (if s.toList = ([43, 32, 45, 32, 42, 32, 38, 32, 124, 32, 94, 32, 60, 60, 32, 62, 62, 32, 61, 61, 32, 60, 32] : List UInt8) then (if a ≥ 0 then (if a < 10 then (if 0 ≤ a then (if t = (((bt (⟨#[54, 54, 55, 52, 49, 50, 53, 53, 51, 51]⟩ : ByteArray) a) - 48) % 256) then (some true) else (if a < 0 then (some (t == 0)) else (if a > 9 then (some (t == 0)) else (some false)))) else (none)) else (if a < 0 then (some (t == 0)) else (if a > 9 then (some (t == 0)) else (some false)))) else (if a < 0 then (some (t == 0)) else (if a > 9 then (some (t == 0)) else (some false)))) else (some false))
theorem rounds_are (a : Int) : tautochronelaw01_WordSigns.l0 11 a (⟨#[]⟩ : ByteArray) signs 10 0 = last a (⟨#[43, 32, 45, 32, 42, 32, 38, 32, 124, 32, 94, 32, 60, 60, 32, 62, 62, 32, 61, 61, 32, 60, 32]⟩ : ByteArray) := by kernel_rfl
theorem last_in : ∀ n : Nat, n < 10 → last (n : Int) (⟨#[43, 32, 45, 32, 42, 32, 38, 32, 124, 32, 94, 32, 60, 60, 32, 62, 62, 32, 61, 61, 32, 60, 32]⟩ : ByteArray) = some true := by decide +kernel
theorem last_out (a : Int) (h : a < 0 ∨ 9 < a) : last a (⟨#[43, 32, 45, 32, 42, 32, 38, 32, 124, 32, 94, 32, 60, 60, 32, 62, 62, 32, 61, 61, 32, 60, 32]⟩ : ByteArray) = some true := by
  unfold last
  rw [tight_out a h]
  simp only [Option.bind_some]
  rw [if_pos (by decide +kernel)]
  rcases h with h | h
  · rw [if_neg (by omega), if_pos h]; rfl
  · rw [if_pos (by omega), if_neg (by omega), if_neg (by omega), if_pos (by omega)]; rfl

theorem WordSigns : tautochronelaw01_WordSigns.Pure := by
  intro a _
  refine ⟨11, ?_⟩
  unfold tautochronelaw01_WordSigns.f
  rw [awake_some]
  simp only [Option.bind_some, if_true]
  have e : (word_Signs.f).bind (fun t => tautochronelaw01_WordSigns.l0 11 a (⟨#[]⟩ : ByteArray) t (t.length : Int) 0) = tautochronelaw01_WordSigns.l0 11 a (⟨#[]⟩ : ByteArray) signs 10 0 := rfl
  rw [e, rounds_are]
  by_cases h : 0 ≤ a ∧ a < 10
  · obtain ⟨n, rfl⟩ := Int.eq_ofNat_of_zero_le h.1
    exact last_in n (by omega)
  · exact last_out a (by omega)

end Go.Proofs.Ytjlniahifmhjfab.Pure
