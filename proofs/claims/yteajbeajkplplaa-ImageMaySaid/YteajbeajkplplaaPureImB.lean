/-
The law's own may, plainly. Conditions: as each theorem states them.
-/
import Derived.Test.YteajbeajkplplaaPureImA
import Derived.Test.YteajbeajkplplaaPImageBytesx12
import Derived.Test.YteajbeajkplplaaKit
import Derived.WalkKit
import Derived.ProofKit
set_option linter.unusedSimpArgs false
set_option linter.unusedVariables false
namespace Go.Proofs.Yteajbeajkplplaa.Pure
open Go.RowKit Go.Proofs.YteajbeajkplplaaW.PrintWords Go.Proofs.YteajbeajkplplaaW.PrintLast Go.Proofs.YteajbeajkplplaaW.PrintMore Go.Proofs.Yteajbeajkplplaa.Kit
open Go.Proofs.Yteajbeajkplplaa.PImageBytes
attribute [local go_sem] max2_int min2_int max_two min_two max_three min_three max_four min_four   -- for this text's walks alone
/-! The law's may. -/
theorem lmay_l1 (L : List (List S46)) (n i s c : Int) (t : List S46) (h0 : 0 ≤ c) (h1 : c ≤ 1048576) (ht : t.length ≤ 4096) (r : Bool) (hr : Ev (fun k => tautochronelaw21_may.l0 k L n (wrap64 (i + 1)) s c L) r) :
    ∀ (m j : Nat), j + m = t.length → Ev (fun k => tautochronelaw21_may.l1 k L n i t (t.length : Int) (j : Int) s c L) ((t.drop j).all (okIn c) && r) := by
  intro m
  induction m with
  | zero =>
    intro j hj
    refine Ev.step (fun k => tautochronelaw21_may.l1.eq_2 ..) (Ev.neg (by omega) ?_)
    rw [List.drop_eq_nil_of_le (by omega)]
    simpa using hr
  | succ m ih =>
    intro j hj
    have hlt : j < t.length := by omega
    refine Ev.step (fun k => tautochronelaw21_may.l1.eq_2 ..) (Ev.pos (by omega) (Ev.pos (by omega) (Ev.pos (by omega) ?_)))
    rw [rdT_at t j hlt, List.drop_eq_getElem_cons hlt, u64_in h0 h1]
    obtain ⟨x, hx⟩ : ∃ x, x = t[j] := ⟨_, rfl⟩
    rw [← hx, List.all_cons]
    have next := ih (j + 1) (by omega)
    rw [← nxt j (by omega)] at next
    have place : (x.f0 = 4 ∨ x.f0 = 5 ∨ x.f0 = 8 ∨ x.f0 = 9 ∨ x.f0 = 10) → MayS x.f0 x.f1 x.f2 x.f3 x.f4 x.f5 x.f6 x.f7 →
        Ev (fun k => if x.f6 ≥ c then some false else tautochronelaw21_may.l1 k L n i t (t.length : Int) (wrap64 ((j : Int) + 1)) s c L) (okIn c x && (t.drop (j + 1)).all (okIn c) && r) := by
      intro hp hm
      by_cases hw : x.f6 ≥ c
      · have e : okIn c x = false := decide_eq_false (fun h => by have := h.2 hp; omega)
        rw [e]; exact Ev.pos hw (Ev.done rfl)
      · have e : okIn c x = true := decide_eq_true ⟨hm, fun _ => by omega⟩
        rw [e, Bool.true_and]; exact Ev.neg hw next
    have nope : ¬ MayS x.f0 x.f1 x.f2 x.f3 x.f4 x.f5 x.f6 x.f7 → (false : Bool) = (okIn c x && (t.drop (j + 1)).all (okIn c) && r) := by
      intro hm
      have e : okIn c x = false := decide_eq_false (fun h => hm h.1)
      rw [e]; rfl
    have four : (x.f0 = 4 ∨ x.f0 = 5 ∨ x.f0 = 8 ∨ x.f0 = 9 ∨ x.f0 = 10) → Ev (fun k => (encode_May.f k x.f0 x.f1 x.f2 x.f3 x.f4 x.f5 x.f6 x.f7).bind fun t319 => if t319 = true then (if x.f6 ≥ c then some false else tautochronelaw21_may.l1 k L n i t (t.length : Int) (wrap64 ((j : Int) + 1)) s c L) else some false) (okIn c x && (t.drop (j + 1)).all (okIn c) && r) := by
      intro hp
      refine Ev.bind (may_ev ..) ?_
      by_cases hm : MayS x.f0 x.f1 x.f2 x.f3 x.f4 x.f5 x.f6 x.f7
      · exact Ev.pos (decide_eq_true hm) (place hp hm)
      · exact Ev.neg (by simpa using hm) (Ev.done (nope hm))
    by_cases e4 : x.f0 = 4
    · exact Ev.pos e4 (four (.inl e4))
    refine Ev.neg e4 ?_
    by_cases e5 : x.f0 = 5
    · exact Ev.pos e5 (four (.inr (.inl e5)))
    refine Ev.neg e5 ?_
    by_cases e8 : x.f0 = 8
    · exact Ev.pos e8 (four (.inr (.inr (.inl e8))))
    refine Ev.neg e8 ?_
    by_cases e9 : x.f0 = 9
    · exact Ev.pos e9 (four (.inr (.inr (.inr (.inl e9)))))
    refine Ev.neg e9 (Ev.bind (may_ev ..) ?_)
    by_cases hm : MayS x.f0 x.f1 x.f2 x.f3 x.f4 x.f5 x.f6 x.f7
    · refine Ev.pos (decide_eq_true hm) ?_
      by_cases e10 : x.f0 = 10
      · exact Ev.pos e10 (place (.inr (.inr (.inr (.inr e10)))) hm)
      · refine Ev.neg e10 ?_
        have e : okIn c x = true := decide_eq_true ⟨hm, fun h => by omega⟩
        rw [e, Bool.true_and]; exact next
    · exact Ev.neg (by simpa using hm) (Ev.done (nope hm))
theorem lmay_l0 (L : List (List S46)) (s c : Int) (h0 : 0 ≤ c) (h1 : c ≤ 1048576) (hL : L.length ≤ 16) (ht : ∀ t ∈ L, t.length ≤ 9223372036854775807) :
    ∀ (m i : Nat), i + m = L.length → Ev (fun k => tautochronelaw21_may.l0 k L (L.length : Int) (i : Int) s c L) ((L.drop i).all fun t => decide (thS c t)) := by
  intro m
  induction m with
  | zero =>
    intro i hi
    refine Ev.step (fun k => tautochronelaw21_may.l0.eq_2 ..) (Ev.neg (by omega) (Ev.done ?_))
    rw [List.drop_eq_nil_of_le (by omega)]; rfl
  | succ m ih =>
    intro i hi
    have hlt : i < L.length := by omega
    refine Ev.step (fun k => tautochronelaw21_may.l0.eq_2 ..) (Ev.pos (by omega) (Ev.pos (by omega) (Ev.pos (by omega) ?_)))
    rw [rdL_at L i hlt, List.drop_eq_getElem_cons hlt, List.all_cons]
    have hr : Ev (fun k => tautochronelaw21_may.l0 k L (L.length : Int) (wrap64 ((i : Int) + 1)) s c L) ((L.drop (i + 1)).all fun t => decide (thS c t)) := by
      rw [nxt i (by omega)]; exact ih (i + 1) (by omega)
    have htl := ht L[i] (List.getElem_mem hlt)
    refine Ev.bind (good_ev L[i] htl) ?_
    by_cases hg : goodS L[i]
    · refine Ev.pos (decide_eq_true hg) ?_
      rw [thS_bool, decide_eq_true hg, Bool.true_and]
      have := lmay_l1 L (L.length : Int) (i : Int) s c L[i] h0 h1 hg.2.1 _ hr L[i].length 0 (by omega)
      simpa using this
    · refine Ev.neg (by simpa using hg) (Ev.done ?_)
      rw [thS_bool, decide_eq_false hg]; rfl
theorem lmay_ev (s c : Int) (L : List (List S46)) (ht : ∀ t ∈ L, t.length ≤ 9223372036854775807) : Ev (fun k => tautochronelaw21_may.f k s c L) (decide (imS s c L)) := by
  unfold tautochronelaw21_may.f
  have bad : ¬ imS s c L → Ev (fun k => tautochronelaw21_may.j0 k true s c L) (decide (imS s c L)) := by
    intro h; rw [decide_eq_false h]
    exact Ev.step (fun k => tautochronelaw21_may.j0.eq_2 ..) (Ev.pos rfl (Ev.done rfl))
  by_cases h0 : s < 0
  · exact Ev.pos h0 (bad (fun h => by have := h.1; omega))
  by_cases h1 : s > c
  · exact Ev.neg h0 (Ev.pos h1 (bad (fun h => by have := h.2.1; omega)))
  by_cases h2 : c > 1048576
  · exact Ev.neg h0 (Ev.neg h1 (Ev.pos h2 (bad (fun h => by have := h.2.2.1; omega))))
  refine Ev.neg h0 (Ev.neg h1 (Ev.neg h2 ?_))
  by_cases h3 : (L.length : Int) > 16
  · rw [decide_eq_true h3]; exact bad (fun h => by have := h.2.2.2.1; omega)
  · rw [decide_eq_false h3]
    refine Ev.step (fun k => tautochronelaw21_may.j0.eq_2 ..) (Ev.neg (by decide) ?_)
    have := lmay_l0 L s c (by omega) (by omega) (by omega) ht L.length 0 (by omega)
    rw [List.drop_zero, imS_bool (s := s) (by omega) (by omega) (by omega) (by omega)] at this
    exact this
end Go.Proofs.Yteajbeajkplplaa.Pure
