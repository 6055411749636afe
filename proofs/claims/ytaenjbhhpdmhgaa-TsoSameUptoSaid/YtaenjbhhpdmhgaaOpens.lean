/-
How what came in is read, type by type: a datum of a slice of structs, of a struct, of a slice of slices, as a plain Lean value of the printed kinds. No condition beyond what each theorem states.
-/
import Derived.Test.YtaenjbhhpdmhgaaWords2
import Derived.Test.YtaenjbhhpdmhgaaWSized
import Derived.ChangeArms
import Derived.SizedLaws
import Derived.ProofKit
namespace Go.Proofs.Ytaenjbhhpdmhgaa.Opens
open Go.RowKit Go.Proofs.YtaenjbhhpdmhgaaW.PrintWords

/-- Data of type t read as values of the kind d, of which wf holds. -/
def Opens {α : Type} (P : Program) (t : TypeId) (d : Kd α) (wf : α → Prop) : Prop :=
  P.cellsOf t = d.sz ∧ ∀ {H : Type} (enc : TypeId × Value → H) (W : World) (base : Nat) (spare : Nat → Bool) (held : Bool) (fuel : Nat) (cs : List Value) (x : DataW H × List MemPlace),
    DataW.trod enc P W base spare held fuel t cs = some x → ∃ a, d.K W a cs ∧ wf a

theorem int {P : Program} {t : TypeId} {k : IntKind} (hu : P.underlying t = some (.int k)) (hc : P.cellsOf t = 1) : Opens P t (Kd.int k) (fun x => (Lit.int k x).wf = true) :=
  ⟨hc, fun _ _ _ _ _ _ _ _ h => by
    obtain ⟨n, rfl, _, hw⟩ := DataW.trod_int hu h
    exact ⟨n, rfl, hw⟩⟩
theorem bool {P : Program} {t : TypeId} (hu : P.underlying t = some .bool) (hc : P.cellsOf t = 1) : Opens P t Kd.bool (fun _ => True) :=
  ⟨hc, fun _ _ _ _ _ _ _ _ h => by
    obtain ⟨n, rfl, _⟩ := DataW.trod_bool hu h
    exact ⟨n, rfl, trivial⟩⟩
theorem string {P : Program} {t : TypeId} (hu : P.underlying t = some .string) (hc : P.cellsOf t = 1) : Opens P t Kd.string (fun s => s.size ≤ maxLen) :=
  ⟨hc, fun _ _ _ _ _ _ _ _ h => by
    obtain ⟨n, rfl, _, hw⟩ := DataW.trod_string hu h
    exact ⟨n, rfl, hw⟩⟩
theorem iso {α β : Type} {P : Program} {t : TypeId} {d : Kd α} {wf : α → Prop} (h : Opens P t d wf) (f : β → α) (g : α → β) (hfg : ∀ a, f (g a) = a) : Opens P t (Kd.iso d f) (fun b => wf (f b)) :=
  ⟨h.1, fun enc W base spare held fuel cs x hx => by
    obtain ⟨a, hk, hw⟩ := h.2 enc W base spare held fuel cs x hx
    exact ⟨g a, by show d.K W (f (g a)) cs; rw [hfg]; exact hk, by show wf (f (g a)); rw [hfg]; exact hw⟩⟩
theorem imp {α : Type} {P : Program} {t : TypeId} {d : Kd α} {wf wf' : α → Prop} (h : Opens P t d wf) (hi : ∀ a, wf a → wf' a) : Opens P t d wf' :=
  ⟨h.1, fun enc W base spare held fuel cs x hx => by
    obtain ⟨a, hk, hw⟩ := h.2 enc W base spare held fuel cs x hx
    exact ⟨a, hk, hi a hw⟩⟩

/-- A struct's fields from one on. -/
def OpensF {α : Type} (P : Program) (fs : List Field) (off total : Nat) (d : Kd α) (wf : α → Prop) : Prop :=
  off + d.sz = total ∧ ∀ {H : Type} (enc : TypeId × Value → H) (W : World) (base : Nat) (spare : Nat → Bool) (held : Bool) (n : Nat) (cs : List Value), cs.length = total →
    (∀ f, f ∈ fs → ∃ x, DataW.trod enc P W base spare held n f.type ((cs.drop f.offset).take (P.cellsOf f.type)) = some x) → ∃ a, d.K W a (cs.drop off) ∧ wf a
theorem last {α : Type} {P : Program} {f : Field} {off total : Nat} {d : Kd α} {wf : α → Prop} (h : Opens P f.type d wf) (ho : f.offset = off) (ht : off + d.sz = total) : OpensF P [f] off total d wf :=
  ⟨ht, fun enc W base spare held n cs hl hx => by
    obtain ⟨x, hx⟩ := hx f List.mem_cons_self
    rw [ho, h.1, List.take_of_length_le (by rw [List.length_drop]; omega)] at hx
    exact h.2 enc W base spare held n _ x hx⟩
theorem cons {α β : Type} {P : Program} {f : Field} {fs : List Field} {off total : Nat} {d : Kd α} {d2 : Kd β} {wf : α → Prop} {wf2 : β → Prop} (h : Opens P f.type d wf) (ho : f.offset = off) (h2 : OpensF P fs (off + d.sz) total d2 wf2) :
    OpensF P (f :: fs) off total (Kd.pair d d2) (fun a => wf a.1 ∧ wf2 a.2) :=
  ⟨by have := h2.1; show off + (d.sz + d2.sz) = total; omega, fun enc W base spare held n cs hl hx => by
    obtain ⟨x, hx0⟩ := hx f List.mem_cons_self
    rw [ho, h.1] at hx0
    obtain ⟨a, ha, hw⟩ := h.2 enc W base spare held n _ x hx0
    obtain ⟨b, hb, hw2⟩ := h2.2 enc W base spare held n cs hl (fun g hg => hx g (List.mem_cons_of_mem _ hg))
    refine ⟨(a, b), ⟨_, _, ?_, ha, hb⟩, hw, hw2⟩
    rw [← List.drop_drop, List.take_append_drop]⟩
theorem struct {α : Type} {P : Program} {t : TypeId} {fs : Array Field} {d : Kd α} {wf : α → Prop} (hu : P.underlying t = some (.struct fs)) (hc : P.cellsOf t = d.sz) (h : OpensF P fs.toList 0 d.sz d wf) : Opens P t d wf :=
  ⟨hc, fun enc W base spare held fuel cs x hx => by
    obtain ⟨xs, n, _, _, hl, hxl, hf⟩ := DataW.trod_struct hu hx
    obtain ⟨a, ha, hw⟩ := h.2 enc W base spare held n cs (by rw [hl, hc]) (fun f hf1 => by
      obtain ⟨i, hi, rfl⟩ := List.mem_iff_getElem.1 hf1
      have hi' : i < fs.size := by simpa using hi
      have h1 := hf i fs[i] (Array.getElem?_eq_getElem hi')
      have h2 : xs[i]? = some (xs[i]'(by omega)) := List.getElem?_eq_getElem (by omega)
      exact ⟨_, by simpa using h1.trans h2⟩)
    exact ⟨a, by simpa using ha, hw⟩⟩

/-- One value for each place below n. -/
theorem choose_list {α : Type} {n : Nat} {p : Nat → α → Prop} (h : ∀ i, i < n → ∃ a, p i a) : ∃ xs : List α, xs.length = n ∧ ∀ i a, xs[i]? = some a → p i a := by
  induction n with
  | zero => exact ⟨[], rfl, fun i a h => by simp at h⟩
  | succ n ih =>
    obtain ⟨xs, hl, hx⟩ := ih (fun i hi => h i (by omega))
    obtain ⟨a, ha⟩ := h n (by omega)
    refine ⟨xs ++ [a], by simp [hl], fun i b hb => ?_⟩
    rcases Nat.lt_or_ge i xs.length with hi | hi
    · rw [List.getElem?_append_left hi] at hb
      exact hx i b hb
    · have : i = xs.length := by
        rcases Nat.lt_or_ge xs.length i with h3 | h3
        · rw [List.getElem?_eq_none (by simp; omega)] at hb
          cases hb
        · omega
      subst this
      simp at hb
      subst hb
      rw [hl]
      exact ha
/-- A slice's reading: its elements are read, one behind the other. -/
theorem reads {α : Type} {P : Program} {t e : TypeId} {d : Kd α} {wf : α → Prop} (hu : P.underlying t = some (.slice e)) (he : Opens P e d wf) {H : Type} {enc : TypeId × Value → H} {W : World} {base : Nat} {spare : Nat → Bool} {held : Bool} {fuel : Nat} {A : Option Addr} {len cap : Nat} {x : DataW H × List MemPlace}
    (h : DataW.trod enc P W base spare held fuel t [.slice A len cap] = some x) : ∃ xs : List α, xs.length = len ∧ len ≤ cap ∧ len ≤ maxLen ∧ d.C W A len xs ∧ ∀ a ∈ xs, wf a := by
  rcases DataW.trod_slice hu h with ⟨hcs, _⟩ | ⟨ad, l, c, elems, rest, n, _, hcs, _, _, hl, hm, hlen, hel, _⟩
  · simp at hcs
    obtain ⟨rfl, rfl, rfl⟩ := hcs
    exact ⟨[], rfl, Nat.le_refl _, Nat.zero_le _, ⟨rfl, by omega, fun h => by omega⟩, by simp⟩
  · simp at hcs
    obtain ⟨rfl, rfl, rfl⟩ := hcs
    obtain ⟨xs, hxl, hx⟩ := choose_list (α := α) (n := len) (p := fun i a => (∃ c, c.length = d.sz ∧ d.K W a c ∧ ∀ j u, c[j]? = some u → W.cell? (ad.add (i * d.sz + j)) = some u) ∧ wf a) (fun i hi => by
      have h1 := hel i hi
      rw [List.getElem?_eq_getElem (by omega), he.1] at h1
      obtain ⟨cs, hcs, htr⟩ := Option.bind_eq_some_iff.1 h1
      obtain ⟨a, ha, hw⟩ := he.2 enc W base spare held n cs _ htr
      obtain ⟨_, hcl, hcc⟩ := World.cells?_some hcs
      refine ⟨a, ⟨cs, hcl, ha, fun j u hj => ?_⟩, hw⟩
      have hj' : j < d.sz := by
        rw [← hcl]
        exact (List.getElem?_eq_some_iff.1 hj).1
      have h2 := hcc j hj'
      rw [hj] at h2
      rw [← h2, add_add])
    refine ⟨xs, hxl, hl, by omega, ⟨hxl, by simp only [maxLen] at hm; omega, fun _ => ⟨ad, rfl, fun j p hp => (hx j p hp).1⟩⟩, fun a ha => ?_⟩
    obtain ⟨i, hi⟩ := List.mem_iff_getElem?.1 ha
    exact (hx i a hi).2
theorem slice {α : Type} {P : Program} {t e : TypeId} {d : Kd α} {wf : α → Prop} (hu : P.underlying t = some (.slice e)) (hc : P.cellsOf t = 1) (he : Opens P e d wf) : Opens P t (Kd.slice e d) (fun xs => xs.length ≤ maxLen ∧ ∀ a ∈ xs, wf a) :=
  ⟨hc, fun enc W base spare held fuel cs x h => by
    have hform : ∃ A len cap, cs = [.slice A len cap] := by
      rcases DataW.trod_slice hu h with ⟨hcs, _⟩ | ⟨ad, l, c, _, _, _, _, hcs, _⟩
      · exact ⟨_, _, _, hcs⟩
      · exact ⟨_, _, _, hcs⟩
    obtain ⟨A, len, cap, rfl⟩ := hform
    obtain ⟨xs, hl, hcap, hm, hC, hw⟩ := reads hu he h
    subst hl
    exact ⟨xs, ⟨A, cap, rfl, hcap, hC⟩, hm, hw⟩⟩

/-- A row's slice is no longer than its weight allows. -/
theorem sized {H : Type} {enc : TypeId × Value → H} {P : Program} {W : World} {base : Nat} {spare : Nat → Bool} {held : Bool} {t e : TypeId} {a : Option Addr} {len cap : Nat} {d : DataW H} {ps : List MemPlace} {ts : List TypeId} {ds : List (DataW H)} {j : Nat}
    (hsz : (DataW.weightsEach P ts ds).all (· ≤ reachBytes) = true) (ht : ts[j]? = some t) (hd : ds[j]? = some d) (hu : P.underlying t = some (.slice e)) {B : Nat} (hB : P.bytesOf e = B)
    (h : DataW.Trod enc P W base spare held t (.slice a len cap) d ps) : len * B ≤ 140737488351232 := by
  obtain ⟨fuel, hf⟩ := h
  rcases DataW.trod_slice hu hf with ⟨hcs, _⟩ | ⟨x, l, c, elems, rest, n, _, hcs, hx, _, hl, hm, hlen, _⟩
  · simp [Value.cells] at hcs
    obtain ⟨rfl, rfl, rfl⟩ := hcs
    simp
  · simp [Value.cells] at hcs
    obtain ⟨rfl, rfl, rfl⟩ := hcs
    obtain ⟨hx, _⟩ := Prod.mk.inj hx
    subst hx
    have z := sized_slice hsz ht hd hu
    rw [hB] at z
    refine Nat.le_trans (Nat.mul_le_mul_right _ ?_) z
    rw [List.length_map]
    omega
end Go.Proofs.Ytaenjbhhpdmhgaa.Opens
