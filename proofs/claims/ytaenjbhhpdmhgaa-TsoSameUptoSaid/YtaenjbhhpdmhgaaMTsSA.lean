/-
Maps of numbers; two machines beside one another in memory. Conditions: as each theorem states them.
-/
import Derived.Test.YtaenjbhhpdmhgaaMTsGM
import Derived.Test.YtaenjbhhpdmhgaaMTsY
import Derived.MapKept
import Derived.ChangeMaps5
set_option linter.unusedVariables false
set_option linter.unusedSimpArgs false
namespace Go.Proofs.Ytaenjbhhpdmhgaa.Tso
open Go.RowKit Go.Proofs.YtaenjbhhpdmhgaaW.PrintWords Go.Proofs.YtaenjbhhpdmhgaaW.PrintLast Go.Proofs.YtaenjbhhpdmhgaaW.PrintMore
open Go.Proofs.Ytaenjbhhpdmhgaa.Kit
open Go.Proofs.Ytaenjbhhpdmhgaa.PTsoScript
open Go.ChangeMaps Go.MapKept
/-- Block m is a map that holds just the numbers of S, each with true. -/
def MapB (w : World) (m : Nat) (S : List Int) : Prop :=
  ∃ es clock, w.heap[m]? = some (.map es clock) ∧ (∀ e ∈ es.toList, ∃ k ∈ S, e.key = .int .i64 k ∧ e.val = .bool true) ∧ ∀ k ∈ S, ∃ e ∈ es.toList, e.key = .int .i64 k
theorem find_now (k : Int) : ∀ (es : List MapEntry) (i : Nat), (∀ e ∈ es, ∃ k, e.key = .int .i64 k ∧ e.val = .bool true) →
    ((∀ e ∈ es, e.key ≠ .int .i64 k) ∧ Instr.findNow (.int .i64) (.int .i64 k) es i = some none) ∨ ((∃ e ∈ es, e.key = .int .i64 k) ∧ ∃ j, i ≤ j ∧ j < i + es.length ∧ Instr.findNow (.int .i64) (.int .i64 k) es i = some (some (j, .bool true)) ∧ ∀ h : j - i < es.length, es[j - i].key = .int .i64 k)
  | [], i, _ => .inl ⟨by simp, rfl⟩
  | e :: es, i, h => by
    obtain ⟨q, hq, hv⟩ := h e (by simp)
    by_cases hk : k = q
    · subst hk
      refine .inr ⟨⟨e, by simp, hq⟩, i, Nat.le_refl _, by simp, by simp [Instr.findNow, Instr.sameNow, hq, hv], fun _ => by simpa using hq⟩
    · have hkb : (k == q) = false := by simpa using hk
      rcases find_now k es (i + 1) (fun e he => h e (by simp [he])) with ⟨h1, h2⟩ | ⟨⟨x, hx, hxk⟩, j, hj, hj2, h2, h3⟩
      · refine .inl ⟨?_, by simpa [Instr.findNow, Instr.sameNow, hq, hkb] using h2⟩
        intro x hx hxk
        rcases List.mem_cons.mp hx with rfl | hx
        · rw [hq] at hxk; injection hxk with _ hxk; exact hk hxk.symm
        · exact h1 x hx hxk
      · refine .inr ⟨⟨x, by simp [hx], hxk⟩, j, by omega, by simp; omega, by simpa [Instr.findNow, Instr.sameNow, hq, hkb] using h2, fun hlt => ?_⟩
        have e : j - i = (j - (i + 1)) + 1 := by omega
        have hlt' : j - (i + 1) < es.length := by simp at hlt; omega
        simp only [e, List.getElem_cons_succ]
        exact h3 hlt'
theorem run_check (b : Bool) (k : Int) (w : World) : (Instr.checkKey b 10000 3 (.int .i64 k)).run Try.prog w = .ok () w := by
  cases b <;> kernel_rfl
theorem zero4 (w : World) : (zeroValue 4).run Try.prog w = .ok (.bool false) w := by kernel_rfl
theorem run_look {w : World} {m : Nat} {S : List Int} (h : MapB w m S) (k : Int) :
    (Instr.lookup 60 (.map (some m)) (.int .i64 k) false).run Try.prog w = .ok (.bool (decide (k ∈ S))) w := by
  obtain ⟨es, clock, hh, h1, h2⟩ := h
  rcases find_now k es.toList 0 (fun e he => by obtain ⟨q, _, h⟩ := h1 e he; exact ⟨q, h⟩) with ⟨h3, h4⟩ | ⟨⟨x, hx, hxk⟩, j, _, _, h4, _⟩
  · have hn : k ∉ S := fun hk => by obtain ⟨e, he, hek⟩ := h2 k hk; exact h3 e he hek
    rw [decide_eq_false hn]
    simp [Instr.lookup, run_underlying Try.underlying60, MapKept.run_getObj_map hh, run_check, MapKept.run_findKey Try.underlying3 h4, zero4, go_sem, Result.andThen]
  · have hn : k ∈ S := by obtain ⟨q, hq, hqk, _⟩ := h1 x hx; rw [hxk] at hqk; injection hqk with _ hqk; rw [hqk]; exact hq
    rw [decide_eq_true hn]
    simp [Instr.lookup, run_underlying Try.underlying60, MapKept.run_getObj_map hh, run_check, MapKept.run_findKey Try.underlying3 h4, zero4, go_sem, Result.andThen]
theorem run_stores {w : World} {m : Nat} {S : List Int} (h : MapB w m S) (k : Int) :
    ∃ o, (Instr.mapUpdate 60 (.map (some m)) (.int .i64 k) (.bool true)).run Try.prog w = .ok () (setBlock w m o) ∧ MapB (setBlock w m o) m (S ++ [k]) := by
  obtain ⟨es, clock, hh, h1, h2⟩ := h
  rcases find_now k es.toList 0 (fun e he => by obtain ⟨q, _, h⟩ := h1 e he; exact ⟨q, h⟩) with ⟨h3, h4⟩ | ⟨⟨x, hx, hxk⟩, j, _, hj, h4, h5⟩
  · refine ⟨.map (es.push { key := .int .i64 k, val := .bool true, born := clock }) (clock + 1), ?_, _, _, heap_setBlock_same hh _, ?_, ?_⟩
    · simp [Instr.mapUpdate, run_underlying Try.underlying60, MapKept.run_getObj_map hh, run_check, MapKept.run_findKey Try.underlying3 h4, MapKept.run_setObj_map _ hh, Result.andThen, go_sem]
      rfl
    · intro e he
      rw [Array.toList_push, List.mem_append] at he
      rcases he with he | he
      · obtain ⟨q, hq, h⟩ := h1 e he; exact ⟨q, by simp [hq], h⟩
      · simp only [List.mem_singleton] at he; subst he; exact ⟨k, by simp, rfl, rfl⟩
    · intro q hq
      rcases List.mem_append.mp hq with hq | hq
      · obtain ⟨e, he, h⟩ := h2 q hq; exact ⟨e, by simp [he], h⟩
      · simp only [List.mem_singleton] at hq; subst hq; exact ⟨⟨.int .i64 q, .bool true, clock⟩, by simp, rfl⟩
  · have hj' : j < es.toList.length := by simpa using hj
    have h6 : es.toList[j].key = .int .i64 k := by simpa using h5 (by simpa using hj)
    have hej : (es[j]?.map (·.key)).getD (.int .i64 k) = .int .i64 k := by
      rw [Array.getElem?_eq_getElem (by simpa using hj')]
      simpa using h6
    refine ⟨.map (es.modify j fun e => { e with key := .int .i64 k, val := .bool true }) clock, ?_, _, _, heap_setBlock_same hh _, ?_, ?_⟩
    · have hst : (Instr.keyThatStays (.int .i64 k) (.int .i64 k)).run Try.prog w = .ok (.int .i64 k) w := by simp [Instr.keyThatStays, Instr.sameBits, go_sem]
      simp [Instr.mapUpdate, run_underlying Try.underlying60, MapKept.run_getObj_map hh, run_check, MapKept.run_findKey Try.underlying3 h4, MapKept.run_setObj_map _ hh, Result.andThen, go_sem, hej, hst]
      rfl
    · intro e he
      obtain ⟨i, hi, rfl⟩ := List.getElem_of_mem he
      simp only [Array.getElem_toList, Array.getElem_modify]
      split
      · exact ⟨k, by simp, rfl, rfl⟩
      · obtain ⟨q, hq, h⟩ := h1 (es[i]'(by simpa using hi)) (by simp)
        exact ⟨q, by simp [hq], h⟩
    · intro q hq
      have hq' : q ∈ S := by
        rcases List.mem_append.mp hq with hq | hq
        · exact hq
        · simp only [List.mem_singleton] at hq
          subst hq
          obtain ⟨q', hq', h7, _⟩ := h1 x hx
          rw [hxk] at h7; injection h7 with _ h7; rw [h7]; exact hq'
      obtain ⟨e, he, h⟩ := h2 q hq'
      obtain ⟨i, hi, rfl⟩ := List.getElem_of_mem he
      refine ⟨(es.modify j fun e => { e with key := .int .i64 k, val := .bool true })[i]'(by simpa using hi), Array.mem_toList_iff.mpr (Array.getElem_mem _), ?_⟩
      rw [Array.getElem_modify]
      split
      · rename_i hji
        subst hji
        simpa using h6.symm.trans h
      · simpa using h
theorem MapB.of {w w' : World} {m : Nat} {S : List Int} (h : MapB w m S) (hm : w'.heap[m]? = w.heap[m]?) : MapB w' m S := by
  obtain ⟨es, clock, h1, h2⟩ := h
  exact ⟨es, clock, hm.trans h1, h2⟩
theorem MapB.lt {w : World} {m : Nat} {S : List Int} (h : MapB w m S) : m < w.heap.size := by
  obtain ⟨es, clock, h1, h2⟩ := h
  exact (Array.getElem?_eq_some_iff.mp h1).1
theorem MapB.below {w w' : World} {m : Nat} {S : List Int} (h : MapB w m S) (hb : Below w.heap.size w w') : MapB w' m S := h.of (hb.block m h.lt)

/-- A store into a map: nothing else is written. -/
theorem run_putM {w : World} {m : Nat} {S : List Int} (h : MapB w m S) (k : Int) :
    ∃ w1, (Instr.mapUpdate 60 (.map (some m)) (.int .i64 k) (.bool true)).run Try.prog w = .ok () w1 ∧ MapB w1 m (S ++ [k]) ∧ w1.heap.size = w.heap.size ∧ (∀ q, q ≠ m → w1.heap[q]? = w.heap[q]?) ∧ (∀ (base : Nat) (w0 : World), base ≤ m → Below base w0 w → Below base w0 w1) := by
  obtain ⟨o, h1, h2⟩ := run_stores h k
  obtain ⟨es, clock, hh, _⟩ := h
  refine ⟨_, h1, h2, by simp [setBlock], fun k hg => heap_setBlock_other hh o hg, fun base w0 hb hB => ⟨hB.os, hB.tape, hB.output, ?_, fun k hk => ?_⟩⟩
  · exact Nat.le_trans hB.size (by simp [setBlock])
  · rw [heap_setBlock_other hh o (by omega)]; exact hB.block k hk
/-! ### two machines -/
theorem row_kept {α : Type} {d : Kd α} {e : Nat} {W W' : World} {base : Nat} {ok : Nat → Prop} {v : Value} {xs : List α} (h : d.R e W base ok v xs) (hE : d.E = []) (hk : ∀ g, v.ownBlock = some g → W'.heap[g]? = W.heap[g]?) : d.R e W' base ok v xs :=
  Kd.R_mono (Kd.R_step (Kd.R_tight hE h) (fun k hk2 _ => hk k hk2.symm)) (fun k hk2 => h.1 k hk2.symm)
theorem Mach.kept {W W' : World} {base mb : Nat} {col : Nat → Nat} {ts : List Nat} {cv pv : Value} {M : Mch} (h : Mach W base mb col ts cv pv M) (hm : W'.heap[mb]? = W.heap[mb]?) (ht : ∀ b ∈ ts, W'.heap[b]? = W.heap[b]?)
    (hr : ∀ g cs t, W.heap[g]? = some (Obj.cells cs t (0, 0)) → (t = 28 ∨ t = 82 ∨ t = 72 ∨ (t = 26 ∧ col g ≤ ts.length)) → W'.heap[g]? = W.heap[g]?) : Mach W' base mb col ts cv pv M := by
  have row : ∀ {α : Type} {d : Kd α} {e : Nat} {ok : Nat → Prop} {v : Value} {xs : List α}, d.R e W base ok v xs → d.E = [] → (e = 28 ∨ e = 82 ∨ e = 72 ∨ (e = 26 ∧ ∀ g, ok g → col g ≤ ts.length)) → d.R e W' base ok v xs := by
    intro α d e ok v xs hR hE hd
    refine row_kept hR hE (fun g hg => ?_)
    obtain ⟨cs, hc⟩ := Kd.R_typed hR g hg
    refine hr g cs e hc ?_
    rcases hd with hd | hd | hd | ⟨hd, hd2⟩
    · exact Or.inl hd
    · exact Or.inr (Or.inl hd)
    · exact Or.inr (Or.inr (Or.inl hd))
    · exact Or.inr (Or.inr (Or.inr ⟨hd, hd2 g (hR.1 g hg)⟩))
  refine ⟨hm.trans h.blk, row h.ptrs rfl (Or.inr (Or.inr (Or.inl rfl))), row h.cells rfl (Or.inr (Or.inr (Or.inr ⟨rfl, fun g hg => by have : col g = 0 := hg; omega⟩))), h.len, fun k b t h1 h2 => ?_, h.nodup, h.le⟩
  obtain ⟨v, wv, ov, hT⟩ := h.thr k b t h1 h2
  have hkl : k < ts.length := (List.getElem?_eq_some_iff.mp h1).1
  exact ⟨v, wv, ov, (ht b (List.mem_of_getElem? h1)).trans hT.blk, hT.len, row hT.codes rfl (Or.inl rfl), row hT.wr rfl (Or.inr (Or.inl rfl)), row hT.out rfl (Or.inr (Or.inr (Or.inr ⟨rfl, fun g hg => by have : col g = k + 1 := hg; omega⟩))), hT.le⟩
theorem row_colB {α : Type} {d : Kd α} {e : Nat} {W : World} {base : Nat} {col col' : Nat → Nat} {n : Nat} {v : Value} {xs : List α} (h : d.R e W base (fun b => col b = n) v xs) (hc : ∀ b, base ≤ b → b < W.heap.size → col' b = col b) : d.R e W base (fun b => col' b = n) v xs :=
  Kd.R_mono (Kd.R_bound h) (fun k hk => by rw [hc k hk.2.1 hk.2.2.1]; exact hk.1)
theorem Mach.recolB {W : World} {base mb : Nat} {col col' : Nat → Nat} {ts : List Nat} {cv pv : Value} {M : Mch} (h : Mach W base mb col ts cv pv M) (hc : ∀ b, base ≤ b → b < W.heap.size → col' b = col b) : Mach W base mb col' ts cv pv M :=
  ⟨h.blk, h.ptrs, row_colB h.cells hc, h.len, fun k b t h1 h2 => by
    obtain ⟨v, wv, ov, hT⟩ := h.thr k b t h1 h2
    exact ⟨v, wv, ov, hT.blk, hT.len, hT.codes, hT.wr, row_colB hT.out hc, hT.le⟩, h.nodup, h.le⟩
theorem Mach.ts_blk {W : World} {base mb : Nat} {col : Nat → Nat} {ts : List Nat} {cv pv : Value} {M : Mch} (h : Mach W base mb col ts cv pv M) {b : Nat} (hb : b ∈ ts) : ∃ cs, W.heap[b]? = some (Obj.cells cs 77 (0, 0)) ∧ base ≤ b := by
  obtain ⟨i, hi, e⟩ := List.mem_iff_getElem.mp hb
  have hi2 : i < M.thr.length := by rw [← h.len]; exact hi
  obtain ⟨v, wv, ov, hT⟩ := h.thr i b M.thr[i] (by rw [List.getElem?_eq_getElem hi, e]) (List.getElem?_eq_getElem hi2)
  exact ⟨_, hT.blk, hT.le⟩
/-- Two machines apart: neither writes into what is the other's. -/
structure Two (W : World) (ba ma : Nat) (ca : Nat → Nat) (ta : List Nat) (va pa : Value) (A : Mch) (bb mb : Nat) (cb : Nat → Nat) (tb : List Nat) (vb pb : Value) (B : Mch) : Prop where
  a : Mach W ba ma ca ta va pa A
  b : Mach W bb mb cb tb vb pb B
  ne : ma ≠ mb
  ts : ∀ x ∈ ta, x ∉ tb
  col : ∀ g, g < W.heap.size → ca g ≤ ta.length → tb.length < cb g
section
variable {W W' : World} {ba ma : Nat} {ca ca' : Nat → Nat} {ta : List Nat} {va va' pa : Value} {A A' : Mch} {bb mb : Nat} {cb : Nat → Nat} {tb : List Nat} {vb pb : Value} {B : Mch}
theorem Two.symm (h : Two W ba ma ca ta va pa A bb mb cb tb vb pb B) : Two W bb mb cb tb vb pb B ba ma ca ta va pa A :=
  ⟨h.b, h.a, h.ne.symm, fun x hx hx2 => h.ts x hx2 hx, fun g hg hb => by
    rcases Nat.lt_or_ge ta.length (ca g) with h1 | h1
    · exact h1
    · have := h.col g hg h1; omega⟩
theorem Two.other (h : Two W ba ma ca ta va pa A bb mb cb tb vb pb B) (hK : Keep ba ma ta ca W W') : Mach W' bb mb cb tb vb pb B := by
  have hne : ∀ {g : Nat} {cs : Array Value} {t : TypeId}, W.heap[g]? = some (Obj.cells cs t (0, 0)) → t ≠ 77 → g ∉ ta := by
    intro g cs t hg ht hm
    obtain ⟨cs2, h2, _⟩ := h.a.ts_blk hm
    exact blk_ne hg h2 ht rfl
  refine h.b.kept ?_ ?_ ?_
  · exact hK.typed (blk_lt h.b.blk) h.ne.symm (hne h.b.blk (by decide)) (fun cs hc => blk_ne h.b.blk hc (by decide) rfl)
  · intro x hx
    obtain ⟨cs, hc, _⟩ := h.b.ts_blk hx
    exact hK.typed (blk_lt hc) (fun e => by subst e; exact blk_ne hc h.a.blk (by decide) rfl) (fun hm => h.ts x hm hx) (fun cs2 hc2 => blk_ne hc hc2 (by decide) rfl)
  · intro g cs t hg ht
    have h1 : g ≠ ma := by
      intro e
      subst e
      refine blk_ne hg h.a.blk ?_ rfl
      rcases ht with rfl | rfl | rfl | ⟨rfl, _⟩ <;> decide
    have h2 : g ∉ ta := hne hg (by rcases ht with rfl | rfl | rfl | ⟨rfl, _⟩ <;> decide)
    rcases ht with rfl | rfl | rfl | ⟨rfl, hcol⟩
    · exact hK.typed (blk_lt hg) h1 h2 (fun cs2 hc2 => blk_ne hg hc2 (by decide) rfl)
    · exact hK.typed (blk_lt hg) h1 h2 (fun cs2 hc2 => blk_ne hg hc2 (by decide) rfl)
    · exact hK.typed (blk_lt hg) h1 h2 (fun cs2 hc2 => blk_ne hg hc2 (by decide) rfl)
    · exact hK.other (blk_lt hg) h1 h2 (by
        rcases Nat.lt_or_ge ta.length (ca g) with h3 | h3
        · exact h3
        · have := h.col g (blk_lt hg) h3; omega)
theorem Two.step (h : Two W ba ma ca ta va pa A bb mb cb tb vb pb B) (hK : Keep ba ma ta ca W W') (hc : ∀ q, q < W.heap.size → ca' q = ca q) (hM : Mach W' ba ma ca' ta va' pa A') :
    Two W' ba ma ca' ta va' pa A' bb mb (fun q => if q < W.heap.size then cb q else tb.length + 1) tb vb pb B :=
  have hb' : Mach W bb mb (fun q => if q < W.heap.size then cb q else tb.length + 1) tb vb pb B := h.b.recol (fun q hq => if_pos hq)
  have h' : Two W ba ma ca ta va pa A bb mb (fun q => if q < W.heap.size then cb q else tb.length + 1) tb vb pb B := ⟨h.a, hb', h.ne, h.ts, fun g hg hl => by show tb.length < (if g < W.heap.size then cb g else tb.length + 1); rw [if_pos hg]; exact h.col g hg hl⟩
  ⟨hM, h'.other hK, h.ne, h.ts, fun g hg hl => by
    show tb.length < (if g < W.heap.size then cb g else tb.length + 1)
    by_cases hq : g < W.heap.size
    · rw [if_pos hq]; exact h.col g hq (by rw [← hc g hq]; exact hl)
    · rw [if_neg hq]; exact Nat.lt_succ_self _⟩
/-- What is made anew is neither's. -/
theorem Two.below (h : Two W ba ma ca ta va pa A bb mb cb tb vb pb B) (hb : Below W.heap.size W W') :
    Two W' ba ma ca ta va pa A bb mb (fun q => if q < W.heap.size then cb q else tb.length + 1) tb vb pb B :=
  h.step (.of hb) (fun _ _ => rfl) (h.a.below hb)
/-- A store into a map is none into a machine. -/
theorem Mach.mapped (h : Mach W bb mb cb tb vb pb B) {m : Nat} {es : Array MapEntry} {c : Nat} (hm : W.heap[m]? = some (.map es c)) (hk : ∀ q, q ≠ m → W'.heap[q]? = W.heap[q]?) : Mach W' bb mb cb tb vb pb B := by
  have hne : ∀ {g : Nat} {cs : Array Value} {t : TypeId}, W.heap[g]? = some (Obj.cells cs t (0, 0)) → W'.heap[g]? = W.heap[g]? := by
    intro g cs t hg
    refine hk g (fun e => ?_)
    subst e
    rw [hm] at hg
    cases hg
  refine h.kept (hne h.blk) (fun b hb => ?_) (fun g cs t hg _ => hne hg)
  obtain ⟨cs, hc, _⟩ := h.ts_blk hb
  exact hne hc
theorem Two.mapped (h : Two W ba ma ca ta va pa A bb mb cb tb vb pb B) {m : Nat} {es : Array MapEntry} {c : Nat} (hm : W.heap[m]? = some (.map es c)) (hk : ∀ q, q ≠ m → W'.heap[q]? = W.heap[q]?) (hs : W'.heap.size = W.heap.size) : Two W' ba ma ca ta va pa A bb mb cb tb vb pb B :=
  ⟨h.a.mapped hm hk, h.b.mapped hm hk, h.ne, h.ts, fun g hg => h.col g (by rw [← hs]; exact hg)⟩
end
end Go.Proofs.Ytaenjbhhpdmhgaa.Tso
