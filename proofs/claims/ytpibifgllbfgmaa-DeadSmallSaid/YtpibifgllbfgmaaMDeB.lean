/-
The walk of dead.needed. Conditions: as each theorem states them.
-/
import Derived.Test.YtpibifgllbfgmaaMDeA
import Derived.Maps.OwnSet
import Derived.ChangeMaps5
set_option linter.unusedSimpArgs false
set_option linter.unusedVariables false
namespace Go.Proofs.Ytpibifgllbfgmaa.Pure
open Go.RowKit Go.Proofs.YtpibifgllbfgmaaW.PrintWords Go.Proofs.YtpibifgllbfgmaaW.PrintLast Go.Proofs.YtpibifgllbfgmaaW.PrintMore Go.Proofs.Ytpibifgllbfgmaa.Kit
open Go.Proofs.Ytpibifgllbfgmaa.PDeadOf
open Go.ChangeMaps Go.MapKept
attribute [local go_sem] max2_int min2_int max_two min_two max_three min_three max_four min_four   -- for this text's walks alone
/-- Block m is a map that holds just the numbers of S, each with true. -/
def MapB (w : World) (m : Nat) (S : List Int) : Prop :=
  ∃ es clock, w.heap[m]? = some (.map es clock) ∧ (∀ e ∈ es.toList, ∃ k ∈ S, e.key = .int .i64 k ∧ e.val = .bool true) ∧ ∀ k ∈ S, ∃ e ∈ es.toList, e.key = .int .i64 k
theorem find_now (k : Int) : ∀ (es : List MapEntry) (i : Nat), (∀ e ∈ es, ∃ k, e.key = .int .i64 k ∧ e.val = .bool true) →
    ((∀ e ∈ es, e.key ≠ .int .i64 k) ∧ Instr.findNow (.int .i64) (.int .i64 k) es i = some none) ∨ ((∃ e ∈ es, e.key = .int .i64 k) ∧ ∃ j, i ≤ j ∧ j < i + es.length ∧ Instr.findNow (.int .i64) (.int .i64 k) es i = some (some (j, .bool true)) ∧ ∀ h : j - i < es.length, es[j - i].key = .int .i64 k)
  | [], i, _ => .inl ⟨by simp, rfl⟩
  | e :: es, i, h => by
    obtain ⟨q, hq, hv⟩ := h e (by simp)
    by_cases hk : k = q
    · subst hk
      refine .inr ⟨⟨e, by simp, hq⟩, i, Nat.le_refl _, by simp, by simp [Instr.findNow, Instr.sameNow, hq, hv], fun _ => by simpa using hq⟩
    · have hkb : (k == q) = false := by simpa using hk
      rcases find_now k es (i + 1) (fun e he => h e (by simp [he])) with ⟨h1, h2⟩ | ⟨⟨x, hx, hxk⟩, j, hj, hj2, h2, h3⟩
      · refine .inl ⟨?_, by simpa [Instr.findNow, Instr.sameNow, hq, hkb] using h2⟩
        intro x hx hxk
        rcases List.mem_cons.mp hx with rfl | hx
        · rw [hq] at hxk; injection hxk with _ hxk; exact hk hxk.symm
        · exact h1 x hx hxk
      · refine .inr ⟨⟨x, by simp [hx], hxk⟩, j, by omega, by simp; omega, by simpa [Instr.findNow, Instr.sameNow, hq, hkb] using h2, fun hlt => ?_⟩
        have e : j - i = (j - (i + 1)) + 1 := by omega
        have hlt' : j - (i + 1) < es.length := by simp at hlt; omega
        simp only [e, List.getElem_cons_succ]
        exact h3 hlt'
theorem run_check (b : Bool) (k : Int) (w : World) : (Instr.checkKey b 10000 3 (.int .i64 k)).run Try.prog w = .ok () w := by
  cases b <;> kernel_rfl
theorem zero4 (w : World) : (zeroValue 4).run Try.prog w = .ok (.bool false) w := by kernel_rfl
theorem run_look {w : World} {m : Nat} {S : List Int} (h : MapB w m S) (k : Int) :
    (Instr.lookup 51 (.map (some m)) (.int .i64 k) false).run Try.prog w = .ok (.bool (decide (k ∈ S))) w := by
  obtain ⟨es, clock, hh, h1, h2⟩ := h
  rcases find_now k es.toList 0 (fun e he => by obtain ⟨q, _, h⟩ := h1 e he; exact ⟨q, h⟩) with ⟨h3, h4⟩ | ⟨⟨x, hx, hxk⟩, j, _, _, h4, _⟩
  · have hn : k ∉ S := fun hk => by obtain ⟨e, he, hek⟩ := h2 k hk; exact h3 e he hek
    rw [decide_eq_false hn]
    simp [Instr.lookup, run_underlying Try.underlying51, MapKept.run_getObj_map hh, run_check, MapKept.run_findKey Try.underlying3 h4, zero4, go_sem, Result.andThen]
  · have hn : k ∈ S := by obtain ⟨q, hq, hqk, _⟩ := h1 x hx; rw [hxk] at hqk; injection hqk with _ hqk; rw [hqk]; exact hq
    rw [decide_eq_true hn]
    simp [Instr.lookup, run_underlying Try.underlying51, MapKept.run_getObj_map hh, run_check, MapKept.run_findKey Try.underlying3 h4, zero4, go_sem, Result.andThen]
theorem run_stores {w : World} {m : Nat} {S : List Int} (h : MapB w m S) (k : Int) :
    ∃ o, (Instr.mapUpdate 51 (.map (some m)) (.int .i64 k) (.bool true)).run Try.prog w = .ok () (setBlock w m o) ∧ MapB (setBlock w m o) m (S ++ [k]) := by
  obtain ⟨es, clock, hh, h1, h2⟩ := h
  rcases find_now k es.toList 0 (fun e he => by obtain ⟨q, _, h⟩ := h1 e he; exact ⟨q, h⟩) with ⟨h3, h4⟩ | ⟨⟨x, hx, hxk⟩, j, _, hj, h4, h5⟩
  · refine ⟨.map (es.push { key := .int .i64 k, val := .bool true, born := clock }) (clock + 1), ?_, _, _, heap_setBlock_same hh _, ?_, ?_⟩
    · simp [Instr.mapUpdate, run_underlying Try.underlying51, MapKept.run_getObj_map hh, run_check, MapKept.run_findKey Try.underlying3 h4, MapKept.run_setObj_map _ hh, Result.andThen, go_sem]
      rfl
    · intro e he
      rw [Array.toList_push, List.mem_append] at he
      rcases he with he | he
      · obtain ⟨q, hq, h⟩ := h1 e he; exact ⟨q, by simp [hq], h⟩
      · simp only [List.mem_singleton] at he; subst he; exact ⟨k, by simp, rfl, rfl⟩
    · intro q hq
      rcases List.mem_append.mp hq with hq | hq
      · obtain ⟨e, he, h⟩ := h2 q hq; exact ⟨e, by simp [he], h⟩
      · simp only [List.mem_singleton] at hq; subst hq; exact ⟨⟨.int .i64 q, .bool true, clock⟩, by simp, rfl⟩
  · have hj' : j < es.toList.length := by simpa using hj
    have h6 : es.toList[j].key = .int .i64 k := by simpa using h5 (by simpa using hj)
    have hej : (es[j]?.map (·.key)).getD (.int .i64 k) = .int .i64 k := by
      rw [Array.getElem?_eq_getElem (by simpa using hj')]
      simpa using h6
    refine ⟨.map (es.modify j fun e => { e with key := .int .i64 k, val := .bool true }) clock, ?_, _, _, heap_setBlock_same hh _, ?_, ?_⟩
    · have hst : (Instr.keyThatStays (.int .i64 k) (.int .i64 k)).run Try.prog w = .ok (.int .i64 k) w := by simp [Instr.keyThatStays, Instr.sameBits, go_sem]
      simp [Instr.mapUpdate, run_underlying Try.underlying51, MapKept.run_getObj_map hh, run_check, MapKept.run_findKey Try.underlying3 h4, MapKept.run_setObj_map _ hh, Result.andThen, go_sem, hej, hst]
      rfl
    · intro e he
      obtain ⟨i, hi, rfl⟩ := List.getElem_of_mem he
      simp only [Array.getElem_toList, Array.getElem_modify]
      split
      · exact ⟨k, by simp, rfl, rfl⟩
      · obtain ⟨q, hq, h⟩ := h1 (es[i]'(by simpa using hi)) (by simp)
        exact ⟨q, by simp [hq], h⟩
    · intro q hq
      have hq' : q ∈ S := by
        rcases List.mem_append.mp hq with hq | hq
        · exact hq
        · simp only [List.mem_singleton] at hq
          subst hq
          obtain ⟨q', hq', h7, _⟩ := h1 x hx
          rw [hxk] at h7; injection h7 with _ h7; rw [h7]; exact hq'
      obtain ⟨e, he, h⟩ := h2 q hq'
      obtain ⟨i, hi, rfl⟩ := List.getElem_of_mem he
      refine ⟨(es.modify j fun e => { e with key := .int .i64 k, val := .bool true })[i]'(by simpa using hi), Array.mem_toList_iff.mpr (Array.getElem_mem _), ?_⟩
      rw [Array.getElem_modify]
      split
      · rename_i hji
        subst hji
        simpa using h6.symm.trans h
      · simpa using h
theorem MapB.of {w w' : World} {m : Nat} {S : List Int} (h : MapB w m S) (hm : w'.heap[m]? = w.heap[m]?) : MapB w' m S := by
  obtain ⟨es, clock, h1, h2⟩ := h
  exact ⟨es, clock, hm.trans h1, h2⟩
theorem MapB.lt {w : World} {m : Nat} {S : List Int} (h : MapB w m S) : m < w.heap.size := by
  obtain ⟨es, clock, h1, h2⟩ := h
  exact (Array.getElem?_eq_some_iff.mp h1).1
theorem MapB.below {w w' : World} {m : Nat} {S : List Int} (h : MapB w m S) (hb : Below w.heap.size w w') : MapB w' m S := h.of (hb.block m h.lt)
/-- A store into a map of the call's own. -/
theorem run_put {w : World} {m : Nat} {S : List Int} (h : MapB w m S) (k : Int) :
    ∃ w1, (Instr.mapUpdate 51 (.map (some m)) (.int .i64 k) (.bool true)).run Try.prog w = .ok () w1 ∧ MapB w1 m (S ++ [k]) ∧ Kp w w1 m ∧ (∀ (base : Nat) (w0 : World), base ≤ m → Below base w0 w → Below base w0 w1) := by
  obtain ⟨o, h1, h2⟩ := run_stores h k
  obtain ⟨es, clock, hh, _⟩ := h
  refine ⟨_, h1, h2, ⟨by simp [setBlock], fun k _ hg => heap_setBlock_other hh o hg⟩, fun base w0 hb hB => ⟨hB.os, hB.tape, hB.output, ?_, fun k hk => ?_⟩⟩
  · exact Nat.le_trans hB.size (by simp [setBlock])
  · rw [heap_setBlock_other hh o (by omega)]; exact hB.block k hk
def usesX (x : S31) : List Int := usesS x.f0 x.f3 x.f4 x.f5
def defX (x : S31) : Bool := decide (x.f0 = 0 ∨ x.f0 = 1 ∨ x.f0 = 2 ∨ x.f0 = 3 ∨ x.f0 = 4)
def tkF (p : S31 × Bool) : List Int := if p.2 = true then usesX p.1 else []
/-- What is taken by codes that are come to. -/
def tkn (l : List S31) (o : List Bool) : List Int := (l.zip o).flatMap tkF
def stayF (T : List Int) (x : S31) (b : Bool) : Bool := b && !(defX x && !decide (x.f2 ∈ T))
/-- Which places must stay. -/
def needS (l : List S31) (o : List Bool) : List Bool := List.zipWith (stayF (tkn l o)) l o
theorem set_mid {N o : List Bool} {k : Nat} (hk : k < o.length) (hN : N.length = o.length) {b : Bool} (hb : N[k]? = some b) : N.take (k + 1) ++ o.drop (k + 1) = (N.take k ++ o.drop k).set k b := by
  have hlt : (N.take k).length = k := by rw [List.length_take]; omega
  rw [List.take_add_one, hb, List.drop_eq_getElem_cons hk, List.set_append_right k b (by omega), hlt, Nat.sub_self, List.set_cons_zero]
  simp
theorem set_same {N o : List Bool} {k : Nat} (hk : k < o.length) (hN : N.length = o.length) : (N.take k ++ o.drop k).set k (at_ o k) = N.take k ++ o.drop k := by
  have hlt : (N.take k).length = k := by rw [List.length_take]; omega
  have e : at_ o k = o[k] := by unfold at_; rw [List.getD_eq_getElem?_getD, List.getElem?_eq_getElem hk]; rfl
  rw [List.drop_eq_getElem_cons hk, List.set_append_right k _ (by omega), hlt, Nat.sub_self, List.set_cons_zero, e]
set_option maxHeartbeats 4000000 in
set_option maxRecDepth 100000 in
theorem needed.calls (l : List S31) (A : Option Addr) (c : Nat) (w : World) (hC : Kd.C k31 w A l.length l) (hc : l.length ≤ c) (hl : l.length ≤ 4096) (hl0 : 0 < l.length) :
    Calls Try.prog 18 #[.slice A l.length c] w fun e w' => ∃ v, e = .returned v ∧ Kd.R Kd.bool 4 w' w.heap.size (fun _ => True) v (needS l (reachS l)) ∧ Below w.heap.size w w' := by
  have hmm := @run_makeMap Try.prog
  have TR := reached.calls l A c w hC hc hl hl0
  have hol := (reachS_is l).1
  generalize reachS l = o at TR hol ⊢
  go_enter Try.func18, Try.ntmps18
  go_upto_region 2 with (first
    | (go_at_call 26; refine TR.mono ?_; rintro e w1 ⟨v1, rfl, hR, hb1⟩)
    | go_in)
  obtain ⟨g, cg, rfl, hgb, hgl, hcl, hgh⟩ := Kd.R_form hR (by omega)
  rw [hol] at hR ⊢
  clear TR
  go_upto_region 3 with go_in
  obtain ⟨m, hm⟩ : ∃ m, m = w1.heap.size := ⟨_, rfl⟩
  rw [← hm]
  have hM : MapB (w1.alloc (.map #[] 0)) m [] := ⟨#[], 0, by rw [hm]; exact heap_alloc_new w1 _, by simp, by simp⟩
  have hR := Kd.R_alloc hR (.map #[] 0)
  have hB := below_alloc hb1 (.map #[] 0)
  have hmb : w.heap.size ≤ m := by have := hb1.size; omega
  have ngm : g ≠ m := by omega
  generalize w1.alloc (.map #[] 0) = w2 at hM hR hB ⊢
  replace hm := Aside0.mk hm
  clear hgh hgl hb1 hmm
  go_wp2
  go_loopw [18] (fun v18 wr => ∃ k : Nat, v18 = .int .i64 k ∧ k ≤ l.length ∧ MapB wr m (((l.zip o).take k).flatMap tkF) ∧ Kd.R Kd.bool 4 wr w.heap.size (fun k => k ≠ m) (.slice (some ⟨g, 0, none⟩) l.length cg) o ∧ Below w.heap.size w wr)
    (fun v18 _ => l.length - (intOf v18).toNat)
  case atStart => exact ⟨0, rfl, by omega, hM, Kd.R_mono (Kd.R_far1 hR rfl (g := m) (by simp [Value.ownBlock]; omega)) (fun _ hk => hk.2), hB⟩
  case round =>
    clear hM hR hB
    obtain ⟨k, rfl, hk, hM, hR, hB⟩ := hrel
    by_cases hkl : k < l.length
    · obtain ⟨ad, eA, y0, y1, y2, y3, y4, y5, y6, y7⟩ := at_T31 (Kd.C_below hC hB) k (by omega) (by omega)
      subst eA
      rw [rdT_at l k hkl, Int.toNat_natCast] at y0 y1 y2 y3 y4 y5 y6 y7
      have hzt : ((l.zip o).take (k + 1)).flatMap tkF = ((l.zip o).take k).flatMap tkF ++ tkF (l[k], at_ o k) := by
        have hz : (l.zip o)[k]? = some (l[k], at_ o k) := by
          rw [List.getElem?_eq_getElem (by rw [List.length_zip, hol]; omega), List.getElem_zip]
          congr 2
          unfold at_; rw [List.getD_eq_getElem?_getD, List.getElem?_eq_getElem (by omega)]; rfl
        rw [List.take_add_one, hz, List.flatMap_append]
        simp
      obtain ⟨x, hx⟩ : ∃ x, x = l[k] := ⟨_, rfl⟩
      rw [← hx] at y0 y1 y2 y3 y4 y5 y6 y7 hzt
      obtain ⟨xo, fo⟩ := row_cell hR k hkl
      have hki : (k : Int) < (l.length : Int) := by omega
      replace hzt := Aside0.mk hzt
      replace hx := Aside0.mk hx
      go_upto_region 6 with go_in
      have e6 := heap_alloc_new wr (Obj.cells #[.int .i64 x.f0, .int .i64 x.f1, .int .i64 x.f2, .int .i64 x.f3, .int .i64 x.f4, .int .i64 x.f5, .int .u64 x.f6, .int .i64 x.f7] 31 (0, 0))
      have hb6 : Below wr.heap.size wr (wr.alloc (Obj.cells #[.int .i64 x.f0, .int .i64 x.f1, .int .i64 x.f2, .int .i64 x.f3, .int .i64 x.f4, .int .i64 x.f5, .int .u64 x.f6, .int .i64 x.f7] 31 (0, 0))) := below_alloc (Below.refl _ _) _
      generalize wr.alloc (Obj.cells #[.int .i64 x.f0, .int .i64 x.f1, .int .i64 x.f2, .int .i64 x.f3, .int .i64 x.f4, .int .i64 x.f5, .int .u64 x.f6, .int .i64 x.f7] 31 (0, 0)) = w3 at e6 hb6 ⊢
      have xo := (hb6.cell (World.block_lt_of_cell? wr _ xo)).trans xo
      have hM := hM.below hb6
      have hR := Kd.R_below hR hb6
      have hB := hB.trans (hb6.mono hB.size)
      clear y0 y1 y2 y3 y4 y5 y6 y7 fo
      generalize wr.heap.size = B6 at e6 ⊢
      clear hb6
      cases hat : at_ o k with
      | false =>
        rw [hat] at xo hzt
        go_wp2
        go_roundw
        case rel => exact ⟨k + 1, by first | rfl | go_num, by omega, by rw [hzt.out]; simpa [tkF] using hM, hR, hB⟩
        case measure => simp [intOf]; omega
      | true =>
        rw [hat] at xo hzt
        obtain ⟨ku, hku⟩ : ∃ k, code_Uses.f k x.f0 x.f1 x.f2 x.f3 x.f4 x.f5 x.f6 x.f7 = some (usesX x) := Ev.rounds (uses_ev ..)
        have hul : (usesX x).length ≤ 3 := uses_len ..
        have hzt2 : Aside0 (((l.zip o).take (k + 1)).flatMap tkF = ((l.zip o).take k).flatMap tkF ++ usesX x) := ⟨by rw [hzt.out]; rfl⟩
        clear hzt
        generalize usesX x = us at hku hul hzt2
        obtain ⟨S, hS⟩ : ∃ S, S = ((l.zip o).take k).flatMap tkF := ⟨_, rfl⟩
        rw [← hS] at hM hzt2
        replace hS := Aside0.mk hS
        have x60 := blk_cell e6 0
        have x61 := blk_cell e6 1
        have x62 := blk_cell e6 2
        have x63 := blk_cell e6 3
        have x64 := blk_cell e6 4
        have x65 := blk_cell e6 5
        have x66 := blk_cell e6 6
        have x67 := blk_cell e6 7
        have hmw := hM.lt
        have TU := fun wx => code_Uses.calls ku x.f0 x.f1 x.f2 x.f3 x.f4 x.f5 x.f6 x.f7 us wx hku
        go_upto_region 8 with (first
          | (go_at_call 22; refine (TU _).mono ?_; rintro e w4 ⟨v4, rfl, hU, hb4⟩; obtain ⟨Au, cu, rfl, hcu, hCu⟩ := Kd.R_reads hU)
          | go_in)
        clear x60 x61 x62 x63 x64 x65 x66 x67 TU hku
        have hM := hM.below hb4
        have hR := Kd.R_below hR hb4
        have hB := hB.trans (hb4.mono hB.size)
        have hU : Kd.R (Kd.int .i64) 3 w4 w3.heap.size (fun k => k ≠ m) (.slice Au us.length cu) us := Kd.R_mono (Kd.R_bound hU) (fun k hk => by have := hk.2.1; omega)
        go_wp2
        go_loopw [30] (fun v30 wr => ∃ j : Nat, v30 = .int .i64 j ∧ j ≤ us.length ∧ MapB wr m (S ++ us.take j) ∧ Kd.R Kd.bool 4 wr w.heap.size (fun k => k ≠ m) (.slice (some ⟨g, 0, none⟩) l.length cg) o ∧ Below w.heap.size w wr ∧ Kd.R (Kd.int .i64) 3 wr w3.heap.size (fun k => k ≠ m) (.slice Au us.length cu) us)
          (fun v30 _ => us.length - (intOf v30).toNat)
        case atStart => exact ⟨0, rfl, by omega, by simpa using hM, hR, hB, hU⟩
        case round =>
          clear hM hR hB hU hCu hb4 e6
          obtain ⟨j, rfl, hj, hM, hR, hB, hU⟩ := hrel
          by_cases hjl : j < us.length
          · have hji : (j : Int) < (us.length : Int) := by omega
            obtain ⟨adu, eAu, xu⟩ := Kd.at_int (Kd.R_reads' hU).2.2 (j : Int) (by omega) (by omega)
            subst eAu
            rw [rd_get us j hjl, Int.toNat_natCast] at xu
            have htj : us.take (j + 1) = us.take j ++ [us[j]] := by rw [List.take_add_one, List.getElem?_eq_getElem hjl]; rfl
            generalize us[j] = u at xu htj
            replace htj := Aside0.mk htj
            obtain ⟨w5, hput, hM5, hk5, hb5⟩ := run_put hM u
            go_wp2
            go_roundw
            case rel => exact ⟨j + 1, by first | rfl | go_num, by omega, by rw [htj.out, ← List.append_assoc]; exact hM5, R_kp hR hk5 (fun _ h => h), hb5 _ _ hmb hB, R_kp hU hk5 (fun _ h => h)⟩
            case measure => simp [intOf]; omega
          · obtain rfl : j = us.length := by omega
            rw [List.take_length] at hM
            go_wp2
            go_roundw
            case rel => exact ⟨k + 1, by first | rfl | go_num, by omega, by rw [hzt2.out]; exact hM, hR, hB⟩
            case measure => simp [intOf]; omega
    · obtain rfl : k = l.length := by omega
      rw [List.take_of_length_le (by rw [List.length_zip]; omega)] at hM
      change MapB wr m (tkn l o) at hM
      have hNl : (needS l o).length = l.length := by unfold needS; rw [List.length_zipWith]; omega
      have hNk : ∀ k (h : k < l.length), (needS l o)[k]? = some (stayF (tkn l o) l[k] (at_ o k)) := by
        intro k h
        unfold needS
        rw [List.getElem?_zipWith, List.getElem?_eq_getElem h, List.getElem?_eq_getElem (show k < o.length by omega)]
        unfold at_
        rw [List.getD_eq_getElem?_getD, List.getElem?_eq_getElem (show k < o.length by omega)]
        rfl
      obtain ⟨N, hN⟩ : ∃ N, N = needS l o := ⟨_, rfl⟩
      rw [← hN] at hNl hNk
      replace hN := Aside0.mk hN
      generalize tkn l o = T at hM hNk
      go_wp2
      go_loopw [40] (fun v40 wr => ∃ k : Nat, v40 = .int .i64 k ∧ k ≤ l.length ∧ MapB wr m T ∧ Kd.R Kd.bool 4 wr w.heap.size (fun k => k ≠ m) (.slice (some ⟨g, 0, none⟩) l.length cg) (N.take k ++ o.drop k) ∧ Below w.heap.size w wr)
        (fun v40 _ => l.length - (intOf v40).toNat)
      case atStart => exact ⟨0, rfl, by omega, hM, by simpa using hR, hB⟩
      case round =>
        clear hM hR hB hk
        obtain ⟨k, rfl, hk, hM, hR, hB⟩ := hrel
        by_cases hkl : k < l.length
        · obtain ⟨ad, eA, y0, y1, y2, y3, y4, y5, y6, y7⟩ := at_T31 (Kd.C_below hC hB) k (by omega) (by omega)
          subst eA
          rw [rdT_at l k hkl, Int.toNat_natCast] at y0 y1 y2 y3 y4 y5 y6 y7
          have hNk1 := hNk k hkl
          obtain ⟨x, hx⟩ : ∃ x, x = l[k] := ⟨_, rfl⟩
          rw [← hx] at y0 y1 y2 y3 y4 y5 y6 y7 hNk1
          have hki : (k : Int) < (l.length : Int) := by omega
          replace hx := Aside0.mk hx
          replace hNk := Aside0.mk hNk
          have hN1 : N.take (k + 1) ++ o.drop (k + 1) = (N.take k ++ o.drop k).set k (stayF T x (at_ o k)) := set_mid (by omega) (by omega) hNk1
          have hN2 : (N.take k ++ o.drop k).set k (at_ o k) = N.take k ++ o.drop k := set_same (by omega) (by omega)
          replace hN1 := Aside0.mk hN1
          replace hN2 := Aside0.mk hN2
          replace hNk1 := Aside0.mk hNk1
          go_upto_region 16 with go_in
          have e6 := heap_alloc_new wr (Obj.cells #[.int .i64 x.f0, .int .i64 x.f1, .int .i64 x.f2, .int .i64 x.f3, .int .i64 x.f4, .int .i64 x.f5, .int .u64 x.f6, .int .i64 x.f7] 31 (0, 0))
          have hb6 : Below wr.heap.size wr (wr.alloc (Obj.cells #[.int .i64 x.f0, .int .i64 x.f1, .int .i64 x.f2, .int .i64 x.f3, .int .i64 x.f4, .int .i64 x.f5, .int .u64 x.f6, .int .i64 x.f7] 31 (0, 0))) := below_alloc (Below.refl _ _) _
          generalize wr.alloc (Obj.cells #[.int .i64 x.f0, .int .i64 x.f1, .int .i64 x.f2, .int .i64 x.f3, .int .i64 x.f4, .int .i64 x.f5, .int .u64 x.f6, .int .i64 x.f7] 31 (0, 0)) = w3 at e6 hb6 ⊢
          have hM := hM.below hb6
          have hR := Kd.R_below hR hb6
          have hB := hB.trans (hb6.mono hB.size)
          clear y0 y1 y2 y3 y4 y5 y6 y7
          generalize wr.heap.size = B6 at e6 ⊢
          clear hb6
          have x60 := blk_cell e6 0
          have x61 := blk_cell e6 1
          have x62 := blk_cell e6 2
          have x63 := blk_cell e6 3
          have x64 := blk_cell e6 4
          have x65 := blk_cell e6 5
          have x66 := blk_cell e6 6
          have x67 := blk_cell e6 7
          obtain ⟨xo, fo⟩ := row_cell hR k hkl
          cases hd : defX x with
          | false =>
            have hdf : code_Defines.f x.f0 x.f1 x.f2 x.f3 x.f4 x.f5 x.f6 x.f7 = some (0, false) := by
              rw [defines_is, if_neg (of_decide_eq_false hd)]
            have TD := fun wx => code_Defines.calls x.f0 x.f1 x.f2 x.f3 x.f4 x.f5 x.f6 x.f7 0 false wx hdf
            go_upto_region 17 with (first
              | (go_at_call 21; refine (TD _).mono ?_; rintro e w4 ⟨rfl, hb4⟩)
              | go_in)
            have hM := hM.below hb4
            have hR := Kd.R_below hR hb4
            have hB := hB.trans (hb4.mono hB.size)
            go_wp2
            go_roundw
            case rel => exact ⟨k + 1, by first | rfl | go_num, by omega, hM, by rw [hN1.out]; simp only [stayF, hd, Bool.false_and, Bool.not_false, Bool.and_true]; rw [hN2.out]; exact hR, hB⟩
            case measure => simp [intOf]; omega
          | true =>
            have hdf : code_Defines.f x.f0 x.f1 x.f2 x.f3 x.f4 x.f5 x.f6 x.f7 = some (x.f2, true) := by
              rw [defines_is, if_pos (of_decide_eq_true hd)]
            have TD := fun wx => code_Defines.calls x.f0 x.f1 x.f2 x.f3 x.f4 x.f5 x.f6 x.f7 x.f2 true wx hdf
            go_upto_region 17 with (first
              | (go_at_call 21; refine (TD _).mono ?_; rintro e w4 ⟨rfl, hb4⟩)
              | go_in)
            have xo := (hb4.cell (World.block_lt_of_cell? w3 _ xo)).trans xo
            have hM := hM.below hb4
            have hR := Kd.R_below hR hb4
            have hB := hB.trans (hb4.mono hB.size)
            obtain ⟨_, fo⟩ := row_cell hR k hkl
            have hlk := run_look hM x.f2
            clear x60 x61 x62 x63 x64 x65 x66 x67 e6 TD hdf
            by_cases ht : x.f2 ∈ T
            · rw [decide_eq_true ht] at hlk
              go_wp2
              go_roundw
              case rel => exact ⟨k + 1, by first | rfl | go_num, by omega, hM, by rw [hN1.out]; simp only [stayF, hd, ht, decide_true, Bool.not_true, Bool.and_false, Bool.not_false, Bool.and_true]; rw [hN2.out]; exact hR, hB⟩
              case measure => simp [intOf]; omega
            · rw [decide_eq_false ht] at hlk
              go_wp2
              go_roundw
              case rel => exact ⟨k + 1, by first | rfl | go_num, by omega, hM.of (Below.heap_setCell _ _ _ _ (by simp; omega)), by rw [hN1.out]; simp only [stayF, hd, ht, decide_false, Bool.not_false, Bool.and_true, Bool.not_true, Bool.and_false]; have := Kd.R_putn hR (k : Int) false; rw [Int.toNat_natCast] at this; exact this, below_set hB hgb⟩
              case measure => simp [intOf]; omega
        · obtain rfl : k = l.length := by omega
          rw [List.take_of_length_le (by omega), List.drop_eq_nil_of_le (by omega), List.append_nil] at hR
          go_wp2
          go_ret
          rw [hN.out] at hR
          exact ⟨_, rfl, Kd.R_mono hR (fun _ _ => trivial), hB⟩
end Go.Proofs.Ytpibifgllbfgmaa.Pure
