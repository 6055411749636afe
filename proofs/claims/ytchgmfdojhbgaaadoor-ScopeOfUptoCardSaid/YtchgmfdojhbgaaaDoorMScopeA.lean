/-
The scope's parts: what the map tells of a name (look-ups and stores), the row of locals as it is read, and the walk of Find. Conditions: as each theorem states them.
-/
import Derived.Test.YtchgmfdojhbgaaaDoorRows
import Derived.Test.YtchgmfdojhbgaaaDoorPScopeOfx0
import Derived.Test.YtchgmfdojhbgaaaDoorKit
import Derived.WalkKit
import Derived.ProofKit
import Derived.OpenShut
import Derived.ShutString
import Derived.ChangeOld
import Derived.Below
import Derived.SizedLaws
set_option linter.unusedVariables false
set_option linter.unusedSimpArgs false
namespace Go.Proofs.YtchgmfdojhbgaaaDoor.MScope
open Go.RowKit Go.Proofs.YtchgmfdojhbgaaaDoorW.PrintWords Go.Proofs.YtchgmfdojhbgaaaDoorW.PrintLast Go.Proofs.YtchgmfdojhbgaaaDoorW.PrintMore
open Go.Proofs.YtchgmfdojhbgaaaDoor.Kit Go.ChangeMaps Go.MapKept
/-- A declaration, as the program's maps and slices hold it. -/
structure Dc where
  lock : Bool
  label : Int
  name : ByteArray
  size : Int
  by_ : ByteArray
  at_ : Int
def Dc.val (d : Dc) : Value := .agg #[.bool d.lock, .int .i64 d.label, .string d.name, .int .i64 d.size, .string d.by_, .int .i64 d.at_]
/-- A local. -/
structure Lc where
  name : ByteArray
  label : Int
  count : Int
def Lc.cells (l : Lc) : List Value := [.string l.name, .int .i64 l.label, .int .i64 l.count]
/-- Block m is a map that holds the declarations, each at its name, in their order. -/
def MapIs (w : World) (m : Nat) (D : List Dc) : Prop :=
  ∃ es clock, w.heap[m]? = some (.map es clock) ∧ es.toList.map (fun e => (e.key, e.val)) = D.map (fun d => (Value.string d.name, d.val))
/-- What the map tells of a name. -/
def look : List Dc → ByteArray → Option Dc
  | [], _ => none
  | d :: D, n => if n = d.name then some d else look D n

theorem beq_b (a b : ByteArray) : (a == b) = decide (a = b) := by
  by_cases h : a = b
  · rw [decide_eq_true h]; exact (MapKept.bytes_beq a b).mpr h
  · rw [decide_eq_false h]
    cases hb : (a == b) with
    | false => rfl
    | true => exact absurd ((MapKept.bytes_beq a b).mp hb) h
theorem find_now (n : ByteArray) : ∀ (D : List Dc) (es : List MapEntry) (i : Nat), es.map (fun e => (e.key, e.val)) = D.map (fun d => (Value.string d.name, d.val)) →
    (look D n = none ∧ Instr.findNow .string (.string n) es i = some none) ∨ (∃ d j, look D n = some d ∧ Instr.findNow .string (.string n) es i = some (some (j, d.val)))
  | [], es, i, h => by
    obtain rfl : es = [] := by simpa using h
    exact .inl ⟨rfl, rfl⟩
  | d :: D, es, i, h => by
    obtain _ | ⟨e, es⟩ := es
    · simp at h
    · simp only [List.map_cons, List.cons.injEq, Prod.mk.injEq] at h
      obtain ⟨⟨hk, hv⟩, hr⟩ := h
      by_cases hn : n = d.name
      · refine .inr ⟨d, i, by simp [look, hn], ?_⟩
        simp [Instr.findNow, Instr.sameNow, hk, hv, beq_b, hn]
      · rcases find_now n D es (i + 1) hr with ⟨h1, h2⟩ | ⟨x, j, h1, h2⟩
        · refine .inl ⟨?_, ?_⟩
          · simpa [look, hn] using h1
          · simpa [Instr.findNow, Instr.sameNow, hk, beq_b, hn] using h2
        · refine .inr ⟨x, j, ?_, ?_⟩
          · simpa [look, hn] using h1
          · simpa [Instr.findNow, Instr.sameNow, hk, beq_b, hn] using h2

def zDc : Dc := ⟨false, 0, ⟨#[]⟩, 0, ⟨#[]⟩, 0⟩
def gotV (r : Option Dc) : Value := match r with | none => .tuple #[zDc.val, .bool false] | some d => .tuple #[d.val, .bool true]
theorem zeroDc (w : World) : (zeroValue 29).run Tryd.prog w = .ok zDc.val w := by kernel_rfl
theorem run_check (b : Bool) (n : ByteArray) (w : World) : (Instr.checkKey b 10000 9 (.string n)).run Tryd.prog w = .ok () w := by
  cases b <;> kernel_rfl
theorem run_look {w : World} {m : Nat} {D : List Dc} (h : MapIs w m D) (n : ByteArray) :
    (Instr.lookup 50 (.map (some m)) (.string n) true).run Tryd.prog w = .ok (gotV (look D n)) w := by
  obtain ⟨es, clock, hh, he⟩ := h
  rcases find_now n D es.toList 0 he with ⟨h1, h2⟩ | ⟨x, j, h1, h2⟩
  · rw [h1]
    simp [Instr.lookup, run_underlying Tryd.underlying50, MapKept.run_getObj_map hh, run_check, MapKept.run_findKey Tryd.underlying9 h2, zeroDc, gotV, go_sem, zDc, Dc.val, Result.andThen]
  · rw [h1]
    simp [Instr.lookup, run_underlying Tryd.underlying50, MapKept.run_getObj_map hh, run_check, MapKept.run_findKey Tryd.underlying9 h2, zeroDc, gotV, go_sem, zDc, Dc.val, Result.andThen]
/-- A store at a name that is not there. -/
theorem run_store {w : World} {m : Nat} {D : List Dc} (h : MapIs w m D) (d : Dc) (hn : look D d.name = none) :
    ∃ o, (Instr.mapUpdate 50 (.map (some m)) (.string d.name) d.val).run Tryd.prog w = .ok () (setBlock w m o) ∧ MapIs (setBlock w m o) m (D ++ [d]) := by
  obtain ⟨es, clock, hh, he⟩ := h
  rcases find_now d.name D es.toList 0 he with ⟨h1, h2⟩ | ⟨x, j, h1, h2⟩
  · refine ⟨.map (es.push { key := .string d.name, val := d.val, born := clock }) (clock + 1), ?_, ?_⟩
    · simp [Instr.mapUpdate, run_underlying Tryd.underlying50, MapKept.run_getObj_map hh, run_check, MapKept.run_findKey Tryd.underlying9 h2, MapKept.run_setObj_map _ hh, Result.andThen, go_sem]
      rfl
    · exact ⟨_, _, heap_setBlock_same hh _, by simp [he]⟩
  · rw [hn] at h1; cases h1
/-- The scope's block, the map and the locals. -/
structure Sc (w : World) (base p m : Nat) (v : Value) (D : List Dc) (L : List Lc) : Prop where
  hp : w.heap[p]? = some (.cells #[.map (some m), v] 53 (0, 0))
  hm : MapIs w m D
  hv : w.ownsRow base 63 3 v L.length (L.flatMap Lc.cells)
  pb : base ≤ p
  mb : base ≤ m
def fndL : List Lc → ByteArray → Option (Int × Int × Int × ByteArray)
  | [], _ => none
  | l :: L, n => match fndL L n with
    | some r => some r
    | none => if l.name = n then (if 0 < l.count then some (5, l.label, l.count, ⟨#[]⟩) else some (4, l.label, 0, ⟨#[]⟩)) else none
def fndD : Option Dc → Int × Int × Int × ByteArray
  | none => (0, 0, 0, ⟨#[]⟩)
  | some d => if d.lock = true then (1, 0, 0, ⟨#[]⟩) else if 0 < d.size then (3, d.label, d.size, d.by_) else (2, d.label, 0, d.by_)
def fnd (D : List Dc) (L : List Lc) (n : ByteArray) : Int × Int × Int × ByteArray := (fndL L n).getD (fndD (look D n))
def fndV (r : Int × Int × Int × ByteArray) : Value := .tuple #[.int .i64 r.1, .int .i64 r.2.1, .int .i64 r.2.2.1, .string r.2.2.2]
theorem fndL_snoc (L : List Lc) (l : Lc) (n : ByteArray) : fndL (L ++ [l]) n = if l.name = n then (if 0 < l.count then some (5, l.label, l.count, ⟨#[]⟩) else some (4, l.label, 0, ⟨#[]⟩)) else fndL L n := by
  induction L with
  | nil => simp only [List.nil_append, fndL]
  | cons a L ih =>
    simp only [List.cons_append, fndL, ih]
    by_cases h : l.name = n
    · by_cases hc : 0 < l.count
      · simp only [if_pos h, if_pos hc]
      · simp only [if_pos h, if_neg hc]
    · simp only [if_neg h]
theorem flat_len (L : List Lc) : (L.flatMap Lc.cells).length = 3 * L.length := by
  induction L with
  | nil => rfl
  | cons a L ih => simp [List.flatMap_cons, ih, Lc.cells]; omega
theorem flat_get (L : List Lc) (i : Nat) (h : i < L.length) : (L.flatMap Lc.cells)[i * 3]? = some (.string L[i].name) ∧ (L.flatMap Lc.cells)[i * 3 + 1]? = some (.int .i64 L[i].label) ∧ (L.flatMap Lc.cells)[i * 3 + 2]? = some (.int .i64 L[i].count) := by
  induction L generalizing i with
  | nil => simp at h
  | cons a L ih =>
    cases i with
    | zero => exact ⟨rfl, rfl, rfl⟩
    | succ i =>
      have h' : i < L.length := by simpa using h
      obtain ⟨h1, h2, h3⟩ := ih i h'
      have e : ∀ k, (List.flatMap Lc.cells (a :: L))[(i + 1) * 3 + k]? = (L.flatMap Lc.cells)[i * 3 + k]? := by
        intro k
        rw [List.flatMap_cons, List.getElem?_append_right (by show 3 ≤ _; omega)]
        congr 1
        show _ - 3 = _
        omega
      have e0 := e 0
      simp only [Nat.add_zero] at e0
      rw [e0, e 1, e 2]
      exact ⟨h1, h2, h3⟩
/-- The locals as the walk reads them. -/
theorem row_reads {w : World} {base n : Nat} {v : Value} {L : List Lc} (h : w.ownsRow base 63 3 v n (L.flatMap Lc.cells)) (hn : n = L.length) :
    (v = .slice none 0 0 ∧ L = []) ∨ ∃ g cap, v = .slice (some ⟨g, 0, none⟩) L.length cap ∧ L.length ≤ cap ∧ base ≤ g ∧ g < w.heap.size ∧
      ∀ i (h : i < L.length), w.cell? ⟨g, i * 3, none⟩ = some (.string L[i].name) ∧ w.cell? ⟨g, i * 3 + 1, none⟩ = some (.int .i64 L[i].label) ∧ w.cell? ⟨g, i * 3 + 2, none⟩ = some (.int .i64 L[i].count) := by
  subst hn
  obtain ⟨hl, ⟨rfl, h0⟩ | ⟨g, cap, cur, rfl, hb, hg, hc, _, hs, ht⟩⟩ := h
  · exact .inl ⟨rfl, List.length_eq_zero_iff.mp h0⟩
  · refine .inr ⟨g, cap, rfl, hc, hb, (Array.getElem?_eq_some_iff.mp hg).1, fun i hi => ?_⟩
    obtain ⟨h1, h2, h3⟩ := flat_get L i hi
    rw [← ht] at h1 h2 h3
    have e : ∀ k u, (List.take (L.length * 3) cur.toList)[k]? = some u → w.cell? ⟨g, k, none⟩ = some u := by
      intro k u hk
      have hk2 : cur.toList[k]? = some u := by
        rw [List.getElem?_take] at hk
        split at hk
        · exact hk
        · cases hk
      simp [World.cell?, hg]
      simpa using hk2
    exact ⟨e _ _ h1, e _ _ h2, e _ _ h3⟩
theorem same_b (a b : ByteArray) : (a.toList == b.toList) = decide (a = b) := by rw [← beq_toListBytes, beq_b]
theorem fndL_none {L : List Lc} {n : ByteArray} (h : ∀ i (h : i < L.length), ¬ L[i].name = n) : fndL L n = none := by
  induction L with
  | nil => rfl
  | cons a L ih =>
    have h1 := ih (fun i hi => h (i + 1) (by simpa using hi))
    have h2 := h 0 (by simp)
    simp only [List.getElem_cons_zero] at h2
    simp [fndL, h1, h2]
theorem fndL_some {L : List Lc} {n : ByteArray} {j : Nat} (hj : j < L.length) (hn : L[j].name = n) (h : ∀ i (h : i < L.length), j < i → ¬ L[i].name = n) :
    fndL L n = if 0 < L[j].count then some (5, L[j].label, L[j].count, ⟨#[]⟩) else some (4, L[j].label, 0, ⟨#[]⟩) := by
  induction L generalizing j with
  | nil => simp at hj
  | cons a L ih =>
    cases j with
    | zero =>
      have h1 : fndL L n = none := fndL_none (fun i hi => h (i + 1) (by simpa using hi) (by omega))
      simp only [List.getElem_cons_zero] at hn
      simp [fndL, h1, hn]
    | succ j =>
      have h1 := ih (j := j) (by simpa using hj) (by simpa using hn) (fun i hi hji => h (i + 1) (by simpa using hi) (by omega))
      have hj' : j < L.length := by simpa using hj
      simp only [fndL, h1, List.getElem_cons_succ]
      by_cases hc : 0 < L[j].count
      · simp only [if_pos hc]
      · simp only [if_neg hc]
theorem MapIs.below {w w' : World} {m : Nat} {D : List Dc} (h : MapIs w m D) (hb : Below w.heap.size w w') : MapIs w' m D := by
  obtain ⟨es, clock, h1, h2⟩ := h
  exact ⟨es, clock, (hb.block m (Array.getElem?_eq_some_iff.mp h1).1).trans h1, h2⟩
set_option maxHeartbeats 4000000 in
set_option maxRecDepth 100000 in
theorem find.calls {w : World} {base p m : Nat} {v : Value} {D : List Dc} {L : List Lc} (n : ByteArray) (h : Sc w base p m v D L) (hL : L.length ≤ 4611686018427387904) :
    Calls Tryd.prog 11 #[.pointer (some ⟨p, 0, none⟩), .string n] w fun e w' => e = .returned (fndV (fnd D L n)) ∧ Below w.heap.size w w' := by
  have HB := Aside0.mk (Below.refl w.heap.size w)
  have c1 : w.cell? ⟨p, 1, none⟩ = some v := by simp [World.cell?, h.hp]
  have hlt : p < w.heap.size := (Array.getElem?_eq_some_iff.mp h.hp).1
  have c0 : w.cell? ⟨p, 0, none⟩ = some (.map (some m)) := by simp [World.cell?, h.hp]
  rcases row_reads h.hv rfl with ⟨rfl, rfl⟩ | ⟨g, cap, rfl, hcap, hg, hgl, hrd⟩
  · have hfd : fnd D [] n = fndD (look D n) := rfl
    have hlk := run_look h.hm n
    rcases hr : look D n with _ | ⟨lk, lb, nm, sz, by_, at_⟩
    · rw [hr] at hlk
      simp only [gotV, zDc, Dc.val] at hlk
      rw [hr] at hfd
      go_enter Tryd.func11, Tryd.ntmps11
      go_wp2
      refine wp_loop_rounds 1 ?_
      rw [rounds_succ]
      go_wp2
      refine bodyPost_ret (v := fndV (fnd D [] n)) (by rw [hfd]; simp [results, Tryd.results11, go_sem, fndD, fndV]) rfl ⟨rfl, ?_⟩
      repeat (first | exact Below.refl _ _ | apply below_alloc)
    · rw [hr] at hlk
      simp only [gotV, Dc.val] at hlk
      rw [hr] at hfd
      go_enter Tryd.func11, Tryd.ntmps11
      go_wp2
      refine wp_loop_rounds 1 ?_
      rw [rounds_succ]
      go_wp2
      · refine bodyPost_ret (v := fndV (fnd D [] n)) (by rw [hfd]; simp [results, Tryd.results11, go_sem, fndD, fndV, *]) rfl ⟨rfl, ?_⟩
        repeat (first | exact Below.refl _ _ | apply below_alloc)
      · go_region
        go_wp2
        refine bodyPost_ret (v := fndV (fnd D [] n)) (by rw [hfd]; simp [results, Tryd.results11, go_sem, fndD, fndV, *]) rfl ⟨rfl, ?_⟩
        repeat (first | exact Below.refl _ _ | apply below_alloc | apply below_drew1 | apply pw_below_drewN)
      · go_region
        go_wp2
        have hz : ¬ 0 < sz := by omega
        refine bodyPost_ret (v := fndV (fnd D [] n)) (by rw [hfd]; simp [results, Tryd.results11, go_sem, fndD, fndV, if_neg hz, *]) rfl ⟨rfl, ?_⟩
        repeat (first | exact Below.refl _ _ | apply below_alloc | apply below_drew1 | apply pw_below_drewN)
  · go_enter Tryd.func11, Tryd.ntmps11
    go_wp2
    go_loopw [8] (fun i wr => ∃ j : Nat, j ≤ L.length ∧ i = .int .i64 ((j : Int) - 1) ∧ (∀ i (h : i < L.length), j ≤ i → ¬ L[i].name = n) ∧ Below w.heap.size w wr)
      (fun i _ => (intOf i + 1).toNat)
    case atStart => exact ⟨L.length, Nat.le_refl _, by first | rfl | (rw [wrap_in (by omega) (by omega)]; done), fun i h1 h2 => absurd h1 (by omega), Below.refl _ _⟩
    case round =>
      obtain ⟨j, hj, rfl, hno, hnx⟩ := hrel
      have C1 : wr.cell? ⟨p, 1, none⟩ = some (.slice (some ⟨g, 0, none⟩) L.length cap) := (hnx.cell hlt).trans c1
      have C0 : wr.cell? ⟨p, 0, none⟩ = some (.map (some m)) := (hnx.cell hlt).trans c0
      have hlk := run_look (h.hm.below hnx) n
      by_cases hj0 : j = 0
      · subst hj0
        have hf : fndL L n = none := fndL_none (fun i hi => hno i hi (Nat.zero_le _))
        have hfd : fnd D L n = fndD (look D n) := by rw [fnd, hf]; rfl
        have e0 : ((0 : Nat) : Int) - 1 = -1 := by omega
        rw [e0]
        rcases hr : look D n with _ | ⟨lk, lb, nm, sz, by_, at_⟩
        · rw [hr] at hlk
          simp only [gotV, zDc, Dc.val] at hlk
          rw [hr] at hfd
          go_wp2
          refine bodyPost_ret (v := fndV (fnd D L n)) (by rw [hfd]; simp [results, Tryd.results11, go_sem, fndD, fndV]) rfl ⟨rfl, ?_⟩
          repeat (first | exact hnx | apply below_alloc)
        · rw [hr] at hlk
          simp only [gotV, Dc.val] at hlk
          rw [hr] at hfd
          go_wp2
          · refine bodyPost_ret (v := fndV (fnd D L n)) (by rw [hfd]; simp [results, Tryd.results11, go_sem, fndD, fndV, *]) rfl ⟨rfl, ?_⟩
            repeat (first | exact hnx | apply below_alloc)
          · go_region
            go_wp2
            refine bodyPost_ret (v := fndV (fnd D L n)) (by rw [hfd]; simp [results, Tryd.results11, go_sem, fndD, fndV, *]) rfl ⟨rfl, ?_⟩
            repeat (first | exact hnx | apply below_alloc | apply below_drew1 | apply pw_below_drewN)
          · go_region
            go_wp2
            have hz : ¬ 0 < sz := by omega
            refine bodyPost_ret (v := fndV (fnd D L n)) (by rw [hfd]; simp [results, Tryd.results11, go_sem, fndD, fndV, if_neg hz, *]) rfl ⟨rfl, ?_⟩
            repeat (first | exact hnx | apply below_alloc | apply below_drew1 | apply pw_below_drewN)
      · obtain ⟨i, rfl⟩ : ∃ i, j = i + 1 := ⟨j - 1, by omega⟩
        obtain ⟨r0, r1, r2⟩ := hrd i (by omega)
        have R0 := (hnx.cell (by exact hgl)).trans r0
        have R1 := (hnx.cell (by exact hgl)).trans r1
        have R2 := (hnx.cell (by exact hgl)).trans r2
        have e1 : ((i + 1 : Nat) : Int) - 1 = (i : Int) := by omega
        rw [e1]
        by_cases hnm : L[i].name = n
        · have hf := fndL_some (by omega) hnm (fun k hk hik => hno k hk (by omega))
          have hsb : (L[i].name.toList == n.toList) = true := by rw [same_b]; exact decide_eq_true hnm
          go_wp2
          · go_region
            go_wp2
            refine bodyPost_ret (v := fndV (fnd D L n)) (by rw [fnd, hf]; simp [results, Tryd.results11, go_sem, fndV, *]) rfl ⟨rfl, ?_⟩
            repeat (first | exact hnx | apply below_alloc | apply below_drew1 | apply pw_below_drewN)
          · go_region
            go_wp2
            have hz : ¬ 0 < L[i].count := by omega
            refine bodyPost_ret (v := fndV (fnd D L n)) (by rw [fnd, hf]; simp [results, Tryd.results11, go_sem, fndV, if_neg hz, *]) rfl ⟨rfl, ?_⟩
            repeat (first | exact hnx | apply below_alloc | apply below_drew1 | apply pw_below_drewN)
        · have hsb : (L[i].name.toList == n.toList) = false := by rw [same_b]; exact decide_eq_false hnm
          go_wp2
          go_roundw
          case rel =>
            refine ⟨i, by omega, ?_, ?_, by repeat (first | exact hnx | apply below_alloc)⟩
            · first | rfl | (rw [wrap_in (by omega) (by omega)]; done)
            · intro k hk hik
              by_cases hki : k = i
              · subst hki; exact hnm
              · exact hno k hk (by omega)
          case measure => simp [intOf]
end Go.Proofs.YtchgmfdojhbgaaaDoor.MScope
