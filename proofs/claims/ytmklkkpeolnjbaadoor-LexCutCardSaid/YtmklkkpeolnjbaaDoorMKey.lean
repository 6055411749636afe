/-
lex.Keys, and the table of the words that have a meaning: made when it is asked first, then asked. Conditions: as each theorem states them.
-/
import Derived.Test.YtmklkkpeolnjbaaDoorPLexCutx0
import Derived.Test.YtmklkkpeolnjbaaDoorKit
import Derived.Test.YtmklkkpeolnjbaaDoorMOnce
import Derived.WalkKit
import Derived.ProofKit
import Derived.OpenShut
import Derived.ShutString
import Derived.ChangeOld
import Derived.Below
import Derived.SizedLaws
set_option linter.unusedVariables false
set_option linter.unusedSimpArgs false
namespace Go.Proofs.YtmklkkpeolnjbaaDoor.Lex
open Go.RowKit Go.Proofs.YtmklkkpeolnjbaaDoorW.PrintWords Go.Proofs.YtmklkkpeolnjbaaDoorW.PrintLast Go.Proofs.YtmklkkpeolnjbaaDoorW.PrintMore
open Go.Proofs.YtmklkkpeolnjbaaDoor.Kit Go.ChangeMaps Go.MapKept
attribute [local go_sem] max2_int min2_int max_two min_two max_three min_three max_four min_four   -- for this text's walks alone
/-- The words that have a meaning. -/
def keys : List ByteArray := [⟨#[112, 117, 98, 108, 105, 99]⟩, ⟨#[115, 101, 99, 114, 101, 116]⟩, ⟨#[108, 111, 99, 107]⟩, ⟨#[98, 121]⟩, ⟨#[116, 104, 114, 101, 97, 100]⟩, ⟨#[105, 102]⟩, ⟨#[101, 108, 115, 101]⟩, ⟨#[108, 111, 111, 112]⟩, ⟨#[116, 97, 107, 101]⟩, ⟨#[103, 105, 118, 101]⟩, ⟨#[97, 100, 100]⟩, ⟨#[102, 101, 110, 99, 101]⟩, ⟨#[111, 117, 116, 112, 117, 116]⟩, ⟨#[108, 111, 99, 97, 108]⟩, ⟨#[112, 105, 99, 107]⟩]
theorem keys_nodup : keys.Nodup := by decide
def keyCells : Array Value := (keys.map Value.string).toArray
theorem beq_b (a b : ByteArray) : (a == b) = decide (a = b) := by
  by_cases h : a = b
  · rw [decide_eq_true h]; exact (MapKept.bytes_beq a b).mpr h
  · rw [decide_eq_false h]
    cases hb : (a == b) with
    | false => rfl
    | true => exact absurd ((MapKept.bytes_beq a b).mp hb) h
/-- Block m is a map that holds these words, each true. -/
def KeyMap (w : World) (m : Nat) (K : List ByteArray) : Prop :=
  ∃ es clock, w.heap[m]? = some (.map es clock) ∧ es.toList.map (fun e => (e.key, e.val)) = K.map (fun k => (Value.string k, Value.bool true))
theorem find_now (n : ByteArray) : ∀ (K : List ByteArray) (es : List MapEntry) (i : Nat), es.map (fun e => (e.key, e.val)) = K.map (fun k => (Value.string k, Value.bool true)) →
    (n ∉ K ∧ Instr.findNow .string (.string n) es i = some none) ∨ (n ∈ K ∧ ∃ j, Instr.findNow .string (.string n) es i = some (some (j, .bool true)))
  | [], es, i, h => by
    obtain rfl : es = [] := by simpa using h
    exact .inl ⟨by simp, rfl⟩
  | k :: K, es, i, h => by
    obtain _ | ⟨e, es⟩ := es
    · simp at h
    · simp only [List.map_cons, List.cons.injEq, Prod.mk.injEq] at h
      obtain ⟨⟨hk, hv⟩, hr⟩ := h
      by_cases hn : n = k
      · refine .inr ⟨by simp [hn], i, ?_⟩
        simp [Instr.findNow, Instr.sameNow, hk, hv, beq_b, hn]
      · rcases find_now n K es (i + 1) hr with ⟨h1, h2⟩ | ⟨h1, j, h2⟩
        · refine .inl ⟨by simp [hn, h1], ?_⟩
          simpa [Instr.findNow, Instr.sameNow, hk, beq_b, hn] using h2
        · refine .inr ⟨by simp [h1], j, ?_⟩
          simpa [Instr.findNow, Instr.sameNow, hk, beq_b, hn] using h2
theorem run_check (b : Bool) (n : ByteArray) (w : World) : (Instr.checkKey b 10000 9 (.string n)).run Tryd.prog w = .ok () w := by
  cases b <;> kernel_rfl
def isKey (K : List ByteArray) (n : ByteArray) : Bool := K.any fun k => decide (n = k)
theorem isKey_mem {K : List ByteArray} {n : ByteArray} : isKey K n = true ↔ n ∈ K := by
  unfold isKey
  rw [List.any_eq_true]
  exact ⟨fun ⟨k, hk, h⟩ => of_decide_eq_true h ▸ hk, fun h => ⟨n, h, decide_eq_true rfl⟩⟩
theorem zeroB (w : World) : (zeroValue 4).run Tryd.prog w = .ok (.bool false) w := by kernel_rfl
theorem run_look {w : World} {m : Nat} {K : List ByteArray} (h : KeyMap w m K) (n : ByteArray) :
    (Instr.lookup 57 (.map (some m)) (.string n) false).run Tryd.prog w = .ok (.bool (isKey K n)) w := by
  obtain ⟨es, clock, hh, he⟩ := h
  rcases find_now n K es.toList 0 he with ⟨h1, h2⟩ | ⟨h1, j, h2⟩
  · rw [show isKey K n = false from Bool.eq_false_iff.mpr (fun h => h1 (isKey_mem.mp h))]
    simp [Instr.lookup, run_underlying Tryd.underlying57, MapKept.run_getObj_map hh, run_check, MapKept.run_findKey Tryd.underlying9 h2, zeroB, go_sem, Result.andThen]
  · rw [isKey_mem.mpr h1]
    simp [Instr.lookup, run_underlying Tryd.underlying57, MapKept.run_getObj_map hh, run_check, MapKept.run_findKey Tryd.underlying9 h2, zeroB, go_sem, Result.andThen]
theorem run_store {w : World} {m : Nat} {K : List ByteArray} (h : KeyMap w m K) (k : ByteArray) (hn : k ∉ K) :
    ∃ o, (Instr.mapUpdate 57 (.map (some m)) (.string k) (.bool true)).run Tryd.prog w = .ok () (setBlock w m o) ∧ KeyMap (setBlock w m o) m (K ++ [k]) := by
  obtain ⟨es, clock, hh, he⟩ := h
  rcases find_now k K es.toList 0 he with ⟨h1, h2⟩ | ⟨h1, j, h2⟩
  · refine ⟨.map (es.push { key := .string k, val := .bool true, born := clock }) (clock + 1), ?_, ?_⟩
    · simp [Instr.mapUpdate, run_underlying Tryd.underlying57, MapKept.run_getObj_map hh, run_check, MapKept.run_findKey Tryd.underlying9 h2, MapKept.run_setObj_map _ hh, Result.andThen, go_sem]
      rfl
    · exact ⟨_, _, heap_setBlock_same hh _, by simp [he]⟩
  · exact absurd h1 hn
set_option maxRecDepth 100000 in
theorem keys.calls (w : World) : Calls Tryd.prog 15 #[] w fun e w' => e = .returned (.slice (some ⟨w.heap.size, 0, none⟩) 15 15) ∧ w' = w.alloc (.cells keyCells 9) := by
  go_enter Tryd.func15, Tryd.ntmps15
  go_wp2
  go_ret
  exact ⟨rfl, rfl⟩
def tabObj (d s : Int) (m : Option Nat) : Obj := Obj.cells #[.int .u32 d, .int .i32 s, .int .u32 0, .map m] 59 (0, 0)
theorem key_cell {w : World} {g : Nat} (h : w.heap[g]? = some (Obj.cells keyCells 9 (0, 0))) (q : Nat) (hq : q < keys.length) : w.cell? ⟨g, q, none⟩ = some (.string keys[q]) := by
  rw [blk_cell h q]
  unfold keyCells
  simp [hq]
set_option maxHeartbeats 4000000 in
set_option maxRecDepth 100000 in
theorem cl.calls (b : Nat) (pl : Addr) (w : World) (hpb : pl.block ≠ b) (hp : w.cell? pl = some (.pointer (some ⟨b, 0, none⟩))) (hb : w.heap[b]? = some (tabObj 0 1 none)) :
    Calls Tryd.prog 32 #[.pointer (some pl)] w fun e w' => e = .returned (.tuple #[]) ∧ ∃ m, w.heap.size ≤ m ∧ w'.heap[b]? = some (tabObj 0 1 (some m)) ∧ KeyMap w' m keys ∧ w.grownBy w' (some b) := by
  have hmm := @run_makeMap Tryd.prog
  have hbl : b < w.heap.size := blk_lt hb
  have hpl : pl.block < w.heap.size := World.block_lt_of_cell? w _ hp
  have hkl : keys.length = 15 := rfl
  have f3 : w.frozen? ⟨b, 3, none⟩ = false := by simp [World.frozen?, hb, tabObj]
  have c3 : w.cell? ⟨b, 3, none⟩ = some (.map none) := by simp [World.cell?, hb, tabObj]
  go_enter Tryd.func32, Tryd.ntmps32
  go_upto_region 1 with go_in
  have e1 : ((w.setCell ⟨b, 3, none⟩ (.map (some w.heap.size))).alloc (Obj.map #[] 0)).heap[b]? = some (tabObj 0 1 (some w.heap.size)) := by
    refine (Below.heap_alloc _ _ _ (by simpa using hbl)).trans ?_
    exact blk_put hb 3 _ rfl
  have e2 : ((w.setCell ⟨b, 3, none⟩ (.map (some w.heap.size))).alloc (Obj.map #[] 0)).heap[w.heap.size]? = some (Obj.map #[] 0) := by
    have := heap_alloc_new (w.setCell ⟨b, 3, none⟩ (.map (some w.heap.size))) (Obj.map #[] 0)
    simpa using this
  have g1 : w.grownBy ((w.setCell ⟨b, 3, none⟩ (.map (some w.heap.size))).alloc (Obj.map #[] 0)) (some b) :=
    ⟨rfl, rfl, rfl, by simp, fun k hk hne => (Below.heap_alloc _ _ _ (by simpa using hk)).trans (Below.heap_setCell _ _ _ _ (fun e => hne (by rw [e])))⟩
  have s1 : ((w.setCell ⟨b, 3, none⟩ (.map (some w.heap.size))).alloc (Obj.map #[] 0)).heap.size = w.heap.size + 1 := by simp
  generalize (w.setCell ⟨b, 3, none⟩ (.map (some w.heap.size))).alloc (Obj.map #[] 0) = W1 at e1 e2 g1 s1 ⊢
  replace s1 := Aside0.mk s1
  have km : KeyMap W1 w.heap.size [] := ⟨#[], 0, e2, rfl⟩
  go_upto_region 2 with (first
    | (go_at_call 15; refine (keys.calls _).mono ?_; rintro e w' ⟨rfl, rfl⟩)
    | go_in)
  have e3 : (W1.alloc (.cells keyCells 9)).heap[W1.heap.size]? = some (Obj.cells keyCells 9 (0, 0)) := heap_alloc_new W1 _
  have hb3 : Below W1.heap.size W1 (W1.alloc (.cells keyCells 9)) := below_alloc (Below.refl _ _) _
  have s1 := s1.out
  have e1 := (hb3.block b (by omega)).trans e1
  have km : KeyMap (W1.alloc (.cells keyCells 9)) w.heap.size [] := ⟨#[], 0, (hb3.block w.heap.size (by omega)).trans e2, rfl⟩
  have g1 : w.grownBy (W1.alloc (.cells keyCells 9)) (some b) := World.grownBy.trans g1 (World.grownBy_alloc W1 _ _)
  have hKm : W1.heap.size ≠ w.heap.size := by omega
  have hKb : W1.heap.size ≠ b := by omega
  clear e2 hb3 f3 c3 hb
  generalize W1.alloc (.cells keyCells 9) = W2 at e1 e3 km g1 ⊢
  generalize W1.heap.size = K at e3 hKm hKb ⊢
  have hmb : w.heap.size ≠ b := by omega
  clear s1
  go_wp2
  go_loopw [9] (fun v9 wr => ∃ q : Nat, q ≤ 15 ∧ v9 = .int .i64 q ∧ wr.heap[b]? = some (tabObj 0 1 (some w.heap.size)) ∧ wr.heap[K]? = some (Obj.cells keyCells 9 (0, 0)) ∧ KeyMap wr w.heap.size (keys.take q) ∧ w.grownBy wr (some b))
    (fun v9 _ => 15 - (intOf v9).toNat)
  case atStart => exact ⟨0, by omega, rfl, e1, e3, km, g1⟩
  case round =>
    clear e1 e3 km g1
    obtain ⟨q, hq, rfl, e1, e3, km, g1⟩ := hrel
    by_cases hq15 : q < 15
    · have hqi : (q : Int) < 15 := by omega
      have hqi0 : (0 : Int) ≤ (q : Int) := by omega
      have hkc := key_cell e3 q (by omega)
      have hp' : wr.cell? pl = some (.pointer (some ⟨b, 0, none⟩)) := by
        rw [← hp]
        simp only [World.cell?, g1.block pl.block hpl (fun e => hpb (by injection e))]
      have c3 : wr.cell? ⟨b, 3, none⟩ = some (.map (some w.heap.size)) := by simp [World.cell?, e1, tabObj]
      have hnk : keys[q]'(by omega) ∉ keys.take q := by
        intro hm
        have := keys_nodup
        rw [← List.take_append_drop q keys, List.nodup_append] at this
        have hd : keys[q]'(by omega) ∈ keys.drop q := List.mem_iff_getElem?.mpr ⟨0, by rw [List.getElem?_drop, Nat.add_zero, List.getElem?_eq_getElem (by omega)]⟩
        exact this.2.2 _ hm _ hd rfl
      obtain ⟨o, ho, ko⟩ := run_store km (keys[q]'(by omega)) hnk
      obtain ⟨es, clock, hm1, _⟩ := km
      generalize hke : keys[q]'(by omega) = kq at hkc ho ko hnk
      have fin : (setBlock wr w.heap.size o).heap[b]? = some (tabObj 0 1 (some w.heap.size)) ∧ (setBlock wr w.heap.size o).heap[K]? = some (Obj.cells keyCells 9 (0, 0)) ∧ KeyMap (setBlock wr w.heap.size o) w.heap.size (keys.take (q + 1)) ∧ w.grownBy (setBlock wr w.heap.size o) (some b) := by
        refine ⟨?_, ?_, ?_, ⟨g1.os, g1.tape, g1.output, Nat.le_trans g1.size (by simp [setBlock]), fun k hk hne => ?_⟩⟩
        · rw [heap_setBlock_other hm1 _ (fun e => hmb e.symm)]; exact e1
        · rw [heap_setBlock_other hm1 _ hKm]; exact e3
        · rw [List.take_add_one, List.getElem?_eq_getElem (by omega), hke]; exact ko
        · rw [heap_setBlock_other hm1 _ (by omega)]; exact g1.block k hk hne
      replace fin := Aside0.mk fin
      clear ko hm1 hke hnk e1 e3
      go_wp2
      go_roundw
      case rel => exact ⟨q + 1, by omega, by first | rfl | go_num, fin.out.1, fin.out.2.1, fin.out.2.2.1, fin.out.2.2.2⟩
      case measure => simp [intOf]; omega
    · have hqi : ¬ (q : Int) < 15 := by omega
      obtain rfl : q = 15 := by omega
      go_wp2
      refine bodyPost_end (v := .tuple #[]) (by simp [results, Tryd.results32, go_sem]) rfl ⟨rfl, w.heap.size, Nat.le_refl _, e1, ?_, g1⟩
      exact km
/-- The table: not asked yet, or made. -/
def TabS (w : World) (base b : Nat) : Prop := w.heap[b]? = some (tabObj 0 0 none) ∨ ∃ m, base ≤ m ∧ w.heap[b]? = some (tabObj 1 0 (some m)) ∧ KeyMap w m keys
theorem TabS.kept {w w' : World} {base b : Nat} {row : Option Nat} (h : TabS w base b) (hg : w.grownBy w' row) (hr : ∀ k cells e, row = some k → w.heap[k]? = some (Obj.cells cells e (0, 0)) → e ≠ 59) (hr2 : ∀ k, row = some k → ∃ cells e, w.heap[k]? = some (Obj.cells cells e (0, 0))) : TabS w' base b := by
  have hne : ∀ (k : Nat) (o : Obj), w.heap[k]? = some o → (∀ cells e, o = Obj.cells cells e (0, 0) → e = 59) → w'.heap[k]? = some o := by
    intro k o ho hc
    rw [hg.block k (by rcases Nat.lt_or_ge k w.heap.size with h | h; exact h; rw [Array.getElem?_eq_none h] at ho; cases ho) ?_]
    · exact ho
    · intro e
      obtain ⟨cells, t, hh⟩ := hr2 k e.symm
      exact hr k cells t e.symm hh (hc cells t (by rw [ho] at hh; injection hh))
  rcases h with h | ⟨m, hm, h, es, clock, h1, h2⟩
  · exact .inl (hne b _ h (fun cells e he => by unfold tabObj at he; injection he with _ h2 _; exact h2.symm))
  · refine .inr ⟨m, hm, hne b _ h (fun cells e he => by unfold tabObj at he; injection he with _ h2 _; exact h2.symm), es, clock, hne m _ h1 (fun cells e he => by cases he), h2⟩
set_option maxHeartbeats 4000000 in
set_option maxRecDepth 100000 in
theorem key.calls (base b : Nat) (s : ByteArray) (w : World) (hb : base ≤ w.heap.size) (h : TabS w base b) :
    Calls Tryd.prog 23 #[.pointer (some ⟨b, 0, none⟩), .string s] w fun e w' => e = .returned (.bool (isKey keys s)) ∧ TabS w' base b ∧ w.grownBy w' (some b) := by
  have hmf : ∀ (fn : Fn) (first cap : Array Value) (w : World), (Instr.makeFunc fn first cap).run Tryd.prog w = .ok (.func fn first cap) w := fun _ _ _ _ => rfl
  rcases h with h | ⟨m, hm, h, hk⟩
  · have hbl : b < w.heap.size := blk_lt h
    obtain ⟨w1, hw1⟩ : ∃ w1, w1 = w.alloc (.cells #[.pointer (some ⟨b, 0, none⟩)] 70) := ⟨_, rfl⟩
    have hb1 : Below w.heap.size w w1 := by rw [hw1]; exact below_alloc (Below.refl _ _) _
    have h1 : w1.heap[b]? = some (tabObj 0 0 none) := (hb1.block b hbl).trans h
    have p1 : w1.cell? ⟨w.heap.size, 0, none⟩ = some (.pointer (some ⟨b, 0, none⟩)) := by rw [hw1]; simp
    have c0 : w1.cell? ⟨b, 0, none⟩ = some (.int .u32 0) := by simp [World.cell?, h1, tabObj]
    have c1 : w1.cell? ⟨b, 1, none⟩ = some (.int .i32 0) := by simp [World.cell?, h1, tabObj]
    have f0 : w1.frozen? ⟨b, 0, none⟩ = false := by simp [World.frozen?, h1, tabObj]
    have f1 : w1.frozen? ⟨b, 1, none⟩ = false := by simp [World.frozen?, h1, tabObj]
    have h2 : (w1.setCell ⟨b, 1, none⟩ (.int .i32 1)).heap[b]? = some (tabObj 0 1 none) := blk_put h1 1 _ rfl
    have hne : (⟨b, 1, none⟩ : Addr) ≠ ⟨w.heap.size, 0, none⟩ := fun e => by have := congrArg Addr.block e; simp at this; omega
    have p2 : (w1.setCell ⟨b, 1, none⟩ (.int .i32 1)).cell? ⟨w.heap.size, 0, none⟩ = some (.pointer (some ⟨b, 0, none⟩)) := (World.cell?_setCell_other _ _ _ _ hne).trans p1
    have s1 : w1.heap.size = w.heap.size + 1 := by rw [hw1]; simp
    have TD := Once.first_ b ⟨w.heap.size, 0, none⟩ w1 (fun W => ∃ m, w1.heap.size ≤ m ∧ W.heap[b]? = some (tabObj 0 1 (some m)) ∧ KeyMap W m keys ∧ (w1.setCell ⟨b, 1, none⟩ (.int .i32 1)).grownBy W (some b)) c0 c1 f0 f1
      ((cl.calls b ⟨w.heap.size, 0, none⟩ _ (by simp; omega) p2 h2).mono (by
        rintro e W ⟨rfl, m, hm, g1, g2, g3⟩
        refine ⟨rfl, ⟨by simp [World.cell?, g1, tabObj], by simp [World.cell?, g1, tabObj], by simp [World.frozen?, g1, tabObj], by simp [World.frozen?, g1, tabObj]⟩, m, by simpa using hm, g1, g2, g3⟩))
    have TD2 : Calls Tryd.prog 31 #[.pointer (some ⟨b, 0, none⟩), .func (.func 32) #[] #[.pointer (some ⟨w.heap.size, 0, none⟩)]] w1 fun e w' => e = .returned (.tuple #[]) ∧ ∃ m, base ≤ m ∧ w'.heap[b]? = some (tabObj 1 0 (some m)) ∧ KeyMap w' m keys ∧ w.grownBy w' (some b) ∧ w'.cell? ⟨w.heap.size, 0, none⟩ = some (.pointer (some ⟨b, 0, none⟩)) := by
      refine TD.mono ?_
      rintro e w' ⟨rfl, W, hM, ⟨m, hm, g1, ⟨es, clock, k1, k2⟩, g3⟩, rfl⟩
      have hmb : m ≠ b := by omega
      have z1 : W.drew.heap[b]? = some (tabObj 0 1 (some m)) := g1
      have z2 : (W.drew.setCell ⟨b, 0, none⟩ (.int .u32 1)).heap[b]? = some (tabObj 1 1 (some m)) := blk_put z1 0 _ rfl
      have z3 : (Once.after b W).heap[b]? = some (tabObj 1 0 (some m)) := blk_put z2 1 _ rfl
      have far : ∀ k, k ≠ b → (Once.after b W).heap[k]? = W.heap[k]? := fun k hk => (Below.heap_setCell _ _ _ _ hk).trans (Below.heap_setCell _ _ _ _ hk)
      have gw : w.grownBy (Once.after b W) (some b) := by
        refine ⟨g3.os.trans hb1.os, g3.tape.trans hb1.tape, g3.output.trans hb1.output, ?_, fun k hk hne => ?_⟩
        · have := g3.size; simp [Once.after] at this ⊢; omega
        · have hkb : k ≠ b := fun e => hne (by rw [e])
          rw [far k hkb, g3.block k (by simp; omega) hne, Below.heap_setCell _ _ _ _ hkb]
          exact hb1.block k hk
      refine ⟨rfl, m, by omega, z3, ⟨es, clock, (far m hmb).trans k1, k2⟩, gw, ?_⟩
      have e0 : (Once.after b W).heap[w.heap.size]? = w1.heap[w.heap.size]? := by
        have hkb : w.heap.size ≠ b := by omega
        rw [far _ hkb, g3.block _ (by simp; omega) (fun e => hkb (by injection e)), Below.heap_setCell _ _ _ _ hkb]
      simp only [World.cell?, e0]
      exact p1
    clear TD p2 h2 c0 c1 f0 f1 h1 p1 hb1 hne s1
    subst hw1
    go_enter Tryd.func23, Tryd.ntmps23
    go_upto_region 2 with (first
      | (go_at_call 31; refine TD2.mono ?_; rintro e w' ⟨rfl, m, hm, g1, g2, g3, g4⟩)
      | go_in)
    have c3 : w'.cell? ⟨b, 3, none⟩ = some (.map (some m)) := by simp [World.cell?, g1, tabObj]
    have hl := run_look g2 s
    replace g1 := Aside0.mk g1
    clear TD2
    go_wp2
    go_ret
    exact ⟨rfl, .inr ⟨m, hm, g1.out, g2⟩, g3⟩
  · have hbl : b < w.heap.size := blk_lt h
    obtain ⟨w1, hw1⟩ : ∃ w1, w1 = w.alloc (.cells #[.pointer (some ⟨b, 0, none⟩)] 70) := ⟨_, rfl⟩
    have hb1 : Below w.heap.size w w1 := by rw [hw1]; exact below_alloc (Below.refl _ _) _
    have h1 : w1.heap[b]? = some (tabObj 1 0 (some m)) := (hb1.block b hbl).trans h
    have c0 : w1.cell? ⟨b, 0, none⟩ = some (.int .u32 1) := by simp [World.cell?, h1, tabObj]
    have c3 : w1.cell? ⟨b, 3, none⟩ = some (.map (some m)) := by simp [World.cell?, h1, tabObj]
    have p1 : w1.cell? ⟨w.heap.size, 0, none⟩ = some (.pointer (some ⟨b, 0, none⟩)) := by rw [hw1]; simp
    have k1 : KeyMap w1 m keys := by
      obtain ⟨es, clock, z1, z2⟩ := hk
      exact ⟨es, clock, (hb1.block m (Array.getElem?_eq_some_iff.mp z1).1).trans z1, z2⟩
    have hl := run_look k1 s
    have TD := fun fv => Once.done_ ⟨b, 0, none⟩ 1 (by decide) fv w1 c0
    have gw : w.grownBy w1 (some b) := by rw [hw1]; exact World.grownBy_alloc w _ _
    replace h1 := Aside0.mk h1
    replace TD := Aside0.mk TD
    clear c0 hk h hb1
    subst hw1
    go_enter Tryd.func23, Tryd.ntmps23
    go_upto_region 2 with (first
      | (go_at_call 31; refine (TD.out _).mono ?_; rintro e w' ⟨rfl, rfl⟩)
      | go_in)
    go_wp2
    go_ret
    exact ⟨rfl, .inr ⟨m, hm, h1.out, k1⟩, gw⟩
end Go.Proofs.YtmklkkpeolnjbaaDoor.Lex
