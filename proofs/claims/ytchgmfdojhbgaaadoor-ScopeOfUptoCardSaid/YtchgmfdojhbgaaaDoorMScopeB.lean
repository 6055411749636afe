/-
The scope's walks: Enter, Leave, Mark, and Of over any list of declarations that is a scope. Conditions: as each theorem states them.
-/
import Derived.Test.YtchgmfdojhbgaaaDoorMScopeA
set_option linter.unusedVariables false
set_option linter.unusedSimpArgs false
namespace Go.Proofs.YtchgmfdojhbgaaaDoor.MScope
open Go.RowKit Go.Proofs.YtchgmfdojhbgaaaDoorW.PrintWords Go.Proofs.YtchgmfdojhbgaaaDoorW.PrintLast Go.Proofs.YtchgmfdojhbgaaaDoorW.PrintMore
open Go.Proofs.YtchgmfdojhbgaaaDoor.Kit Go.ChangeMaps Go.MapKept
attribute [local go_sem] max2_int min2_int max_two min_two max_three min_three max_four min_four   -- for this text's walks alone
/-- What a call on the scope leaves as it was: all below base, and every row that is no scope's and no local's. -/
structure Step (base : Nat) (w w' : World) : Prop where
  below : Below base w w'
  kept : ∀ (k : Nat) (cs : Array Value) (t : TypeId) (fr : Nat × Nat), w.heap[k]? = some (Obj.cells cs t fr) → t ≠ 53 → t ≠ 63 → w'.heap[k]? = some (Obj.cells cs t fr)
theorem Step.refl (base : Nat) (w : World) : Step base w w := ⟨Below.refl _ _, fun _ _ _ _ h _ _ => h⟩
theorem Step.trans {base : Nat} {a b c : World} (h : Step base a b) (k : Step base b c) : Step base a c :=
  ⟨h.below.trans k.below, fun i cs t fr hi h1 h2 => k.kept i cs t fr (h.kept i cs t fr hi h1 h2) h1 h2⟩
theorem Step.new {base : Nat} {w w' : World} (h : Below w.heap.size w w') (hb : base ≤ w.heap.size) : Step base w w' :=
  ⟨h.mono hb, fun k cs t fr hk _ _ => (h.block k (Array.getElem?_eq_some_iff.mp hk).1).trans hk⟩
theorem Sc.lt {w : World} {base p m : Nat} {v : Value} {D : List Dc} {L : List Lc} (h : Sc w base p m v D L) : p < w.heap.size := (Array.getElem?_eq_some_iff.mp h.hp).1
theorem Sc.below {w w' : World} {base p m : Nat} {v : Value} {D : List Dc} {L : List Lc} (h : Sc w base p m v D L) (hb : Below w.heap.size w w') : Sc w' base p m v D L :=
  ⟨(hb.block p h.lt).trans h.hp, h.hm.below hb, own_move h.hv (fun k hk => hb.block k (h.hv.lt k hk).2), h.pb, h.mb⟩
theorem info62 : (Tryd.prog.info? 63).map (fun i => (i.zero, i.size, i.bytes)) = some (some (.agg #[.string ⟨#[]⟩, .int .i64 0, .int .i64 0]), 3, 32) := by kernel_rfl
theorem cell_p {w : World} {p m : Nat} {v : Value} (h : w.heap[p]? = some (Obj.cells #[.map (some m), v] 53 (0, 0))) : w.cell? ⟨p, 1, none⟩ = some v := by simp [World.cell?, h]
theorem frozen_p {w : World} {p m : Nat} {v : Value} (h : w.heap[p]? = some (Obj.cells #[.map (some m), v] 53 (0, 0))) : w.frozen? ⟨p, 1, none⟩ = false := by simp [World.frozen?, h]
theorem MapIs.move {w w' : World} {m : Nat} {D : List Dc} (h : MapIs w m D) (hm : w'.heap[m]? = w.heap[m]?) : MapIs w' m D := by
  obtain ⟨es, clock, h1, h2⟩ := h
  exact ⟨es, clock, hm.trans h1, h2⟩
theorem MapIs.ne {w : World} {m g : Nat} {D : List Dc} (h : MapIs w m D) {cs : Array Value} {t : TypeId} {fr : Nat × Nat} (hg : w.heap[g]? = some (Obj.cells cs t fr)) : m ≠ g := by
  rintro rfl
  obtain ⟨es, clock, h1, h2⟩ := h
  rw [h1] at hg; cases hg
theorem set_p {w : World} {p m : Nat} {v : Value} (h : w.heap[p]? = some (Obj.cells #[.map (some m), v] 53 (0, 0))) (u : Value) : (w.setCell ⟨p, 1, none⟩ u).heap[p]? = some (Obj.cells #[.map (some m), u] 53 (0, 0)) := by
  obtain ⟨hlt, hx⟩ := Array.getElem?_eq_some_iff.mp h
  simp [World.setCell, hlt, Array.getElem_modify, hx]
theorem Sc.own_m {w : World} {base p m : Nat} {v : Value} {D : List Dc} {L : List Lc} (h : Sc w base p m v D L) : some m ≠ v.ownBlock := by
  intro e
  obtain ⟨cells, hc⟩ := own_typed h.hv m e.symm
  exact h.hm.ne hc rfl
theorem Sc.entered {w w2 w3 : World} {base p m : Nat} {v v1 : Value} {D : List Dc} {L L1 : List Lc} (hb : Below w.heap.size w w2) (hbs : base ≤ w.heap.size) (h2 : Sc w2 base p m v D L) (hg : w2.grownBy w3 v.ownBlock)
    (hb3 : Below base w2 w3) {n1 : Nat} {xs : List Value} (ho : w3.ownsRow base 63 3 v1 n1 xs) (hn : n1 = L1.length) (hx : xs = L1.flatMap Lc.cells) :
    Sc (w3.setCell ⟨p, 1, none⟩ v1) base p m v1 D L1 ∧ Step base w (w3.setCell ⟨p, 1, none⟩ v1) := by
  subst hn hx
  have g1 : w3.heap[p]? = some (Obj.cells #[.map (some m), v] 53 (0, 0)) := (hg.block p h2.lt (own_ne h2.hv h2.hp (by decide))).trans h2.hp
  have hm3 : MapIs w3 m D := h2.hm.move (hg.block m (by obtain ⟨_, _, h, _⟩ := h2.hm; exact (Array.getElem?_eq_some_iff.mp h).1) h2.own_m)
  have hmp : m ≠ p := h2.hm.ne h2.hp
  refine ⟨⟨set_p g1 v1, hm3.move (Below.heap_setCell _ _ _ _ hmp), own_move ho (fun k hk => Below.heap_setCell _ _ _ _ ?_), h2.pb, h2.mb⟩, ((hb.mono hbs).trans hb3).setCell h2.pb _, ?_⟩
  · rintro rfl
    exact own_ne ho g1 (by decide) hk.symm
  · intro k cs t fr hk ht1 ht2
    have hk2 : w2.heap[k]? = some (Obj.cells cs t fr) := (hb.block k (Array.getElem?_eq_some_iff.mp hk).1).trans hk
    have hkp : k ≠ p := by
      rintro rfl
      rw [h2.hp] at hk2
      cases hk2; exact ht1 rfl
    have hkv : some k ≠ v.ownBlock := by
      intro e
      obtain ⟨cells, hc⟩ := own_typed h2.hv k e.symm
      rw [hc] at hk2; cases hk2; exact ht2 rfl
    rw [Below.heap_setCell _ _ _ _ hkp, hg.block k (Array.getElem?_eq_some_iff.mp hk2).1 hkv]
    exact hk2
theorem flat_snoc (L : List Lc) (x : Lc) : (L ++ [x]).flatMap Lc.cells = L.flatMap Lc.cells ++ x.cells := by simp
set_option maxHeartbeats 4000000 in
set_option maxRecDepth 100000 in
theorem enter.calls {w : World} {base p m : Nat} {v : Value} {D : List Dc} {L : List Lc} (n : ByteArray) (l c : Int) (h : Sc w base p m v D L) (hL : (L.length + 1) * 32 ≤ 140737488355328) :
    Calls Tryd.prog 12 #[.pointer (some ⟨p, 0, none⟩), .string n, .int .i64 l, .int .i64 c] w fun e w' =>
      e = .returned (.bool (decide ((fnd D L n).1 = 0))) ∧ ∃ v', Sc w' base p m v' D (if (fnd D L n).1 = 0 then L ++ [⟨n, l, if 0 < c then c else 0⟩] else L) ∧ Step base w w' := by
  have hbs : base ≤ w.heap.size := Nat.le_trans h.pb (Nat.le_of_lt h.lt)
  by_cases hf : (fnd D L n).1 = 0
  · rw [if_pos hf, decide_eq_true hf]
    go_enter Tryd.func12, Tryd.ntmps12
    go_wp2_with (first
      | (go_at_call 11; (refine (find.calls n h (by omega)).mono ?_; rintro e w2 ⟨rfl, hb⟩; simp only [fndV, hf]; have h2 := h.below hb; have c1 : w2.cell? ⟨p, 1, none⟩ = some v := by simp [World.cell?, h2.hp]))
      | (at_builtin; (refine print_append_cells (w0 := w2) base rfl (.tmp 27) (.tmp 33) 51 63 (.agg #[.string ⟨#[]⟩, .int .i64 0, .int .i64 0]) 3 32 rfl Tryd.underlying51 info62 rfl (by decide) (by decide) v L.length (L.flatMap Lc.cells) [.string n, .int .i64 l, .int .i64 (if 0 < c then c else 0)] rfl rfl rfl (by simp [Value.oneCell']) h2.hv (Below.refl _ _) (Nat.le_trans h2.pb (Nat.le_of_lt h2.lt)) (by omega) ?_; intro v1 w3 ho hb3 hg3 ha3; obtain ⟨A1, cp1, rfl⟩ := own_slice ho; have g1 : w3.heap[p]? = some (Obj.cells #[.map (some m), v] 53 (0, 0)) := (hg3.block p h2.lt (own_ne h2.hv h2.hp (by decide))).trans h2.hp; have k1 := cell_p g1; have f1 := frozen_p g1))
      | go_in)
    all_goals
      have HE := Sc.entered (L1 := L ++ [⟨n, l, if 0 < c then c else 0⟩]) hb hbs h2 hg3 hb3 ho (by simp) (by rw [flat_snoc]; rfl)
      refine bodyPost_ret (v := .bool true) (by simp [results, Tryd.results12, go_sem]) rfl ⟨rfl, ?_⟩
    · have hc : 0 < c := by omega
      rw [if_pos hc] at HE
      exact ⟨⟨_, HE.1⟩, HE.2⟩
    · have hc : ¬ 0 < c := by omega
      rw [if_neg hc] at HE
      exact ⟨⟨_, HE.1⟩, HE.2⟩
  · rw [if_neg hf, decide_eq_false hf]
    have hne : ((fnd D L n).1 == 0) = false := by simp [hf]
    have hne2 : ((fnd D L n).1 != 0) = true := by simp [hf]
    go_enter Tryd.func12, Tryd.ntmps12
    go_wp2_with (first | (go_at_call 11; (refine (find.calls n h (by omega)).mono ?_; rintro e w2 ⟨rfl, hb⟩; simp only [fndV])) | go_in)
    go_ret
    exact ⟨rfl, v, h.below hb, Step.new hb hbs⟩
theorem grown_refl (w : World) (row : Option Nat) : w.grownBy w row := ⟨rfl, rfl, rfl, Nat.le_refl _, fun _ _ _ => rfl⟩
theorem flat_take (L : List Lc) (k : Nat) : (L.take k).flatMap Lc.cells = (L.flatMap Lc.cells).take (k * 3) := by
  induction L generalizing k with
  | nil => simp
  | cons a L ih =>
    cases k with
    | zero => simp
    | succ k =>
      rw [List.take_succ_cons, List.flatMap_cons, List.flatMap_cons, ih, show (k + 1) * 3 = a.cells.length + k * 3 by show _ = 3 + _; omega, List.take_length_add_append]
theorem own_cut {w : World} {base g cap k : Nat} {L : List Lc} (h : w.ownsRow base 63 3 (.slice (some ⟨g, 0, none⟩) L.length cap) L.length (L.flatMap Lc.cells)) (hk : k ≤ L.length) :
    w.ownsRow base 63 3 (.slice (some ⟨g, 0, none⟩) k cap) k ((L.take k).flatMap Lc.cells) := by
  obtain ⟨hl, ⟨h1, h0⟩ | ⟨g', cap', cur, h1, hb, hg, hc, hm, hs, ht⟩⟩ := h
  · cases h1
  · cases h1
    refine ⟨by rw [flat_len, List.length_take]; omega, .inr ⟨g, cap, cur, rfl, hb, hg, by omega, hm, hs, ?_⟩⟩
    rw [flat_take, ← ht, List.take_take]
    congr 1
    omega
set_option maxHeartbeats 4000000 in
set_option maxRecDepth 100000 in
theorem mark.calls {w : World} {base p m : Nat} {v : Value} {D : List Dc} {L : List Lc} (h : Sc w base p m v D L) :
    Calls Tryd.prog 10 #[.pointer (some ⟨p, 0, none⟩)] w fun e w' => e = .returned (.int .i64 L.length) ∧ Below w.heap.size w w' := by
  have c1 := cell_p h.hp
  obtain ⟨A, cap, rfl⟩ := own_slice h.hv
  go_enter Tryd.func10, Tryd.ntmps10
  go_wp2
  go_ret
  exact ⟨rfl, Below.refl _ _⟩
def Dc.cells (d : Dc) : List Value := [.bool d.lock, .int .i64 d.label, .string d.name, .int .i64 d.size, .string d.by_, .int .i64 d.at_]
theorem flat_at {α : Type} (cells : α → List Value) (s : Nat) (hs : ∀ x, (cells x).length = s) (L : List α) (i j : Nat) (h : i < L.length) (hj : j < s) :
    (L.flatMap cells)[i * s + j]? = (cells L[i])[j]? := by
  induction L generalizing i with
  | nil => simp at h
  | cons a L ih =>
    cases i with
    | zero => rw [List.flatMap_cons, List.getElem?_append_left (by rw [hs]; omega)]; simp
    | succ i =>
      rw [List.flatMap_cons, List.getElem?_append_right (by rw [hs, Nat.succ_mul]; omega), hs, show (i + 1) * s + j - s = i * s + j by rw [Nat.succ_mul]; omega, ih i (by simpa using h)]
      rfl
theorem own_at {α : Type} (cells : α → List Value) (s : Nat) (hs : ∀ x, (cells x).length = s) {w : World} {base t n : Nat} {v : Value} {L : List α} (h : w.ownsRow base t s v n (L.flatMap cells)) (hn : n = L.length) :
    (v = .slice none 0 0 ∧ L = []) ∨ ∃ g cap, v = .slice (some ⟨g, 0, none⟩) L.length cap ∧ L.length ≤ cap ∧ base ≤ g ∧ g < w.heap.size ∧
      ∀ i (h : i < L.length) j u, (cells L[i])[j]? = some u → w.cell? ⟨g, i * s + j, none⟩ = some u := by
  subst hn
  obtain ⟨hl, ⟨rfl, h0⟩ | ⟨g, cap, cur, rfl, hb, hg, hc, _, hsz, ht⟩⟩ := h
  · exact .inl ⟨rfl, List.length_eq_zero_iff.mp h0⟩
  · refine .inr ⟨g, cap, rfl, hc, hb, (Array.getElem?_eq_some_iff.mp hg).1, fun i hi j u hu => ?_⟩
    have hj : j < s := by rw [← hs L[i]]; exact (List.getElem?_eq_some_iff.mp hu).1
    have h1 := flat_at cells s hs L i j hi hj
    rw [hu, ← ht] at h1
    have hk2 : cur.toList[i * s + j]? = some u := by
      rw [List.getElem?_take] at h1
      split at h1
      · exact h1
      · cases h1
    simp [World.cell?, hg]
    simpa using hk2
/-- A map's block, under a name of its own: it is kept by whatever a walk does to other blocks. -/
def MapAt (w : World) (m : Nat) (es : Array MapEntry) (clock : Nat) : Prop := w.heap[m]? = some (Obj.map es clock)
theorem MapAt_alloc {w : World} {m clock : Nat} {es : Array MapEntry} {o : Obj} (h : MapAt w m es clock) : MapAt (w.alloc o) m es clock :=
  (Below.heap_alloc w o m (Array.getElem?_eq_some_iff.mp h).1).trans h
theorem MapAt_drew {w : World} {m clock : Nat} {es : Array MapEntry} (h : MapAt w m es clock) : MapAt w.drew m es clock := h
theorem MapAt_set {w : World} {m clock : Nat} {es : Array MapEntry} {a : Addr} {u : Value} (h : MapAt w m es clock) : MapAt (w.setCell a u) m es clock := by
  obtain ⟨hlt, hx⟩ := Array.getElem?_eq_some_iff.mp h
  simp [MapAt, World.setCell, hlt, Array.getElem_modify, hx]
theorem look_at {w : World} {m clock : Nat} {es : Array MapEntry} {D : List Dc} (he : es.toList.map (fun e => (e.key, e.val)) = D.map (fun d => (Value.string d.name, d.val))) (h : MapAt w m es clock) (n : ByteArray) :
    (Instr.lookup 50 (.map (some m)) (.string n) true).run Tryd.prog w = .ok (gotV (look D n)) w := run_look ⟨es, clock, h, he⟩ n
theorem store_at {w : World} {m clock : Nat} {es : Array MapEntry} {D : List Dc} (he : es.toList.map (fun e => (e.key, e.val)) = D.map (fun d => (Value.string d.name, d.val))) (h : MapAt w m es clock) (d : Dc) (hn : look D d.name = none) :
    (Instr.mapUpdate 50 (.map (some m)) (.string d.name) d.val).run Tryd.prog w = .ok () (setBlock w m (.map (es.push { key := .string d.name, val := d.val, born := clock }) (clock + 1))) := by
  rcases find_now d.name D es.toList 0 he with ⟨h1, h2⟩ | ⟨x, j, h1, h2⟩
  · simp [Instr.mapUpdate, run_underlying Tryd.underlying50, MapKept.run_getObj_map h, run_check, MapKept.run_findKey Tryd.underlying9 h2, MapKept.run_setObj_map _ h, Result.andThen, go_sem]
    rfl
  · rw [hn] at h1; cases h1
/-- Whether declarations are a scope's. -/
def okk : List Dc → List Dc → Bool
  | _, [] => true
  | D, d :: r => (look D d.name).isNone && (decide (d.by_ = ⟨#[]⟩) || ((look D d.by_).map Dc.lock).getD false) && okk (D ++ [d]) r
set_option maxHeartbeats 4000000 in
set_option maxRecDepth 100000 in
theorem of.calls {w : World} {b0 : Nat} {vd : Value} {D : List Dc} (hd : w.ownsRow b0 29 6 vd D.length (D.flatMap Dc.cells)) (hk : okk [] D = true) (hD : D.length ≤ 4611686018427387904) :
    Calls Tryd.prog 7 #[vd] w fun e w' => ∃ p m, e = .returned (.tuple #[.pointer (some ⟨p, 0, none⟩), .nilIface]) ∧ Sc w' w.heap.size p m (.slice none 0 0) D [] ∧ Below w.heap.size w w' := by
  have hmm := @run_makeMap Tryd.prog
  rcases own_at Dc.cells 6 (fun _ => rfl) hd rfl with ⟨rfl, rfl⟩ | ⟨g, cap, rfl, hcap, hg, hgl, hrd⟩
  · go_enter Tryd.func7, Tryd.ntmps7
    go_wp2
    refine wp_loop_rounds 1 ?_
    rw [rounds_succ]
    go_wp2
    refine bodyPost_ret (v := .tuple #[.pointer (some ⟨w.heap.size + 1, 0, none⟩), .nilIface]) (by simp [results, Tryd.results7, go_sem]) rfl ⟨_, w.heap.size, rfl, ⟨?_, ⟨#[], 0, ?_, rfl⟩, World.ownsRow_nil _ _ _ _, by omega, by omega⟩, ((Below.refl _ _).alloc (Nat.le_refl _) _).alloc (by simp) _⟩
    · have := heap_alloc_new (w.alloc (.map #[] 0)) (Obj.cells #[.map (some w.heap.size), .slice none 0 0] 53 (0, 0))
      simpa using this
    · exact (Below.heap_alloc _ _ _ (by simp)).trans (heap_alloc_new w _)
  · go_enter Tryd.func7, Tryd.ntmps7
    go_wp2
    go_loopw [16] (fun i wr => ∃ k : Nat, k ≤ D.length ∧ i = .int .i64 k ∧ okk (D.take k) (D.drop k) = true ∧ wr.heap[w.heap.size + 1]? = some (Obj.cells #[.map (some w.heap.size), .slice none 0 0] 53 (0, 0)) ∧ MapIs wr w.heap.size (D.take k) ∧ Below w.heap.size w wr)
      (fun i _ => D.length - (intOf i).toNat)
    case atStart =>
      refine ⟨0, Nat.zero_le _, rfl, by simpa using hk, ?_, ⟨#[], 0, ?_, rfl⟩, ((Below.refl _ _).alloc (Nat.le_refl _) _).alloc (by simp) _⟩
      · have := heap_alloc_new (w.alloc (.map #[] 0)) (Obj.cells #[.map (some w.heap.size), .slice none 0 0] 53 (0, 0))
        simpa using this
      · exact (Below.heap_alloc _ _ _ (by simp)).trans (heap_alloc_new w _)
    case round =>
      obtain ⟨k, hk1, rfl, hok, hp, hm, hnx⟩ := hrel
      obtain ⟨es, clock, hm1, hm2⟩ := hm
      have hPlt : w.heap.size + 1 < wr.heap.size := (Array.getElem?_eq_some_iff.mp hp).1
      have hMlt : w.heap.size < wr.heap.size := by omega
      generalize hP : w.heap.size + 1 = P at hp hPlt ⊢
      generalize hM : w.heap.size = M at hm1 hMlt ⊢
      have q0 : wr.cell? ⟨P, 0, none⟩ = some (.map (some M)) := by simp [World.cell?, hp, ← hM]
      by_cases hkl : k < D.length
      · have R := hrd k hkl
        obtain ⟨lk, lb, nm, sz, by_, at_, hdk⟩ : ∃ lk lb nm sz by_ at_, D[k] = ⟨lk, lb, nm, sz, by_, at_⟩ := ⟨_, _, _, _, _, _, rfl⟩
        rw [hdk] at R
        have r0 : wr.cell? ⟨g, k * 6, none⟩ = some (.bool lk) := (hnx.cell (by exact hgl)).trans (R 0 _ rfl)
        have r1 : wr.cell? ⟨g, k * 6 + 1, none⟩ = some (.int .i64 lb) := (hnx.cell (by exact hgl)).trans (R 1 _ rfl)
        have r2 : wr.cell? ⟨g, k * 6 + 2, none⟩ = some (.string nm) := (hnx.cell (by exact hgl)).trans (R 2 _ rfl)
        have r3 : wr.cell? ⟨g, k * 6 + 3, none⟩ = some (.int .i64 sz) := (hnx.cell (by exact hgl)).trans (R 3 _ rfl)
        have r4 : wr.cell? ⟨g, k * 6 + 4, none⟩ = some (.string by_) := (hnx.cell (by exact hgl)).trans (R 4 _ rfl)
        have r5 : wr.cell? ⟨g, k * 6 + 5, none⟩ = some (.int .i64 at_) := (hnx.cell (by exact hgl)).trans (R 5 _ rfl)
        clear R
        have hma : MapAt wr M es clock := hm1
        rw [List.drop_eq_getElem_cons hkl, okk, Bool.and_eq_true, Bool.and_eq_true, hdk] at hok
        obtain ⟨⟨hn1, hn2⟩, hok⟩ := hok
        have hn1 : look (D.take k) nm = none := by simpa using hn1
        have hA := fun o : Obj => look_at hm2 (w := (wr.alloc o).drew) (MapAt_drew (MapAt_alloc hma)) nm
        have hB := fun o o' : Obj => look_at hm2 (w := ((wr.alloc o).alloc o').drew) (MapAt_drew (MapAt_alloc (MapAt_alloc hma))) nm
        have hC := fun o o' : Obj => look_at hm2 (w := (wr.alloc o).drew.alloc o') (MapAt_alloc (MapAt_drew (MapAt_alloc hma))) nm
        rw [hn1] at hA hB hC
        simp only [gotV, zDc, Dc.val] at hA hB hC
        go_wp2
        go_region
        obtain ⟨W5, hW5⟩ : ∃ W5, W5 = ((wr.alloc (Obj.cells #[.bool lk, .int .i64 lb, .string nm, .int .i64 sz, .string by_, .int .i64 at_] 29)).alloc (Obj.cells #[.bool false, .int .i64 0, .string ⟨#[]⟩, .int .i64 0, .string ⟨#[]⟩, .int .i64 0] 29)).drew := ⟨_, rfl⟩
        have hd5 : W5.heap[wr.heap.size]? = some (Obj.cells #[.bool lk, .int .i64 lb, .string nm, .int .i64 sz, .string by_, .int .i64 at_] 29 (0, 0)) := by
          rw [hW5]; exact (Below.heap_alloc _ _ _ (by simp)).trans (heap_alloc_new wr _)
        have hb5 : Below wr.heap.size wr W5 := by
          rw [hW5]; exact (((Below.refl _ _).alloc (Nat.le_refl _) _).alloc (by simp) _).drew
        have m5 : MapAt W5 M es clock := by rw [hW5]; exact MapAt_drew (MapAt_alloc (MapAt_alloc hma))
        rw [← hW5]
        clear hW5 hA hB hC
        generalize hB6 : wr.heap.size = B6 at hd5 ⊢
        have p5 : W5.heap[P]? = some (Obj.cells #[.map (some w.heap.size), .slice none 0 0] 53 (0, 0)) := (hb5.block P hPlt).trans hp
        rw [hM] at p5
        have q5 : W5.cell? ⟨P, 0, none⟩ = some (.map (some M)) := by simp [World.cell?, p5]
        have d0 : W5.cell? ⟨B6, 0, none⟩ = some (.bool lk) := by simp [World.cell?, hd5]
        have d1 : W5.cell? ⟨B6, 1, none⟩ = some (.int .i64 lb) := by simp [World.cell?, hd5]
        have d2 : W5.cell? ⟨B6, 2, none⟩ = some (.string nm) := by simp [World.cell?, hd5]
        have d3 : W5.cell? ⟨B6, 3, none⟩ = some (.int .i64 sz) := by simp [World.cell?, hd5]
        have d4 : W5.cell? ⟨B6, 4, none⟩ = some (.string by_) := by simp [World.cell?, hd5]
        have d5 : W5.cell? ⟨B6, 5, none⟩ = some (.int .i64 at_) := by simp [World.cell?, hd5]
        have l5 : P < W5.heap.size := (Array.getElem?_eq_some_iff.mp p5).1
        have l6 : B6 < W5.heap.size := (Array.getElem?_eq_some_iff.mp hd5).1
        clear r0 r1 r2 r3 r4 r5 q0
        have hA := fun o : Obj => look_at hm2 (w := (W5.alloc o).drew) (MapAt_drew (MapAt_alloc m5)) by_
        have hB := look_at hm2 (w := W5.drew) (MapAt_drew m5) by_
        have hC := fun o : Obj => store_at hm2 (w := (W5.alloc o).drew.drew) (MapAt_drew (MapAt_drew (MapAt_alloc m5))) ⟨lk, lb, nm, sz, by_, at_⟩ hn1
        simp only [Dc.val] at hC
        have fin : ∀ W6, Below W5.heap.size W5 W6 → (setBlock W6 M (.map (es.push { key := .string nm, val := (Dc.mk lk lb nm sz by_ at_).val, born := clock }) (clock + 1))).heap[P]? = some (Obj.cells #[.map (some M), .slice none 0 0] 53 (0, 0)) ∧
            MapIs (setBlock W6 M (.map (es.push { key := .string nm, val := (Dc.mk lk lb nm sz by_ at_).val, born := clock }) (clock + 1))) M (D.take (k + 1)) ∧ Below M w (setBlock W6 M (.map (es.push { key := .string nm, val := (Dc.mk lk lb nm sz by_ at_).val, born := clock }) (clock + 1))) := by
          intro W6 h6
          have m6 : W6.heap[M]? = some (Obj.map es clock) := (h6.block M (Array.getElem?_eq_some_iff.mp m5).1).trans m5
          have b6 : Below M w W6 := by
            have hB : Below M wr W6 := (hb5.mono (by omega)).trans (h6.mono (by have := hb5.size; omega))
            rw [← hM] at hB ⊢; exact hnx.trans hB
          refine ⟨?_, ⟨_, _, heap_setBlock_same m6 _, ?_⟩, b6.os, b6.tape, b6.output, ?_, ?_⟩
          · rw [heap_setBlock_other m6 _ (by omega)]; exact (h6.block P l5).trans p5
          · rw [List.take_add_one, List.getElem?_eq_getElem hkl, hdk]; simp [hm2]
          · exact Nat.le_trans b6.size (by simp [setBlock])
          · intro j hj; rw [heap_setBlock_other m6 _ (by omega)]; exact b6.block j hj
        have hok2 : okk (D.take (k + 1)) (D.drop (k + 1)) = true := by
          rw [List.take_add_one, List.getElem?_eq_getElem hkl, hdk]; exact hok
        simp only [Dc.val] at fin
        clear hm2 hn1 hok
        by_cases hby : by_ = ⟨#[]⟩
        · have hsb : (by_.toList == ([] : List UInt8)) = true := by rw [hby]; simp
          clear hby hn2
          rcases hr : look (D.take k) by_ with _ | ⟨lk', lb', nm', sz', by', at'⟩
          · rw [hr] at hA hB
            simp only [gotV, zDc, Dc.val] at hA hB
            go_wp2
            go_region
            go_wp2
            go_region
            go_wp2
            go_roundw
            case rel => exact ⟨k + 1, by omega, by first | rfl | go_num, hok2, fin _ (((Below.refl _ _).alloc (Nat.le_refl _) _).drew.drew)⟩
            case measure => simp [intOf]; omega
          · rw [hr] at hA hB
            simp only [gotV, zDc, Dc.val] at hA hB
            go_wp2
            go_region
            go_wp2
            go_region
            go_wp2
            go_roundw
            case rel => exact ⟨k + 1, by omega, by first | rfl | go_num, hok2, fin _ (((Below.refl _ _).alloc (Nat.le_refl _) _).drew.drew)⟩
            case measure => simp [intOf]; omega
        · have hsb : (by_.toList == ([] : List UInt8)) = false := by
            rw [show ([] : List UInt8) = (⟨#[]⟩ : ByteArray).toList by simp, same_b]; exact decide_eq_false hby
          rw [decide_eq_false hby, Bool.false_or] at hn2
          clear hby
          rcases hr : look (D.take k) by_ with _ | ⟨lk', lb', nm', sz', by', at'⟩
          · rw [hr] at hn2; cases hn2
          · rw [hr] at hn2
            obtain rfl : lk' = true := by simpa using hn2
            clear hn2
            rw [hr] at hA hB
            simp only [gotV, zDc, Dc.val] at hA hB
            go_wp2
            go_region
            go_wp2
            go_region
            go_wp2
            go_roundw
            case rel => exact ⟨k + 1, by omega, by first | rfl | go_num, hok2, fin _ (((Below.refl _ _).alloc (Nat.le_refl _) _).drew.drew)⟩
            case measure => simp [intOf]; omega
      · obtain rfl : k = D.length := by omega
        rw [List.take_length] at hm2
        go_wp2
        refine bodyPost_ret (v := .tuple #[.pointer (some ⟨P, 0, none⟩), .nilIface]) (by simp [results, Tryd.results7, go_sem]) rfl ⟨P, M, rfl, ?_, by first | exact hnx | (rw [← hM]; exact hnx)⟩
        rw [hM] at hp
        exact ⟨hp, ⟨es, clock, hm1, hm2⟩, World.ownsRow_nil _ _ _ _, by omega, by omega⟩
end Go.Proofs.YtchgmfdojhbgaaaDoor.MScope
