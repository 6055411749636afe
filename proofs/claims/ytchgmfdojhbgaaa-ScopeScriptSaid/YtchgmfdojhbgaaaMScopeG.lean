/-
The walk of the law ScopeScript: its lists of declarations, its deeds, one by one, and the eight names behind each. Conditions: the numbers that its arguments hold, as they are read.
-/
import Derived.Test.YtchgmfdojhbgaaaMScopeC
import Derived.Test.YtchgmfdojhbgaaaMScopeF
set_option linter.unusedVariables false
set_option linter.unusedSimpArgs false
namespace Go.Proofs.Ytchgmfdojhbgaaa.MScope
open Go.RowKit Go.Proofs.YtchgmfdojhbgaaaW.PrintWords Go.Proofs.YtchgmfdojhbgaaaW.PrintLast Go.Proofs.YtchgmfdojhbgaaaW.PrintMore
open Go.Proofs.Ytchgmfdojhbgaaa.Kit Go.ChangeMaps Go.MapKept
attribute [local go_sem] max2_int min2_int max_two min_two max_three min_three max_four min_four   -- for this text's walks alone
theorem look_snoc (D : List Dc) (d : Dc) (n : ByteArray) : look (D ++ [d]) n = none ↔ look D n = none ∧ n ≠ d.name := by
  induction D with
  | nil => simp [look]
  | cons a D ih =>
    simp only [List.cons_append, look]
    by_cases h : n = a.name
    · simp [if_pos h]
    · simp only [if_neg h]; exact ih
theorem okk_fresh : ∀ (r D0 : List Dc), okk D0 r = true → (∀ d ∈ r, look D0 d.name = none) ∧ (r.map Dc.name).Nodup
  | [], _, _ => ⟨by simp, by simp⟩
  | d :: r, D0, h => by
    rw [okk, Bool.and_eq_true, Bool.and_eq_true] at h
    obtain ⟨⟨h1, _⟩, h3⟩ := h
    obtain ⟨i1, i2⟩ := okk_fresh r (D0 ++ [d]) h3
    refine ⟨fun x hx => ?_, ?_⟩
    · rcases List.mem_cons.mp hx with rfl | hx
      · simpa using h1
      · exact ((look_snoc D0 d x.name).mp (i1 x hx)).1
    · rw [List.map_cons, List.nodup_cons]
      refine ⟨fun hm => ?_, i2⟩
      obtain ⟨x, hx, he⟩ := List.mem_map.mp hm
      exact ((look_snoc D0 d x.name).mp (i1 x hx)).2 he
instance : LawfulBEq ByteArray where
  eq_of_beq h := (bytes_beq _ _).mp h
  rfl := (bytes_beq _ _).mpr rfl
theorem few {l m : List ByteArray} (hn : l.Nodup) (hs : ∀ x ∈ l, x ∈ m) : l.length ≤ m.length := by
  induction l generalizing m with
  | nil => simp
  | cons a l ih =>
    obtain ⟨ha, hl⟩ := List.nodup_cons.mp hn
    have hm : a ∈ m := hs a (by simp)
    have := ih (m := m.erase a) hl (fun x hx => (List.mem_erase_of_ne (by rintro rfl; exact ha hx)).mpr (hs x (by simp [hx])))
    rw [List.length_erase_of_mem hm] at this
    have : 0 < m.length := List.length_pos_of_mem hm
    simp only [List.length_cons]; omega
theorem okk_few {D : List Dc} (h : okk [] D = true) (hs : ∀ d ∈ D, d.name ∈ six) : D.length ≤ 6 := by
  have := few (m := six) (okk_fresh D [] h).2 (fun x hx => by obtain ⟨d, hd, rfl⟩ := List.mem_map.mp hx; exact hs d hd)
  simpa [six] using this
theorem info31 : (Try.prog.info? 31).map (fun i => (i.zero, i.size, i.bytes)) = some (some zDc.val, 6, 64) := by kernel_rfl
theorem info50 : (Try.prog.info? 50).map (fun i => (i.zero, i.size, i.bytes)) = some (some (.agg #[.string ⟨#[]⟩, .int .i64 0, .int .i64 0]), 3, 32) := by kernel_rfl
theorem flatD_one (D : List Dc) : ∀ u ∈ D.flatMap Dc.cells, u.oneCell' = true := by
  intro u hu
  obtain ⟨d, _, h⟩ := List.mem_flatMap.mp hu
  simp only [Dc.cells, List.mem_cons, List.not_mem_nil, or_false] at h
  rcases h with rfl | rfl | rfl | rfl | rfl | rfl <;> rfl
theorem flatL_one (L : List Lc) : ∀ u ∈ L.flatMap Lc.cells, u.oneCell' = true := by
  intro u hu
  obtain ⟨d, _, h⟩ := List.mem_flatMap.mp hu
  simp only [Lc.cells, List.mem_cons, List.not_mem_nil, or_false] at h
  rcases h with rfl | rfl | rfl <;> rfl
theorem row_below {w w' : World} {base e size n : Nat} {v : Value} {xs : List Value} (h : w.ownsRow base e size v n xs) (hb : Below w.heap.size w w') : w'.ownsRow base e size v n xs :=
  own_move h (fun k hk => hb.block k (h.lt k hk).2)
theorem row_step {w w' : World} {b base e size n : Nat} {v : Value} {xs : List Value} (h : w.ownsRow base e size v n xs) (hs : Step b w w') (h1 : e ≠ 57) (h2 : e ≠ 62) : w'.ownsRow base e size v n xs := by
  refine own_move h (fun k hk => ?_)
  obtain ⟨cells, hc⟩ := own_typed h k hk
  exact (hs.kept k _ _ _ hc h1 h2).trans hc.symm
def eight : List ByteArray := [⟨#[97]⟩, ⟨#[98]⟩, ⟨#[99]⟩, ⟨#[100]⟩, ⟨#[101]⟩, ⟨#[102]⟩, ⟨#[103]⟩, ⟨#[104]⟩]
def namesObj : Obj := Obj.cells #[.string ⟨#[97]⟩, .string ⟨#[98]⟩, .string ⟨#[99]⟩, .string ⟨#[100]⟩, .string ⟨#[101]⟩, .string ⟨#[102]⟩, .string ⟨#[103]⟩, .string ⟨#[104]⟩] 9 (0, 0)
theorem eight_cell {w : World} {g : Nat} (h : w.heap[g]? = some namesObj) (i : Nat) (h1 : i < 8) :
    ∃ n, n ∈ eight ∧ w.cell? ⟨g, i, none⟩ = some (.string n) := by
  rw [namesObj] at h
  have hc : ∀ j (v : Value), (#[Value.string ⟨#[97]⟩, .string ⟨#[98]⟩, .string ⟨#[99]⟩, .string ⟨#[100]⟩, .string ⟨#[101]⟩, .string ⟨#[102]⟩, .string ⟨#[103]⟩, .string ⟨#[104]⟩] : Array Value)[j]? = some v → w.cell? ⟨g, j, none⟩ = some v := by
    intro j v hv
    simp only [World.cell?, h]
    exact hv
  rcases (show i = 0 ∨ i = 1 ∨ i = 2 ∨ i = 3 ∨ i = 4 ∨ i = 5 ∨ i = 6 ∨ i = 7 by omega) with rfl | rfl | rfl | rfl | rfl | rfl | rfl | rfl
  · exact ⟨_, by simp [eight], hc 0 _ rfl⟩
  · exact ⟨_, by simp [eight], hc 1 _ rfl⟩
  · exact ⟨_, by simp [eight], hc 2 _ rfl⟩
  · exact ⟨_, by simp [eight], hc 3 _ rfl⟩
  · exact ⟨_, by simp [eight], hc 4 _ rfl⟩
  · exact ⟨_, by simp [eight], hc 5 _ rfl⟩
  · exact ⟨_, by simp [eight], hc 6 _ rfl⟩
  · exact ⟨_, by simp [eight], hc 7 _ rfl⟩
theorem own_cut50 {w : World} {base g cap k : Nat} {L : List Lc} (h : w.ownsRow base 50 3 (.slice (some ⟨g, 0, none⟩) L.length cap) L.length (L.flatMap Lc.cells)) (hk : k ≤ L.length) :
    w.ownsRow base 50 3 (.slice (some ⟨g, 0, none⟩) k cap) k ((L.take k).flatMap Lc.cells) := by
  obtain ⟨hl, ⟨h1, h0⟩ | ⟨g', cap', cur, h1, hb, hg, hc, hm, hs, ht⟩⟩ := h
  · cases h1
  · cases h1
    refine ⟨by rw [flat_len, List.length_take]; omega, .inr ⟨g, cap, cur, rfl, hb, hg, by omega, hm, hs, ?_⟩⟩
    rw [flat_take, ← ht, List.take_take]
    congr 1
    omega
theorem names_few {L : List Lc} (hn : (L.map Lc.name).Nodup) (h8 : ∀ x ∈ L, x.name ∈ eight) : L.length ≤ 8 := by
  have := few (m := eight) hn (fun x hx => by obtain ⟨d, hd, rfl⟩ := List.mem_map.mp hx; exact h8 d hd)
  simpa [eight] using this
theorem fndL_free {L : List Lc} {n : ByteArray} (h : fndL L n = none) : n ∉ L.map Lc.name := by
  induction L with
  | nil => simp
  | cons a L ih =>
    rw [fndL] at h
    cases hL : fndL L n with
    | some r => rw [hL] at h; cases h
    | none =>
      rw [hL] at h
      have ha : ¬ a.name = n := by
        intro e
        simp only [if_pos e] at h
        split at h <;> cases h
      simp only [List.map_cons, List.mem_cons, not_or]
      exact ⟨fun e => ha e.symm, ih hL⟩
theorem fnd_zero {D : List Dc} {L : List Lc} {n : ByteArray} (h : (fnd D L n).1 = 0) : fndL L n = none := by
  cases hL : fndL L n with
  | none => rfl
  | some r =>
    exfalso
    have : r.1 = 4 ∨ r.1 = 5 := by
      clear h
      induction L with
      | nil => cases hL
      | cons a L ih =>
        rw [fndL] at hL
        cases hk : fndL L n with
        | some r' => rw [hk] at hL; cases hL; exact ih hk
        | none =>
          rw [hk] at hL
          by_cases ha : a.name = n
          · by_cases hc : 0 < a.count
            · simp only [if_pos ha, if_pos hc] at hL; cases hL; exact .inr rfl
            · simp only [if_pos ha, if_neg hc] at hL; cases hL; exact .inl rfl
          · simp only [if_neg ha] at hL; cases hL
    rw [fnd, hL] at h
    simp only [Option.getD_some] at h
    omega
theorem Sc.moved {w w' : World} {base p m B : Nat} {v : Value} {D : List Dc} {L : List Lc} (h : Sc w base p m v D L) (kb : Below B w w') (hp : p < B) (hv : ∀ k, v.ownBlock = some k → k < B) (hm : m < B) : Sc w' base p m v D L :=
  ⟨(kb.block p hp).trans h.hp, h.hm.move (kb.block m hm), own_move h.hv (fun k hk => kb.block k (hv k hk)), h.pb, h.mb⟩
def script.T7 : Bool × List (List Nat × List Nat) := (true, [([], []), ([0], [0]), ([], []), ([], []), ([2, 3, 1], [2, 3]), ([4], [4]), ([1, 5, 4], [1, 5]), ([6, 6, 0, 1, 2, 3, 4, 5, 6], [6])])
def script.B7 : List Nat := [0, 1, 0, 0, 15, 31, 63, 127]
theorem script.tab7 : rtab .any (opsOf Try.f4 7) = script.T7 := by kernel_rfl
theorem script.bits7 : waitsOk script.T7.2 script.B7 = true := by kernel_rfl
def script.T30 : Bool × List (List Nat × List Nat) := (true, [([], []), ([0], [0]), ([], []), ([], []), ([3], [3]), ([4], [4]), ([5], [5]), ([], []), ([7], [7]), ([8], [8]), ([9], [9]), ([2, 6, 10], [2, 6, 10]), ([11], [11]), ([1, 12, 1], [1, 12]), ([13, 13, 0, 1, 2, 3, 4, 5, 6, 7, 8, 9, 10, 11, 12, 13], [0, 13])])
def script.B30 : List Nat := [0, 1, 0, 0, 8, 24, 56, 0, 128, 384, 896, 2044, 4092, 8191, 16383]
theorem script.tab30 : rtab .any (opsOf Try.f4 30) = script.T30 := by kernel_rfl
theorem script.bits30 : waitsOk script.T30.2 script.B30 = true := by kernel_rfl
set_option maxHeartbeats 16000000 in
set_option maxRecDepth 100000 in
theorem script.calls (A0 : Option Addr) (c0 n0 : Nat) (A1 : Option Addr) (c1 n1 : Nat) (w : World) (hn0 : n0 ≤ 140737488355328) (hn1 : n1 ≤ 140737488355328)
    (hraw : ∀ i, i < n0 → ∃ ad a b c d, A0 = some ad ∧ (0 ≤ a ∧ a ≤ 255) ∧ (0 ≤ b ∧ b ≤ 255) ∧ (0 ≤ c ∧ c ≤ 255) ∧ (0 ≤ d ∧ d ≤ 255) ∧ w.cell? (ad.add (i * 4)) = some (.int .u8 a) ∧ w.cell? ⟨(ad.add (i * 4)).block, (ad.add (i * 4)).off + 1, none⟩ = some (.int .u8 b) ∧
      w.cell? ⟨(ad.add (i * 4)).block, (ad.add (i * 4)).off + 2, none⟩ = some (.int .u8 c) ∧ w.cell? ⟨(ad.add (i * 4)).block, (ad.add (i * 4)).off + 3, none⟩ = some (.int .u8 d))
    (hacts : ∀ i, i < n1 → ∃ ad a b c d, A1 = some ad ∧ (0 ≤ a ∧ a ≤ 255) ∧ (0 ≤ b ∧ b ≤ 255) ∧ (0 ≤ c ∧ c ≤ 255) ∧ (-128 ≤ d ∧ d ≤ 127) ∧ w.cell? (ad.add (i * 4)) = some (.int .u8 a) ∧ w.cell? ⟨(ad.add (i * 4)).block, (ad.add (i * 4)).off + 1, none⟩ = some (.int .u8 b) ∧
      w.cell? ⟨(ad.add (i * 4)).block, (ad.add (i * 4)).off + 2, none⟩ = some (.int .u8 c) ∧ w.cell? ⟨(ad.add (i * 4)).block, (ad.add (i * 4)).off + 3, none⟩ = some (.int .i8 d)) :
    Calls Try.prog 4 #[.slice A0 n0 c0, .slice A1 n1 c1] w fun e w' => e = .returned (.bool true) ∧ Below w.heap.size w w' := by
  go_enter Try.func4, Try.ntmps4
  go_upto_region 4 with (first
    | (go_at_call 6; refine (awake.calls w).mono ?_; rintro e w1 ⟨rfl, hb1⟩)
    | go_in)
  go_wp2
  go_loopw [5, 37] (fun r i wr => ∃ q : Nat, q ≤ n0 ∧ i = .int .i64 q ∧ (∃ D, wr.ownsRow w.heap.size 31 6 r D.length (D.flatMap Dc.cells) ∧ okk [] D = true ∧ ∀ d ∈ D, d.name ∈ six) ∧ Below w.heap.size w wr)
    (fun _ i _ => n0 - (intOf i).toNat)
  case atStart => exact ⟨0, by omega, rfl, ⟨[], World.ownsRow_nil _ _ _ _, rfl, by simp⟩, hb1⟩
  case round =>
    clear hb1
    obtain ⟨q, hq, rfl, ⟨D, hD, hok, h6⟩, HB⟩ := hrel
    have hDl := okk_few hok h6
    by_cases hqn : q < n0
    · obtain ⟨ad, a, b, c, d, rfl, ⟨ha0, ha1⟩, ⟨hb0, hb1⟩, ⟨hc0, hc1⟩, ⟨hd0, hd1⟩, x0, x1, x2, x3⟩ := hraw q hqn
      have X0 := (HB.cell (World.block_lt_of_cell? w _ x0)).trans x0
      have X1 := (HB.cell (World.block_lt_of_cell? w _ x1)).trans x1
      have X2 := (HB.cell (World.block_lt_of_cell? w _ x2)).trans x2
      have X3 := (HB.cell (World.block_lt_of_cell? w _ x3)).trans x3
      go_upto_region 7 with go_in
      have e7 : (wr.alloc (Obj.cells #[.int .u8 a, .int .u8 b, .int .u8 c, .int .u8 d] 42 (0, 0))).heap[wr.heap.size]? = some (Obj.cells #[.int .u8 a, .int .u8 b, .int .u8 c, .int .u8 d] 42 (0, 0)) := heap_alloc_new wr _
      have hb7 : Below wr.heap.size wr (wr.alloc (Obj.cells #[.int .u8 a, .int .u8 b, .int .u8 c, .int .u8 d] 42 (0, 0))) := (Below.refl _ _).alloc (Nat.le_refl _) _
      generalize wr.alloc (Obj.cells #[.int .u8 a, .int .u8 b, .int .u8 c, .int .u8 d] 42 (0, 0)) = W6 at e7 hb7 ⊢
      have hD7 := row_below hD hb7
      have HB := HB.trans (hb7.mono HB.size)
      generalize wr.heap.size = B7 at e7 ⊢
      clear X0 X1 X2 X3 hb7
      obtain ⟨W7, hW7⟩ : ∃ W7, W7 = W6.drew := ⟨_, rfl⟩
      have e7 : W7.heap[B7]? = some (Obj.cells #[.int .u8 a, .int .u8 b, .int .u8 c, .int .u8 d] 42 (0, 0)) := by rw [hW7]; exact e7
      have hD7 : W7.ownsRow w.heap.size 31 6 u5 D.length (D.flatMap Dc.cells) := by rw [hW7]; exact hD7
      have HB : Below w.heap.size w W7 := by rw [hW7]; exact HB.drew
      have HB7 := HB
      have E0 : W7.cell? ⟨B7, 0, none⟩ = some (.int .u8 a) := by simp [World.cell?, e7]
      have E1 : W7.cell? ⟨B7, 1, none⟩ = some (.int .u8 b) := by simp [World.cell?, e7]
      have E2 : W7.cell? ⟨B7, 2, none⟩ = some (.int .u8 c) := by simp [World.cell?, e7]
      have E3 : W7.cell? ⟨B7, 3, none⟩ = some (.int .u8 d) := by simp [World.cell?, e7]
      have l7 : B7 < W7.heap.size := (Array.getElem?_eq_some_iff.mp e7).1
      refine start_ (n := 8) (S := fun w' => w'.cell? ⟨B7, 0, none⟩ = some (.int .u8 a) ∧ w'.cell? ⟨B7, 1, none⟩ = some (.int .u8 b) ∧ w'.cell? ⟨B7, 2, none⟩ = some (.int .u8 c) ∧ w'.cell? ⟨B7, 3, none⟩ = some (.int .u8 d)) (ds := []) #[false, false, false, false, false, false, false, false] (by kernel_rfl) rfl rfl ⟨by rw [← hW7]; exact E0, by rw [← hW7]; exact E1, by rw [← hW7]; exact E2, by rw [← hW7]; exact E3⟩ (fun hHeld => ?_); refine with_tabW script.tab7 script.bits7 (fun HT_ HW_ => ?_)
      rw [← hW7] at hHeld ⊢
      clear hW7
      refine pure_ (i := 0) (N := some 42) (v := ?_) (a' := ?_) #[true, false, false, false, false, false, false, false] rfl rfl (any_of HT_.out (by kernel_rfl)) (fun _ _ _ h => h) (Or.inl ⟨by rfl, ?_⟩) ?_ ?_
      rotate_left
      · intro w'
        go_simp
        with_reducible rfl
      rotate_left
      · simp only [Act.put, List.setIfInBounds_toArray, List.set_cons_zero, List.set_cons_succ, i64_w, i32_w]
        rfl
      refine take_ (i := 2) (N := some 44) (v := ?_) (a' := ?_) #[true, false, true, false, false, false, false, false] rfl rfl (take_ofW HT_.out HW_.out (by kernel_rfl)) (fun _ _ _ h => h) (Or.inl ⟨by rfl, ?_⟩) hHeld ?_ ?_
      rotate_left
      · rintro w' ⟨s0, s1, s2, s3⟩
        go_simp
        with_reducible rfl
      rotate_left
      · simp only [Act.put, List.setIfInBounds_toArray, List.set_cons_zero, List.set_cons_succ, i64_w, i32_w]
        rfl
      refine pure_ (i := 3) (N := some 45) (v := ?_) (a' := ?_) #[true, false, true, true, false, false, false, false] rfl rfl (any_of HT_.out (by kernel_rfl)) (fun _ _ _ h => h) (Or.inl ⟨by rfl, ?_⟩) ?_ ?_
      rotate_left
      · intro w'
        go_simp
        with_reducible rfl
      rotate_left
      · simp only [Act.put, List.setIfInBounds_toArray, List.set_cons_zero, List.set_cons_succ, i64_w, i32_w]
        rfl
      refine one_ (i := 1) (N := some 43) #[true, true, true, true, false, false, false, false] rfl rfl (one_of HT_.out (by kernel_rfl)) (by decide) (fun K hK => ?_)
      refine step_copy (by rfl) (.const (.slice none 0 0)) (.tmp 42) 32 31 zDc.val 6 64 rfl Try.underlying32 info31 rfl (by decide) (by decide) u5 D.length w.heap.size (D.flatMap Dc.cells) rfl (by rfl) hD7 (flatD_one D) (by omega) ?_
      intro v8 w8 ho8 hb8
      have E0 := (hb8.cell (by exact l7)).trans E0
      have E1 := (hb8.cell (by exact l7)).trans E1
      have E2 := (hb8.cell (by exact l7)).trans E2
      have E3 := (hb8.cell (by exact l7)).trans E3
      have hD8 := row_below hD7 hb8
      have HB := HB.trans (hb8.mono HB.size)
      have l8 := Nat.lt_of_lt_of_le l7 hb8.size
      refine hK.out _ _ ⟨E0, E1, E2, E3⟩ (fun hHeld => ?_)
      clear hK K
      refine norm_ (a' := ?_) ?_ ?_
      rotate_left
      · show Act.put _ (some 43) _ = _
        simp only [Act.put, List.setIfInBounds_toArray, List.set_cons_zero, List.set_cons_succ, i64_w, i32_w]
        rfl
      refine one_ (i := 4) (N := some 46) #[true, true, true, true, true, false, false, false] rfl rfl (one_of HT_.out (by kernel_rfl)) (by decide) (fun K hK => ?_)
      refine goes_ Try.func11 (by kernel_rfl) rfl #[.agg #[.int .u8 a, .int .u8 b, .int .u8 c, .int .u8 d], .int .i64 (q : Int)] (by rfl) rfl rfl (by (try simp only [List.map_toArray, List.map_cons, List.map_nil]); first | done | rfl) ?_
      refine (decl.calls a b c d q w8 ha0 ha1 hb0 hb1 hc0 hc1 hd0 hd1).mono ?_
      rintro e w9 ⟨x, rfl, hx6, hb9⟩
      refine ⟨_, rfl, ?_⟩
      have E0 := (hb9.cell (by exact l8)).trans E0
      have E1 := (hb9.cell (by exact l8)).trans E1
      have E2 := (hb9.cell (by exact l8)).trans E2
      have E3 := (hb9.cell (by exact l8)).trans E3
      have ho9 := row_below ho8 hb9
      have hD9 := row_below hD8 hb9
      have HB := HB.trans (hb9.mono HB.size)
      have l9 := Nat.lt_of_lt_of_le l8 hb9.size
      refine hK.out _ _ ⟨E0, E1, E2, E3⟩ (fun hHeld => ?_)
      clear hK K
      refine norm_ (a' := ?_) ?_ ?_
      rotate_left
      · show Act.put _ (some 46) _ = _
        simp only [Act.put, List.setIfInBounds_toArray, List.set_cons_zero, List.set_cons_succ, i64_w, i32_w]
        rfl
      refine one_ (i := 5) (N := some 47) #[true, true, true, true, true, true, false, false] rfl rfl (one_of HT_.out (by kernel_rfl)) (by decide) (fun K hK => ?_)
      refine value_ (w1 := w9.alloc (Obj.cells x.cells.toArray 31 (0, 0))) (v := .slice (some ⟨w9.heap.size, 0, none⟩) 1 1) (by rfl) rfl ?_ ?_
      · obtain ⟨xl, xb, xn, xs, xy, xa⟩ := x
        go_simp
        rfl
      have hb10 : Below w9.heap.size w9 (w9.alloc (Obj.cells x.cells.toArray 31 (0, 0))) := (Below.refl _ _).alloc (Nat.le_refl _) _
      have hg10 : (w9.alloc (Obj.cells x.cells.toArray 31 (0, 0))).heap[w9.heap.size]? = some (Obj.cells x.cells.toArray 31 (0, 0)) := heap_alloc_new w9 _
      generalize w9.alloc (Obj.cells x.cells.toArray 31 (0, 0)) = w10 at hb10 hg10 ⊢
      have E0 := (hb10.cell (by exact l9)).trans E0
      have E1 := (hb10.cell (by exact l9)).trans E1
      have E2 := (hb10.cell (by exact l9)).trans E2
      have E3 := (hb10.cell (by exact l9)).trans E3
      have ho10 := row_below ho9 hb10
      have hD10 := row_below hD9 hb10
      have HB := HB.trans (hb10.mono HB.size)
      have l10 := Nat.lt_of_lt_of_le l9 hb10.size
      refine hK.out _ _ ⟨E0, E1, E2, E3⟩ (fun hHeld => ?_)
      clear hK K
      refine norm_ (a' := ?_) ?_ ?_
      rotate_left
      · show Act.put _ (some 47) _ = _
        simp only [Act.put, List.setIfInBounds_toArray, List.set_cons_zero, List.set_cons_succ, i64_w, i32_w]
        rfl
      refine one_ (i := 6) (N := some 48) #[true, true, true, true, true, true, true, false] rfl rfl (one_of HT_.out (by kernel_rfl)) (by decide) (fun K hK => ?_)
      refine step_push (by rfl) (.tmp 43) (.tmp 47) 32 31 zDc.val 6 64 rfl Try.underlying32 info31 rfl (by decide) (by decide) v8 D.length W7.heap.size w9.heap.size (D.flatMap Dc.cells) x.cells (by rfl) (by rfl) hg10 rfl (by intro u hu; exact flatD_one [x] u (by simpa using hu)) ho10 (by have := hb8.size; have := hb9.size; have := hb10.size; omega) (by omega) ?_
      intro v11 w11 ho11 hgr11
      have kb : Below W7.heap.size w10 w11 := (Below.refl _ _).grown hgr11 (by have := hb8.size; have := hb9.size; have := hb10.size; omega) (fun k hk => (ho10.lt k hk).1)
      have hD11 : w11.ownsRow w.heap.size 31 6 u5 D.length (D.flatMap Dc.cells) := own_move hD10 (fun k hk => kb.block k (hD7.lt k hk).2)
      have E0 := (kb.cell (by exact l7)).trans E0
      have E1 := (kb.cell (by exact l7)).trans E1
      have E2 := (kb.cell (by exact l7)).trans E2
      have E3 := (kb.cell (by exact l7)).trans E3
      have HB := HB.trans (kb.mono HB7.size)
      refine hK.out _ _ ⟨E0, E1, E2, E3⟩ (fun hHeld => ?_)
      clear hK K
      refine norm_ (a' := ?_) ?_ ?_
      rotate_left
      · show Act.put _ (some 48) _ = _
        simp only [Act.put, List.setIfInBounds_toArray, List.set_cons_zero, List.set_cons_succ, i64_w, i32_w]
        rfl
      refine pure_ (i := 7) (N := some 8) (v := ?_) (a' := ?_) #[true, true, true, true, true, true, true, true] rfl rfl (any_of HT_.out (by kernel_rfl)) (fun _ _ _ h => h) (Or.inl ⟨by rfl, ?_⟩) ?_ ?_
      rotate_left
      · intro w'
        go_simp
        with_reducible rfl
      rotate_left
      · simp only [Act.put, List.setIfInBounds_toArray, List.set_cons_zero, List.set_cons_succ, i64_w, i32_w]
        rfl
      refine done_ (done_of HT_.out (by kernel_rfl)) ?_
      have hoX : w11.ownsRow w.heap.size 31 6 v11 (D ++ [x]).length ((D ++ [x]).flatMap Dc.cells) := by
        have := own_weaken ho11 HB7.size
        rw [List.length_append, List.flatMap_append]
        simpa using this
      have hlX : (D ++ [x]).length ≤ 4611686018427387904 := by rw [List.length_append, List.length_singleton]; omega
      have hX6 : ∀ d ∈ D ++ [x], d.name ∈ six := by
        intro d hd
        rcases List.mem_append.mp hd with hd | hd
        · exact h6 d hd
        · rw [List.mem_singleton.mp hd]; exact hx6
      clear ho8 ho9 ho10 ho11 hgr11 kb hb8 hb9 hb10 hg10 hHeld E0 E1 E2 E3 hD8 hD9 hD10 hD7 hD
      cases hk : okk [] (D ++ [x]) with
      | true =>
        go_wp2_with (first
          | (go_at_call 7; refine (of.calls hoX hk hlX).mono ?_; rintro e w12 ⟨p, m, rfl, hS, hb12⟩)
          | go_in)
        go_roundw
        case rel => exact ⟨q + 1, by omega, by first | rfl | go_num, ⟨D ++ [x], row_below hoX hb12, hk, hX6⟩, HB.trans (hb12.mono HB.size)⟩
        case measure => simp [intOf]; omega
      | false =>
        go_wp2_with (first
          | (go_at_call 7; refine (of.fails hoX hk hlX).mono ?_; rintro e w12 ⟨t12, x12, rfl, hb12⟩)
          | go_in)
        go_roundw
        case rel => exact ⟨q + 1, by omega, by first | rfl | go_num, ⟨D, row_below hD11 hb12, hok, h6⟩, HB.trans (hb12.mono HB.size)⟩
        case measure => simp [intOf]; omega
    · obtain rfl : q = n0 := by omega
      go_upto_region 15 with (first
        | (go_at_call 7; refine (of.calls hD hok (by omega)).mono ?_; rintro e w2 ⟨p, m, rfl, hS, hb2⟩)
        | go_in)
      have hS := hS.lower (base' := w.heap.size) HB.size
      have hD := row_below hD hb2
      have HB := HB.trans (hb2.mono HB.size)
      clear hb2
      go_wp2
      have hN : (w2.alloc namesObj).heap[w2.heap.size]? = some namesObj := heap_alloc_new w2 _
      have hb3 : Below w2.heap.size w2 (w2.alloc namesObj) := (Below.refl _ _).alloc (Nat.le_refl _) _
      have hS := hS.below hb3
      have hD := row_below hD hb3
      have HB := HB.trans (hb3.mono HB.size)
      rw [namesObj] at hS hD HB hN
      generalize w2.alloc (Obj.cells #[.string ⟨#[97]⟩, .string ⟨#[98]⟩, .string ⟨#[99]⟩, .string ⟨#[100]⟩, .string ⟨#[101]⟩, .string ⟨#[102]⟩, .string ⟨#[103]⟩, .string ⟨#[104]⟩] 9 (0, 0)) = w3 at hS hD HB hN ⊢
      generalize w2.heap.size = N at hN ⊢
      replace hN : w3.heap[N]? = some namesObj := hN
      clear hb3
      go_loopw [14, 68] (fun l i wr => ∃ q : Nat, q ≤ n1 ∧ i = .int .i64 q ∧ (∃ L v, Sc wr w.heap.size p m v D L ∧ wr.ownsRow w.heap.size 50 3 l L.length (L.flatMap Lc.cells) ∧ (L.map Lc.name).Nodup ∧ ∀ x ∈ L, x.name ∈ eight) ∧ wr.ownsRow w.heap.size 31 6 u5 D.length (D.flatMap Dc.cells) ∧ wr.heap[N]? = some namesObj ∧ Below w.heap.size w wr)
        (fun _ i _ => n1 - (intOf i).toNat)
      case atStart => exact ⟨0, by omega, rfl, ⟨[], _, hS, World.ownsRow_nil _ _ _ _, by simp, by simp⟩, hD, hN, HB⟩
      case round =>
        clear hS hD hN HB
        obtain ⟨q, hq, rfl, ⟨L, v, hS, hL, hnd, h8⟩, hD, hN, HB⟩ := hrel
        have hL8 := names_few hnd h8
        by_cases hqn1 : q < n1
        · obtain ⟨ad, a, b, c, d, rfl, ⟨ha0, ha1⟩, ⟨hb0, hb1⟩, ⟨hc0, hc1⟩, ⟨hd0, hd1⟩, x0, x1, x2, x3⟩ := hacts q hqn1
          have X0 := (HB.cell (World.block_lt_of_cell? w _ x0)).trans x0
          have X1 := (HB.cell (World.block_lt_of_cell? w _ x1)).trans x1
          have X2 := (HB.cell (World.block_lt_of_cell? w _ x2)).trans x2
          have X3 := (HB.cell (World.block_lt_of_cell? w _ x3)).trans x3
          go_upto_region 20 with go_in
          have e16 : (wr.alloc (Obj.cells #[.int .u8 a, .int .u8 b, .int .u8 c, .int .i8 d] 47 (0, 0))).heap[wr.heap.size]? = some (Obj.cells #[.int .u8 a, .int .u8 b, .int .u8 c, .int .i8 d] 47 (0, 0)) := heap_alloc_new wr _
          have hb4 : Below wr.heap.size wr (wr.alloc (Obj.cells #[.int .u8 a, .int .u8 b, .int .u8 c, .int .i8 d] 47 (0, 0))) := (Below.refl _ _).alloc (Nat.le_refl _) _
          generalize wr.alloc (Obj.cells #[.int .u8 a, .int .u8 b, .int .u8 c, .int .i8 d] 47 (0, 0)) = w4 at e16 hb4 ⊢
          have hS := hS.below hb4
          have hL := row_below hL hb4
          have hD := row_below hD hb4
          have hN : w4.heap[N]? = some namesObj := (hb4.block N (Array.getElem?_eq_some_iff.mp hN).1).trans hN
          have HB := HB.trans (hb4.mono HB.size)
          generalize wr.heap.size = B16 at e16 ⊢
          clear X0 X1 X2 X3 x0 x1 x2 x3 hb4
          have k0 : w4.cell? ⟨B16, 0, none⟩ = some (.int .u8 a) := by simp [World.cell?, e16]
          have k1 : w4.cell? ⟨B16, 1, none⟩ = some (.int .u8 b) := by simp [World.cell?, e16]
          have k2 : w4.cell? ⟨B16, 2, none⟩ = some (.int .u8 c) := by simp [World.cell?, e16]
          have k3 : w4.cell? ⟨B16, 3, none⟩ = some (.int .i8 d) := by simp [World.cell?, e16]
          obtain ⟨n, hn8, qn⟩ := eight_cell hN (b % 8).toNat (by omega)
          by_cases hop : a % 3 = 0
          · by_cases hmk : 0 ≤ d ∧ d < L.length
            · obtain ⟨hm0, hm1⟩ := hmk
              rcases own_at Lc.cells 3 (fun _ => rfl) hL rfl with ⟨rfl, rfl⟩ | ⟨gl, cl, rfl, hcl, hgl0, hgl1, hrdl⟩
              · simp at hm1; omega
              · clear hrdl
                go_upto_region 24 with (first
                  | (go_at_call 10; refine (leave.calls d hS).mono ?_; rintro e w5 ⟨rfl, v5, hS, hst⟩; rw [if_pos ⟨hm0, hm1⟩] at hS)
                  | go_in)
                have hL := row_step hL hst (by decide) (by decide)
                have hD := row_step hD hst (by decide) (by decide)
                have hN : w5.heap[N]? = some namesObj := hst.kept N _ _ _ hN (by decide) (by decide)
                have HB := HB.trans hst.below
                clear hst k0 k1 k2 k3 e16 qn
                have hL := own_cut50 (k := d.toNat) hL (by omega)
                have hnd : ((L.take d.toNat).map Lc.name).Nodup := by rw [List.map_take]; exact hnd.sublist (List.take_sublist _ _)
                have h8 : ∀ x ∈ L.take d.toNat, x.name ∈ eight := fun x hx => h8 x (List.mem_of_mem_take hx)
                have hlen : (L.take d.toNat).length = d.toNat := by rw [List.length_take]; omega
                go_upto_region 31 with go_in
                generalize L.take d.toNat = Lx at hS hL hnd h8 hlen
                replace hL : w5.ownsRow w.heap.size 50 3 (.slice (some ⟨gl, 0, none⟩) d.toNat cl) Lx.length (Lx.flatMap Lc.cells) := by rw [hlen]; exact hL
                have hLl : (Lx.length : Int) = d := by omega
                have hLx8 : Lx.length ≤ 8 := names_few hnd h8
                go_upto_region 33 with (first
                  | (go_at_call 13; refine (mark.calls hS).mono ?_; rintro e w21 ⟨rfl, hb21⟩)
                  | go_in)
                have hS := hS.below hb21
                have hL := row_below hL hb21
                have hD := row_below hD hb21
                have hN : w21.heap[N]? = some namesObj := (hb21.block N (Array.getElem?_eq_some_iff.mp hN).1).trans hN
                have HB := HB.trans (hb21.mono HB.size)
                clear hb21
                go_wp2
                go_loopw [144] (fun i wr => ∃ k : Nat, k ≤ 8 ∧ i = .int .i64 k ∧ Sc wr w.heap.size p m v5 D Lx ∧ wr.ownsRow w.heap.size 50 3 (.slice (some ⟨gl, 0, none⟩) d.toNat cl) Lx.length (Lx.flatMap Lc.cells) ∧ wr.ownsRow w.heap.size 31 6 u5 D.length (D.flatMap Dc.cells) ∧ wr.heap[N]? = some namesObj ∧ Below w.heap.size w wr)
                  (fun i _ => 8 - (intOf i).toNat)
                case atStart => exact ⟨0, by omega, rfl, hS, hL, hD, hN, HB⟩
                case round =>
                  clear hS hL hD hN HB
                  obtain ⟨k, hk, rfl, hS, hL, hD, hN, HB⟩ := hrel
                  by_cases hk8 : k < 8
                  · obtain ⟨n3, hn3, qn3⟩ := eight_cell hN k hk8
                    go_wp2_with (first
                      | (go_at_call 9; refine (find.calls n3 hS (by omega)).mono ?_; rintro e w31 ⟨rfl, hb31⟩; simp only [fndV]; have hS := hS.below hb31; have hL := row_below hL hb31; have hD := row_below hD hb31; have hN : w31.heap[N]? = some namesObj := (hb31.block N (Array.getElem?_eq_some_iff.mp hN).1).trans hN; have HB := HB.trans (hb31.mono HB.size); clear hb31)
                      | (go_at_call 12; refine (lfind.calls n3 hD hL (by omega) (by omega)).mono ?_; rintro e w32 ⟨rfl, hb32⟩; simp only [fndV]; have hS := hS.below hb32; have hL := row_below hL hb32; have hD := row_below hD hb32; have hN : w32.heap[N]? = some namesObj := (hb32.block N (Array.getElem?_eq_some_iff.mp hN).1).trans hN; have HB := HB.trans (hb32.mono HB.size); clear hb32)
                      | go_in)
                    go_roundw
                    case rel => exact ⟨k + 1, by omega, by first | rfl | go_num, hS, hL, hD, hN, HB⟩
                    case measure => simp [intOf]; omega
                  · obtain rfl : k = 8 := by omega
                    go_wp2
                    go_roundw
                    case rel => exact ⟨q + 1, by omega, by first | rfl | go_num, ⟨Lx, v5, hS, hL, hnd, h8⟩, hD, hN, HB⟩
                    case measure => simp [intOf]; omega
            · rcases (show d < 0 ∨ (0 ≤ d ∧ (L.length : Int) ≤ d) by omega) with hd' | ⟨hd', hd''⟩
              · obtain ⟨Al, cl, rfl⟩ := own_slice hL
                go_upto_region 24 with (first
                  | (go_at_call 10; refine (leave.calls d hS).mono ?_; rintro e w5 ⟨rfl, v5, hS, hst⟩; rw [if_neg hmk] at hS)
                  | go_in)
                have hL := row_step hL hst (by decide) (by decide)
                have hD := row_step hD hst (by decide) (by decide)
                have hN : w5.heap[N]? = some namesObj := hst.kept N _ _ _ hN (by decide) (by decide)
                have HB := HB.trans hst.below
                clear hst k0 k1 k2 k3 e16 qn
                obtain ⟨Lx, hLx⟩ : ∃ Lx, Lx = L := ⟨_, rfl⟩
                subst hLx
                go_upto_region 31 with go_in
                go_upto_region 33 with (first
                  | (go_at_call 13; refine (mark.calls hS).mono ?_; rintro e w21 ⟨rfl, hb21⟩)
                  | go_in)
                have hS := hS.below hb21
                have hL := row_below hL hb21
                have hD := row_below hD hb21
                have hN : w21.heap[N]? = some namesObj := (hb21.block N (Array.getElem?_eq_some_iff.mp hN).1).trans hN
                have HB := HB.trans (hb21.mono HB.size)
                clear hb21
                go_wp2
                go_loopw [144] (fun i wr => ∃ k : Nat, k ≤ 8 ∧ i = .int .i64 k ∧ Sc wr w.heap.size p m v5 D Lx ∧ wr.ownsRow w.heap.size 50 3 (.slice Al Lx.length cl) Lx.length (Lx.flatMap Lc.cells) ∧ wr.ownsRow w.heap.size 31 6 u5 D.length (D.flatMap Dc.cells) ∧ wr.heap[N]? = some namesObj ∧ Below w.heap.size w wr)
                  (fun i _ => 8 - (intOf i).toNat)
                case atStart => exact ⟨0, by omega, rfl, hS, hL, hD, hN, HB⟩
                case round =>
                  clear hS hL hD hN HB
                  obtain ⟨k, hk, rfl, hS, hL, hD, hN, HB⟩ := hrel
                  by_cases hk8 : k < 8
                  · obtain ⟨n3, hn3, qn3⟩ := eight_cell hN k hk8
                    go_wp2_with (first
                      | (go_at_call 9; refine (find.calls n3 hS (by omega)).mono ?_; rintro e w31 ⟨rfl, hb31⟩; simp only [fndV]; have hS := hS.below hb31; have hL := row_below hL hb31; have hD := row_below hD hb31; have hN : w31.heap[N]? = some namesObj := (hb31.block N (Array.getElem?_eq_some_iff.mp hN).1).trans hN; have HB := HB.trans (hb31.mono HB.size); clear hb31)
                      | (go_at_call 12; refine (lfind.calls n3 hD hL (by omega) (by omega)).mono ?_; rintro e w32 ⟨rfl, hb32⟩; simp only [fndV]; have hS := hS.below hb32; have hL := row_below hL hb32; have hD := row_below hD hb32; have hN : w32.heap[N]? = some namesObj := (hb32.block N (Array.getElem?_eq_some_iff.mp hN).1).trans hN; have HB := HB.trans (hb32.mono HB.size); clear hb32)
                      | go_in)
                    go_roundw
                    case rel => exact ⟨k + 1, by omega, by first | rfl | go_num, hS, hL, hD, hN, HB⟩
                    case measure => simp [intOf]; omega
                  · obtain rfl : k = 8 := by omega
                    go_wp2
                    go_roundw
                    case rel => exact ⟨q + 1, by omega, by first | rfl | go_num, ⟨Lx, v5, hS, hL, hnd, h8⟩, hD, hN, HB⟩
                    case measure => simp [intOf]; omega
              · obtain ⟨Al, cl, rfl⟩ := own_slice hL
                go_upto_region 24 with (first
                  | (go_at_call 10; refine (leave.calls d hS).mono ?_; rintro e w5 ⟨rfl, v5, hS, hst⟩; rw [if_neg hmk] at hS)
                  | go_in)
                have hL := row_step hL hst (by decide) (by decide)
                have hD := row_step hD hst (by decide) (by decide)
                have hN : w5.heap[N]? = some namesObj := hst.kept N _ _ _ hN (by decide) (by decide)
                have HB := HB.trans hst.below
                clear hst k0 k1 k2 k3 e16 qn
                obtain ⟨Lx, hLx⟩ : ∃ Lx, Lx = L := ⟨_, rfl⟩
                subst hLx
                go_upto_region 31 with go_in
                go_upto_region 33 with (first
                  | (go_at_call 13; refine (mark.calls hS).mono ?_; rintro e w21 ⟨rfl, hb21⟩)
                  | go_in)
                have hS := hS.below hb21
                have hL := row_below hL hb21
                have hD := row_below hD hb21
                have hN : w21.heap[N]? = some namesObj := (hb21.block N (Array.getElem?_eq_some_iff.mp hN).1).trans hN
                have HB := HB.trans (hb21.mono HB.size)
                clear hb21
                go_wp2
                go_loopw [144] (fun i wr => ∃ k : Nat, k ≤ 8 ∧ i = .int .i64 k ∧ Sc wr w.heap.size p m v5 D Lx ∧ wr.ownsRow w.heap.size 50 3 (.slice Al Lx.length cl) Lx.length (Lx.flatMap Lc.cells) ∧ wr.ownsRow w.heap.size 31 6 u5 D.length (D.flatMap Dc.cells) ∧ wr.heap[N]? = some namesObj ∧ Below w.heap.size w wr)
                  (fun i _ => 8 - (intOf i).toNat)
                case atStart => exact ⟨0, by omega, rfl, hS, hL, hD, hN, HB⟩
                case round =>
                  clear hS hL hD hN HB
                  obtain ⟨k, hk, rfl, hS, hL, hD, hN, HB⟩ := hrel
                  by_cases hk8 : k < 8
                  · obtain ⟨n3, hn3, qn3⟩ := eight_cell hN k hk8
                    go_wp2_with (first
                      | (go_at_call 9; refine (find.calls n3 hS (by omega)).mono ?_; rintro e w31 ⟨rfl, hb31⟩; simp only [fndV]; have hS := hS.below hb31; have hL := row_below hL hb31; have hD := row_below hD hb31; have hN : w31.heap[N]? = some namesObj := (hb31.block N (Array.getElem?_eq_some_iff.mp hN).1).trans hN; have HB := HB.trans (hb31.mono HB.size); clear hb31)
                      | (go_at_call 12; refine (lfind.calls n3 hD hL (by omega) (by omega)).mono ?_; rintro e w32 ⟨rfl, hb32⟩; simp only [fndV]; have hS := hS.below hb32; have hL := row_below hL hb32; have hD := row_below hD hb32; have hN : w32.heap[N]? = some namesObj := (hb32.block N (Array.getElem?_eq_some_iff.mp hN).1).trans hN; have HB := HB.trans (hb32.mono HB.size); clear hb32)
                      | go_in)
                    go_roundw
                    case rel => exact ⟨k + 1, by omega, by first | rfl | go_num, hS, hL, hD, hN, HB⟩
                    case measure => simp [intOf]; omega
                  · obtain rfl : k = 8 := by omega
                    go_wp2
                    go_roundw
                    case rel => exact ⟨q + 1, by omega, by first | rfl | go_num, ⟨Lx, v5, hS, hL, hnd, h8⟩, hD, hN, HB⟩
                    case measure => simp [intOf]; omega
          · by_cases hf : (fnd D L n).1 = 0
            · obtain ⟨Al, cl, rfl⟩ := own_slice hL
              have hfl := fnd_zero hf
              have hw1 : wrap64 (c.tmod 2) = c % 2 := by rw [Int.tmod_eq_emod_of_nonneg hc0, wrap_in (by omega) (by omega)]
              have hw2 : wrap64 d = d := wrap_in (by omega) (by omega)
              have h30 : (fnd D L n).1 = 0 := hf
              have hnd' : ((L ++ [(⟨n, c % 2, if 0 < d then d else 0⟩ : Lc)]).map Lc.name).Nodup := by
                rw [List.map_append, List.nodup_append]
                refine ⟨hnd, by simp, fun x hx y hy => ?_⟩
                simp at hy
                subst hy
                rintro rfl
                exact fndL_free hfl hx
              have h8' : ∀ x ∈ L ++ [(⟨n, c % 2, if 0 < d then d else 0⟩ : Lc)], x.name ∈ eight := by
                intro x hx
                rcases List.mem_append.mp hx with hx | hx
                · exact h8 x hx
                · rw [List.mem_singleton.mp hx]; exact hn8
              go_upto_region 27 with (first
                | (go_at_call 12; refine (lfind.calls n hD hL (by omega) (by omega)).mono ?_; rintro e w5 ⟨rfl, hb5⟩; simp only [fndV, hf])
                | go_in)
              have hS := hS.below hb5
              have hL := row_below hL hb5
              have hD := row_below hD hb5
              have hN : w5.heap[N]? = some namesObj := (hb5.block N (Array.getElem?_eq_some_iff.mp hN).1).trans hN
              have HB := HB.trans (hb5.mono HB.size)
              have e16 := (hb5.block B16 (Array.getElem?_eq_some_iff.mp e16).1).trans e16
              have k2 : w5.cell? ⟨B16, 2, none⟩ = some (.int .u8 c) := by simp [World.cell?, e16]
              have k3 : w5.cell? ⟨B16, 3, none⟩ = some (.int .i8 d) := by simp [World.cell?, e16]
              clear hb5
              obtain ⟨Lx, hLx⟩ : ∃ Lx, Lx = L ++ [(⟨n, c % 2, if 0 < d then d else 0⟩ : Lc)] := ⟨_, rfl⟩
              rw [← hLx] at hnd' h8'
              go_upto_region 30 with (first
                | (go_at_call 8; refine (enter_free n (c % 2) d (if 0 < d then d else 0) Lx rfl hLx.symm hf hS (by omega)).mono ?_; rintro e w6 ⟨rfl, v5, hS, hst⟩)
                | go_in)
              have hL := row_step hL hst (by decide) (by decide)
              have hD := row_step hD hst (by decide) (by decide)
              have hN : w6.heap[N]? = some namesObj := hst.kept N _ _ _ hN (by decide) (by decide)
              have e16 : w6.heap[B16]? = some (Obj.cells #[.int .u8 a, .int .u8 b, .int .u8 c, .int .i8 d] 47 (0, 0)) := hst.kept B16 _ _ _ e16 (by decide) (by decide)
              have HB := HB.trans hst.below
              have hnd := hnd'
              have h8 := h8'
              have hLx8 : Lx.length ≤ 8 := names_few hnd h8
              clear hst k0 k1 k2 k3 qn hnd' h8'
              obtain ⟨W7, hW7⟩ : ∃ W7, W7 = w6.drew := ⟨_, rfl⟩
              have hS : Sc W7 w.heap.size p m v5 D Lx := by rw [hW7]; exact hS.below (Below.refl _ _).drew
              have hL : W7.ownsRow w.heap.size 50 3 (.slice Al L.length cl) L.length (L.flatMap Lc.cells) := by rw [hW7]; exact hL
              have hD : W7.ownsRow w.heap.size 31 6 u5 D.length (D.flatMap Dc.cells) := by rw [hW7]; exact hD
              have hN : W7.heap[N]? = some namesObj := by rw [hW7]; exact hN
              have e16 : W7.heap[B16]? = some (Obj.cells #[.int .u8 a, .int .u8 b, .int .u8 c, .int .i8 d] 47 (0, 0)) := by rw [hW7]; exact e16
              have HB : Below w.heap.size w W7 := by rw [hW7]; exact HB.drew
              have k0 : W7.cell? ⟨B16, 0, none⟩ = some (.int .u8 a) := by simp [World.cell?, e16]
              have k1 : W7.cell? ⟨B16, 1, none⟩ = some (.int .u8 b) := by simp [World.cell?, e16]
              have k2 : W7.cell? ⟨B16, 2, none⟩ = some (.int .u8 c) := by simp [World.cell?, e16]
              have k3 : W7.cell? ⟨B16, 3, none⟩ = some (.int .i8 d) := by simp [World.cell?, e16]
              have l16 : B16 < W7.heap.size := (Array.getElem?_eq_some_iff.mp e16).1
              have lk := l16
              have lN : N < W7.heap.size := (Array.getElem?_eq_some_iff.mp hN).1
              have hm7 : m < W7.heap.size := by obtain ⟨_, _, h, _⟩ := hS.hm; exact (Array.getElem?_eq_some_iff.mp h).1
              have HB7 := HB
              have hD7 := hD
              have hS7 := hS
              refine start_ (n := 15) (S := fun w' => w'.cell? ⟨B16, 0, none⟩ = some (.int .u8 a) ∧ w'.cell? ⟨B16, 1, none⟩ = some (.int .u8 b) ∧ w'.cell? ⟨B16, 2, none⟩ = some (.int .u8 c) ∧ w'.cell? ⟨B16, 3, none⟩ = some (.int .i8 d)) (ds := []) #[false, false, false, false, false, false, false, false, false, false, false, false, false, false, false] (by kernel_rfl) rfl rfl ⟨by rw [← hW7]; exact k0, by rw [← hW7]; exact k1, by rw [← hW7]; exact k2, by rw [← hW7]; exact k3⟩ (fun hHeld => ?_); refine with_tabW script.tab30 script.bits30 (fun HT_ HW_ => ?_)
              rw [← hW7] at hHeld ⊢
              clear hW7
              refine pure_ (i := 0) (N := some 123) (v := ?_) (a' := ?_) #[true, false, false, false, false, false, false, false, false, false, false, false, false, false, false] rfl rfl (any_of HT_.out (by kernel_rfl)) (fun _ _ _ h => h) (Or.inl ⟨by rfl, ?_⟩) ?_ ?_
              rotate_left
              · intro w'
                go_simp
                with_reducible rfl
              rotate_left
              · simp only [Act.put, List.setIfInBounds_toArray, List.set_cons_zero, List.set_cons_succ, i64_w, i32_w]
                rfl
              refine pure_ (i := 2) (N := some 125) (v := ?_) (a' := ?_) #[true, false, true, false, false, false, false, false, false, false, false, false, false, false, false] rfl rfl (any_of HT_.out (by kernel_rfl)) (fun _ _ _ h => h) (Or.inl ⟨by rfl, ?_⟩) ?_ ?_
              rotate_left
              · intro w'
                go_simp
                with_reducible rfl
              rotate_left
              · simp only [Act.put, List.setIfInBounds_toArray, List.set_cons_zero, List.set_cons_succ, i64_w, i32_w]
                rfl
              refine pure_ (i := 3) (N := some 126) (v := ?_) (a' := ?_) #[true, false, true, true, false, false, false, false, false, false, false, false, false, false, false] rfl rfl (any_of HT_.out (by kernel_rfl)) (fun _ _ _ h => h) (Or.inl ⟨by rfl, ?_⟩) ?_ ?_
              rotate_left
              · intro w'
                go_simp
                with_reducible rfl
              rotate_left
              · simp only [Act.put, List.setIfInBounds_toArray, List.set_cons_zero, List.set_cons_succ, i64_w, i32_w]
                rfl
              refine take_ (i := 4) (N := some 127) (v := ?_) (a' := ?_) #[true, false, true, true, true, false, false, false, false, false, false, false, false, false, false] rfl rfl (take_ofW HT_.out HW_.out (by kernel_rfl)) (fun _ _ _ h => h) (Or.inl ⟨by rfl, ?_⟩) hHeld ?_ ?_
              rotate_left
              · rintro w' ⟨s0, s1, s2, s3⟩
                go_simp
                with_reducible rfl
              rotate_left
              · simp only [Act.put, List.setIfInBounds_toArray, List.set_cons_zero, List.set_cons_succ, i64_w, i32_w]
                rfl
              refine pure_ (i := 5) (N := some 128) (v := ?_) (a' := ?_) #[true, false, true, true, true, true, false, false, false, false, false, false, false, false, false] rfl rfl (any_of HT_.out (by kernel_rfl)) (fun _ _ _ h => h) (Or.inl ⟨by rfl, ?_⟩) ?_ ?_
              rotate_left
              · intro w'
                go_simp
                with_reducible rfl
              rotate_left
              · simp only [Act.put, List.setIfInBounds_toArray, List.set_cons_zero, List.set_cons_succ, i64_w, i32_w]
                rfl
              refine pure_ (i := 6) (N := some 129) (v := ?_) (a' := ?_) #[true, false, true, true, true, true, true, false, false, false, false, false, false, false, false] rfl rfl (any_of HT_.out (by kernel_rfl)) (fun _ _ _ h => h) (Or.inl ⟨by rfl, ?_⟩) ?_ ?_
              rotate_left
              · intro w'
                go_simp
                with_reducible rfl
              rotate_left
              · simp only [Act.put, List.setIfInBounds_toArray, List.set_cons_zero, List.set_cons_succ, i64_w, i32_w]
                rfl
              refine pure_ (i := 7) (N := some 130) (v := ?_) (a' := ?_) #[true, false, true, true, true, true, true, true, false, false, false, false, false, false, false] rfl rfl (any_of HT_.out (by kernel_rfl)) (fun _ _ _ h => h) (Or.inl ⟨by rfl, ?_⟩) ?_ ?_
              rotate_left
              · intro w'
                go_simp
                with_reducible rfl
              rotate_left
              · simp only [Act.put, List.setIfInBounds_toArray, List.set_cons_zero, List.set_cons_succ, i64_w, i32_w]
                rfl
              refine take_ (i := 8) (N := some 131) (v := ?_) (a' := ?_) #[true, false, true, true, true, true, true, true, true, false, false, false, false, false, false] rfl rfl (take_ofW HT_.out HW_.out (by kernel_rfl)) (fun _ _ _ h => h) (Or.inl ⟨by rfl, ?_⟩) hHeld ?_ ?_
              rotate_left
              · rintro w' ⟨s0, s1, s2, s3⟩
                go_simp
                with_reducible rfl
              rotate_left
              · simp only [Act.put, List.setIfInBounds_toArray, List.set_cons_zero, List.set_cons_succ, i64_w, i32_w]
                rfl
              refine pure_ (i := 9) (N := some 132) (v := ?_) (a' := ?_) #[true, false, true, true, true, true, true, true, true, true, false, false, false, false, false] rfl rfl (any_of HT_.out (by kernel_rfl)) (fun _ _ _ h => h) (Or.inl ⟨by rfl, ?_⟩) ?_ ?_
              rotate_left
              · intro w'
                go_simp
                with_reducible rfl
              rotate_left
              · simp only [Act.put, List.setIfInBounds_toArray, List.set_cons_zero, List.set_cons_succ, i64_w, i32_w]
                rfl
              refine pure_ (i := 10) (N := some 133) (v := ?_) (a' := ?_) #[true, false, true, true, true, true, true, true, true, true, true, false, false, false, false] rfl rfl (any_of HT_.out (by kernel_rfl)) (fun _ _ _ h => h) (Or.inl ⟨by rfl, ?_⟩) ?_ ?_
              rotate_left
              · intro w'
                go_simp
                with_reducible rfl
              rotate_left
              · simp only [Act.put, List.setIfInBounds_toArray, List.set_cons_zero, List.set_cons_succ, i64_w, i32_w]
                rfl
              refine pure_ (i := 11) (N := some 134) (v := ?_) (a' := ?_) #[true, false, true, true, true, true, true, true, true, true, true, true, false, false, false] rfl rfl (any_of HT_.out (by kernel_rfl)) (fun _ _ _ h => h) (Or.inl ⟨by rfl, ?_⟩) ?_ ?_
              rotate_left
              · intro w'
                go_simp
                with_reducible rfl
              rotate_left
              · simp only [Act.put, List.setIfInBounds_toArray, List.set_cons_zero, List.set_cons_succ, i64_w, i32_w]
                rfl
              refine two_ (i := 1) (j := 12) (Ni := some 124) (Nj := some 135) #[true, true, true, true, true, true, true, true, true, true, true, true, false, false, false] #[true, false, true, true, true, true, true, true, true, true, true, true, true, false, false] rfl rfl rfl rfl (two_of HT_.out (by kernel_rfl)) (by decide) (by decide) (fun K hK => ?_) (fun K hK => ?_)
              · skip
                refine step_copy (by rfl) (.const (.slice none 0 0)) (.tmp 123) 44 50 (.agg #[.string ⟨#[]⟩, .int .i64 0, .int .i64 0]) 3 32 rfl Try.underlying44 info50 rfl (by decide) (by decide) (.slice Al L.length cl) L.length w.heap.size (L.flatMap Lc.cells) rfl (by rfl) hL (flatL_one L) (by omega) ?_
                intro vc wc hoc hbc
                have k0 := (hbc.cell (by exact lk)).trans k0
                have k1 := (hbc.cell (by exact lk)).trans k1
                have k2 := (hbc.cell (by exact lk)).trans k2
                have k3 := (hbc.cell (by exact lk)).trans k3
                have hS := hS.below hbc
                have hL := row_below hL hbc
                have hD := row_below hD hbc
                have hN : wc.heap[N]? = some namesObj := (hbc.block N (Array.getElem?_eq_some_iff.mp hN).1).trans hN
                have HB := HB.trans (hbc.mono HB.size)
                have lk := Nat.lt_of_lt_of_le lk hbc.size
                refine hK.out _ _ ⟨k0, k1, k2, k3⟩ (fun hHeld => ?_)
                clear hK K
                refine norm_ (a' := ?_) ?_ ?_
                rotate_left
                · show Act.put _ (some 124) _ = _
                  simp only [Act.put, List.setIfInBounds_toArray, List.set_cons_zero, List.set_cons_succ, i64_w, i32_w]
                  rfl
                refine one_ (i := 12) (N := some 135) #[true, true, true, true, true, true, true, true, true, true, true, true, true, false, false] rfl rfl (one_of HT_.out (by kernel_rfl)) (by decide) (fun K hK => ?_)
                refine value_ (w1 := wc.alloc (Obj.cells #[.string n, .int .i64 (c % 2), .int .i64 (if 0 < d then d else 0)] 50 (0, 0))) (v := .slice (some ⟨wc.heap.size, 0, none⟩) 1 1) (by rfl) rfl ?_ ?_
                · go_simp
                  all_goals first | rfl | (rw [hw1]; done) | (rw [hw1, hw2]; done) | (simp only [hw1, hw2])
                have hbl : Below wc.heap.size wc (wc.alloc (Obj.cells #[.string n, .int .i64 (c % 2), .int .i64 (if 0 < d then d else 0)] 50 (0, 0))) := (Below.refl _ _).alloc (Nat.le_refl _) _
                have hgl : (wc.alloc (Obj.cells #[.string n, .int .i64 (c % 2), .int .i64 (if 0 < d then d else 0)] 50 (0, 0))).heap[wc.heap.size]? = some (Obj.cells #[.string n, .int .i64 (c % 2), .int .i64 (if 0 < d then d else 0)] 50 (0, 0)) := heap_alloc_new wc _
                generalize wc.alloc (Obj.cells #[.string n, .int .i64 (c % 2), .int .i64 (if 0 < d then d else 0)] 50 (0, 0)) = wl at hbl hgl ⊢
                have hoc := row_below hoc hbl
                have zc := hbc.size
                have zl := hbl.size
                have k0 := (hbl.cell (by exact lk)).trans k0
                have k1 := (hbl.cell (by exact lk)).trans k1
                have k2 := (hbl.cell (by exact lk)).trans k2
                have k3 := (hbl.cell (by exact lk)).trans k3
                have hS := hS.below hbl
                have hL := row_below hL hbl
                have hD := row_below hD hbl
                have hN : wl.heap[N]? = some namesObj := (hbl.block N (Array.getElem?_eq_some_iff.mp hN).1).trans hN
                have HB := HB.trans (hbl.mono HB.size)
                have lk := Nat.lt_of_lt_of_le lk hbl.size
                refine hK.out _ _ ⟨k0, k1, k2, k3⟩ (fun hHeld => ?_)
                clear hK K
                refine norm_ (a' := ?_) ?_ ?_
                rotate_left
                · show Act.put _ (some 135) _ = _
                  simp only [Act.put, List.setIfInBounds_toArray, List.set_cons_zero, List.set_cons_succ, i64_w, i32_w]
                  rfl
                refine one_ (i := 13) (N := some 136) #[true, true, true, true, true, true, true, true, true, true, true, true, true, true, false] rfl rfl (one_of HT_.out (by kernel_rfl)) (by decide) (fun K hK => ?_)
                refine step_push (by rfl) (.tmp 124) (.tmp 135) 44 50 (.agg #[.string ⟨#[]⟩, .int .i64 0, .int .i64 0]) 3 32 rfl Try.underlying44 info50 rfl (by decide) (by decide) vc L.length W7.heap.size wc.heap.size (L.flatMap Lc.cells) [.string n, .int .i64 (c % 2), .int .i64 (if 0 < d then d else 0)] (by rfl) (by rfl) hgl rfl (by intro u hu; exact flatL_one [⟨n, c % 2, if 0 < d then d else 0⟩] u (by simpa [Lc.cells] using hu)) hoc (by omega) (by omega) ?_
                intro ve we hoe hgr
                have kb : Below W7.heap.size wl we := (Below.refl _ _).grown hgr (by omega) (fun k hk => (hoc.lt k hk).1)
                have k0 := (kb.cell (by exact (Nat.lt_of_lt_of_le l16 (by omega)))).trans k0
                have k1 := (kb.cell (by exact (Nat.lt_of_lt_of_le l16 (by omega)))).trans k1
                have k2 := (kb.cell (by exact (Nat.lt_of_lt_of_le l16 (by omega)))).trans k2
                have k3 := (kb.cell (by exact (Nat.lt_of_lt_of_le l16 (by omega)))).trans k3
                have hS : Sc we w.heap.size p m v5 D Lx := hS.moved kb (Nat.lt_of_lt_of_le hS7.lt (by omega)) (fun k hk => Nat.lt_of_lt_of_le (hS7.hv.lt k hk).2 (by omega)) (Nat.lt_of_lt_of_le hm7 (by omega)) 
                have hD : we.ownsRow w.heap.size 31 6 u5 D.length (D.flatMap Dc.cells) := own_move hD (fun k hk => kb.block k (Nat.lt_of_lt_of_le (hD7.lt k hk).2 (by omega)))
                have hN : we.heap[N]? = some namesObj := (kb.block N (Nat.lt_of_lt_of_le lN (by omega))).trans hN
                have HB := HB.trans (kb.mono (by have := HB7.size; omega))
                refine hK.out _ _ ⟨k0, k1, k2, k3⟩ (fun hHeld => ?_)
                clear hK K
                refine norm_ (a' := ?_) ?_ ?_
                rotate_left
                · show Act.put _ (some 136) _ = _
                  simp only [Act.put, List.setIfInBounds_toArray, List.set_cons_zero, List.set_cons_succ, i64_w, i32_w]
                  rfl
                refine pure_ (i := 14) (N := some 14) (v := ?_) (a' := ?_) #[true, true, true, true, true, true, true, true, true, true, true, true, true, true, true] rfl rfl (any_of HT_.out (by kernel_rfl)) (fun _ _ _ h => h) (Or.inl ⟨by rfl, ?_⟩) ?_ ?_
                rotate_left
                · intro w'
                  go_simp
                  with_reducible rfl
                rotate_left
                · simp only [Act.put, List.setIfInBounds_toArray, List.set_cons_zero, List.set_cons_succ, i64_w, i32_w]
                  rfl
                refine done_ (done_of HT_.out (by kernel_rfl)) ?_
                (try generalize (if 0 < wrap64 d then wrap64 d else 0) = z_)
                (try generalize (if 0 < d then d else 0) = z_)
                have hoe : we.ownsRow w.heap.size 50 3 ve Lx.length (Lx.flatMap Lc.cells) := by
                  have := own_weaken hoe (show w.heap.size ≤ W7.heap.size by have := HB7.size; omega)
                  rw [hLx, List.length_append, List.flatMap_append]
                  simpa [Lc.cells] using this
                have hL := hoe
                clear hoe hgr hgl kb hHeld hoc hLx hfl h30 hf hw1 hw2
                clear k0 k1 k2 k3 e16
                go_upto_region 31 with go_in
                obtain ⟨Ae, ce, rfl⟩ := own_slice hL
                go_upto_region 33 with (first
                  | (go_at_call 13; refine (mark.calls hS).mono ?_; rintro e w21 ⟨rfl, hb21⟩)
                  | go_in)
                have hS := hS.below hb21
                have hL := row_below hL hb21
                have hD := row_below hD hb21
                have hN : w21.heap[N]? = some namesObj := (hb21.block N (Array.getElem?_eq_some_iff.mp hN).1).trans hN
                have HB := HB.trans (hb21.mono HB.size)
                clear hb21
                go_wp2
                go_loopw [144] (fun i wr => ∃ k : Nat, k ≤ 8 ∧ i = .int .i64 k ∧ Sc wr w.heap.size p m v5 D Lx ∧ wr.ownsRow w.heap.size 50 3 (.slice Ae Lx.length ce) Lx.length (Lx.flatMap Lc.cells) ∧ wr.ownsRow w.heap.size 31 6 u5 D.length (D.flatMap Dc.cells) ∧ wr.heap[N]? = some namesObj ∧ Below w.heap.size w wr)
                  (fun i _ => 8 - (intOf i).toNat)
                case atStart => exact ⟨0, by omega, rfl, hS, hL, hD, hN, HB⟩
                case round =>
                  clear hS hL hD hN HB
                  obtain ⟨k, hk, rfl, hS, hL, hD, hN, HB⟩ := hrel
                  by_cases hk8 : k < 8
                  · obtain ⟨n3, hn3, qn3⟩ := eight_cell hN k hk8
                    go_wp2_with (first
                      | (go_at_call 9; refine (find.calls n3 hS (by omega)).mono ?_; rintro e w31 ⟨rfl, hb31⟩; simp only [fndV]; have hS := hS.below hb31; have hL := row_below hL hb31; have hD := row_below hD hb31; have hN : w31.heap[N]? = some namesObj := (hb31.block N (Array.getElem?_eq_some_iff.mp hN).1).trans hN; have HB := HB.trans (hb31.mono HB.size); clear hb31)
                      | (go_at_call 12; refine (lfind.calls n3 hD hL (by omega) (by omega)).mono ?_; rintro e w32 ⟨rfl, hb32⟩; simp only [fndV]; have hS := hS.below hb32; have hL := row_below hL hb32; have hD := row_below hD hb32; have hN : w32.heap[N]? = some namesObj := (hb32.block N (Array.getElem?_eq_some_iff.mp hN).1).trans hN; have HB := HB.trans (hb32.mono HB.size); clear hb32)
                      | go_in)
                    go_roundw
                    case rel => exact ⟨k + 1, by omega, by first | rfl | go_num, hS, hL, hD, hN, HB⟩
                    case measure => simp [intOf]; omega
                  · obtain rfl : k = 8 := by omega
                    go_wp2
                    go_roundw
                    case rel => exact ⟨q + 1, by omega, by first | rfl | go_num, ⟨Lx, v5, hS, hL, hnd, h8⟩, hD, hN, HB⟩
                    case measure => simp [intOf]; omega
              · skip
                refine value_ (w1 := W7.alloc (Obj.cells #[.string n, .int .i64 (c % 2), .int .i64 (if 0 < d then d else 0)] 50 (0, 0))) (v := .slice (some ⟨W7.heap.size, 0, none⟩) 1 1) (by rfl) rfl ?_ ?_
                · go_simp
                  all_goals first | rfl | (rw [hw1]; done) | (rw [hw1, hw2]; done) | (simp only [hw1, hw2])
                have hbl : Below W7.heap.size W7 (W7.alloc (Obj.cells #[.string n, .int .i64 (c % 2), .int .i64 (if 0 < d then d else 0)] 50 (0, 0))) := (Below.refl _ _).alloc (Nat.le_refl _) _
                have hgl : (W7.alloc (Obj.cells #[.string n, .int .i64 (c % 2), .int .i64 (if 0 < d then d else 0)] 50 (0, 0))).heap[W7.heap.size]? = some (Obj.cells #[.string n, .int .i64 (c % 2), .int .i64 (if 0 < d then d else 0)] 50 (0, 0)) := heap_alloc_new W7 _
                generalize W7.alloc (Obj.cells #[.string n, .int .i64 (c % 2), .int .i64 (if 0 < d then d else 0)] 50 (0, 0)) = wl at hbl hgl ⊢
                have k0 := (hbl.cell (by exact lk)).trans k0
                have k1 := (hbl.cell (by exact lk)).trans k1
                have k2 := (hbl.cell (by exact lk)).trans k2
                have k3 := (hbl.cell (by exact lk)).trans k3
                have hS := hS.below hbl
                have hL := row_below hL hbl
                have hD := row_below hD hbl
                have hN : wl.heap[N]? = some namesObj := (hbl.block N (Array.getElem?_eq_some_iff.mp hN).1).trans hN
                have HB := HB.trans (hbl.mono HB.size)
                have lk := Nat.lt_of_lt_of_le lk hbl.size
                refine hK.out _ _ ⟨k0, k1, k2, k3⟩ (fun hHeld => ?_)
                clear hK K
                refine norm_ (a' := ?_) ?_ ?_
                rotate_left
                · show Act.put _ (some 135) _ = _
                  simp only [Act.put, List.setIfInBounds_toArray, List.set_cons_zero, List.set_cons_succ, i64_w, i32_w]
                  rfl
                refine one_ (i := 1) (N := some 124) #[true, true, true, true, true, true, true, true, true, true, true, true, true, false, false] rfl rfl (one_of HT_.out (by kernel_rfl)) (by decide) (fun K hK => ?_)
                refine step_copy (by rfl) (.const (.slice none 0 0)) (.tmp 123) 44 50 (.agg #[.string ⟨#[]⟩, .int .i64 0, .int .i64 0]) 3 32 rfl Try.underlying44 info50 rfl (by decide) (by decide) (.slice Al L.length cl) L.length w.heap.size (L.flatMap Lc.cells) rfl (by rfl) hL (flatL_one L) (by omega) ?_
                intro vc wc hoc hbc
                have hgl : wc.heap[W7.heap.size]? = some (Obj.cells #[.string n, .int .i64 (c % 2), .int .i64 (if 0 < d then d else 0)] 50 (0, 0)) := (hbc.block _ (Array.getElem?_eq_some_iff.mp hgl).1).trans hgl
                have zc := hbc.size
                have zl := hbl.size
                have k0 := (hbc.cell (by exact lk)).trans k0
                have k1 := (hbc.cell (by exact lk)).trans k1
                have k2 := (hbc.cell (by exact lk)).trans k2
                have k3 := (hbc.cell (by exact lk)).trans k3
                have hS := hS.below hbc
                have hL := row_below hL hbc
                have hD := row_below hD hbc
                have hN : wc.heap[N]? = some namesObj := (hbc.block N (Array.getElem?_eq_some_iff.mp hN).1).trans hN
                have HB := HB.trans (hbc.mono HB.size)
                have lk := Nat.lt_of_lt_of_le lk hbc.size
                refine hK.out _ _ ⟨k0, k1, k2, k3⟩ (fun hHeld => ?_)
                clear hK K
                refine norm_ (a' := ?_) ?_ ?_
                rotate_left
                · show Act.put _ (some 124) _ = _
                  simp only [Act.put, List.setIfInBounds_toArray, List.set_cons_zero, List.set_cons_succ, i64_w, i32_w]
                  rfl
                refine one_ (i := 13) (N := some 136) #[true, true, true, true, true, true, true, true, true, true, true, true, true, true, false] rfl rfl (one_of HT_.out (by kernel_rfl)) (by decide) (fun K hK => ?_)
                refine step_push (by rfl) (.tmp 124) (.tmp 135) 44 50 (.agg #[.string ⟨#[]⟩, .int .i64 0, .int .i64 0]) 3 32 rfl Try.underlying44 info50 rfl (by decide) (by decide) vc L.length wl.heap.size W7.heap.size (L.flatMap Lc.cells) [.string n, .int .i64 (c % 2), .int .i64 (if 0 < d then d else 0)] (by rfl) (by rfl) hgl rfl (by intro u hu; exact flatL_one [⟨n, c % 2, if 0 < d then d else 0⟩] u (by simpa [Lc.cells] using hu)) hoc (by omega) (by omega) ?_
                intro ve we hoe hgr
                have kb : Below wl.heap.size wc we := (Below.refl _ _).grown hgr (by omega) (fun k hk => (hoc.lt k hk).1)
                have k0 := (kb.cell (by exact (Nat.lt_of_lt_of_le l16 (by omega)))).trans k0
                have k1 := (kb.cell (by exact (Nat.lt_of_lt_of_le l16 (by omega)))).trans k1
                have k2 := (kb.cell (by exact (Nat.lt_of_lt_of_le l16 (by omega)))).trans k2
                have k3 := (kb.cell (by exact (Nat.lt_of_lt_of_le l16 (by omega)))).trans k3
                have hS : Sc we w.heap.size p m v5 D Lx := hS.moved kb (Nat.lt_of_lt_of_le hS7.lt (by omega)) (fun k hk => Nat.lt_of_lt_of_le (hS7.hv.lt k hk).2 (by omega)) (Nat.lt_of_lt_of_le hm7 (by omega)) 
                have hD : we.ownsRow w.heap.size 31 6 u5 D.length (D.flatMap Dc.cells) := own_move hD (fun k hk => kb.block k (Nat.lt_of_lt_of_le (hD7.lt k hk).2 (by omega)))
                have hN : we.heap[N]? = some namesObj := (kb.block N (Nat.lt_of_lt_of_le lN (by omega))).trans hN
                have HB := HB.trans (kb.mono (by have := HB7.size; omega))
                refine hK.out _ _ ⟨k0, k1, k2, k3⟩ (fun hHeld => ?_)
                clear hK K
                refine norm_ (a' := ?_) ?_ ?_
                rotate_left
                · show Act.put _ (some 136) _ = _
                  simp only [Act.put, List.setIfInBounds_toArray, List.set_cons_zero, List.set_cons_succ, i64_w, i32_w]
                  rfl
                refine pure_ (i := 14) (N := some 14) (v := ?_) (a' := ?_) #[true, true, true, true, true, true, true, true, true, true, true, true, true, true, true] rfl rfl (any_of HT_.out (by kernel_rfl)) (fun _ _ _ h => h) (Or.inl ⟨by rfl, ?_⟩) ?_ ?_
                rotate_left
                · intro w'
                  go_simp
                  with_reducible rfl
                rotate_left
                · simp only [Act.put, List.setIfInBounds_toArray, List.set_cons_zero, List.set_cons_succ, i64_w, i32_w]
                  rfl
                refine done_ (done_of HT_.out (by kernel_rfl)) ?_
                (try generalize (if 0 < wrap64 d then wrap64 d else 0) = z_)
                (try generalize (if 0 < d then d else 0) = z_)
                have hoe : we.ownsRow w.heap.size 50 3 ve Lx.length (Lx.flatMap Lc.cells) := by
                  have := own_weaken hoe (show w.heap.size ≤ wl.heap.size by have := HB7.size; omega)
                  rw [hLx, List.length_append, List.flatMap_append]
                  simpa [Lc.cells] using this
                have hL := hoe
                clear hoe hgr hgl kb hHeld hoc hLx hfl h30 hf hw1 hw2
                clear k0 k1 k2 k3 e16
                go_upto_region 31 with go_in
                obtain ⟨Ae, ce, rfl⟩ := own_slice hL
                go_upto_region 33 with (first
                  | (go_at_call 13; refine (mark.calls hS).mono ?_; rintro e w21 ⟨rfl, hb21⟩)
                  | go_in)
                have hS := hS.below hb21
                have hL := row_below hL hb21
                have hD := row_below hD hb21
                have hN : w21.heap[N]? = some namesObj := (hb21.block N (Array.getElem?_eq_some_iff.mp hN).1).trans hN
                have HB := HB.trans (hb21.mono HB.size)
                clear hb21
                go_wp2
                go_loopw [144] (fun i wr => ∃ k : Nat, k ≤ 8 ∧ i = .int .i64 k ∧ Sc wr w.heap.size p m v5 D Lx ∧ wr.ownsRow w.heap.size 50 3 (.slice Ae Lx.length ce) Lx.length (Lx.flatMap Lc.cells) ∧ wr.ownsRow w.heap.size 31 6 u5 D.length (D.flatMap Dc.cells) ∧ wr.heap[N]? = some namesObj ∧ Below w.heap.size w wr)
                  (fun i _ => 8 - (intOf i).toNat)
                case atStart => exact ⟨0, by omega, rfl, hS, hL, hD, hN, HB⟩
                case round =>
                  clear hS hL hD hN HB
                  obtain ⟨k, hk, rfl, hS, hL, hD, hN, HB⟩ := hrel
                  by_cases hk8 : k < 8
                  · obtain ⟨n3, hn3, qn3⟩ := eight_cell hN k hk8
                    go_wp2_with (first
                      | (go_at_call 9; refine (find.calls n3 hS (by omega)).mono ?_; rintro e w31 ⟨rfl, hb31⟩; simp only [fndV]; have hS := hS.below hb31; have hL := row_below hL hb31; have hD := row_below hD hb31; have hN : w31.heap[N]? = some namesObj := (hb31.block N (Array.getElem?_eq_some_iff.mp hN).1).trans hN; have HB := HB.trans (hb31.mono HB.size); clear hb31)
                      | (go_at_call 12; refine (lfind.calls n3 hD hL (by omega) (by omega)).mono ?_; rintro e w32 ⟨rfl, hb32⟩; simp only [fndV]; have hS := hS.below hb32; have hL := row_below hL hb32; have hD := row_below hD hb32; have hN : w32.heap[N]? = some namesObj := (hb32.block N (Array.getElem?_eq_some_iff.mp hN).1).trans hN; have HB := HB.trans (hb32.mono HB.size); clear hb32)
                      | go_in)
                    go_roundw
                    case rel => exact ⟨k + 1, by omega, by first | rfl | go_num, hS, hL, hD, hN, HB⟩
                    case measure => simp [intOf]; omega
                  · obtain rfl : k = 8 := by omega
                    go_wp2
                    go_roundw
                    case rel => exact ⟨q + 1, by omega, by first | rfl | go_num, ⟨Lx, v5, hS, hL, hnd, h8⟩, hD, hN, HB⟩
                    case measure => simp [intOf]; omega
            · obtain ⟨Al, cl, rfl⟩ := own_slice hL
              have hne : ((fnd D L n).1 == 0) = false := by simp [hf]
              go_upto_region 27 with (first
                | (go_at_call 12; refine (lfind.calls n hD hL (by omega) (by omega)).mono ?_; rintro e w5 ⟨rfl, hb5⟩; simp only [fndV])
                | go_in)
              have hS := hS.below hb5
              have hL := row_below hL hb5
              have hD := row_below hD hb5
              have hN : w5.heap[N]? = some namesObj := (hb5.block N (Array.getElem?_eq_some_iff.mp hN).1).trans hN
              have HB := HB.trans (hb5.mono HB.size)
              have k2 := (hb5.cell (by exact (Array.getElem?_eq_some_iff.mp e16).1)).trans k2
              have k3 := (hb5.cell (by exact (Array.getElem?_eq_some_iff.mp e16).1)).trans k3
              clear hb5
              go_upto_region 31 with (first
                | (go_at_call 8; refine (enter_taken n (c % 2) d hf hS (by omega)).mono ?_; rintro e w6 ⟨rfl, v5, hS, hst⟩)
                | go_in)
              have hL := row_step hL hst (by decide) (by decide)
              have hD := row_step hD hst (by decide) (by decide)
              have hN : w6.heap[N]? = some namesObj := hst.kept N _ _ _ hN (by decide) (by decide)
              have HB := HB.trans hst.below
              clear hst k0 k1 k2 k3 e16 qn
              obtain ⟨Lx, hLx⟩ : ∃ Lx, Lx = L := ⟨_, rfl⟩
              subst hLx
              go_upto_region 33 with (first
                | (go_at_call 13; refine (mark.calls hS).mono ?_; rintro e w21 ⟨rfl, hb21⟩)
                | go_in)
              have hS := hS.below hb21
              have hL := row_below hL hb21
              have hD := row_below hD hb21
              have hN : w21.heap[N]? = some namesObj := (hb21.block N (Array.getElem?_eq_some_iff.mp hN).1).trans hN
              have HB := HB.trans (hb21.mono HB.size)
              clear hb21
              go_wp2
              go_loopw [144] (fun i wr => ∃ k : Nat, k ≤ 8 ∧ i = .int .i64 k ∧ Sc wr w.heap.size p m v5 D Lx ∧ wr.ownsRow w.heap.size 50 3 (.slice Al Lx.length cl) Lx.length (Lx.flatMap Lc.cells) ∧ wr.ownsRow w.heap.size 31 6 u5 D.length (D.flatMap Dc.cells) ∧ wr.heap[N]? = some namesObj ∧ Below w.heap.size w wr)
                (fun i _ => 8 - (intOf i).toNat)
              case atStart => exact ⟨0, by omega, rfl, hS, hL, hD, hN, HB⟩
              case round =>
                clear hS hL hD hN HB
                obtain ⟨k, hk, rfl, hS, hL, hD, hN, HB⟩ := hrel
                by_cases hk8 : k < 8
                · obtain ⟨n3, hn3, qn3⟩ := eight_cell hN k hk8
                  go_wp2_with (first
                    | (go_at_call 9; refine (find.calls n3 hS (by omega)).mono ?_; rintro e w31 ⟨rfl, hb31⟩; simp only [fndV]; have hS := hS.below hb31; have hL := row_below hL hb31; have hD := row_below hD hb31; have hN : w31.heap[N]? = some namesObj := (hb31.block N (Array.getElem?_eq_some_iff.mp hN).1).trans hN; have HB := HB.trans (hb31.mono HB.size); clear hb31)
                    | (go_at_call 12; refine (lfind.calls n3 hD hL (by omega) (by omega)).mono ?_; rintro e w32 ⟨rfl, hb32⟩; simp only [fndV]; have hS := hS.below hb32; have hL := row_below hL hb32; have hD := row_below hD hb32; have hN : w32.heap[N]? = some namesObj := (hb32.block N (Array.getElem?_eq_some_iff.mp hN).1).trans hN; have HB := HB.trans (hb32.mono HB.size); clear hb32)
                    | go_in)
                  go_roundw
                  case rel => exact ⟨k + 1, by omega, by first | rfl | go_num, hS, hL, hD, hN, HB⟩
                  case measure => simp [intOf]; omega
                · obtain rfl : k = 8 := by omega
                  go_wp2
                  go_roundw
                  case rel => exact ⟨q + 1, by omega, by first | rfl | go_num, ⟨Lx, v5, hS, hL, hnd, h8⟩, hD, hN, HB⟩
                  case measure => simp [intOf]; omega
        · obtain rfl : q = n1 := by omega
          go_wp2
          go_ret
          exact ⟨rfl, HB⟩
end Go.Proofs.Ytchgmfdojhbgaaa.MScope
