/-
The walks of the law's own decl and find: a declaration of numbers has one of six names; find answers what the scope's own Find answers. Conditions: as each theorem states them.
-/
import Derived.Test.YtchgmfdojhbgaaaDoorMScopeB
set_option linter.unusedVariables false
set_option linter.unusedSimpArgs false
namespace Go.Proofs.YtchgmfdojhbgaaaDoor.MScope
open Go.RowKit Go.Proofs.YtchgmfdojhbgaaaDoorW.PrintWords Go.Proofs.YtchgmfdojhbgaaaDoorW.PrintLast Go.Proofs.YtchgmfdojhbgaaaDoorW.PrintMore
open Go.Proofs.YtchgmfdojhbgaaaDoor.Kit Go.ChangeMaps Go.MapKept
attribute [local go_sem] max2_int min2_int max_two min_two max_three min_three max_four min_four   -- for this text's walks alone
def six : List ByteArray := [⟨#[97]⟩, ⟨#[98]⟩, ⟨#[99]⟩, ⟨#[100]⟩, ⟨#[101]⟩, ⟨#[102]⟩]
theorem six_cell {w : World} {g : Nat} (h : w.heap[g]? = some (Obj.cells #[.string ⟨#[97]⟩, .string ⟨#[98]⟩, .string ⟨#[99]⟩, .string ⟨#[100]⟩, .string ⟨#[101]⟩, .string ⟨#[102]⟩] 9 (0, 0))) (i : Int) (h0 : 0 ≤ i) (h1 : i < 6) :
    ∃ n, n ∈ six ∧ w.cell? ⟨g, i.toNat, none⟩ = some (.string n) := by
  have hc : ∀ j (v : Value), (#[Value.string ⟨#[97]⟩, .string ⟨#[98]⟩, .string ⟨#[99]⟩, .string ⟨#[100]⟩, .string ⟨#[101]⟩, .string ⟨#[102]⟩] : Array Value)[j]? = some v → w.cell? ⟨g, j, none⟩ = some v := by
    intro j v hv
    simp only [World.cell?, h]
    exact hv
  rcases (show i = 0 ∨ i = 1 ∨ i = 2 ∨ i = 3 ∨ i = 4 ∨ i = 5 by omega) with rfl | rfl | rfl | rfl | rfl | rfl
  · exact ⟨_, by simp [six], hc 0 _ rfl⟩
  · exact ⟨_, by simp [six], hc 1 _ rfl⟩
  · exact ⟨_, by simp [six], hc 2 _ rfl⟩
  · exact ⟨_, by simp [six], hc 3 _ rfl⟩
  · exact ⟨_, by simp [six], hc 4 _ rfl⟩
  · exact ⟨_, by simp [six], hc 5 _ rfl⟩
set_option maxHeartbeats 1000000 in
set_option maxRecDepth 100000 in
theorem decl.calls (a b c d at_ : Int) (w : World) (a0 : 0 ≤ a) (a1 : a ≤ 255) (b0 : 0 ≤ b) (b1 : b ≤ 255) (c0 : 0 ≤ c) (c1 : c ≤ 255) (d0 : 0 ≤ d) (d1 : d ≤ 255) :
    Calls Tryd.prog 5 #[.agg #[.int .u8 a, .int .u8 b, .int .u8 c, .int .u8 d], .int .i64 at_] w fun e w' => ∃ x : Dc, e = .returned x.val ∧ x.name ∈ six ∧ x.at_ = at_ ∧ Below w.heap.size w w' := by
  go_enter Tryd.func5, Tryd.ntmps5
  go_upto_region 2 with go_in
  obtain ⟨W3, hW3⟩ : ∃ W3, W3 = ((w.alloc (Obj.cells #[.int .u8 a, .int .u8 b, .int .u8 c, .int .u8 d] 26)).alloc (Obj.cells #[.bool false, .int .i64 0, .string ⟨#[]⟩, .int .i64 0, .string ⟨#[]⟩, .int .i64 0] 29)).alloc (Obj.cells #[.string ⟨#[97]⟩, .string ⟨#[98]⟩, .string ⟨#[99]⟩, .string ⟨#[100]⟩, .string ⟨#[101]⟩, .string ⟨#[102]⟩] 9) := ⟨_, rfl⟩
  have e2 : W3.heap[w.heap.size]? = some (Obj.cells #[.int .u8 a, .int .u8 b, .int .u8 c, .int .u8 d] 26 (0, 0)) := by
    rw [hW3]; exact (Below.heap_alloc _ _ _ (by simp; omega)).trans ((Below.heap_alloc _ _ _ (by simp)).trans (heap_alloc_new w _))
  have e4 : W3.heap[w.heap.size + 1]? = some (Obj.cells #[.bool false, .int .i64 0, .string ⟨#[]⟩, .int .i64 0, .string ⟨#[]⟩, .int .i64 0] 29 (0, 0)) := by
    rw [hW3]; refine (Below.heap_alloc _ _ _ (by simp)).trans ?_
    have := heap_alloc_new (w.alloc (Obj.cells #[.int .u8 a, .int .u8 b, .int .u8 c, .int .u8 d] 26)) (Obj.cells #[.bool false, .int .i64 0, .string ⟨#[]⟩, .int .i64 0, .string ⟨#[]⟩, .int .i64 0] 29 (0, 0))
    simpa using this
  have e5 : W3.heap[w.heap.size + 1 + 1]? = some (Obj.cells #[.string ⟨#[97]⟩, .string ⟨#[98]⟩, .string ⟨#[99]⟩, .string ⟨#[100]⟩, .string ⟨#[101]⟩, .string ⟨#[102]⟩] 9 (0, 0)) := by
    rw [hW3]
    have := heap_alloc_new ((w.alloc (Obj.cells #[.int .u8 a, .int .u8 b, .int .u8 c, .int .u8 d] 26)).alloc (Obj.cells #[.bool false, .int .i64 0, .string ⟨#[]⟩, .int .i64 0, .string ⟨#[]⟩, .int .i64 0] 29)) (Obj.cells #[.string ⟨#[97]⟩, .string ⟨#[98]⟩, .string ⟨#[99]⟩, .string ⟨#[100]⟩, .string ⟨#[101]⟩, .string ⟨#[102]⟩] 9 (0, 0))
    simpa using this
  have HB : Below w.heap.size w W3 := by
    rw [hW3]; exact (((Below.refl _ _).alloc (Nat.le_refl _) _).alloc (by simp) _).alloc (by simp; omega) _
  rw [← hW3]
  clear hW3
  have l2 : w.heap.size < W3.heap.size := (Array.getElem?_eq_some_iff.mp e2).1
  have l4 : w.heap.size + 1 < W3.heap.size := (Array.getElem?_eq_some_iff.mp e4).1
  have l5 : w.heap.size + 1 + 1 < W3.heap.size := (Array.getElem?_eq_some_iff.mp e5).1
  have g4 : w.heap.size ≤ w.heap.size + 1 := Nat.le_succ _
  generalize h5 : w.heap.size + 1 + 1 = B5 at e5 l5 ⊢
  generalize h4 : w.heap.size + 1 = B4 at e4 l4 g4 h5 ⊢
  have n42 : B4 ≠ w.heap.size := by omega
  have n45 : B4 ≠ B5 := by omega
  generalize h2 : w.heap.size = B2 at e2 l2 n42 ⊢
  clear h5 h4
  obtain ⟨s1, m1, q1⟩ := six_cell e5 (a % 6) (by omega) (by omega)
  obtain ⟨s2, m2, q2⟩ := six_cell e5 (b / 3 % 6) (by omega) (by omega)
  have x0 : W3.cell? ⟨B2, 0, none⟩ = some (.int .u8 a) := by simp [World.cell?, e2]
  have x1 : W3.cell? ⟨B2, 1, none⟩ = some (.int .u8 b) := by simp [World.cell?, e2]
  have x2 : W3.cell? ⟨B2, 2, none⟩ = some (.int .u8 c) := by simp [World.cell?, e2]
  have x3 : W3.cell? ⟨B2, 3, none⟩ = some (.int .u8 d) := by simp [World.cell?, e2]
  have y0 : W3.cell? ⟨B4, 0, none⟩ = some (.bool false) := by simp [World.cell?, e4]
  have y1 : W3.cell? ⟨B4, 1, none⟩ = some (.int .i64 0) := by simp [World.cell?, e4]
  have y2 : W3.cell? ⟨B4, 2, none⟩ = some (.string ⟨#[]⟩) := by simp [World.cell?, e4]
  have y3 : W3.cell? ⟨B4, 3, none⟩ = some (.int .i64 0) := by simp [World.cell?, e4]
  have y4 : W3.cell? ⟨B4, 4, none⟩ = some (.string ⟨#[]⟩) := by simp [World.cell?, e4]
  have y5 : W3.cell? ⟨B4, 5, none⟩ = some (.int .i64 0) := by simp [World.cell?, e4]
  have f4 : ∀ j, W3.frozen? ⟨B4, j, none⟩ = false := fun j => by simp [World.frozen?, e4]
  go_upto_region 2 with go_in
  go_region
  go_wp2
  · refine bodyPost_ret (v := Dc.val ⟨true, 0, s1, 0, ⟨#[]⟩, at_⟩) (by simp [results, Tryd.results5, go_sem, Dc.val, *]) rfl ⟨_, rfl, m1, rfl, ?_⟩
    repeat (with_reducible first | exact HB | apply below_drew1 | apply below_alloc | refine below_set ?_ g4)
  · refine bodyPost_ret (v := Dc.val ⟨false, d % 2, s1, c % 4, s2, at_⟩) (by simp [results, Tryd.results5, go_sem, Dc.val, *]) rfl ⟨_, rfl, m1, rfl, ?_⟩
    repeat (with_reducible first | exact HB | apply below_drew1 | apply below_alloc | refine below_set ?_ g4)
  · refine bodyPost_ret (v := Dc.val ⟨false, d % 2, s1, c % 4, ⟨#[]⟩, at_⟩) (by simp [results, Tryd.results5, go_sem, Dc.val, *]) rfl ⟨_, rfl, m1, rfl, ?_⟩
    repeat (with_reducible first | exact HB | apply below_drew1 | apply below_alloc | refine below_set ?_ g4)
theorem own_gen {α : Type} (cells : α → List Value) (s : Nat) (hs : ∀ x, (cells x).length = s) {w : World} {base t n : Nat} {v : Value} {L : List α} (h : w.ownsRow base t s v n (L.flatMap cells)) (hn : n = L.length) :
    ∃ A cap, v = .slice A L.length cap ∧ L.length ≤ cap ∧ ∀ i (h : i < L.length), ∃ g, A = some ⟨g, 0, none⟩ ∧ g < w.heap.size ∧ ∀ j u, (cells L[i])[j]? = some u → w.cell? ⟨g, i * s + j, none⟩ = some u := by
  rcases own_at cells s hs h hn with ⟨rfl, rfl⟩ | ⟨g, cap, rfl, hc, _, hg, hr⟩
  · exact ⟨none, 0, rfl, Nat.le_refl _, fun i h => by simp at h⟩
  · exact ⟨_, cap, rfl, hc, fun i hi => ⟨g, rfl, hg, hr i hi⟩⟩
theorem look_drop {D : List Dc} {n : ByteArray} {q : Nat} (hq : q < D.length) : look (D.drop q) n = if n = D[q].name then some D[q] else look (D.drop (q + 1)) n := by
  rw [List.drop_eq_getElem_cons hq, look]
set_option maxHeartbeats 2000000 in
set_option maxRecDepth 100000 in
theorem lfind.calls {w : World} {b0 b1 : Nat} {vd vl : Value} {D : List Dc} {L : List Lc} (n : ByteArray) (hd : w.ownsRow b0 29 6 vd D.length (D.flatMap Dc.cells)) (hl : w.ownsRow b1 49 3 vl L.length (L.flatMap Lc.cells))
    (hD : D.length ≤ 4611686018427387904) (hL : L.length ≤ 4611686018427387904) :
    Calls Tryd.prog 6 #[vd, vl, .string n] w fun e w' => e = .returned (fndV (fnd D L n)) ∧ Below w.heap.size w w' := by
  obtain ⟨Ad, cd, rfl, hcd, rd⟩ := own_gen Dc.cells 6 (fun _ => rfl) hd rfl
  obtain ⟨Al, cl, rfl, hcl, rl⟩ := own_gen Lc.cells 3 (fun _ => rfl) hl rfl
  clear hd hl
  go_enter Tryd.func6, Tryd.ntmps6
  go_wp2
  go_loopw [10] (fun i wr => ∃ j : Nat, j ≤ L.length ∧ i = .int .i64 ((j : Int) - 1) ∧ (∀ i (h : i < L.length), j ≤ i → ¬ L[i].name = n) ∧ Below w.heap.size w wr)
    (fun i _ => (intOf i + 1).toNat)
  case atStart => exact ⟨L.length, Nat.le_refl _, by first | rfl | (rw [wrap_in (by omega) (by omega)]; done), fun i h1 h2 => absurd h1 (by omega), Below.refl _ _⟩
  case round =>
    obtain ⟨j, hj, rfl, hno, HB⟩ := hrel
    by_cases hj0 : j = 0
    · subst hj0
      have hf : fndL L n = none := fndL_none (fun i hi => hno i hi (Nat.zero_le _))
      have hfd : fnd D L n = fndD (look D n) := by rw [fnd, hf]; rfl
      clear hno
      have e0 : ((0 : Nat) : Int) - 1 = -1 := by omega
      rw [e0]
      clear e0
      go_wp2
      go_loopw [50] (fun i wr => ∃ q : Nat, q ≤ D.length ∧ i = .int .i64 q ∧ look D n = look (D.drop q) n ∧ Below w.heap.size w wr)
        (fun i _ => D.length - (intOf i).toNat)
      case atStart => exact ⟨0, Nat.zero_le _, rfl, rfl, HB⟩
      case round =>
        clear HB
        obtain ⟨q, hq, rfl, hlk, HB⟩ := hrel
        by_cases hql : q < D.length
        · obtain ⟨g, rfl, hg, hr⟩ := rd q hql
          rw [look_drop hql] at hlk
          obtain ⟨lk, lb, nm, sz, by_, at_, hdk⟩ : ∃ lk lb nm sz by_ at_, D[q] = ⟨lk, lb, nm, sz, by_, at_⟩ := ⟨_, _, _, _, _, _, rfl⟩
          rw [hdk] at hr hlk
          have r0 : wr.cell? ⟨g, q * 6, none⟩ = some (.bool lk) := (HB.cell (by exact hg)).trans (hr 0 _ rfl)
          have r1 : wr.cell? ⟨g, q * 6 + 1, none⟩ = some (.int .i64 lb) := (HB.cell (by exact hg)).trans (hr 1 _ rfl)
          have r2 : wr.cell? ⟨g, q * 6 + 2, none⟩ = some (.string nm) := (HB.cell (by exact hg)).trans (hr 2 _ rfl)
          have r3 : wr.cell? ⟨g, q * 6 + 3, none⟩ = some (.int .i64 sz) := (HB.cell (by exact hg)).trans (hr 3 _ rfl)
          have r4 : wr.cell? ⟨g, q * 6 + 4, none⟩ = some (.string by_) := (HB.cell (by exact hg)).trans (hr 4 _ rfl)
          have r5 : wr.cell? ⟨g, q * 6 + 5, none⟩ = some (.int .i64 at_) := (HB.cell (by exact hg)).trans (hr 5 _ rfl)
          clear hr hdk rl rd
          by_cases hnm : n = nm
          · have hsb : (nm.toList == n.toList) = true := by rw [same_b]; exact decide_eq_true hnm.symm
            rw [if_pos hnm] at hlk
            rw [hlk] at hfd
            clear hnm
            go_wp2
            · refine bodyPost_ret (v := fndV (fnd D L n)) (by rw [hfd]; simp [results, Tryd.results6, go_sem, fndD, fndV, *]) rfl ⟨rfl, ?_⟩
              repeat (first | exact HB | apply below_alloc)
            · go_region
              go_wp2
              refine bodyPost_ret (v := fndV (fnd D L n)) (by rw [hfd]; simp [results, Tryd.results6, go_sem, fndD, fndV, *]) rfl ⟨rfl, ?_⟩
              repeat (with_reducible first | exact HB | apply below_drew1 | apply below_alloc | apply pw_below_drewN)
            · go_region
              go_wp2
              have hz : ¬ 0 < sz := by omega
              refine bodyPost_ret (v := fndV (fnd D L n)) (by rw [hfd]; simp [results, Tryd.results6, go_sem, fndD, fndV, if_neg hz, *]) rfl ⟨rfl, ?_⟩
              repeat (with_reducible first | exact HB | apply below_drew1 | apply below_alloc | apply pw_below_drewN)
          · have hsb : (nm.toList == n.toList) = false := by rw [same_b]; exact decide_eq_false (fun e => hnm e.symm)
            rw [if_neg hnm] at hlk
            clear hnm
            go_wp2
            go_roundw
            case rel => exact ⟨q + 1, by omega, by first | rfl | go_num, hlk, by repeat (first | exact HB | apply below_alloc)⟩
            case measure => simp [intOf]; omega
        · obtain rfl : q = D.length := by omega
          rw [List.drop_length] at hlk
          go_wp2
          refine bodyPost_ret (v := fndV (fnd D L n)) (by rw [hfd, hlk]; simp [results, Tryd.results6, go_sem, look, fndD, fndV]) rfl ⟨rfl, ?_⟩
          exact HB
    · obtain ⟨i, rfl⟩ : ∃ i, j = i + 1 := ⟨j - 1, by omega⟩
      obtain ⟨g, rfl, hg, hr⟩ := rl i (by omega)
      obtain ⟨nm, lb, ct, hli⟩ : ∃ nm lb ct, L[i] = ⟨nm, lb, ct⟩ := ⟨_, _, _, rfl⟩
      rw [hli] at hr
      have R0 : wr.cell? ⟨g, i * 3, none⟩ = some (.string nm) := (HB.cell (by exact hg)).trans (hr 0 _ rfl)
      have R1 : wr.cell? ⟨g, i * 3 + 1, none⟩ = some (.int .i64 lb) := (HB.cell (by exact hg)).trans (hr 1 _ rfl)
      have R2 : wr.cell? ⟨g, i * 3 + 2, none⟩ = some (.int .i64 ct) := (HB.cell (by exact hg)).trans (hr 2 _ rfl)
      clear hr rl rd
      have e1 : ((i + 1 : Nat) : Int) - 1 = (i : Int) := by omega
      rw [e1]
      by_cases hnm : nm = n
      · have hf := fndL_some (L := L) (n := n) (j := i) (by omega) (by rw [hli]; exact hnm) (fun k hk hik => hno k hk (by omega))
        have hsb : (nm.toList == n.toList) = true := by rw [same_b]; exact decide_eq_true hnm
        rw [hli] at hf
        clear hno hli hnm
        go_wp2
        · go_region
          go_wp2
          refine bodyPost_ret (v := fndV (fnd D L n)) (by rw [fnd, hf]; simp [results, Tryd.results6, go_sem, fndV, *]) rfl ⟨rfl, ?_⟩
          repeat (first | exact HB | apply below_alloc | apply below_drew1 | apply pw_below_drewN)
        · go_region
          go_wp2
          have hz : ¬ 0 < ct := by omega
          refine bodyPost_ret (v := fndV (fnd D L n)) (by rw [fnd, hf]; simp [results, Tryd.results6, go_sem, fndV, if_neg hz, *]) rfl ⟨rfl, ?_⟩
          repeat (first | exact HB | apply below_alloc | apply below_drew1 | apply pw_below_drewN)
      · have hsb : (nm.toList == n.toList) = false := by rw [same_b]; exact decide_eq_false hnm
        go_wp2
        go_roundw
        case rel =>
          refine ⟨i, by omega, ?_, ?_, by repeat (first | exact HB | apply below_alloc)⟩
          · first | rfl | (rw [wrap_in (by omega) (by omega)]; done)
          · intro k hk hik
            by_cases hki : k = i
            · subst hki; rw [hli]; exact hnm
            · exact hno k hk (by omega)
        case measure => simp [intOf]
end Go.Proofs.YtchgmfdojhbgaaaDoor.MScope
