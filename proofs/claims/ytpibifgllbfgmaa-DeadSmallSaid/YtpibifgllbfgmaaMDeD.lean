/-
The walks of the law's once and Want. Conditions: as each theorem states them.
-/
import Derived.Test.YtpibifgllbfgmaaMDeC
set_option linter.unusedSimpArgs false
set_option linter.unusedVariables false
namespace Go.Proofs.Ytpibifgllbfgmaa.Pure
open Go.RowKit Go.Proofs.YtpibifgllbfgmaaW.PrintWords Go.Proofs.YtpibifgllbfgmaaW.PrintLast Go.Proofs.YtpibifgllbfgmaaW.PrintMore Go.Proofs.Ytpibifgllbfgmaa.Kit
open Go.Proofs.Ytpibifgllbfgmaa.PDeadOf
open Go.ChangeMaps Go.MapKept
attribute [local go_sem] max2_int min2_int max_two min_two max_three min_three max_four min_four   -- for this text's walks alone
theorem set_at {o : List Bool} {m : Nat} (h : at_ o m = true) : o.set m true = o := by
  refine List.ext_getElem (by simp) fun i h1 h2 => ?_
  rw [List.getElem_set]
  split
  · rename_i e
    subst e
    unfold at_ at h
    rw [List.getD_eq_getElem?_getD, List.getElem?_eq_getElem (by simpa using h1)] at h
    exact h.symm
  · rfl
/-- Marks of places that can all be come to, the first among them. -/
structure P1 (l : List S31) (o : List Bool) : Prop where
  len : o.length = l.length
  zero : at_ o 0 = true
  path : ∀ j, j < l.length → at_ o j = true → Path l 0 j
theorem P1.set {l : List S31} {o : List Bool} (h : P1 l o) {m : Nat} (hm : Path l 0 m) : P1 l (o.set m true) := by
  refine ⟨by simpa using h.len, (Le.set m).2 0 h.zero, fun j hj hat => ?_⟩
  rw [at_set] at hat
  split at hat
  · rename_i e; rw [← e.1]; exact hm
  · exact h.path j hj hat
def shutAt (l : List S31) (o : List Bool) (j : Nat) : Prop := at_ o j = true → ∀ m ∈ nx l j, at_ o m = true
theorem P1.reached {l : List S31} {o : List Bool} (h : P1 l o) (hs : ∀ j, j < l.length → shutAt l o j) : o = reachS l :=
  Reached.uniq ⟨h.len, fun j hj => ⟨h.path j hj, fun hp => reached_closed (fun _ => h.zero) (fun j hj hjo m hm => hs j hj hjo m hm) h.len j hp hj⟩⟩ (reachS_is l)
theorem nx_is {l : List S31} {i : Nat} (h : i < l.length) : nx l i = (nextS l[i].f0 l[i].f7 i l.length).map Int.toNat := by unfold nx; rw [List.getElem?_eq_getElem h]
set_option maxHeartbeats 4000000 in
set_option maxRecDepth 100000 in
theorem once.calls (l : List S31) (A : Option Addr) (c : Nat) (w : World) (hC : Kd.C k31 w A l.length l) (hc : l.length ≤ c) (hgd : goodS l) :
    Calls Try.prog 13 #[.slice A l.length c] w fun e w' => ∃ v, e = .returned v ∧ Kd.R k31 31 w' w.heap.size (fun _ => True) v (oneS l) ∧ Below w.heap.size w w' := by
  have hl0 : 0 < l.length := by have := hgd.1; omega
  have hl : l.length ≤ 4096 := hgd.2.1
  have hl0i : (0 : Int) < (l.length : Int) := by omega
  have hgj := hgd.2.2.2
  replace hgj := Aside0.mk hgj
  replace hgd := Aside0.mk hgd
  go_enter Try.func13, Try.ntmps13
  go_upto_region 2 with (first | ((with_reducible refine gate_dst (N := 26) rfl ?_); refine Kd.R_make Kd.bool w.heap.size 4 rfl (N := 26) rfl 39 _ _ rfl (l.length : Int) rfl rfl Try.underlying39 (.bool false) 1 info4 rfl (by decide) (by omega) false (ok := fun _ => True) (okp := fun _ => True) rfl (fun _ hk => hk) trivial (by omega) (by omega) (Below.refl _ _) (Nat.le_refl _) ?_; intro v2 w2 ho2 hb2 hg2 hn2; rw [Int.toNat_natCast] at ho2; obtain ⟨g, cg, rfl, hgb, hgl, hcl, hgh⟩ := Kd.R_form ho2 (by rw [List.length_replicate]; omega); rw [List.length_replicate] at ho2; clear hgh hgl hn2 hg2) | go_in)
  obtain ⟨x0, f0⟩ := row_cell ho2 0 hl0
  have hP : P1 l ((List.replicate l.length false).set 0 true) := by
    refine ⟨by simp, by rw [at_set, if_pos ⟨rfl, by simpa using hl0⟩], fun j hj hat => ?_⟩
    rw [at_set] at hat
    split at hat
    · rename_i e; rw [← e.1]; exact .here
    · rw [at_rep _ _ hj] at hat; cases hat
  have hR := Kd.R_putn ho2 (0 : Int) true
  rw [show (0 : Int).toNat = 0 from rfl] at hR
  have hB : Below w.heap.size w (w2.setCell ⟨g, 0, none⟩ (.bool true)) := below_set hb2 hgb
  go_upto_region 3 with go_in
  clear x0 f0 ho2 hb2
  change Kd.R Kd.bool 4 (w2.setCell ⟨g, 0, none⟩ (.bool true)) w.heap.size (fun _ => True) _ _ at hR
  generalize w2.setCell ⟨g, 0, none⟩ (.bool true) = w3 at hR hB ⊢
  generalize (List.replicate l.length false).set 0 true = o at hP hR
  go_wp2
  go_loopg [4] (free o + 1) (fun kq v4 wr => ∃ (o : List Bool) (ag : Bool), v4 = .bool ag ∧ P1 l o ∧ (if ag = true then free o + 1 else 0) ≤ kq ∧ (ag = false → ∀ j, j < l.length → shutAt l o j) ∧ Kd.R Kd.bool 4 wr w.heap.size (fun _ => True) (.slice (some ⟨g, 0, none⟩) l.length cg) o ∧ Below w.heap.size w wr)
  case atStart => exact ⟨o, true, rfl, hP, by rw [if_pos rfl]; exact Nat.le_refl _, (fun h => by cases h), hR, hB⟩
  case round =>
    clear hP hR hB
    obtain ⟨o0, ag0, rfl, hP0, hk0, hs0, hR, hB⟩ := hrel
    cases ag0 with
    | true =>
      clear hs0
      rw [if_pos rfl] at hk0
      replace hP0 := Aside0.mk hP0
      go_wp2
      go_loopw [4, 32] (fun v4 v32 wr => ∃ (o : List Bool) (ag : Bool) (i : Nat), v4 = .bool ag ∧ v32 = .int .i64 i ∧ i ≤ l.length ∧ P1 l o ∧ (ag = false → o = o0 ∧ ∀ j, j < i → shutAt l o j) ∧ (ag = true → free o < free o0) ∧ Kd.R Kd.bool 4 wr w.heap.size (fun _ => True) (.slice (some ⟨g, 0, none⟩) l.length cg) o ∧ Below w.heap.size w wr)
        (fun _ v32 _ => l.length - (intOf v32).toNat)
      case atStart => exact ⟨o0, false, 0, rfl, rfl, by omega, hP0.out, fun _ => ⟨rfl, fun j hj => by omega⟩, (fun h => by cases h), hR, hB⟩
      case round =>
        clear hR hB
        obtain ⟨o, ag, i, rfl, rfl, hi, hP, hs, hfr, hR, hB⟩ := hrel
        by_cases hil : i < l.length
        · obtain ⟨ad, eA, y0, y1, y2, y3, y4, y5, y6, y7⟩ := at_T31 (Kd.C_below hC hB) i (by omega) (by omega)
          subst eA
          rw [rdT_at l i hil, Int.toNat_natCast] at y0 y1 y2 y3 y4 y5 y6 y7
          have hnx := nx_is hil
          obtain ⟨x, hx⟩ : ∃ x, x = l[i] := ⟨_, rfl⟩
          rw [← hx] at y0 y1 y2 y3 y4 y5 y6 y7 hnx
          have hii : (i : Int) < (l.length : Int) := by omega
          obtain ⟨xo, _⟩ := row_cell hR i hil
          have hpi := hP.path i hil
          replace hx := Aside0.mk hx
          replace hP := Aside0.mk hP
          replace hs := Aside0.mk hs
          replace hfr := Aside0.mk hfr
          replace hnx := Aside0.mk hnx
          go_upto_region 9 with go_in
          have e6 := heap_alloc_new wr (Obj.cells #[.int .i64 x.f0, .int .i64 x.f1, .int .i64 x.f2, .int .i64 x.f3, .int .i64 x.f4, .int .i64 x.f5, .int .u64 x.f6, .int .i64 x.f7] 31 (0, 0))
          have hb6 : Below wr.heap.size wr (wr.alloc (Obj.cells #[.int .i64 x.f0, .int .i64 x.f1, .int .i64 x.f2, .int .i64 x.f3, .int .i64 x.f4, .int .i64 x.f5, .int .u64 x.f6, .int .i64 x.f7] 31 (0, 0))) := below_alloc (Below.refl _ _) _
          generalize wr.alloc (Obj.cells #[.int .i64 x.f0, .int .i64 x.f1, .int .i64 x.f2, .int .i64 x.f3, .int .i64 x.f4, .int .i64 x.f5, .int .u64 x.f6, .int .i64 x.f7] 31 (0, 0)) = w4 at e6 hb6 ⊢
          have xo := (hb6.cell (World.block_lt_of_cell? wr _ xo)).trans xo
          have hR := Kd.R_below hR hb6
          have hB := hB.trans (hb6.mono hB.size)
          clear y0 y1 y2 y3 y4 y5 y6 y7
          generalize wr.heap.size = B6 at e6 ⊢
          clear hb6
          cases hat : at_ o i with
          | false =>
            rw [hat] at xo
            go_wp2
            go_roundw
            case rel => exact ⟨o, ag, i + 1, rfl, by first | rfl | go_num, by omega, hP.out, fun ha => ⟨(hs.out ha).1, fun j hj => by
              by_cases hji : j = i
              · subst hji; intro h; rw [hat] at h; cases h
              · exact (hs.out ha).2 j (by omega)⟩, hfr.out, hR, hB⟩
            case measure => simp [intOf]; omega
          | true =>
            rw [hat] at xo
            have hpi := hpi hat
            obtain ⟨kn, hkn⟩ : ∃ k, code_Next.f k x.f0 x.f1 x.f2 x.f3 x.f4 x.f5 x.f6 x.f7 i l.length = some (nextS x.f0 x.f7 i l.length) := Ev.rounds (next_ev x.f0 x.f1 x.f2 x.f3 x.f4 x.f5 x.f6 x.f7 i l.length (by omega) (by omega))
            have hmem : ∀ m ∈ nextS x.f0 x.f7 i l.length, 0 ≤ m ∧ m < l.length := fun m hm => nextS_mem hm (by omega)
            have hnx2 := hnx.out
            clear hnx
            have hns2 := nextS_len x.f0 x.f7 i l.length
            generalize nextS x.f0 x.f7 i l.length = ns at hkn hmem hnx2 hns2
            have x60 := blk_cell e6 0
            have x61 := blk_cell e6 1
            have x62 := blk_cell e6 2
            have x63 := blk_cell e6 3
            have x64 := blk_cell e6 4
            have x65 := blk_cell e6 5
            have x66 := blk_cell e6 6
            have x67 := blk_cell e6 7
            have TN := fun wx => code_Next.calls kn x.f0 x.f1 x.f2 x.f3 x.f4 x.f5 x.f6 x.f7 i l.length ns wx hkn
            have hgw : g < w4.heap.size := by
              obtain ⟨cells, hcc⟩ := own_typed hR.2.choose_spec.1 g (by simp [Value.ownBlock])
              exact blk_lt hcc
            replace hnx2 := Aside0.mk hnx2
            replace hmem := Aside0.mk hmem
            replace hkn := Aside0.mk hkn
            go_upto_region 11 with (first
              | (go_at_call 23; refine (TN _).mono ?_; rintro e w5 ⟨v5, rfl, hN, hb5⟩; obtain ⟨An, cn, rfl, hcn, hCn⟩ := Kd.R_reads hN)
              | go_in)
            clear x60 x61 x62 x63 x64 x65 x66 x67 TN xo e6
            have hR := Kd.R_below hR hb5
            have hB := hB.trans (hb5.mono hB.size)
            have hN := Kd.R_mono (ok' := fun k => k ≠ g) (Kd.R_bound hN) (fun k hk => by have := hk.2.1; omega)
            go_loopw [4, 48] (fun v4 v48 wr => ∃ (o : List Bool) (ag : Bool) (q : Nat), v4 = .bool ag ∧ v48 = .int .i64 q ∧ q ≤ ns.length ∧ P1 l o ∧ (ag = false → o = o0 ∧ (∀ j, j < i → shutAt l o j) ∧ ∀ m ∈ ns.take q, at_ o m.toNat = true) ∧ (ag = true → free o < free o0) ∧ Kd.R Kd.bool 4 wr w.heap.size (fun _ => True) (.slice (some ⟨g, 0, none⟩) l.length cg) o ∧ Below w.heap.size w wr ∧ Kd.R (Kd.int .i64) 3 wr w4.heap.size (fun k => k ≠ g) (.slice An ns.length cn) ns)
              (fun _ v48 _ => ns.length - (intOf v48).toNat)
            case atStart => exact ⟨o, ag, 0, rfl, rfl, by omega, hP.out, (fun ha => ⟨(hs.out ha).1, (hs.out ha).2, fun m hm => by simp at hm⟩), hfr.out, hR, hB, hN⟩
            case round =>
              clear hP hs hfr hR hB hN hCn hb5 hat
              obtain ⟨o, ag, q, rfl, rfl, hq, hP, hs, hfr, hR, hB, hN⟩ := hrel
              by_cases hqn : q < ns.length
              · have hqi : (q : Int) < (ns.length : Int) := by omega
                obtain ⟨adn, eAn, xn⟩ := Kd.at_int (Kd.R_reads' hN).2.2 (q : Int) (by omega) (by omega)
                subst eAn
                rw [rd_get ns q hqn, Int.toNat_natCast] at xn
                have hm := hmem.out ns[q] (List.getElem_mem hqn)
                have hmnx : ns[q].toNat ∈ nx l i := by rw [hnx2.out]; exact List.mem_map_of_mem (List.getElem_mem hqn)
                have htk : ns.take (q + 1) = ns.take q ++ [ns[q]] := by rw [List.take_add_one, List.getElem?_eq_getElem hqn]; rfl
                obtain ⟨m, hmn⟩ : ∃ m : Nat, ns[q] = (m : Int) := ⟨ns[q].toNat, by omega⟩
                rw [hmn] at xn hm hmnx htk
                rw [Int.toNat_natCast] at hmnx
                have hml : m < l.length := by omega
                obtain ⟨xm, fm⟩ := row_cell hR m hml
                have hmi : (m : Int) < (l.length : Int) := hm.2
                have hR2 := Kd.R_putn hR (m : Int) true
                rw [Int.toNat_natCast] at hR2
                have hN2 := R_kp hN (Kp.set wr g m (.bool true)) (fun _ h => h)
                have hB2 : Below w.heap.size w (wr.setCell ⟨g, m, none⟩ (.bool true)) := below_set hB hgb
                have hP2 := hP.set (Path.on i m hpi hmnx)
                have hle := (Le.set (o := o) m).free
                replace hmn := Aside0.mk hmn
                replace htk := Aside0.mk htk
                replace hs := Aside0.mk hs
                replace hfr := Aside0.mk hfr
                cases ag with
                | true =>
                  go_wp2
                  go_roundw
                  case rel => exact ⟨o.set m true, true, q + 1, rfl, by first | rfl | go_num, by omega, hP2, (fun h => by cases h), (fun _ => by have := hfr.out rfl; omega), hR2, hB2, hN2⟩
                  case measure => simp [intOf]; omega
                | false =>
                  obtain ⟨h1, h2, h3⟩ := hs.out rfl
                  cases hbm : at_ o m with
                  | true =>
                    rw [hbm] at xm
                    have he := set_at hbm
                    replace h1 := Aside0.mk h1
                    replace he := Aside0.mk he
                    go_wp2
                    go_roundw
                    case rel => exact ⟨o, false, q + 1, rfl, by first | rfl | go_num, by omega, hP, (fun _ => ⟨h1.out, h2, fun z hz => by
                      rw [htk.out] at hz
                      rcases List.mem_append.mp hz with hz | hz
                      · exact h3 z hz
                      · simp only [List.mem_singleton] at hz; subst hz; rw [Int.toNat_natCast]; exact hbm⟩), (fun h => by cases h), (by rw [← he.out]; exact hR2), hB2, hN2⟩
                    case measure => simp [intOf]; omega
                  | false =>
                    rw [hbm] at xm
                    have hfs := free_set o m hbm
                    replace h1 := Aside0.mk h1
                    replace hfs := Aside0.mk hfs
                    go_wp2
                    go_roundw
                    case rel => exact ⟨o.set m true, true, q + 1, rfl, by first | rfl | go_num, by omega, hP2, (fun h => by cases h), (fun _ => by have := hfs.out; rw [h1.out] at this ⊢; omega), hR2, hB2, hN2⟩
                    case measure => simp [intOf]; omega
              · obtain rfl : q = ns.length := by omega
                rw [List.take_length] at hs
                go_wp2
                go_roundw
                case rel => exact ⟨o, ag, i + 1, rfl, by first | rfl | go_num, by omega, hP, (fun ha => ⟨(hs ha).1, fun j hj => by
                  by_cases hji : j = i
                  · subst hji
                    intro _ m hm
                    rw [hnx2.out, List.mem_map] at hm
                    obtain ⟨z, hz, rfl⟩ := hm
                    exact (hs ha).2.2 z hz
                  · exact (hs ha).2.1 j (by omega)⟩), hfr, hR, hB⟩
                case measure => simp [intOf]; omega
        · obtain rfl : i = l.length := by omega
          go_wp2
          go_roundg (if ag = true then free o + 1 else 0)
          case measure =>
            cases ag with
            | true => have := hfr rfl; rw [if_pos rfl]; omega
            | false => rw [if_neg (by decide)]; omega
          case rel => exact ⟨o, ag, rfl, hP, Nat.le_refl _, fun h => (hs h).2, hR, hB⟩
    | false =>
      have hor := hP0.reached (hs0 rfl)
      clear hs0 hk0
      have hgw : g < wr.heap.size := by
        obtain ⟨cells, hcc⟩ := own_typed hR.2.choose_spec.1 g (by simp [Value.ownBlock])
        exact blk_lt hcc
      have hol : o0.length = l.length := hP0.len
      clear hP0
      go_upto_region 18 with (first | ((with_reducible refine gate_dst (N := 67) rfl ?_); refine Kd.R_make (w0 := w) Kd.bool w.heap.size 4 rfl (N := 67) rfl 39 _ _ rfl (l.length : Int) rfl rfl Try.underlying39 (.bool false) 1 info4 rfl (by decide) (by omega) false (ok := fun _ => True) (okp := fun _ => True) rfl (fun _ hk => hk) trivial (by omega) (by omega) hB hB.size ?_; intro v2 w5 ho2 hb2 hg2 hn2; rw [Int.toNat_natCast] at ho2; obtain ⟨gs, cs, rfl, hsb, hsl, hcl, hgh⟩ := Kd.R_form ho2 (by rw [List.length_replicate]; omega); rw [List.length_replicate] at ho2) | go_in)
      have hR := Kd.R_grown hR hg2 (fun _ _ => by simp)
      have ngs : gs ≠ g := by
        obtain ⟨b, hb, hle⟩ := hn2
        have : gs = b := by simpa [Value.ownBlock] using hb
        omega
      have hR : Kd.R Kd.bool 4 w5 w.heap.size (fun k => k ≠ gs) (.slice (some ⟨g, 0, none⟩) l.length cg) o0 := Kd.R_mono (Kd.R_far1 hR rfl (g := gs) (by simp [Value.ownBlock]; omega)) (fun _ hk => hk.2)
      have hB := hb2
      clear hb2 hg2 hn2 hgh hsl hgw
      generalize o0 = o at hR hol hor
      have hNl : (needS l o).length = l.length := by unfold needS; rw [List.length_zipWith]; omega
      have hNk : ∀ k (h : k < l.length), (needS l o)[k]? = some (stayF (tkn l o) l[k] (at_ o k)) := by
        intro k h
        unfold needS
        rw [List.getElem?_zipWith, List.getElem?_eq_getElem h, List.getElem?_eq_getElem (show k < o.length by omega)]
        unfold at_
        rw [List.getD_eq_getElem?_getD, List.getElem?_eq_getElem (show k < o.length by omega)]
        rfl
      have hone : oneS l = keepS l (needS l o) := by unfold oneS; rw [hor]
      replace hone := Aside0.mk hone
      replace hor := Aside0.mk hor
      obtain ⟨N, hN⟩ : ∃ N, N = needS l o := ⟨_, rfl⟩
      rw [← hN] at hNl hNk hone
      replace hN := Aside0.mk hN
      obtain ⟨Z, hZ⟩ : ∃ Z, Z = List.replicate l.length false := ⟨_, rfl⟩
      have hZl : Z.length = l.length := by rw [hZ, List.length_replicate]
      rw [← hZ] at ho2
      replace hZ := Aside0.mk hZ
      replace hNk := Aside0.mk hNk
      replace hNl := Aside0.mk hNl
      replace hZl := Aside0.mk hZl
      replace hol := Aside0.mk hol
      go_wp2
      go_loopw [70] (fun v70 wr => ∃ k : Nat, v70 = .int .i64 k ∧ k ≤ l.length ∧ Kd.R Kd.bool 4 wr w.heap.size (fun _ => True) (.slice (some ⟨gs, 0, none⟩) l.length cs) (N.take k ++ Z.drop k) ∧ Kd.R Kd.bool 4 wr w.heap.size (fun k => k ≠ gs) (.slice (some ⟨g, 0, none⟩) l.length cg) o ∧ Below w.heap.size w wr)
        (fun v70 _ => l.length - (intOf v70).toNat)
      case atStart => exact ⟨0, rfl, by omega, by simpa using ho2, hR, hB⟩
      case round =>
        clear ho2 hR hB
        obtain ⟨k, rfl, hk, hS, hR, hB⟩ := hrel
        by_cases hkl : k < l.length
        · obtain ⟨ad, eA, y0, y1, y2, y3, y4, y5, y6, y7⟩ := at_T31 (Kd.C_below hC hB) k (by omega) (by omega)
          subst eA
          rw [rdT_at l k ‹_›, Int.toNat_natCast] at y0 y1 y2 y3 y4 y5 y6 y7
          have hNk1 := hNk.out k hkl
          obtain ⟨x, hx⟩ : ∃ x, x = l[k] := ⟨_, rfl⟩
          rw [← hx] at y0 y1 y2 y3 y4 y5 y6 y7 hNk1
          have hki : (k : Int) < (l.length : Int) := by omega
          obtain ⟨xo, _⟩ := row_cell hR k hkl
          replace hx := Aside0.mk hx
          have hset : ∀ b, b = stayF (tkn l o) x (at_ o k) → N.take (k + 1) ++ Z.drop (k + 1) = (N.take k ++ Z.drop k).set k b := fun b hb => set_mid (by have := hZl.out; omega) (by have := hZl.out; have := hNl.out; omega) (by rw [hb]; exact hNk1)
          replace hset := Aside0.mk hset
          replace hNk1 := Aside0.mk hNk1
          go_upto_region 21 with go_in
          have e6 := heap_alloc_new wr (Obj.cells #[.int .i64 x.f0, .int .i64 x.f1, .int .i64 x.f2, .int .i64 x.f3, .int .i64 x.f4, .int .i64 x.f5, .int .u64 x.f6, .int .i64 x.f7] 31 (0, 0))
          have hb_ : Below wr.heap.size wr (wr.alloc (Obj.cells #[.int .i64 x.f0, .int .i64 x.f1, .int .i64 x.f2, .int .i64 x.f3, .int .i64 x.f4, .int .i64 x.f5, .int .u64 x.f6, .int .i64 x.f7] 31 (0, 0))) := below_alloc (Below.refl _ _) _
          generalize wr.alloc (Obj.cells #[.int .i64 x.f0, .int .i64 x.f1, .int .i64 x.f2, .int .i64 x.f3, .int .i64 x.f4, .int .i64 x.f5, .int .u64 x.f6, .int .i64 x.f7] 31 (0, 0)) = w6 at e6 hb_ ⊢
          have xo := (hb_.cell (World.block_lt_of_cell? wr _ xo)).trans xo
          have hR := Kd.R_below hR hb_
          have hS := Kd.R_below hS hb_
          have hB := hB.trans (hb_.mono hB.size)
          clear y0 y1 y2 y3 y4 y5 y6 y7
          have hsb6 : gs ≠ wr.heap.size := by
            obtain ⟨cells, hcc⟩ := own_typed (by assumption : Kd.R Kd.bool 4 wr w.heap.size (fun _ => True) (.slice (some ⟨gs, 0, none⟩) l.length cs) (N.take k ++ Z.drop k)).2.choose_spec.1 gs (by simp [Value.ownBlock])
            have := blk_lt hcc; omega
          generalize wr.heap.size = B6 at e6 hsb6 ⊢
          clear hb_
          obtain ⟨xs, fs⟩ := row_cell hS k hkl
          have hS1 := Kd.R_putn hS (k : Int) (at_ o k)
          rw [Int.toNat_natCast] at hS1
          have hR1 := Kd.R_far (p := ⟨gs, k, none⟩) hR (fun _ hk => hk) (.bool (at_ o k))
          have hB1 : Below w.heap.size w (w6.setCell ⟨gs, k, none⟩ (.bool (at_ o k))) := below_set hB hsb
          have e61 := blk_far (p := ⟨gs, k, none⟩) e6 hsb6.symm (.bool (at_ o k))
          go_upto_region 22 with go_in
          change Kd.R Kd.bool 4 (w6.setCell ⟨gs, k, none⟩ (.bool (at_ o k))) w.heap.size (fun _ => True) _ _ at hS1
          clear hS hR hB e6 xo xs fs
          generalize w6.setCell ⟨gs, k, none⟩ (.bool (at_ o k)) = w7 at hS1 hR1 hB1 e61 ⊢
          have x60 := blk_cell e61 0
          have x61 := blk_cell e61 1
          have x62 := blk_cell e61 2
          have x63 := blk_cell e61 3
          have x64 := blk_cell e61 4
          have x65 := blk_cell e61 5
          have x66 := blk_cell e61 6
          have x67 := blk_cell e61 7
          cases hd : defX x with
          | false =>
            have hdf : code_Defines.f x.f0 x.f1 x.f2 x.f3 x.f4 x.f5 x.f6 x.f7 = some (0, false) := by
              rw [defines_is, if_neg (of_decide_eq_false hd)]
            have TD := fun wx => code_Defines.calls x.f0 x.f1 x.f2 x.f3 x.f4 x.f5 x.f6 x.f7 0 false wx hdf
            have hfin := hset.out (at_ o k) (by unfold stayF; rw [hd]; simp)
            replace hfin := Aside0.mk hfin
            go_upto_region 23 with (first
              | (go_at_call 21; refine (TD _).mono ?_; rintro e w8 ⟨rfl, hb8⟩)
              | go_in)
            go_wp2
            go_roundw
            case rel => exact ⟨k + 1, by first | rfl | go_num, by omega, by rw [hfin.out]; exact Kd.R_below hS1 hb8, Kd.R_below hR1 hb8, hB1.trans (hb8.mono hB1.size)⟩
            case measure => simp [intOf]; omega
          | true =>
            have hdf : code_Defines.f x.f0 x.f1 x.f2 x.f3 x.f4 x.f5 x.f6 x.f7 = some (x.f2, true) := by
              rw [defines_is, if_pos (of_decide_eq_true hd)]
            have TD := fun wx => code_Defines.calls x.f0 x.f1 x.f2 x.f3 x.f4 x.f5 x.f6 x.f7 x.f2 true wx hdf
            go_upto_region 23 with (first
              | (go_at_call 21; refine (TD _).mono ?_; rintro e w8 ⟨rfl, hb8⟩)
              | go_in)
            have hS := Kd.R_below hS1 hb8
            have hR := Kd.R_below hR1 hb8
            have hB := hB1.trans (hb8.mono hB1.size)
            clear hS1 hR1 hB1 TD hdf e61 x60 x61 x62 x63 x64 x65 x66 x67 hb8
            go_wp2
            go_loopw [14, 90] (fun v14 v90 wr => ∃ i : Nat, v14 = .bool (decide (x.f2 ∈ ((l.zip o).take i).flatMap tkF)) ∧ v90 = .int .i64 i ∧ i ≤ l.length ∧ Kd.R Kd.bool 4 wr w.heap.size (fun _ => True) (.slice (some ⟨gs, 0, none⟩) l.length cs) ((N.take k ++ Z.drop k).set k (at_ o k)) ∧ Kd.R Kd.bool 4 wr w.heap.size (fun k => k ≠ gs) (.slice (some ⟨g, 0, none⟩) l.length cg) o ∧ Below w.heap.size w wr)
              (fun _ v90 _ => l.length - (intOf v90).toNat)
            case atStart => exact ⟨0, rfl, rfl, by omega, hS, hR, hB⟩
            case round =>
              clear hS hR hB
              obtain ⟨i, rfl, rfl, hi, hS, hR, hB⟩ := hrel
              by_cases hil : i < l.length
              · obtain ⟨ad, eA, y0, y1, y2, y3, y4, y5, y6, y7⟩ := at_T31 (Kd.C_below hC hB) i (by omega) (by omega)
                cases eA
                rw [rdT_at l i ‹_›, Int.toNat_natCast] at y0 y1 y2 y3 y4 y5 y6 y7
                have hzt := zip_snoc tkF hol.out hil
                obtain ⟨y, hy⟩ : ∃ y, y = l[i] := ⟨_, rfl⟩
                rw [← hy] at y0 y1 y2 y3 y4 y5 y6 y7 hzt
                have hii : (i : Int) < (l.length : Int) := by omega
                generalize hpre : ((l.zip o).take i).flatMap tkF = pre at hzt
                obtain ⟨ku, hku⟩ : ∃ k, code_Uses.f k y.f0 y.f1 y.f2 y.f3 y.f4 y.f5 y.f6 y.f7 = some (usesX y) := Ev.rounds (uses_ev ..)
                have hul : (usesX y).length ≤ 3 := uses_len ..
                have hzt2 : Aside0 (((l.zip o).take (i + 1)).flatMap tkF = pre ++ (if at_ o i = true then usesX y else [])) := ⟨hzt⟩
                generalize usesX y = us at hku hul hzt2
                clear hzt
                replace hpre := Aside0.mk hpre
                replace hy := Aside0.mk hy
                replace hku := Aside0.mk hku
                go_upto_region 28 with go_in
                have e9 := heap_alloc_new wr (Obj.cells #[.int .i64 y.f0, .int .i64 y.f1, .int .i64 y.f2, .int .i64 y.f3, .int .i64 y.f4, .int .i64 y.f5, .int .u64 y.f6, .int .i64 y.f7] 31 (0, 0))
                have hb_ : Below wr.heap.size wr (wr.alloc (Obj.cells #[.int .i64 y.f0, .int .i64 y.f1, .int .i64 y.f2, .int .i64 y.f3, .int .i64 y.f4, .int .i64 y.f5, .int .u64 y.f6, .int .i64 y.f7] 31 (0, 0))) := below_alloc (Below.refl _ _) _
                generalize wr.alloc (Obj.cells #[.int .i64 y.f0, .int .i64 y.f1, .int .i64 y.f2, .int .i64 y.f3, .int .i64 y.f4, .int .i64 y.f5, .int .u64 y.f6, .int .i64 y.f7] 31 (0, 0)) = w9 at e9 hb_ ⊢
                have hR := Kd.R_below hR hb_
                have hS := Kd.R_below hS hb_
                have hB := hB.trans (hb_.mono hB.size)
                clear y0 y1 y2 y3 y4 y5 y6 y7
                generalize wr.heap.size = B9 at e9 ⊢
                clear hb_
                have x90 := blk_cell e9 0
                have x91 := blk_cell e9 1
                have x92 := blk_cell e9 2
                have x93 := blk_cell e9 3
                have x94 := blk_cell e9 4
                have x95 := blk_cell e9 5
                have x96 := blk_cell e9 6
                have x97 := blk_cell e9 7
                have TU := fun wx => code_Uses.calls ku y.f0 y.f1 y.f2 y.f3 y.f4 y.f5 y.f6 y.f7 us wx hku.out
                go_upto_region 29 with (first
                  | (go_at_call 22; refine (TU _).mono ?_; rintro e w10 ⟨v10, rfl, hU, hb10⟩; obtain ⟨Au, cu, rfl, hcu, hCu⟩ := Kd.R_reads hU)
                  | go_in)
                have hR := Kd.R_below hR hb10
                have hS := Kd.R_below hS hb10
                have hB := hB.trans (hb10.mono hB.size)
                clear TU x90 x91 x92 x93 x94 x95 x96 x97 e9 hU
                obtain ⟨xo, _⟩ := row_cell hR i hil
                obtain ⟨tf, htf⟩ : ∃ tf : Nat → Bool, ∀ j, tf j = (decide (x.f2 ∈ pre) || (at_ o i && decide (x.f2 ∈ us.take j))) := ⟨_, fun _ => rfl⟩
                have htf0 : tf 0 = decide (x.f2 ∈ pre) := by rw [htf]; simp
                have htfn : tf us.length = decide (x.f2 ∈ ((l.zip o).take (i + 1)).flatMap tkF) := by
                  rw [htf, List.take_length, hzt2.out, Bool.eq_iff_iff]
                  cases at_ o i <;> simp
                have hstep : ∀ j (h : j < us.length), tf (j + 1) = (tf j || (at_ o i && decide (us[j] = x.f2))) := by
                  intro j h
                  rw [htf, htf, List.take_add_one, List.getElem?_eq_getElem h, Bool.eq_iff_iff]
                  simp only [Option.toList_some, List.mem_append, List.mem_singleton, Bool.or_eq_true, Bool.and_eq_true, decide_eq_true_eq]
                  constructor
                  · rintro (h | ⟨h, h2 | h2⟩)
                    · exact .inl (.inl h)
                    · exact .inl (.inr ⟨h, h2⟩)
                    · exact .inr ⟨h, h2.symm⟩
                  · rintro ((h | h) | ⟨h, h2⟩)
                    · exact .inl h
                    · exact .inr ⟨h.1, .inl h.2⟩
                    · exact .inr ⟨h, .inr h2.symm⟩
                rw [← htf0]
                replace htf := Aside0.mk htf
                replace htf0 := Aside0.mk htf0
                replace htfn := Aside0.mk htfn
                replace hstep := Aside0.mk hstep
                go_loopw [14, 98] (fun v14 v98 wr => ∃ j : Nat, v14 = .bool (tf j) ∧ v98 = .int .i64 j ∧ j ≤ us.length ∧ wr = w10)
                  (fun _ v98 _ => us.length - (intOf v98).toNat)
                case atStart => exact ⟨0, rfl, rfl, by omega, rfl⟩
                case round =>
                  obtain ⟨j, rfl, rfl, hj, rfl⟩ := hrel
                  by_cases hjl : j < us.length
                  · have hji : (j : Int) < (us.length : Int) := by omega
                    obtain ⟨adu, eAu, xu⟩ := Kd.at_int hCu (j : Int) (by omega) (by omega)
                    cases eAu
                    rw [rd_get us j hjl, Int.toNat_natCast] at xu
                    have hs1 := hstep.out j hjl
                    generalize us[j] = u at xu hs1
                    replace hs1 := Aside0.mk hs1
                    cases hp : tf j with
                    | true =>
                      go_wp2
                      go_roundw
                      case rel => exact ⟨j + 1, by rw [hs1.out, hp]; rfl, by first | rfl | go_num, by omega, by first | rfl | trivial⟩
                      case measure => simp [intOf]; omega
                    | false =>
                      cases hat : at_ o i with
                      | false =>
                        rw [hat] at xo
                        go_wp2
                        go_roundw
                        case rel => exact ⟨j + 1, by rw [hs1.out, hp, hat]; rfl, by first | rfl | go_num, by omega, by first | rfl | trivial⟩
                        case measure => simp [intOf]; omega
                      | true =>
                        rw [hat] at xo
                        by_cases hu : u = x.f2
                        · have hub : (u == x.f2) = true := by simpa using hu
                          have hud : decide (u = x.f2) = true := decide_eq_true hu
                          replace hu := Aside0.mk hu
                          replace hud := Aside0.mk hud
                          go_wp2
                          go_roundw
                          case rel => exact ⟨j + 1, by rw [hs1.out, hp, hat, hud.out]; rfl, by first | rfl | go_num, by omega, by first | rfl | trivial⟩
                          case measure => simp [intOf]; omega
                        · have hub : (u == x.f2) = false := by simpa using hu
                          have hud : decide (u = x.f2) = false := decide_eq_false hu
                          replace hud := Aside0.mk hud
                          go_wp2
                          go_roundw
                          case rel => exact ⟨j + 1, by rw [hs1.out, hp, hat, hud.out]; rfl, by first | rfl | go_num, by omega, by first | rfl | trivial⟩
                          case measure => simp [intOf]; omega
                  · obtain rfl : j = us.length := by omega
                    go_wp2
                    go_roundw
                    case rel => exact ⟨i + 1, by rw [htfn.out], by first | rfl | go_num, by omega, hS, hR, hB⟩
                    case measure => simp [intOf]; omega
              · obtain rfl : i = l.length := by omega
                rw [zip_full tkF hol.out]
                obtain ⟨xo, _⟩ := row_cell hR k hkl
                obtain ⟨xs, fs⟩ := row_cell hS k hkl
                generalize hT : decide (x.f2 ∈ (l.zip o).flatMap tkF) = tk
                have hfin := hset.out (at_ o k && tk) (by rw [← hT]; unfold stayF tkn; rw [hd]; simp)
                have hS2 := Kd.R_putn hS (k : Int) (at_ o k && tk)
                rw [Int.toNat_natCast, List.set_set, ← hfin] at hS2
                have hR2 := Kd.R_far (p := ⟨gs, k, none⟩) hR (fun _ hk => hk) (.bool (at_ o k && tk))
                replace hT := Aside0.mk hT
                replace hfin := Aside0.mk hfin
                cases hat : at_ o k with
                | true =>
                  rw [hat] at xo hS2 hR2
                  go_wp2
                  go_roundw
                  case rel => exact ⟨k + 1, by first | rfl | go_num, by omega, hS2, hR2, below_set hB hsb⟩
                  case measure => simp [intOf]; omega
                | false =>
                  rw [hat] at xo hS2 hR2
                  go_wp2
                  go_roundw
                  case rel => exact ⟨k + 1, by first | rfl | go_num, by omega, hS2, hR2, below_set hB hsb⟩
                  case measure => simp [intOf]; omega
        · obtain rfl : k = l.length := by omega
          rw [List.take_of_length_le (by have := hNl.out; omega), List.drop_eq_nil_of_le (by have := hZl.out; omega), List.append_nil] at hS
          go_wp2
          clear hR
          go_loopw [19, 129] (fun v19 v129 wr => ∃ k : Nat, v129 = .int .i64 k ∧ k ≤ l.length ∧ Kd.R k31 31 wr w.heap.size (fun _ => True) v19 (((l.zip N).take k).flatMap (kF l.length N)) ∧ Kd.R Kd.bool 4 wr w.heap.size (fun k => some k ≠ v19.ownBlock) (.slice (some ⟨gs, 0, none⟩) l.length cs) N ∧ Below w.heap.size w wr)
            (fun _ v129 _ => l.length - (intOf v129).toNat)
          case atStart => exact ⟨0, rfl, by omega, Kd.R_nil _ _ _ _ _, Kd.R_mono hS (fun _ _ => by simp [Value.ownBlock]), hB⟩
          case round =>
            clear hS hB hk
            obtain ⟨k, rfl, hk, hR, hS, hB⟩ := hrel
            by_cases hkl : k < l.length
            · obtain ⟨ad, eA, y0, y1, y2, y3, y4, y5, y6, y7⟩ := at_T31 (Kd.C_below hC hB) k (by omega) (by omega)
              subst eA
              rw [rdT_at l k ‹_›, Int.toNat_natCast] at y0 y1 y2 y3 y4 y5 y6 y7
              have hzt := zip_snoc (kF l.length N) hNl.out hkl
              have hacc := kF_len l.length N ((l.zip N).take k)
              rw [List.length_take] at hacc
              obtain ⟨x, hx⟩ : ∃ x, x = l[k] := ⟨_, rfl⟩
              rw [← hx] at y0 y1 y2 y3 y4 y5 y6 y7 hzt
              have hki : (k : Int) < (l.length : Int) := by omega
              obtain ⟨xo, _⟩ := row_cell hS k hkl
              replace hzt := Aside0.mk hzt
              replace hx := Aside0.mk hx
              go_upto_region 40 with go_in
              have e6 := heap_alloc_new wr (Obj.cells #[.int .i64 x.f0, .int .i64 x.f1, .int .i64 x.f2, .int .i64 x.f3, .int .i64 x.f4, .int .i64 x.f5, .int .u64 x.f6, .int .i64 x.f7] 31 (0, 0))
              have hbr : Below wr.heap.size wr (wr.alloc (Obj.cells #[.int .i64 x.f0, .int .i64 x.f1, .int .i64 x.f2, .int .i64 x.f3, .int .i64 x.f4, .int .i64 x.f5, .int .u64 x.f6, .int .i64 x.f7] 31 (0, 0))) := below_alloc (Below.refl _ _) _
              generalize wr.alloc (Obj.cells #[.int .i64 x.f0, .int .i64 x.f1, .int .i64 x.f2, .int .i64 x.f3, .int .i64 x.f4, .int .i64 x.f5, .int .u64 x.f6, .int .i64 x.f7] 31 (0, 0)) = w4 at e6 hbr ⊢
              have xo := (hbr.cell (World.block_lt_of_cell? wr _ xo)).trans xo
              clear y0 y1 y2 y3 y4 y5 y6 y7
              obtain ⟨B6, hB6⟩ : ∃ B, B = wr.heap.size := ⟨_, rfl⟩
              rw [← hB6] at e6 ⊢
              replace hB6 := Aside0.mk hB6
              have HR := Kd.R_below hR hbr
              have HS := Kd.R_below hS hbr
              have HB := hB.trans (hbr.mono hB.size)
              cases hat : at_ N k with
              | false =>
                rw [hat] at xo hzt
                go_wp2
                go_roundw
                case rel => exact ⟨k + 1, by first | rfl | go_num, by omega, by rw [hzt.out]; simpa [kF] using HR, HS, HB⟩
                case measure => simp [intOf]; omega
              | true =>
                rw [hat] at xo hzt
                have hret0 : kF l.length N (x, true) = [retX l.length N x] := rfl
                have x60 := blk_cell e6 0
                have x61 := blk_cell e6 1
                have x62 := blk_cell e6 2
                have x63 := blk_cell e6 3
                have x64 := blk_cell e6 4
                have x65 := blk_cell e6 5
                have x66 := blk_cell e6 6
                have x67 := blk_cell e6 7
                go_upto_region 41 with go_in
                clear xo
                by_cases h6 : x.f0 = 6
                · have hb6 : (x.f0 == 6) = true := by simpa using h6
                  have hj : x.f0 = 6 ∨ x.f0 = 7 := .inl h6
                  replace h6 := Aside0.mk h6
                  go_wp2
                  have hx7 := hgj.out x (by rw [hx.out]; exact List.getElem_mem hkl)
                  have hx7 : 0 ≤ x.f7 ∧ x.f7 < l.length := hx7.2.2.2.1 hj
                  obtain ⟨t, ht⟩ : ∃ t : Nat, x.f7 = (t : Int) := ⟨x.f7.toNat, by omega⟩
                  have htl : t < l.length := by omega
                  have hret : kF l.length N (x, true) = [⟨x.f0, x.f1, x.f2, x.f3, x.f4, x.f5, x.f6, (cnt N t : Int)⟩] := by rw [hret0]; unfold retX; rw [if_pos ⟨hj, hx7⟩, ht, Int.toNat_natCast]
                  replace hret := Aside0.mk hret
                  have hj := Aside0.mk hj
                  rw [ht] at x67
                  replace ht := Aside0.mk ht
                  clear hx7
                  go_loopw [22, 23] (fun v22 v23 wr => ∃ q : Nat, v22 = .int .i64 (cnt N q : Int) ∧ v23 = .int .i64 q ∧ q ≤ t ∧ w4 = wr)
                    (fun _ v23 _ => t - (intOf v23).toNat)
                  case atStart => exact ⟨0, rfl, rfl, by omega, rfl⟩
                  case round =>
                    obtain ⟨q, rfl, rfl, hq, rfl⟩ := hrel
                    have hcq := cnt_le N q
                    by_cases hqt : q < t
                    · have hqi : (q : Int) < (t : Int) := by omega
                      have hqi2 : (q : Int) < (l.length : Int) := by omega
                      obtain ⟨xq, _⟩ := row_cell HS q (by omega)
                      have hcs := cnt_succ (o := N) (i := q) (by have := hNl.out; omega)
                      replace hcs := Aside0.mk hcs
                      cases hatq : at_ N q with
                      | false =>
                        rw [hatq] at xq
                        go_wp2
                        go_roundw
                        case rel => exact ⟨q + 1, by rw [hcs.out, hatq]; rfl, by first | rfl | go_num, by omega, by first | rfl | trivial⟩
                        case measure => simp [intOf]; omega
                      | true =>
                        rw [hatq] at xq
                        go_wp2
                        go_roundw
                        case rel => exact ⟨q + 1, by rw [hcs.out, hatq]; first | rfl | go_num, by first | rfl | go_num, by omega, by first | rfl | trivial⟩
                        case measure => simp [intOf]; omega
                    · obtain rfl : q = t := by omega
                      have f67 := blk_frozen e6 7
                      go_upto_region 49 with go_in
                      have hbr := below_set (j := 7) (v := .int .i64 (cnt N q : Int)) hbr (Nat.le_of_eq hB6.out.symm)
                      have e6 := blk_put e6 7 (.int .i64 (cnt N q : Int)) (cs' := #[.int .i64 x.f0, .int .i64 x.f1, .int .i64 x.f2, .int .i64 x.f3, .int .i64 x.f4, .int .i64 x.f5, .int .u64 x.f6, .int .i64 (cnt N q : Int)]) rfl
                      generalize w4.setCell ⟨B6, 7, none⟩ (.int .i64 (cnt N q : Int)) = w5 at e6 hbr ⊢
                      clear x60 x61 x62 x63 x64 x65 x66 x67 f67 HR HS HB
                      have x60 := blk_cell e6 0
                      have x61 := blk_cell e6 1
                      have x62 := blk_cell e6 2
                      have x63 := blk_cell e6 3
                      have x64 := blk_cell e6 4
                      have x65 := blk_cell e6 5
                      have x66 := blk_cell e6 6
                      have x67 := blk_cell e6 7
                      have HR := Kd.R_below hR hbr
                      have HS := Kd.R_below hS hbr
                      have HB := hB.trans (hbr.mono hB.size)
                      go_wp2_with (first
                        | (at_builtin; go_loud (refine push31 w.heap.size rfl (.tmp 161) (.tmp 163) rfl u19 (((l.zip N).take k).flatMap (kF l.length N)) ⟨x.f0, x.f1, x.f2, x.f3, x.f4, x.f5, x.f6, (cnt N q : Int)⟩ rfl (by first | (go_simp; done) | (go_simp; rfl)) HR HB HB.size (by omega) ?_; intro v19 w12 ho hb hg hat2)))
                      go_roundw
                      case rel => exact ⟨k + 1, by first | rfl | go_num, by omega, by rw [hzt.out, hret.out]; exact ho, Kd.R_mono (Kd.R_after (Kd.R_mono HS (fun _ hk => ⟨trivial, hk⟩)) hg hat2) (fun _ hk => hk.2), hb⟩
                      case measure => simp [intOf]; omega
                · have hb6 : (x.f0 == 6) = false := by simpa using h6
                  by_cases h7 : x.f0 = 7
                  · have hb7 : (x.f0 == 7) = true := by simpa using h7
                    have hj : x.f0 = 6 ∨ x.f0 = 7 := .inr h7
                    replace h7 := Aside0.mk h7
                    replace h6 := Aside0.mk h6
                    go_wp2
                    have hx7 := hgj.out x (by rw [hx.out]; exact List.getElem_mem hkl)
                    have hx7 : 0 ≤ x.f7 ∧ x.f7 < l.length := hx7.2.2.2.1 hj
                    obtain ⟨t, ht⟩ : ∃ t : Nat, x.f7 = (t : Int) := ⟨x.f7.toNat, by omega⟩
                    have htl : t < l.length := by omega
                    have hret : kF l.length N (x, true) = [⟨x.f0, x.f1, x.f2, x.f3, x.f4, x.f5, x.f6, (cnt N t : Int)⟩] := by rw [hret0]; unfold retX; rw [if_pos ⟨hj, hx7⟩, ht, Int.toNat_natCast]
                    replace hret := Aside0.mk hret
                    have hj := Aside0.mk hj
                    rw [ht] at x67
                    replace ht := Aside0.mk ht
                    clear hx7
                    go_loopw [22, 23] (fun v22 v23 wr => ∃ q : Nat, v22 = .int .i64 (cnt N q : Int) ∧ v23 = .int .i64 q ∧ q ≤ t ∧ w4 = wr)
                      (fun _ v23 _ => t - (intOf v23).toNat)
                    case atStart => exact ⟨0, rfl, rfl, by omega, rfl⟩
                    case round =>
                      obtain ⟨q, rfl, rfl, hq, rfl⟩ := hrel
                      have hcq := cnt_le N q
                      by_cases hqt : q < t
                      · have hqi : (q : Int) < (t : Int) := by omega
                        have hqi2 : (q : Int) < (l.length : Int) := by omega
                        obtain ⟨xq, _⟩ := row_cell HS q (by omega)
                        have hcs := cnt_succ (o := N) (i := q) (by have := hNl.out; omega)
                        replace hcs := Aside0.mk hcs
                        cases hatq : at_ N q with
                        | false =>
                          rw [hatq] at xq
                          go_wp2
                          go_roundw
                          case rel => exact ⟨q + 1, by rw [hcs.out, hatq]; rfl, by first | rfl | go_num, by omega, by first | rfl | trivial⟩
                          case measure => simp [intOf]; omega
                        | true =>
                          rw [hatq] at xq
                          go_wp2
                          go_roundw
                          case rel => exact ⟨q + 1, by rw [hcs.out, hatq]; first | rfl | go_num, by first | rfl | go_num, by omega, by first | rfl | trivial⟩
                          case measure => simp [intOf]; omega
                      · obtain rfl : q = t := by omega
                        have f67 := blk_frozen e6 7
                        go_upto_region 49 with go_in
                        have hbr := below_set (j := 7) (v := .int .i64 (cnt N q : Int)) hbr (Nat.le_of_eq hB6.out.symm)
                        have e6 := blk_put e6 7 (.int .i64 (cnt N q : Int)) (cs' := #[.int .i64 x.f0, .int .i64 x.f1, .int .i64 x.f2, .int .i64 x.f3, .int .i64 x.f4, .int .i64 x.f5, .int .u64 x.f6, .int .i64 (cnt N q : Int)]) rfl
                        generalize w4.setCell ⟨B6, 7, none⟩ (.int .i64 (cnt N q : Int)) = w5 at e6 hbr ⊢
                        clear x60 x61 x62 x63 x64 x65 x66 x67 f67 HR HS HB
                        have x60 := blk_cell e6 0
                        have x61 := blk_cell e6 1
                        have x62 := blk_cell e6 2
                        have x63 := blk_cell e6 3
                        have x64 := blk_cell e6 4
                        have x65 := blk_cell e6 5
                        have x66 := blk_cell e6 6
                        have x67 := blk_cell e6 7
                        have HR := Kd.R_below hR hbr
                        have HS := Kd.R_below hS hbr
                        have HB := hB.trans (hbr.mono hB.size)
                        go_wp2_with (first
                          | (at_builtin; go_loud (refine push31 w.heap.size rfl (.tmp 161) (.tmp 163) rfl u19 (((l.zip N).take k).flatMap (kF l.length N)) ⟨x.f0, x.f1, x.f2, x.f3, x.f4, x.f5, x.f6, (cnt N q : Int)⟩ rfl (by first | (go_simp; done) | (go_simp; rfl)) HR HB HB.size (by omega) ?_; intro v19 w12 ho hb hg hat2)))
                        go_roundw
                        case rel => exact ⟨k + 1, by first | rfl | go_num, by omega, by rw [hzt.out, hret.out]; exact ho, Kd.R_mono (Kd.R_after (Kd.R_mono HS (fun _ hk => ⟨trivial, hk⟩)) hg hat2) (fun _ hk => hk.2), hb⟩
                        case measure => simp [intOf]; omega
                  · have hb7 : (x.f0 == 7) = false := by simpa using h7
                    have hret : Aside0 (kF l.length N (x, true) = [x]) := ⟨by rw [hret0]; unfold retX; rw [if_neg (fun h => h.1.elim h6 h7)]⟩
                    go_upto_region 49 with go_in
                    go_wp2_with (first
                      | (at_builtin; go_loud (refine push31 w.heap.size rfl (.tmp 161) (.tmp 163) rfl u19 (((l.zip N).take k).flatMap (kF l.length N)) x rfl (by first | (go_simp; done) | (go_simp; rfl)) HR HB HB.size (by omega) ?_; intro v19 w12 ho hb hg hat2)))
                    go_roundw
                    case rel => exact ⟨k + 1, by first | rfl | go_num, by omega, by rw [hzt.out, hret.out]; exact ho, Kd.R_mono (Kd.R_after (Kd.R_mono HS (fun _ hk => ⟨trivial, hk⟩)) hg hat2) (fun _ hk => hk.2), hb⟩
                    case measure => simp [intOf]; omega
            · obtain rfl : k = l.length := by omega
              have hfull := zip_full (kF l.length N) hNl.out
              rw [hfull] at hR
              go_wp2
              go_ret
              exact ⟨_, rfl, by rw [hone.out]; exact hR, hB⟩
end Go.Proofs.Ytpibifgllbfgmaa.Pure
