/-
The walks of dead.keep, dead.Of. Conditions: as each theorem states them.
-/
import Derived.Test.YtpibifgllbfgmaaMDeB
set_option linter.unusedSimpArgs false
set_option linter.unusedVariables false
namespace Go.Proofs.Ytpibifgllbfgmaa.Pure
open Go.RowKit Go.Proofs.YtpibifgllbfgmaaW.PrintWords Go.Proofs.YtpibifgllbfgmaaW.PrintLast Go.Proofs.YtpibifgllbfgmaaW.PrintMore Go.Proofs.Ytpibifgllbfgmaa.Kit
open Go.Proofs.Ytpibifgllbfgmaa.PDeadOf
open Go.ChangeMaps Go.MapKept
attribute [local go_sem] max2_int min2_int max_two min_two max_three min_three max_four min_four   -- for this text's walks alone
theorem zip_at {l : List S31} {o : List Bool} (h : o.length = l.length) {k : Nat} (hk : k < l.length) : (l.zip o)[k]? = some (l[k], at_ o k) := by
  rw [List.getElem?_eq_getElem (by rw [List.length_zip, h]; omega), List.getElem_zip]
  congr 2
  unfold at_; rw [List.getD_eq_getElem?_getD, List.getElem?_eq_getElem (by omega)]; rfl
theorem zip_snoc {β : Type} (F : S31 × Bool → List β) {l : List S31} {o : List Bool} (h : o.length = l.length) {k : Nat} (hk : k < l.length) :
    ((l.zip o).take (k + 1)).flatMap F = ((l.zip o).take k).flatMap F ++ F (l[k], at_ o k) := by
  rw [List.take_add_one, zip_at h hk, List.flatMap_append]; simp
theorem zip_full {β : Type} (F : S31 × Bool → List β) {l : List S31} {o : List Bool} (h : o.length = l.length) : ((l.zip o).take l.length).flatMap F = (l.zip o).flatMap F := by
  rw [List.take_of_length_le (by rw [List.length_zip]; omega)]
/-- How many places ahead of place i stay. -/
def cnt (o : List Bool) (i : Nat) : Nat := (o.take i).count true
theorem cnt_succ {o : List Bool} {i : Nat} (h : i < o.length) : cnt o (i + 1) = cnt o i + (if at_ o i = true then 1 else 0) := by
  unfold cnt at_
  rw [List.take_add_one, List.count_append, List.getD_eq_getElem?_getD, List.getElem?_eq_getElem h]
  cases o[i] <;> simp
theorem cnt_le (o : List Bool) (i : Nat) : cnt o i ≤ i := by
  unfold cnt; exact Nat.le_trans List.count_le_length (by rw [List.length_take]; omega)
/-- A code whose target goes to what is left of it. -/
def retX (n : Nat) (o : List Bool) (x : S31) : S31 := if (x.f0 = 6 ∨ x.f0 = 7) ∧ 0 ≤ x.f7 ∧ x.f7 < n then ⟨x.f0, x.f1, x.f2, x.f3, x.f4, x.f5, x.f6, (cnt o x.f7.toNat : Int)⟩ else x
def kF (n : Nat) (o : List Bool) (p : S31 × Bool) : List S31 := if p.2 = true then [retX n o p.1] else []
/-- Codes without those that need not stay. -/
def keepS (l : List S31) (o : List Bool) : List S31 := (l.zip o).flatMap (kF l.length o)
theorem kF_len (n : Nat) (o : List Bool) (z : List (S31 × Bool)) : (z.flatMap (kF n o)).length ≤ z.length := by
  induction z with
  | nil => simp
  | cons p z ih =>
    rw [List.flatMap_cons, List.length_append, List.length_cons]
    have : (kF n o p).length ≤ 1 := by unfold kF; split <;> simp
    omega
theorem keepS_len (l : List S31) (o : List Bool) : (keepS l o).length ≤ l.length := by
  refine Nat.le_trans (kF_len ..) ?_
  rw [List.length_zip]; omega
def toL (o : List Bool) (m : Nat) : List Int := (List.range m).map fun i => (cnt o i : Int)
theorem toL_len (o : List Bool) (m : Nat) : (toL o m).length = m := by unfold toL; simp
theorem toL_set (o : List Bool) (m q : Nat) (v : Int) (hv : v = cnt o m) : ((toL o m) ++ List.replicate (q + 1) (0 : Int)).set m v = toL o (m + 1) ++ List.replicate q 0 := by
  rw [List.set_append_right m v (by rw [toL_len]; omega), toL_len, Nat.sub_self, List.replicate_succ, List.set_cons_zero, hv]
  unfold toL
  rw [List.range_succ]
  simp
theorem toL_rd (o : List Bool) (m : Nat) (t : Nat) (h : t < m) : rd (toL o m) (t : Int) = (cnt o t : Int) := by
  rw [rd_get _ t (by rw [toL_len]; exact h)]
  unfold toL
  simp
def cs31 (p : S31) : Array Value := #[.int .i64 p.f0, .int .i64 p.f1, .int .i64 p.f2, .int .i64 p.f3, .int .i64 p.f4, .int .i64 p.f5, .int .u64 p.f6, .int .i64 p.f7]
/-- An append of one code to a row of the call's own. -/
theorem push31 {ops : Array Oper} {rest : List Oper} {o : Oper} {a : Act} {Q : Exit → Act → World → Prop} {w0 W : World} (base : Nat) (hgd : o.guard = none) (s x : Operand)
    (ho : o.op = .call { callee := .builtin .append, args := #[s, x], argTypes := #[22, 22] }) (v : Value) (xs : List S31) (p : S31) (hs : a.eval s = v) (hx : a.eval x = .slice (some ⟨W.heap.size, 0, none⟩) 1 1)
    (HO : Kd.R k31 31 W base (fun _ => True) v xs) (HB : Below base w0 W) (hbase : base ≤ W.heap.size) (hl : xs.length ≤ 1000000)
    (h : ∀ v1 w1, Kd.R k31 31 w1 base (fun _ => True) v1 (xs ++ [p]) → Below base w0 w1 → W.grownBy w1 v.ownBlock → (v1.ownBlock = v.ownBlock ∨ ∃ b, v1.ownBlock = some b ∧ W.heap.size ≤ b) → wpList Try.prog ops Q rest (a.put o.dst v1) w1) :
    wpList Try.prog ops Q (o :: rest) a (W.alloc (.cells #[.int .i64 p.f0, .int .i64 p.f1, .int .i64 p.f2, .int .i64 p.f3, .int .i64 p.f4, .int .i64 p.f5, .int .u64 p.f6, .int .i64 p.f7] 31)) :=
  Kd.R_append k31 (w0 := w0) base hgd s x 22 31 (.agg #[(.int .i64 0), (.int .i64 0), (.int .i64 0), (.int .i64 0), (.int .i64 0), (.int .i64 0), (.int .u64 0), (.int .i64 0)]) 64 ho Try.underlying22 info31 rfl (by decide) (by omega) v xs p
    [.int .i64 p.f0, .int .i64 p.f1, .int .i64 p.f2, .int .i64 p.f3, .int .i64 p.f4, .int .i64 p.f5, .int .u64 p.f6, .int .i64 p.f7] (fun _ => True) (fun _ => False) hs hx (k31_mkM _ _ _ p) (fun _ hk => hk.elim) (fun _ _ => trivial) HO HB hbase (by omega) h
set_option maxHeartbeats 4000000 in
set_option maxRecDepth 100000 in
theorem keep.calls (l : List S31) (A : Option Addr) (c : Nat) (o : List Bool) (Ao : Option Addr) (co : Nat) (w : World) (hC : Kd.C k31 w A l.length l) (hc : l.length ≤ c) (hO : Kd.C Kd.bool w Ao o.length o) (hco : o.length ≤ co) (ho : o.length = l.length) (hl : l.length ≤ 4096) :
    Calls Try.prog 17 #[.slice A l.length c, .slice Ao o.length co] w fun e w' => ∃ v, e = .returned v ∧ Kd.R k31 31 w' w.heap.size (fun _ => True) v (keepS l o) ∧ Below w.heap.size w w' := by
  have e0 : wrap64 ((l.length : Int) + 1) = ((l.length + 1 : Nat) : Int) := nxt _ (by omega)
  rw [ho] at hO hco ⊢
  go_enter Try.func17, Try.ntmps17
  go_wp2_with (first | ((with_reducible refine gate_dst (N := 16) rfl ?_); refine Kd.R_make (Kd.int .i64) w.heap.size 3 rfl (N := 16) rfl 46 _ _ rfl ((l.length + 1 : Nat) : Int) (by first | rfl | (go_simp; done) | simp [e0]) (by first | rfl | (go_simp; done)) Try.underlying46 (.int .i64 0) 8 info3 rfl (by decide) (by omega) 0 (ok := fun _ => True) (okp := fun _ => True) rfl (fun _ hk => hk) trivial (by omega) (by omega) (Below.refl _ _) (Nat.le_refl _) ?_; intro v2 w2 ho2 hb2 hg2 hn2; rw [Int.toNat_natCast] at ho2; obtain ⟨g, cg, rfl, hgb, hgl, hcl, hgh⟩ := Kd.R_form ho2 (by rw [List.length_replicate]; omega); rw [List.length_replicate] at ho2; clear hgh hgl hn2 hg2))
  have hcell : ∀ (k : Nat) (h : k < l.length) (wr : World), Below w.heap.size w wr → ∃ ad, Ao = some ad ∧ wr.cell? (ad.add k) = some (.bool (at_ o k)) := by
    intro k h wr hB
    obtain ⟨ad, eA, hx⟩ := Kd.at_bool (Kd.C_below hO hB) (k : Int) (by omega) (by omega)
    rw [rdOf_at (by omega), Int.toNat_natCast] at hx
    exact ⟨ad, eA, hx⟩
  have hR0 : Kd.R (Kd.int .i64) 3 w2 w.heap.size (fun _ => True) (.slice (some ⟨g, 0, none⟩) (l.length + 1) cg) (toL o 0 ++ List.replicate (l.length + 1 - 0) 0) := by simpa [toL] using ho2
  replace hcell := Aside0.mk hcell
  clear ho2
  go_loopw [6, 19] (fun v6 v19 wr => ∃ k : Nat, v6 = .int .i64 (cnt o k : Int) ∧ v19 = .int .i64 k ∧ k ≤ l.length ∧ Kd.R (Kd.int .i64) 3 wr w.heap.size (fun _ => True) (.slice (some ⟨g, 0, none⟩) (l.length + 1) cg) (toL o k ++ List.replicate (l.length + 1 - k) 0) ∧ Below w.heap.size w wr)
    (fun _ v19 _ => l.length - (intOf v19).toNat)
  case atStart => exact ⟨0, rfl, rfl, by omega, hR0, hb2⟩
  case round =>
    clear hR0 hb2
    obtain ⟨k, rfl, rfl, hk, hR, hB⟩ := hrel
    have hck := cnt_le o k
    have hx := Kd.R_celln 0 hR (k : Int) (by omega) (by omega)
    rw [Int.toNat_natCast] at hx
    obtain ⟨hx, fx⟩ := hx
    have hset := toL_set o k (l.length - k) (cnt o k : Int) rfl
    have hput := Kd.R_putn hR (k : Int) (cnt o k : Int)
    rw [Int.toNat_natCast, show l.length + 1 - k = l.length - k + 1 by omega, hset] at hput
    replace hset := Aside0.mk hset
    generalize rdOf 0 (toL o k ++ List.replicate (l.length + 1 - k) 0) (k : Int) = z at hx
    by_cases hkl : k < l.length
    · have hki : (k : Int) < (l.length : Int) := by omega
      have hki2 : (k : Int) < ((l.length + 1 : Nat) : Int) := by omega
      obtain ⟨ad, eA, xo⟩ := hcell.out k hkl wr hB
      subst eA
      have xo : (wr.setCell ⟨g, k, none⟩ (.int .i64 (cnt o k : Int))).cell? (ad.add k) = some (.bool (at_ o k)) := by
        obtain ⟨ad2, eA2, h⟩ := hcell.out k hkl (wr.setCell ⟨g, k, none⟩ (.int .i64 (cnt o k : Int))) (below_set hB hgb)
        cases eA2
        exact h
      have hcs := cnt_succ (o := o) (i := k) (by omega)
      have hrel : Kd.R (Kd.int .i64) 3 (wr.setCell ⟨g, k, none⟩ (.int .i64 (cnt o k : Int))) w.heap.size (fun _ => True) (.slice (some ⟨g, 0, none⟩) (l.length + 1) cg) (toL o (k + 1) ++ List.replicate (l.length + 1 - (k + 1)) 0) := by
        rw [show l.length + 1 - (k + 1) = l.length - k by omega]; exact hput
      replace hcs := Aside0.mk hcs
      clear hput
      cases hat : at_ o k with
      | false =>
        rw [hat] at xo
        go_wp2
        go_roundw
        case rel => exact ⟨k + 1, by rw [hcs.out, hat]; rfl, by first | rfl | go_num, by omega, hrel, below_set hB hgb⟩
        case measure => simp [intOf]; omega
      | true =>
        rw [hat] at xo
        go_wp2
        go_roundw
        case rel => exact ⟨k + 1, by rw [hcs.out, hat]; first | rfl | go_num, by first | rfl | go_num, by omega, hrel, below_set hB hgb⟩
        case measure => simp [intOf]; omega
    · obtain rfl : k = l.length := by omega
      have hki2 : (l.length : Int) < ((l.length + 1 : Nat) : Int) := by omega
      have hR2 : Kd.R (Kd.int .i64) 3 (wr.setCell ⟨g, l.length, none⟩ (.int .i64 (cnt o l.length : Int))) w.heap.size (fun _ => True) (.slice (some ⟨g, 0, none⟩) (l.length + 1) cg) (toL o (l.length + 1)) := by
        rw [Nat.sub_self, List.replicate_zero, List.append_nil] at hput; exact hput
      have hB2 : Below w.heap.size w (wr.setCell ⟨g, l.length, none⟩ (.int .i64 (cnt o l.length : Int))) := below_set hB hgb
      go_wp2
      generalize wr.setCell ⟨g, l.length, none⟩ (.int .i64 (cnt o l.length : Int)) = w6 at hR2 hB2 ⊢
      clear hR hB hput hx fx hk hck
      go_loopw [8, 40] (fun v8 v40 wr => ∃ k : Nat, v40 = .int .i64 k ∧ k ≤ l.length ∧ Kd.R k31 31 wr w.heap.size (fun _ => True) v8 (((l.zip o).take k).flatMap (kF l.length o)) ∧ Kd.R (Kd.int .i64) 3 wr w.heap.size (fun k => some k ≠ v8.ownBlock) (.slice (some ⟨g, 0, none⟩) (l.length + 1) cg) (toL o (l.length + 1)) ∧ Below w.heap.size w wr)
        (fun _ v40 _ => l.length - (intOf v40).toNat)
      case atStart => exact ⟨0, rfl, by omega, Kd.R_nil _ _ _ _ _, Kd.R_mono hR2 (fun _ _ => by simp [Value.ownBlock]), hB2⟩
      case round =>
        clear hR2 hB2
        obtain ⟨k, rfl, hk, hR, hT, hB⟩ := hrel
        by_cases hkl : k < l.length
        · obtain ⟨ad, eA, y0, y1, y2, y3, y4, y5, y6, y7⟩ := at_T31 (Kd.C_below hC hB) k (by omega) (by omega)
          subst eA
          rw [rdT_at l k hkl, Int.toNat_natCast] at y0 y1 y2 y3 y4 y5 y6 y7
          have hzt := zip_snoc (kF l.length o) ho hkl
          have hacc := kF_len l.length o ((l.zip o).take k)
          rw [List.length_take] at hacc
          obtain ⟨x, hx⟩ : ∃ x, x = l[k] := ⟨_, rfl⟩
          rw [← hx] at y0 y1 y2 y3 y4 y5 y6 y7 hzt
          have hki : (k : Int) < (l.length : Int) := by omega
          obtain ⟨ao, eAo, xo⟩ := hcell.out k hkl wr hB
          subst eAo
          replace hzt := Aside0.mk hzt
          replace hx := Aside0.mk hx
          go_upto_region 15 with go_in
          have e6 := heap_alloc_new wr (Obj.cells #[.int .i64 x.f0, .int .i64 x.f1, .int .i64 x.f2, .int .i64 x.f3, .int .i64 x.f4, .int .i64 x.f5, .int .u64 x.f6, .int .i64 x.f7] 31 (0, 0))
          have hbr : Below wr.heap.size wr (wr.alloc (Obj.cells #[.int .i64 x.f0, .int .i64 x.f1, .int .i64 x.f2, .int .i64 x.f3, .int .i64 x.f4, .int .i64 x.f5, .int .u64 x.f6, .int .i64 x.f7] 31 (0, 0))) := below_alloc (Below.refl _ _) _
          generalize wr.alloc (Obj.cells #[.int .i64 x.f0, .int .i64 x.f1, .int .i64 x.f2, .int .i64 x.f3, .int .i64 x.f4, .int .i64 x.f5, .int .u64 x.f6, .int .i64 x.f7] 31 (0, 0)) = w3 at e6 hbr ⊢
          have xo := (hbr.cell (World.block_lt_of_cell? wr _ xo)).trans xo
          clear y0 y1 y2 y3 y4 y5 y6 y7
          obtain ⟨B6, hB6⟩ : ∃ B, B = wr.heap.size := ⟨_, rfl⟩
          rw [← hB6] at e6 ⊢
          replace hB6 := Aside0.mk hB6
          cases hat : at_ o k with
          | false =>
            rw [hat] at xo hzt
            go_wp2
            go_roundw
            case rel => exact ⟨k + 1, by first | rfl | go_num, by omega, by rw [hzt.out]; simpa [kF] using Kd.R_below hR hbr, Kd.R_below hT hbr, hB.trans (hbr.mono hB.size)⟩
            case measure => simp [intOf]; omega
          | true =>
            rw [hat] at xo hzt
            have hret0 : kF l.length o (x, true) = [retX l.length o x] := rfl
            have x60 := blk_cell e6 0
            have x61 := blk_cell e6 1
            have x62 := blk_cell e6 2
            have x63 := blk_cell e6 3
            have x64 := blk_cell e6 4
            have x65 := blk_cell e6 5
            have x66 := blk_cell e6 6
            have x67 := blk_cell e6 7
            go_upto_region 16 with go_in
            clear xo
            by_cases hj : x.f0 = 6 ∨ x.f0 = 7
            · obtain ⟨r2, hjf⟩ : ∃ r2, code_Jumps.f x.f0 x.f1 x.f2 x.f3 x.f4 x.f5 x.f6 x.f7 = some (true, r2) := by
                rw [jumps_is]; rcases hj with h | h <;> simp [h]
              have TJ := code_Jumps.calls x.f0 x.f1 x.f2 x.f3 x.f4 x.f5 x.f6 x.f7 true r2 w3 hjf
              go_upto_region 17 with (first
                | (go_at_call 20; refine TJ.mono ?_; rintro e w4 ⟨rfl, hb4⟩)
                | go_in)
              have e6 := blk_below e6 hb4
              have hbr := hbr.trans (hb4.mono hbr.size)
              clear TJ hjf x60 x61 x62 x63 x64 x65 x66 x67
              have x60 := blk_cell e6 0
              have x61 := blk_cell e6 1
              have x62 := blk_cell e6 2
              have x63 := blk_cell e6 3
              have x64 := blk_cell e6 4
              have x65 := blk_cell e6 5
              have x66 := blk_cell e6 6
              have x67 := blk_cell e6 7
              by_cases h0 : 0 ≤ x.f7
              · by_cases h1 : x.f7 < (l.length : Int)
                · have hret : kF l.length o (x, true) = [⟨x.f0, x.f1, x.f2, x.f3, x.f4, x.f5, x.f6, (cnt o x.f7.toNat : Int)⟩] := by rw [hret0]; unfold retX; rw [if_pos ⟨hj, h0, h1⟩]
                  replace hret := Aside0.mk hret
                  have hrd := toL_rd o (l.length + 1) x.f7.toNat (by omega)
                  rw [Int.toNat_of_nonneg h0] at hrd
                  obtain ⟨xt, _⟩ := Kd.R_celln 0 (Kd.R_below hT hbr) x.f7 h0 (by omega)
                  have hrd' : rdOf 0 (toL o (l.length + 1)) x.f7 = (cnt o x.f7.toNat : Int) := hrd
                  rw [hrd'] at xt
                  have h12 : x.f7 < ((l.length + 1 : Nat) : Int) := by omega
                  have f67 := blk_frozen e6 7
                  go_upto_region 18 with go_in
                  go_upto_region 19 with go_in
                  have hbr := below_set (j := 7) (v := .int .i64 (cnt o x.f7.toNat : Int)) hbr (Nat.le_of_eq hB6.out.symm)
                  have e6 := blk_put e6 7 (.int .i64 (cnt o x.f7.toNat : Int)) (cs' := #[.int .i64 x.f0, .int .i64 x.f1, .int .i64 x.f2, .int .i64 x.f3, .int .i64 x.f4, .int .i64 x.f5, .int .u64 x.f6, .int .i64 (cnt o x.f7.toNat : Int)]) rfl
                  generalize w4.setCell ⟨B6, 7, none⟩ (.int .i64 (cnt o x.f7.toNat : Int)) = w5 at e6 hbr ⊢
                  clear x60 x61 x62 x63 x64 x65 x66 x67 f67 xt
                  have x60 := blk_cell e6 0
                  have x61 := blk_cell e6 1
                  have x62 := blk_cell e6 2
                  have x63 := blk_cell e6 3
                  have x64 := blk_cell e6 4
                  have x65 := blk_cell e6 5
                  have x66 := blk_cell e6 6
                  have x67 := blk_cell e6 7
                  have HR := Kd.R_below hR hbr
                  have HT := Kd.R_below hT hbr
                  have HB := hB.trans (hbr.mono hB.size)
                  go_wp2_with (first
                    | (at_builtin; go_loud (refine push31 w.heap.size rfl (.tmp 74) (.tmp 76) rfl u8 (((l.zip o).take k).flatMap (kF l.length o)) ⟨x.f0, x.f1, x.f2, x.f3, x.f4, x.f5, x.f6, (cnt o x.f7.toNat : Int)⟩ rfl (by first | (go_simp; done) | (go_simp; rfl)) HR HB HB.size (by omega) ?_; intro v8 w12 ho hb hg hat)))
                  go_roundw
                  case rel => exact ⟨k + 1, by first | rfl | go_num, by omega, by rw [hzt.out, hret.out]; exact ho, Kd.R_mono (Kd.R_after (Kd.R_mono HT (fun _ hk => ⟨trivial, hk⟩)) hg hat) (fun _ hk => hk.2), hb⟩
                  case measure => simp [intOf]; omega
                · have hret : Aside0 (kF l.length o (x, true) = [x]) := ⟨by rw [hret0]; unfold retX; rw [if_neg (fun h => h1 h.2.2)]⟩
                  go_upto_region 19 with go_in
                  have HR := Kd.R_below hR hbr
                  have HT := Kd.R_below hT hbr
                  have HB := hB.trans (hbr.mono hB.size)
                  go_wp2_with (first
                    | (at_builtin; go_loud (refine push31 w.heap.size rfl (.tmp 74) (.tmp 76) rfl u8 (((l.zip o).take k).flatMap (kF l.length o)) x rfl (by first | (go_simp; done) | (go_simp; rfl)) HR HB HB.size (by omega) ?_; intro v8 w12 ho hb hg hat)))
                  go_roundw
                  case rel => exact ⟨k + 1, by first | rfl | go_num, by omega, by rw [hzt.out, hret.out]; exact ho, Kd.R_mono (Kd.R_after (Kd.R_mono HT (fun _ hk => ⟨trivial, hk⟩)) hg hat) (fun _ hk => hk.2), hb⟩
                  case measure => simp [intOf]; omega
              · have hret : Aside0 (kF l.length o (x, true) = [x]) := ⟨by rw [hret0]; unfold retX; rw [if_neg (fun h => h0 h.2.1)]⟩
                go_upto_region 19 with go_in
                have HR := Kd.R_below hR hbr
                have HT := Kd.R_below hT hbr
                have HB := hB.trans (hbr.mono hB.size)
                go_wp2_with (first
                  | (at_builtin; go_loud (refine push31 w.heap.size rfl (.tmp 74) (.tmp 76) rfl u8 (((l.zip o).take k).flatMap (kF l.length o)) x rfl (by first | (go_simp; done) | (go_simp; rfl)) HR HB HB.size (by omega) ?_; intro v8 w12 ho hb hg hat)))
                go_roundw
                case rel => exact ⟨k + 1, by first | rfl | go_num, by omega, by rw [hzt.out, hret.out]; exact ho, Kd.R_mono (Kd.R_after (Kd.R_mono HT (fun _ hk => ⟨trivial, hk⟩)) hg hat) (fun _ hk => hk.2), hb⟩
                case measure => simp [intOf]; omega
            · obtain ⟨r2, hjf⟩ : ∃ r2, code_Jumps.f x.f0 x.f1 x.f2 x.f3 x.f4 x.f5 x.f6 x.f7 = some (false, r2) := by
                rw [jumps_is, if_neg (fun h => hj (.inl h)), if_neg (fun h => hj (.inr h))]; exact ⟨_, rfl⟩
              have TJ := code_Jumps.calls x.f0 x.f1 x.f2 x.f3 x.f4 x.f5 x.f6 x.f7 false r2 w3 hjf
              go_upto_region 17 with (first
                | (go_at_call 20; refine TJ.mono ?_; rintro e w4 ⟨rfl, hb4⟩)
                | go_in)
              have e6 := blk_below e6 hb4
              have hbr := hbr.trans (hb4.mono hbr.size)
              clear TJ hjf x60 x61 x62 x63 x64 x65 x66 x67
              have x60 := blk_cell e6 0
              have x61 := blk_cell e6 1
              have x62 := blk_cell e6 2
              have x63 := blk_cell e6 3
              have x64 := blk_cell e6 4
              have x65 := blk_cell e6 5
              have x66 := blk_cell e6 6
              have x67 := blk_cell e6 7
              have hret : Aside0 (kF l.length o (x, true) = [x]) := ⟨by rw [hret0]; unfold retX; rw [if_neg (fun h => hj h.1)]⟩
              go_upto_region 19 with go_in
              have HR := Kd.R_below hR hbr
              have HT := Kd.R_below hT hbr
              have HB := hB.trans (hbr.mono hB.size)
              go_wp2_with (first
                | (at_builtin; go_loud (refine push31 w.heap.size rfl (.tmp 74) (.tmp 76) rfl u8 (((l.zip o).take k).flatMap (kF l.length o)) x rfl (by first | (go_simp; done) | (go_simp; rfl)) HR HB HB.size (by omega) ?_; intro v8 w12 ho hb hg hat)))
              go_roundw
              case rel => exact ⟨k + 1, by first | rfl | go_num, by omega, by rw [hzt.out, hret.out]; exact ho, Kd.R_mono (Kd.R_after (Kd.R_mono HT (fun _ hk => ⟨trivial, hk⟩)) hg hat) (fun _ hk => hk.2), hb⟩
              case measure => simp [intOf]; omega
        · obtain rfl : k = l.length := by omega
          have hfull := zip_full (kF l.length o) ho
          rw [hfull] at hR
          go_wp2
          go_ret
          exact ⟨_, rfl, hR, hB⟩
/-- A copy of a row of codes. -/
theorem copy31 {ops : Array Oper} {rest : List Oper} {o : Oper} {a : Act} {Q : Exit → Act → World → Prop} {w0 W : World} (base : Nat) (hgd : o.guard = none) (x : Operand)
    (ho : o.op = .call { callee := .builtin .append, args := #[.const (.slice none 0 0), x], argTypes := #[22, 22] }) (l : List S31) (A : Option Addr) (c : Nat) (hs : a.eval (.const (.slice none 0 0)) = .slice none 0 0) (hx : a.eval x = .slice A l.length c)
    (HR : Kd.C k31 W A l.length l) (HB : Below base w0 W) (hbase : base ≤ W.heap.size) (hl : l.length ≤ 1000000)
    (h : ∀ v1 w1, Kd.R k31 31 w1 base (fun _ => True) v1 l → Below base w0 w1 → wpList Try.prog ops Q rest (a.put o.dst v1) w1) : wpList Try.prog ops Q (o :: rest) a W :=
  Kd.R_append_rows k31 (w0 := w0) base hgd (.const (.slice none 0 0)) x 22 31 (.agg #[(.int .i64 0), (.int .i64 0), (.int .i64 0), (.int .i64 0), (.int .i64 0), (.int .i64 0), (.int .u64 0), (.int .i64 0)]) 64 ho Try.underlying22 info31 rfl (by decide) (by omega) (.slice none 0 0) ([] : List S31) l A _ c (fun _ => True) (fun _ => False) hs hx
    (Kd.R_nil _ _ _ _ _) HR (fun _ _ h => h) (fun _ h => h.elim) (fun _ _ => trivial) HB hbase (by simp; omega) (fun v1 w1 h1 h2 _ _ => h v1 w1 (by simpa using h1) h2)
def oneS (l : List S31) : List S31 := keepS l (needS l (reachS l))
theorem oneS_len (l : List S31) : (oneS l).length ≤ l.length := keepS_len ..
def ofL : Nat → List S31 → List S31
  | 0, l => l
  | f + 1, l => if (oneS l).length = l.length ∨ ¬ goodS (oneS l) then l else ofL f (oneS l)
/-- What is left of codes. -/
def ofS (l : List S31) : List S31 := if goodS l then ofL l.length l else l
def lenV : Value → Nat
  | .slice _ n _ => n
  | _ => 0
theorem needS_len (l : List S31) : (needS l (reachS l)).length = l.length := by
  unfold needS; rw [List.length_zipWith, (reachS_is l).1]; omega
theorem good_some {l : List S31} {b : Bool} (hb : decide (goodS l) = b) (hl : l.length ≤ 9223372036854775807) : ∃ k, code_Good.f k l = some b := by
  have := good_ev l hl
  rw [hb] at this
  exact Ev.rounds this
set_option maxHeartbeats 4000000 in
set_option maxRecDepth 100000 in
theorem of.calls (l : List S31) (A : Option Addr) (c : Nat) (w : World) (hC : Kd.C k31 w A l.length l) (hc : l.length ≤ c) (hl : l.length ≤ 1000000) :
    Calls Try.prog 10 #[.slice A l.length c] w fun e w' => ∃ v, e = .returned v ∧ Kd.R k31 31 w' w.heap.size (fun _ => True) v (ofS l) ∧ Below w.heap.size w w' := by
  obtain ⟨r, hr⟩ : ∃ r, r = ofS l := ⟨_, rfl⟩
  rw [← hr]
  go_enter Try.func10, Try.ntmps10
  go_upto_region 2 with (first
    | (at_builtin; go_loud (refine copy31 w.heap.size rfl (.tmp 5) rfl l A c rfl rfl hC (Below.refl _ _) (Nat.le_refl _) hl ?_; intro v1 w1 hR hB))
    | go_in)
  obtain ⟨A1, c1, rfl, hc1, hC1⟩ := Kd.R_reads hR
  cases hg : decide (goodS l) with
  | false =>
    rw [ofS, if_neg (of_decide_eq_false hg)] at hr
    obtain ⟨kg, hkg⟩ := good_some hg (by omega)
    have TG := code_Good.calls kg A1 c1 l false w1 hC1 hc1 hkg
    replace hr := Aside0.mk hr
    go_wp2_with (first
      | (go_at_call 12; refine TG.mono ?_; rintro e w2 ⟨rfl, hb2⟩))
    go_ret
    exact ⟨_, rfl, by rw [hr.out]; exact Kd.R_below hR hb2, hB.trans (hb2.mono hB.size)⟩
  | true =>
    have hgs := of_decide_eq_true hg
    rw [ofS, if_pos hgs] at hr
    obtain ⟨kg, hkg⟩ := good_some hg (by omega)
    have TG := code_Good.calls kg A1 c1 l true w1 hC1 hc1 hkg
    replace hr := Aside0.mk hr
    replace hgs := Aside0.mk hgs
    go_wp2_with (first
      | (go_at_call 12; refine TG.mono ?_; rintro e w2 ⟨rfl, hb2⟩))
    have hR := Kd.R_below hR hb2
    have hB := hB.trans (hb2.mono hB.size)
    clear TG hkg hb2 hC1
    go_loopw [3] (fun v3 wr => ∃ (q : List S31) (f : Nat), Kd.R k31 31 wr w.heap.size (fun _ => True) v3 q ∧ goodS q ∧ q.length ≤ f ∧ r = ofL f q ∧ Below w.heap.size w wr)
      (fun v3 _ => lenV v3)
    case atStart => exact ⟨l, l.length, hR, hgs.out, Nat.le_refl _, hr.out, hB⟩
    case round =>
      clear hR hB hr hgs hg
      obtain ⟨q, f, hR, hgq, hqf, hr, hB⟩ := hrel
      obtain ⟨Aq, cq, rfl, hcq, hCq⟩ := Kd.R_reads hR
      have hq1 := hgq.1
      have hq2 := hgq.2.1
      have TN := needed.calls q Aq cq wr hCq hcq (by omega) (by omega)
      have hnl := needS_len q
      have hol := oneS_len q
      have h1 : oneS q = keepS q (needS q (reachS q)) := rfl
      generalize needS q (reachS q) = st at TN hnl h1
      obtain ⟨f, rfl⟩ : ∃ f', f = f' + 1 := ⟨f - 1, by omega⟩
      rw [ofL] at hr
      replace hgq := Aside0.mk hgq
      replace hnl := Aside0.mk hnl
      replace h1 := Aside0.mk h1
      replace hol := Aside0.mk hol
      replace hr := Aside0.mk hr
      go_upto_region 5 with (first
        | (go_at_call 18; refine TN.mono ?_; rintro e w3 ⟨v3, rfl, hRs, hb3⟩; obtain ⟨As, cs, rfl, hcs, hCs⟩ := Kd.R_reads hRs; have TK := keep.calls q Aq cq st As cs w3 (Kd.C_below hCq hb3) hcq hCs hcs hnl.out hq2)
        | (go_at_call 17; refine TK.mono ?_; rintro e w4 ⟨v4, rfl, hR4, hb4⟩)
        | go_in)
      rw [← h1.out] at hR4
      have hws : w.heap.size ≤ w3.heap.size := Nat.le_trans hB.size hb3.size
      have hb34 := hb3.trans (hb4.mono hb3.size)
      have hR := Kd.R_below hR hb34
      have hB := hB.trans (hb34.mono hB.size)
      obtain ⟨nq, hnq⟩ : ∃ nq, nq = oneS q := ⟨_, rfl⟩
      rw [← hnq] at hR4 hol hr
      replace hnq := Aside0.mk hnq
      obtain ⟨A4, c4, rfl, hc4, hC4⟩ := Kd.R_reads hR4
      have hR4 := Kd.R_lower hR4 hws
      clear TN TK hb3 hb4 hb34 hRs hCs hCq h1
      by_cases hle : nq.length = q.length
      · have hlei : (nq.length : Int) = (q.length : Int) := by omega
        have hrq : r = q := by rw [hr.out, if_pos (.inl hle)]
        replace hrq := Aside0.mk hrq
        clear hle
        go_wp2
        go_ret
        exact ⟨_, rfl, by rw [hrq.out]; exact hR, hB⟩
      · have hlei : ¬ (nq.length : Int) = (q.length : Int) := by omega
        have hlt : nq.length < q.length := by have := hol.out; omega
        cases hgn : decide (goodS nq) with
        | false =>
          have hrq : r = q := by rw [hr.out, if_pos (.inr (of_decide_eq_false hgn))]
          obtain ⟨kg, hkg⟩ := good_some hgn (by omega)
          have TG := code_Good.calls kg A4 c4 nq false w4 hC4 hc4 hkg
          replace hrq := Aside0.mk hrq
          clear hle
          go_wp2_with (first
            | (go_at_call 12; refine TG.mono ?_; rintro e w5 ⟨rfl, hb5⟩))
          go_ret
          exact ⟨_, rfl, by rw [hrq.out]; exact Kd.R_below hR hb5, hB.trans (hb5.mono hB.size)⟩
        | true =>
          have hgs := of_decide_eq_true hgn
          have hrq : r = ofL f nq := by rw [hr.out, if_neg (fun h => h.elim hle (fun h => h hgs))]
          obtain ⟨kg, hkg⟩ := good_some hgn (by omega)
          have TG := code_Good.calls kg A4 c4 nq true w4 hC4 hc4 hkg
          replace hrq := Aside0.mk hrq
          replace hgs := Aside0.mk hgs
          clear hle
          go_wp2_with (first
            | (go_at_call 12; refine TG.mono ?_; rintro e w5 ⟨rfl, hb5⟩))
          go_roundw
          case rel => exact ⟨nq, f, Kd.R_below hR4 hb5, hgs.out, by omega, hrq.out, hB.trans (hb5.mono hB.size)⟩
          case measure => simp [lenV]; omega
end Go.Proofs.Ytpibifgllbfgmaa.Pure
