/-
An instruction, done, where a statement draws its order and calls: (*Machine).do. Conditions: as each theorem states them.
-/
import Derived.Test.YtaenjbhhpdmhgaaMTsD
set_option linter.unusedVariables false
set_option linter.unusedSimpArgs false
namespace Go.Proofs.Ytaenjbhhpdmhgaa.Tso
open Go.RowKit Go.Proofs.YtaenjbhhpdmhgaaW.PrintWords Go.Proofs.YtaenjbhhpdmhgaaW.PrintLast Go.Proofs.YtaenjbhhpdmhgaaW.PrintMore
open Go.Proofs.Ytaenjbhhpdmhgaa.Kit
open Go.Proofs.Ytaenjbhhpdmhgaa.PTsoScript
section
variable {P : Program} {ops : Array Oper} {Q : Exit → Act → World → Prop}
theorem val_ {oi : Oper} {N : Option Tmp} {a : Act} {w w1 : World} {K : Act → World → Prop} {v : Value} (hw : Region.wanted oi (yielded ops a.tmps) = true) (hN : oi.dst = N) (hrun : (execOp a.eval oi).run P w = .ok (.value v) w1)
    (h : K (a.put N v) w1) : if Region.wanted oi (yielded ops a.tmps) = true then Oper.wp P oi a w K Q else K (a.put N undef) w := by
  rw [if_pos hw]
  unfold Oper.wp
  rw [hrun]
  show K (a.put oi.dst v) w1
  rw [hN]
  exact h
/-- append(v, x), x a literal of one number in a block of its own, one step of a region that draws. -/
theorem push_ {oi : Oper} {a : Act} {K : Act → World → Prop} {W : World} (hw : Region.wanted oi (yielded ops a.tmps) = true) (s x : Operand) (t e : TypeId) (bytes : Nat)
    (ho : oi.op = .call { callee := .builtin .append, args := #[s, x], argTypes := #[t, t] })
    (ht : P.underlying t = some (.slice e)) (hinfo : (P.info? e).map (fun i => (i.zero, i.size, i.bytes)) = some (some (.int .u64 0), 1, bytes)) (hb0 : 0 < bytes)
    (v : Value) (base g : Nat) (xs : List Int) (y : Int) (ok : Nat → Prop) (hs : a.eval s = v) (hx : a.eval x = .slice (some ⟨g, 0, none⟩) 1 1) (hg : W.heap[g]? = some (Obj.cells #[.int .u64 y] e (0, 0)))
    (HO : Kd.R (Kd.int .u64) e W base ok v xs) (hbase : base ≤ W.heap.size) (hl : (xs.length + 1) * bytes ≤ 140737488355328) (hfresh : ∀ k, W.heap.size ≤ k → ok k)
    (h : ∀ v1 w1, Kd.R (Kd.int .u64) e w1 base ok v1 (xs ++ [y]) → W.grownBy w1 v.ownBlock → K (a.put oi.dst v1) w1) :
    if Region.wanted oi (yielded ops a.tmps) = true then Oper.wp P oi a W K Q else K (a.put oi.dst undef) W := by
  obtain ⟨i0, hi, hzz⟩ := Option.map_eq_some_iff.1 hinfo
  simp only [Prod.mk.injEq] at hzz
  obtain ⟨hz0, hz1, hz2⟩ := hzz
  have hlen : xs.length + 1 ≤ 140737488355328 := Nat.le_trans (Nat.le_mul_of_pos_right _ hb0) hl
  rw [if_pos hw]
  obtain ⟨v1, w1, hr, hown, hgr, _, hat⟩ := run_append_own_at (P := P) W base t oi.type e i0 (.int .u64 0) 1 bytes ht hi hz0 hz1 hz2 rfl (by decide) v xs.length _ (Kd.own_of_R HO) ⟨g, 0, none⟩ 1 1 [.int .u64 y] (by simp)
    (by simpa using World.news_of_block hg) (by intro u hu; rw [List.mem_singleton.mp hu]; rfl) (by simp only [maxLen]; omega) hl hbase
  unfold Oper.wp execOp
  simp only [ho, resolve, invoke, builtin, Sem.run_bind, Sem.run_pure, Result.andThen_ok, List.map_toArray, List.map_cons, List.map_nil, hs, hx, hr]
  refine h v1 w1 (Kd.R_of_own ?_ (fun k hk => ?_)) hgr
  · have := hown
    rw [show encs (Value.int .u64) xs ++ [.int .u64 y] = encs (Value.int .u64) (xs ++ [y]) by simp [encs]] at this
    simpa using this
  · rcases hat with e1 | e1
    · exact HO.1 k (by rw [← e1]; exact hk)
    · rw [e1] at hk
      injection hk with hk
      subst hk
      exact hfresh _ (Nat.le_refl _)
end
theorem row_grown {α β : Type} {d : Kd α} {d' : Kd β} {e e' : Nat} {W W1 : World} {base base' : Nat} {ok ok' : Nat → Prop} {v u : Value} {xs : List α} {ys : List β} (h : d.R e W base ok v xs) (hu : d'.R e' W base' ok' u ys) (hE : d.E = []) (hne : e ≠ e') (hg : W.grownBy W1 u.ownBlock) : d.R e W1 base ok v xs :=
  Kd.R_over' h (fun k hk => Kd.R_typed hu k hk) (fun q hq => by rw [hE] at hq; rw [List.mem_singleton.mp hq]; exact hne) hg
theorem Mach.tell {W W1 : World} {base mb k b : Nat} {col col' : Nat → Nat} {ts : List Nat} {cv pv v wv ov v1 : Value} {M : Mch} {t : Thr} {out' : List Int} (h : Mach W base mb col ts cv pv M) (hk : ts[k]? = some b) (hT : ThrM W base (fun q => col q = k + 1) b t v wv ov)
    (hg : W.grownBy W1 ov.ownBlock) (hcol : ∀ q, q < W.heap.size → col' q = col q) (hR : Kd.R kU 26 W1 base (fun q => col' q = k + 1) v1 out') :
    ThrM (W1.setCell ⟨b, 11, none⟩ v1) base (fun q => col' q = k + 1) b { t with out := out' } v wv v1 ∧ Mach (W1.setCell ⟨b, 11, none⟩ v1) base mb col' ts cv pv { M with thr := M.thr.set k { t with out := out' } } := by
  have hne : ∀ {g : Nat} {cs : Array Value} {ty : TypeId}, W.heap[g]? = some (Obj.cells cs ty (0, 0)) → ty ≠ 26 → some g ≠ ov.ownBlock := by
    intro g cs ty hg2 hty e
    obtain ⟨cs2, h2⟩ := Kd.R_typed hT.out g e.symm
    exact blk_ne hg2 h2 hty rfl
  have hb := blk_grown hT.blk hg (hne hT.blk (by decide))
  have hT1 : ThrM W1 base (fun q => col' q = k + 1) b { t with out := out' } v wv v1 → True := fun _ => trivial
  have hT2 : ThrM (W1.setCell ⟨b, 11, none⟩ v1) base (fun q => col' q = k + 1) b { t with out := out' } v wv v1 :=
    ⟨t_set11 hb hT.len v1, hT.len, row_set (row_grown hT.codes hT.out rfl (by decide) hg) hb rfl (by decide) _ _, row_set (row_grown hT.wr hT.out rfl (by decide) hg) hb rfl (by decide) _ _, row_set hR hb rfl (by decide) _ _, hT.le⟩
  refine ⟨hT2, blk_far (blk_grown h.blk hg (hne h.blk (by decide))) (blk_ne (blk_grown h.blk hg (hne h.blk (by decide))) hb (by decide)) _, row_set (row_grown h.ptrs hT.out rfl (by decide) hg) hb rfl (by decide) _ _,
    row_set (Kd.R_grown (row_col h.cells hcol) hg (fun q hq e => ?_)) hb rfl (by decide) _ _, by rw [h.len]; simp, fun k2 b2 t2 h1 h2 => ?_, h.nodup, h.le⟩
  · have := hT.out.1 q e.symm
    have hq2 := Kd.R_lt hT.out q e.symm
    rw [hcol q hq2] at hq
    exact absurd (hq.symm.trans this) (by omega)
  · by_cases hkk : k2 = k
    · subst hkk
      rw [hk] at h1
      obtain rfl := Option.some.inj h1
      have hlt : k2 < M.thr.length := by rw [← h.len]; exact (List.getElem?_eq_some_iff.mp hk).1
      have h2' : (M.thr.set k2 { t with out := out' })[k2]? = some { t with out := out' } := by simp [hlt]
      obtain rfl := Option.some.inj (h2'.symm.trans h2)
      exact ⟨_, _, _, hT2⟩
    · have h2' : M.thr[k2]? = some t2 := by
        have : (M.thr.set k { t with out := out' })[k2]? = M.thr[k2]? := List.getElem?_set_ne (fun e => hkk e.symm)
        exact this.symm.trans h2
      obtain ⟨v2, wv2, ov2, hTT⟩ := h.thr k2 b2 t2 h1 h2'
      have hnb : b2 ≠ b := by
        intro e
        subst e
        obtain ⟨i1, e1⟩ := List.getElem?_eq_some_iff.mp h1
        obtain ⟨i2, e2⟩ := List.getElem?_eq_some_iff.mp hk
        exact hkk ((List.getElem_inj h.nodup).mp (e1.trans e2.symm))
      refine ⟨v2, wv2, ov2, blk_far (blk_grown hTT.blk hg (hne hTT.blk (by decide))) hnb _, hTT.len, row_set (row_grown hTT.codes hT.out rfl (by decide) hg) hb rfl (by decide) _ _, row_set (row_grown hTT.wr hT.out rfl (by decide) hg) hb rfl (by decide) _ _,
        row_set (Kd.R_grown (row_col hTT.out hcol) hg (fun q hq e => ?_)) hb rfl (by decide) _ _, hTT.le⟩
      have := hT.out.1 q e.symm
      have hq2 := Kd.R_lt hT.out q e.symm
      rw [hcol q hq2] at hq
      exact absurd (hq.symm.trans this) (by omega)
theorem drew_grown (w : World) (row : Option Nat) : w.grownBy w.drew row := ⟨rfl, rfl, rfl, Nat.le_refl _, fun _ _ _ => rfl⟩
theorem grown_cell {w w' : World} {row : Option Nat} {a : Addr} (h : w.grownBy w' row) (hl : a.block < w.heap.size) (hn : some a.block ≠ row) : w'.cell? a = w.cell? a := by
  unfold World.cell?
  rw [h.block _ hl hn]
/-- Which cell a place and an index are. -/
def cellS (L : Nat) (v i : Int) : Int := IntKind.u64.wrap (v + i) % (L : Int)
/-- What a thread sees of a cell. -/
def seenS (l : List S82) (i u : Int) : Int := if (findN l i l.length).2 = true then (findN l i l.length).1 else u
theorem Mach.ne_cell {W : World} {base mb : Nat} {col : Nat → Nat} {ts : List Nat} {g c n : Nat} {pv : Value} {M : Mch} (h : Mach W base mb col ts (.slice (some ⟨g, 0, none⟩) n c) pv M) {g' : Nat} {cs : Array Value} {ty : TypeId} (hg : W.heap[g']? = some (Obj.cells cs ty (0, 0))) (hty : ty ≠ 26) : g' ≠ g := by
  obtain ⟨cs2, h2⟩ := Kd.R_typed h.cells g rfl
  exact blk_ne hg h2 hty
theorem ThrM.put {W : World} {base mb : Nat} {col : Nat → Nat} {ts : List Nat} {g c n k b : Nat} {pv : Value} {M : Mch} {t : Thr} {v wv ov : Value} (hT : ThrM W base (fun q => col q = k + 1) b t v wv ov) (hM : Mach W base mb col ts (.slice (some ⟨g, 0, none⟩) n c) pv M) (i : Nat) (x : Int) :
    ThrM (W.setCell ⟨g, i, none⟩ (.int .u64 x)) base (fun q => col q = k + 1) b t v wv ov := by
  obtain ⟨cs, hg⟩ := Kd.R_typed hM.cells g rfl
  have hc : col g = 0 := hM.cells.1 g rfl
  exact ⟨blk_far hT.blk (blk_ne hT.blk hg (by decide)) _, hT.len, row_set hT.codes hg rfl (by decide) _ _, row_set hT.wr hg rfl (by decide) _ _, Kd.R_far (p := ⟨g, i, none⟩) hT.out (fun k2 hk he => by
    rw [he] at hk
    exact absurd (hc.symm.trans hk) (by omega)) _, hT.le⟩
/-- What the cells' row holds, at one of them. -/
theorem Mach.at_cell {W : World} {base mb : Nat} {col : Nat → Nat} {ts : List Nat} {g c n : Nat} {pv : Value} {M : Mch} (h : Mach W base mb col ts (.slice (some ⟨g, 0, none⟩) n c) pv M) (i : Nat) (hi : i < M.cells.length) :
    n = M.cells.length ∧ W.cell? ⟨g, i, none⟩ = some (.int .u64 M.cells[i]) ∧ W.frozen? ⟨g, i, none⟩ = false ∧ g < W.heap.size ∧ base ≤ g := by
  have hn := (Kd.R_reads' h.cells).1
  obtain ⟨h1, h2⟩ := Kd.R_celln 0 h.cells (i : Int) (by omega) (by omega)
  rw [Int.toNat_natCast] at h1 h2
  refine ⟨hn, ?_, h2, Kd.R_lt h.cells g rfl, Kd.R_base h.cells g rfl⟩
  rw [h1]
  unfold rdOf
  simp [hi]
def do31.T9 : Bool × List (List Nat × List Nat) := (true, [([], []), ([], []), ([1], [1]), ([], []), ([], []), ([4], [4]), ([3, 5], [3, 5]), ([], []), ([], []), ([8], [8]), ([7, 9, 6], [7, 9]), ([2, 6, 10, 10], [2, 6, 10]), ([0, 11, 11], [0, 11])])
def do31.B9 : List Nat := [0, 0, 2, 0, 0, 16, 56, 0, 0, 256, 1016, 2046, 4095]
theorem do31.tab9 : rtab .any (opsOf Try.f31 9) = do31.T9 := by kernel_rfl
theorem do31.bits9 : waitsOk do31.T9.2 do31.B9 = true := by kernel_rfl
def do31.T11 : Bool × List (List Nat × List Nat) := (true, [([], []), ([], []), ([], []), ([2], [2]), ([1, 3], [1, 3]), ([], []), ([], []), ([6], [6]), ([5, 7, 4], [5, 7]), ([], []), ([], []), ([10], [10]), ([9, 11, 8], [9, 11]), ([4, 8, 12, 12], [4, 8, 12]), ([0, 13, 13], [0, 13])])
def do31.B11 : List Nat := [0, 0, 0, 4, 14, 0, 0, 64, 254, 0, 0, 1024, 4094, 8190, 16383]
theorem do31.tab11 : rtab .any (opsOf Try.f31 11) = do31.T11 := by kernel_rfl
theorem do31.bits11 : waitsOk do31.T11.2 do31.B11 = true := by kernel_rfl
def do31.T13 : Bool × List (List Nat × List Nat) := (true, [([], []), ([], []), ([1], [1]), ([], []), ([], []), ([4], [4]), ([3, 5], [3, 5]), ([0, 2, 6, 6], [0, 2, 6]), ([7, 7, 0, 1, 2, 3, 4, 5, 6, 7], [7])])
def do31.B13 : List Nat := [0, 0, 2, 0, 0, 16, 56, 127, 255]
theorem do31.tab13 : rtab .any (opsOf Try.f31 13) = do31.T13 := by kernel_rfl
theorem do31.bits13 : waitsOk do31.T13.2 do31.B13 = true := by kernel_rfl
def do31.T18 : Bool × List (List Nat × List Nat) := (true, [([], []), ([], []), ([1], [1]), ([], []), ([], []), ([4], [4]), ([3, 5], [3, 5]), ([0, 2, 6, 6], [0, 2, 6]), ([7, 7, 0, 1, 2, 3, 4, 5, 6, 7], [7])])
def do31.B18 : List Nat := [0, 0, 2, 0, 0, 16, 56, 127, 255]
theorem do31.tab18 : rtab .any (opsOf Try.f31 18) = do31.T18 := by kernel_rfl
theorem do31.bits18 : waitsOk do31.T18.2 do31.B18 = true := by kernel_rfl
def do31.T19 : Bool × List (List Nat × List Nat) := (true, [([], []), ([], []), ([1], [1]), ([2], [2]), ([3], [3]), ([], []), ([], []), ([], []), ([7], [7]), ([6, 8], [6, 8]), ([4, 5, 9, 9], [4, 5, 9]), ([0, 0, 1, 2, 3, 4, 5, 6, 7, 8, 9, 10], [0]), ([11, 0, 1, 2, 3, 4, 5, 6, 7, 8, 9, 10], [11]), ([12, 10, 10, 0, 1, 2, 3, 4, 5, 6, 7, 8, 9, 10], [10, 12])])
def do31.B19 : List Nat := [0, 0, 2, 6, 14, 0, 0, 0, 128, 448, 1022, 2047, 4095, 8191]
theorem do31.tab19 : rtab .any (opsOf Try.f31 19) = do31.T19 := by kernel_rfl
theorem do31.bits19 : waitsOk do31.T19.2 do31.B19 = true := by kernel_rfl
def do31.T36 : Bool × List (List Nat × List Nat) := (true, [([], []), ([], []), ([1], [1]), ([2], [2]), ([3], [3]), ([], []), ([4, 5], [4, 5]), ([0, 0, 1, 2, 3, 4, 5, 6], [0]), ([7, 0, 1, 2, 3, 4, 5, 6], [7]), ([8, 6, 6, 0, 1, 2, 3, 4, 5, 6], [6, 8])])
def do31.B36 : List Nat := [0, 0, 2, 6, 14, 0, 62, 127, 255, 511]
theorem do31.tab36 : rtab .any (opsOf Try.f31 36) = do31.T36 := by kernel_rfl
theorem do31.bits36 : waitsOk do31.T36.2 do31.B36 = true := by kernel_rfl
def do31.T40 : Bool × List (List Nat × List Nat) := (true, [([], []), ([0], [0]), ([1], [1]), ([2], [2]), ([], []), ([3, 4], [3, 4]), ([5], [5]), ([], []), ([], []), ([8], [8]), ([7, 9], [7, 9]), ([6, 10], [6, 10]), ([3, 4, 0, 1, 2, 3, 4, 5, 6, 7, 8, 9, 10, 11], [3, 4]), ([12, 11, 10, 0, 1, 2, 3, 4, 5, 6, 7, 8, 9, 10, 11], [11, 12])])
def do31.B40 : List Nat := [0, 1, 3, 7, 0, 31, 63, 0, 0, 256, 896, 2047, 4095, 8191]
theorem do31.tab40 : rtab .any (opsOf Try.f31 40) = do31.T40 := by kernel_rfl
theorem do31.bits40 : waitsOk do31.T40.2 do31.B40 = true := by kernel_rfl
def do31.T43 : Bool × List (List Nat × List Nat) := (true, [([], []), ([], []), ([1], [1]), ([2], [2]), ([3], [3]), ([], []), ([], []), ([6], [6]), ([5, 7], [5, 7]), ([8], [8]), ([4, 9, 8], [4, 9]), ([0, 0, 1, 2, 3, 4, 5, 6, 7, 8, 9, 10], [0]), ([11, 0, 1, 2, 3, 4, 5, 6, 7, 8, 9, 10], [11]), ([12, 10, 10, 0, 1, 2, 3, 4, 5, 6, 7, 8, 9, 10], [10, 12])])
def do31.B43 : List Nat := [0, 0, 2, 6, 14, 0, 0, 64, 224, 480, 1022, 2047, 4095, 8191]
theorem do31.tab43 : rtab .any (opsOf Try.f31 43) = do31.T43 := by kernel_rfl
theorem do31.bits43 : waitsOk do31.T43.2 do31.B43 = true := by kernel_rfl
set_option maxHeartbeats 8000000 in
set_option maxRecDepth 100000 in
theorem do4.calls (base mb k b : Nat) (col : Nat → Nat) (ts : List Nat) (cv pv cvt wv ov : Value) (M : Mch) (t : Thr) (x : S28) (w : World) (hM : Mach w base mb col ts cv pv M) (hk : ts[k]? = some b) (ht : M.thr[k]? = some t)
    (hT : ThrM w base (fun q => col q = k + 1) b t cvt wv ov) (hbase : base ≤ w.heap.size) (ha : 0 ≤ t.at_ ∧ t.at_ < 1000000) (ge : Nat) (ce : Array Value) (hge : w.heap[ge]? = some (Obj.cells ce 40 (0, 0))) (ho : x.f0 = 4) (htw : 0 ≤ x.f2 ∧ x.f2 < 8) (hc1 : M.cells.length ≤ 1048576) (hvl : 0 ≤ x.f6 ∧ x.f6 < 18446744073709551616) (hrr : 0 ≤ regS t.rs x.f3 ∧ regS t.rs x.f3 < 18446744073709551616) (i : Nat) (hil : i < M.cells.length) (hwl : t.wr.length ≤ 4194304) (hi : cellS M.cells.length x.f6 (regS t.rs x.f3) = (i : Int)) :
    Calls Try.prog 31 #[.pointer (some ⟨mb, 0, none⟩), .pointer (some ⟨b, 0, none⟩), .agg #[.int .i64 x.f0, .int .i64 x.f1, .int .i64 x.f2, .int .i64 x.f3, .int .i64 x.f4, .int .i64 x.f5, .int .u64 x.f6, .int .i64 x.f7]] w (DoP w base mb ts col pv k M M.cells { t with rs := t.rs.set x.f2.toNat (seenS t.wr (i : Int) M.cells[i]), at_ := t.at_ + 1 } 2 (i : Int) (findN t.wr (i : Int) t.wr.length).2 ge ce) := by
  have hc26 : Aside0 (∀ q, cv.ownBlock = some q → ∃ cs, w.heap[q]? = some (Obj.cells cs 26 (0, 0))) := Aside0.mk (fun q hq => Kd.R_typed hM.cells q hq)
  have ho26 : Aside0 (∀ q, ov.ownBlock = some q → ∃ cs, w.heap[q]? = some (Obj.cells cs 26 (0, 0))) := Aside0.mk (fun q hq => Kd.R_typed hT.out q hq)
  obtain ⟨o, d, tw, a1, b1, c1, vl, tg⟩ := x
  obtain ⟨cds, at_, rs, wr, out, hd⟩ := t
  simp only at *
  subst ho
  obtain ⟨q, rfl⟩ := Int.eq_ofNat_of_zero_le htw.1
  have hq8 : q < 8 := by omega
  have hb := hT.blk
  have hl := hT.len
  simp only at hb hl
  have y1 := t_c1 hb
  have hat : wrap64 (at_ + 1) = at_ + 1 := wrap_in (by omega) (by omega)
  go_enter Try.func31, Try.ntmps31
  go_upto_region 1 with go_in
  have e4 := blk_alloc (blk_alloc (heap_alloc_new w (Obj.cells #[Value.pointer (some ⟨b, 0, none⟩)] 72 (0, 0))) (Obj.cells (#[.int .i64 4, .int .i64 d, .int .i64 (q : Int), .int .i64 a1, .int .i64 b1, .int .i64 c1, .int .u64 vl, .int .i64 tg]) 28 (0, 0))) (Obj.cells #[.int .i64 0, .int .i64 0, .int .i64 0, .bool false] 40 (0, 0))
  have e5 := blk_alloc (heap_alloc_new (w.alloc (Obj.cells #[Value.pointer (some ⟨b, 0, none⟩)] 72 (0, 0))) (Obj.cells (#[.int .i64 4, .int .i64 d, .int .i64 (q : Int), .int .i64 a1, .int .i64 b1, .int .i64 c1, .int .u64 vl, .int .i64 tg]) 28 (0, 0))) (Obj.cells #[.int .i64 0, .int .i64 0, .int .i64 0, .bool false] 40 (0, 0))
  have e6 := heap_alloc_new ((w.alloc (Obj.cells #[Value.pointer (some ⟨b, 0, none⟩)] 72 (0, 0))).alloc (Obj.cells (#[.int .i64 4, .int .i64 d, .int .i64 (q : Int), .int .i64 a1, .int .i64 b1, .int .i64 c1, .int .u64 vl, .int .i64 tg]) 28 (0, 0))) (Obj.cells #[.int .i64 0, .int .i64 0, .int .i64 0, .bool false] 40 (0, 0))
  have e9 := blk_alloc (blk_alloc (blk_alloc hge (Obj.cells #[Value.pointer (some ⟨b, 0, none⟩)] 72 (0, 0))) (Obj.cells (#[.int .i64 4, .int .i64 d, .int .i64 (q : Int), .int .i64 a1, .int .i64 b1, .int .i64 c1, .int .u64 vl, .int .i64 tg]) 28 (0, 0))) (Obj.cells #[.int .i64 0, .int .i64 0, .int .i64 0, .bool false] 40 (0, 0))
  have hbl : Below w.heap.size w (((w.alloc (Obj.cells #[Value.pointer (some ⟨b, 0, none⟩)] 72 (0, 0))).alloc (Obj.cells (#[.int .i64 4, .int .i64 d, .int .i64 (q : Int), .int .i64 a1, .int .i64 b1, .int .i64 c1, .int .u64 vl, .int .i64 tg]) 28 (0, 0))).alloc (Obj.cells #[.int .i64 0, .int .i64 0, .int .i64 0, .bool false] 40 (0, 0))) := below_alloc (below_alloc (below_alloc (Below.refl _ _) _) _) _
  have hM := hM.below hbl
  have hT := hT.below hbl
  have hb := hT.blk
  rw [alloc_sz] at e5
  rw [alloc_sz, alloc_sz] at e6
  generalize (((w.alloc (Obj.cells #[Value.pointer (some ⟨b, 0, none⟩)] 72 (0, 0))).alloc (Obj.cells (#[.int .i64 4, .int .i64 d, .int .i64 (q : Int), .int .i64 a1, .int .i64 b1, .int .i64 c1, .int .u64 vl, .int .i64 tg]) 28 (0, 0))).alloc (Obj.cells #[.int .i64 0, .int .i64 0, .int .i64 0, .bool false] 40 (0, 0))) = w1 at *
  obtain ⟨B4, hB4⟩ : ∃ B, B = w.heap.size := ⟨_, rfl⟩
  obtain ⟨B5, hB5⟩ : ∃ B, B = w.heap.size + 1 := ⟨_, rfl⟩
  obtain ⟨B6, hB6⟩ : ∃ B, B = w.heap.size + 1 + 1 := ⟨_, rfl⟩
  have hg6 : base ≤ B6 := by omega
  have hn6 : w.heap.size ≤ B6 := by omega
  have n96 : ge ≠ B6 := by
    have := blk_lt hge
    omega
  have hB := Keep.of (base := base) (mb := mb) (ts := ts) (col := col) hbl
  rw [← hB6] at e6 ⊢
  rw [← hB5] at e5 ⊢
  rw [← hB4] at e4 ⊢
  clear hB4 hB5 hB6 hbl
  have y1 := t_c1 hb
  have z4 : w1.cell? ⟨B4, 0, none⟩ = some (.pointer (some ⟨b, 0, none⟩)) := (blk_cell e4 0).trans rfl
  go_upto_region 2 with go_in
  have hn1 : w.heap.size ≤ w1.heap.size := hB.size
  have hg8 : base ≤ w1.heap.size := Nat.le_trans hbase (by have := blk_lt e4; have := hB.size; omega)
  have e8 := heap_alloc_new w1 (Obj.cells #[.int .i64 0, .int .i64 6, .int .i64 0, .bool false] 40 (0, 0))
  have hbl : Below w1.heap.size w1 (w1.alloc (Obj.cells #[.int .i64 0, .int .i64 6, .int .i64 0, .bool false] 40 (0, 0))) := below_alloc (Below.refl _ _) _
  have e4 := blk_below e4 hbl
  have e5 := blk_below e5 hbl
  have e6 := blk_below e6 hbl
  have e9 := blk_below e9 hbl
  have hM := hM.below hbl
  have hT := hT.below hbl
  have hb := hT.blk
  have hB := hB.bel hbl
  have hn8 : w.heap.size ≤ w1.heap.size := hn1
  have n68 : B6 ≠ w1.heap.size := Nat.ne_of_lt (blk_lt (show w1.heap[B6]? = _ from by assumption))
  have n98 : ge ≠ w1.heap.size := Nat.ne_of_lt (blk_lt (show w1.heap[ge]? = _ from by assumption))
  clear y1 z4
  generalize w1.alloc (Obj.cells #[.int .i64 0, .int .i64 6, .int .i64 0, .bool false] 40 (0, 0)) = w2 at *
  generalize w1.heap.size = B8 at *
  clear hbl
  have y1 := t_c1 hb
  have z4 : w2.cell? ⟨B4, 0, none⟩ = some (.pointer (some ⟨b, 0, none⟩)) := (blk_cell e4 0).trans rfl
  have z50 : w2.cell? ⟨B5, 0, none⟩ = some (.int .i64 4) := (blk_cell e5 0).trans rfl
  obtain ⟨g, cap, rfl, hgb, hgl, _⟩ := Kd.R_form hM.cells (by omega)
  have hL : 0 < M.cells.length := by omega
  have hxi := hM.at_cell i hil
  obtain ⟨_, xc, fc, _, _⟩ := hxi
  have x0 : w2.cell? ⟨mb, 0, none⟩ = some (.slice (some ⟨g, 0, none⟩) M.cells.length cap) := (blk_cell hM.blk 0).trans rfl
  have lm := blk_lt hM.blk
  have lb := blk_lt hT.blk
  have l4 := blk_lt e4
  have l5 := blk_lt e5
  have hb := hT.blk
  have TR := fun wx (hx : TBlk wx b cvt at_ rs wv ov hd) => reg.calls b cvt wv ov at_ rs hd a1 wx hl hx
  have z52 : w2.cell? ⟨B5, 2, none⟩ = some (.int .i64 (q : Int)) := (blk_cell e5 2).trans rfl
  have z53 : w2.cell? ⟨B5, 3, none⟩ = some (.int .i64 a1) := (blk_cell e5 3).trans rfl
  have z56 : w2.cell? ⟨B5, 6, none⟩ = some (.int .u64 vl) := (blk_cell e5 6).trans rfl
  unfold cellS at hi
  go_upto_region 13 with go_in
  refine start_ (n := 9) (S := fun w' => Below w2.heap.size w2 w') (ds := []) #[false, false, false, false, false, false, false, false, false] (by kernel_rfl) rfl rfl (below_drew (Below.refl _ _)) (fun hHeld => ?_); refine with_tabW do31.tab13 do31.bits13 (fun HT_ HW_ => ?_)
  refine pure_ (i := 0) (N := some 74) (v := ?_) (a' := ?_) #[true, false, false, false, false, false, false, false, false] rfl rfl (any_of HT_.out (by kernel_rfl)) (fun _ _ _ h => h) (Or.inl ⟨by first | rfl | kernel_rfl, ?_⟩) ?_ ?_
  rotate_left
  · intro w'
    go_simp
    with_reducible rfl
  rotate_left
  · simp only [Act.put, List.setIfInBounds_toArray, List.set_cons_zero, List.set_cons_succ, i64_w, i32_w]
    rfl
  refine pure_ (i := 1) (N := some 75) (v := ?_) (a' := ?_) #[true, true, false, false, false, false, false, false, false] rfl rfl (any_of HT_.out (by kernel_rfl)) (fun _ _ _ h => h) (Or.inl ⟨by first | rfl | kernel_rfl, ?_⟩) ?_ ?_
  rotate_left
  · intro w'
    go_simp
    with_reducible rfl
  rotate_left
  · simp only [Act.put, List.setIfInBounds_toArray, List.set_cons_zero, List.set_cons_succ, i64_w, i32_w]
    rfl
  refine take_ (i := 2) (N := some 76) (v := ?_) (a' := ?_) #[true, true, true, false, false, false, false, false, false] rfl rfl (take_ofW HT_.out HW_.out (by kernel_rfl)) (fun _ _ _ h => h) (Or.inl ⟨by first | rfl | kernel_rfl, ?_⟩) hHeld ?_ ?_
  rotate_left
  · intro w' s0
    have zc := (s0.cell (by exact l5)).trans z56
    go_simp
    with_reducible rfl
  rotate_left
  · simp only [Act.put, List.setIfInBounds_toArray, List.set_cons_zero, List.set_cons_succ, i64_w, i32_w]
    rfl
  refine take_ (i := 3) (N := some 77) (v := ?_) (a' := ?_) #[true, true, true, true, false, false, false, false, false] rfl rfl (take_ofW HT_.out HW_.out (by kernel_rfl)) (fun _ _ _ h => h) (Or.inl ⟨by first | rfl | kernel_rfl, ?_⟩) hHeld ?_ ?_
  rotate_left
  · intro w' s0
    have zc := (s0.cell (by exact l4)).trans z4
    go_simp
    with_reducible rfl
  rotate_left
  · simp only [Act.put, List.setIfInBounds_toArray, List.set_cons_zero, List.set_cons_succ, i64_w, i32_w]
    rfl
  refine pure_ (i := 4) (N := some 78) (v := ?_) (a' := ?_) #[true, true, true, true, true, false, false, false, false] rfl rfl (any_of HT_.out (by kernel_rfl)) (fun _ _ _ h => h) (Or.inl ⟨by first | rfl | kernel_rfl, ?_⟩) ?_ ?_
  rotate_left
  · intro w'
    go_simp
    with_reducible rfl
  rotate_left
  · simp only [Act.put, List.setIfInBounds_toArray, List.set_cons_zero, List.set_cons_succ, i64_w, i32_w]
    rfl
  refine take_ (i := 5) (N := some 79) (v := ?_) (a' := ?_) #[true, true, true, true, true, true, false, false, false] rfl rfl (take_ofW HT_.out HW_.out (by kernel_rfl)) (fun _ _ _ h => h) (Or.inl ⟨by first | rfl | kernel_rfl, ?_⟩) hHeld ?_ ?_
  rotate_left
  · intro w' s0
    have zc := (s0.cell (by exact l5)).trans z53
    go_simp
    with_reducible rfl
  rotate_left
  · simp only [Act.put, List.setIfInBounds_toArray, List.set_cons_zero, List.set_cons_succ, i64_w, i32_w]
    rfl
  refine one_ (i := 6) (N := some 80) #[true, true, true, true, true, true, true, false, false] rfl rfl (one_of HT_.out (by kernel_rfl)) (by decide) (fun K hK => ?_)
  refine goes_ Try.func46 (by kernel_rfl) rfl #[.pointer (some ⟨b, 0, none⟩), .int .i64 a1] (by first | rfl | kernel_rfl) rfl rfl (by (try simp only [List.map_toArray, List.map_cons, List.map_nil]); first | done | rfl) ?_
  refine (TR _ (blk_below hb hHeld)).mono ?_
  rintro e w8 ⟨rfl, h8⟩
  subst h8
  refine ⟨_, rfl, hK.out _ _ hHeld (fun hHeld => ?_)⟩
  clear hK K
  refine norm_ (a' := ?_) ?_ ?_
  rotate_left
  · show Act.put _ (some 80) _ = _
    simp only [Act.put, List.setIfInBounds_toArray, List.set_cons_zero, List.set_cons_succ, i64_w, i32_w]
    rfl
  refine one_ (i := 7) (N := some 81) #[true, true, true, true, true, true, true, true, false] rfl rfl (one_of HT_.out (by kernel_rfl)) (by decide) (fun K hK => ?_)
  refine goes_ Try.func47 (by kernel_rfl) rfl #[.pointer (some ⟨mb, 0, none⟩), .int .u64 vl, .int .u64 (regS rs a1)] (by first | rfl | kernel_rfl) rfl rfl (by (try simp only [List.map_toArray, List.map_cons, List.map_nil]); first | done | rfl) ?_
  refine (cell.calls mb (some ⟨g, 0, none⟩) M.cells.length cap pv M.steps vl (regS rs a1) _ (blk_below hM.blk hHeld) hL hc1 hvl hrr).mono ?_
  rintro e w8 ⟨rfl, h8⟩
  subst h8
  refine ⟨_, rfl, hK.out _ _ hHeld (fun hHeld => ?_)⟩
  clear hK K
  refine norm_ (a' := ?_) ?_ ?_
  rotate_left
  · show Act.put _ (some 81) _ = _
    simp only [Act.put, List.setIfInBounds_toArray, List.set_cons_zero, List.set_cons_succ, i64_w, i32_w]
    rfl
  refine pure_ (i := 8) (N := some 10) (v := ?_) (a' := ?_) #[true, true, true, true, true, true, true, true, true] rfl rfl (any_of HT_.out (by kernel_rfl)) (fun _ _ _ h => h) (Or.inl ⟨by first | rfl | kernel_rfl, ?_⟩) ?_ ?_
  rotate_left
  · intro w'
    go_simp
    with_reducible rfl
  rotate_left
  · simp only [Act.put, List.setIfInBounds_toArray, List.set_cons_zero, List.set_cons_succ, i64_w, i32_w]
    rfl
  refine done_ (done_of HT_.out (by kernel_rfl)) ?_
  clear HT_ HW_
  rw [hi]
  have e4 := blk_drew e4
  have e5 := blk_drew e5
  have e6 := blk_drew e6
  have e9 := blk_drew e9
  have e8 := blk_drew e8
  have hM := hM.below (below_drew (Below.refl _ _))
  have hT := hT.below (below_drew (Below.refl _ _))
  have hB := hB.drew
  generalize w2.drew = w3 at *
  clear x0 xc fc lm lb l4 l5 hb TR z4 z50 z52 z53 z56 y1
  have hxi := hM.at_cell i hil
  obtain ⟨_, xc, fc, _, _⟩ := hxi
  obtain ⟨Aw, cw, rfl, hcw, hCw⟩ := Kd.R_reads hT.wr
  have TLd := load.calls mb b g cap M.cells pv M.steps cvt ov at_ rs hd Aw wr cw i w3 hM.blk hT.blk hl hCw hcw (by omega) hil xc
  obtain ⟨vv, hvv⟩ : ∃ vv, vv = seenS wr (i : Int) M.cells[i] := ⟨_, rfl⟩
  have hvx : (if (findN wr (i : Int) wr.length).2 = true then (findN wr (i : Int) wr.length).1 else M.cells[i]) = vv := hvv.symm
  obtain ⟨ht9, hht⟩ : ∃ h, h = (findN wr (i : Int) wr.length).2 := ⟨_, rfl⟩
  rw [hvx, ← hht] at TLd
  clear hvx
  replace hvv := Aside0.mk hvv
  replace hht := Aside0.mk hht
  have z4 : w3.cell? ⟨B4, 0, none⟩ = some (.pointer (some ⟨b, 0, none⟩)) := (blk_cell e4 0).trans rfl
  have hM0 := hM
  go_upto_region 15 with (first
    | (go_at_call 48; refine TLd.mono ?_; rintro e w5 ⟨rfl, hd5⟩)
    | go_in)
  have hbx := hd5.below
  clear TLd hCw z4 xc fc hd5
  have e4 := blk_below e4 hbx
  have e5 := blk_below e5 hbx
  have e6 := blk_below e6 hbx
  have e9 := blk_below e9 hbx
  have e8 := blk_below e8 hbx
  have hM := hM.below hbx
  have hT := hT.below hbx
  have hB := hB.bel hbx
  clear hbx hM0
  have z4 : w5.cell? ⟨B4, 0, none⟩ = some (.pointer (some ⟨b, 0, none⟩)) := (blk_cell e4 0).trans rfl
  have z52 : w5.cell? ⟨B5, 2, none⟩ = some (.int .i64 (q : Int)) := (blk_cell e5 2).trans rfl
  have x80 := (blk_cell e8 0).trans rfl
  have x81 := (blk_cell e8 1).trans rfl
  have x82 := (blk_cell e8 2).trans rfl
  have x83 := (blk_cell e8 3).trans rfl
  have f80 := blk_frozen e8
  go_upto_region 16 with (first
    | (go_at_call 45; refine (setr.calls b B4 B5 q vv _ _ _ _ _ _ w5 z4 z52 hq8 hl hT.blk).mono ?_; rintro e w6 ⟨rfl, rfl⟩)
    | go_in)
  clear z4 z52 x80 x81 x82 x83 f80
  have hTn := hT.setReg q (by omega) (vv)
  have hM := hM.setT hk hT.blk (2 + q) (.int .u64 (vv)) _ _ _ _ hTn
  have hB := hB.setC (p := ⟨b, 2 + q, none⟩) (Or.inr ⟨hT.le, Or.inr (Or.inl (List.mem_of_getElem? hk))⟩) (.int .u64 (vv))
  have e4 := blk_far (p := ⟨b, 2 + q, none⟩) e4 (blk_ne e4 hT.blk (by decide)) (.int .u64 (vv))
  have e5 := blk_far (p := ⟨b, 2 + q, none⟩) e5 (blk_ne e5 hT.blk (by decide)) (.int .u64 (vv))
  have e6 := blk_far (p := ⟨b, 2 + q, none⟩) e6 (blk_ne e6 hT.blk (by decide)) (.int .u64 (vv))
  have e9 := blk_far (p := ⟨b, 2 + q, none⟩) e9 (blk_ne e9 hT.blk (by decide)) (.int .u64 (vv))
  have e8 := blk_far (p := ⟨b, 2 + q, none⟩) e8 (blk_ne e8 hT.blk (by decide)) (.int .u64 (vv))
  replace hT := hTn
  clear hTn
  generalize w5.setCell ⟨b, 2 + q, none⟩ (.int .u64 (vv)) = w6 at *
  have e4 := blk_drew e4
  have e5 := blk_drew e5
  have e6 := blk_drew e6
  have e9 := blk_drew e9
  have e8 := blk_drew e8
  have hM := hM.below (below_drew (Below.refl _ _))
  have hT := hT.below (below_drew (Below.refl _ _))
  have hB := hB.drew
  generalize w6.drew = w7 at *
  have x80 := (blk_cell e8 0).trans rfl
  have x81 := (blk_cell e8 1).trans rfl
  have x82 := (blk_cell e8 2).trans rfl
  have x83 := (blk_cell e8 3).trans rfl
  have f80 := blk_frozen e8
  go_upto_region 46 with go_in
  clear x80 x81 x82 x83 f80
  have hM := hM.event (a := 0) (b := 2) (c := i) (h := ht9) e8
  have hT := hT.event (a := 0) (b := 2) (c := i) (h := ht9) e8
  have hB := hB.ev (a := 0) (b := 2) (c := i) (x := ht9) hn8
  have e4 := far_ev (a := 0) (b := 2) (c := i) (h := ht9) e4 (blk_ne e4 e8 (by decide))
  have e5 := far_ev (a := 0) (b := 2) (c := i) (h := ht9) e5 (blk_ne e5 e8 (by decide))
  have e6 := far_ev (a := 0) (b := 2) (c := i) (h := ht9) e6 n68
  have e9 := far_ev (a := 0) (b := 2) (c := i) (h := ht9) e9 n98
  replace e8 := put_ev (a := 0) (b := 2) (c := i) (h := ht9) e8
  generalize ((((w7.setCell ⟨B8, 0, none⟩ (.int .i64 0)).setCell ⟨B8, 1, none⟩ (.int .i64 (2))).setCell ⟨B8, 2, none⟩ (.int .i64 (i))).setCell ⟨B8, 3, none⟩ (.bool (ht9))) = w8 at *
  have y1 := t_c1 hT.blk
  have fz1 := blk_frozen hT.blk 1
  have z4 : w8.cell? ⟨B4, 0, none⟩ = some (.pointer (some ⟨b, 0, none⟩)) := (blk_cell e4 0).trans rfl
  go_upto_region 47 with go_in
  have hTn := hT.setAt (at_ + 1)
  have hM := hM.setT hk hT.blk 1 (.int .i64 (at_ + 1)) _ _ _ _ hTn
  have hB := hB.setC (p := ⟨b, 1, none⟩) (Or.inr ⟨hT.le, Or.inr (Or.inl (List.mem_of_getElem? hk))⟩) (.int .i64 (at_ + 1))
  have e6 := blk_far (p := ⟨b, 1, none⟩) e6 (blk_ne e6 hT.blk (by decide)) (.int .i64 (at_ + 1))
  have e9 := blk_far (p := ⟨b, 1, none⟩) e9 (blk_ne e9 hT.blk (by decide)) (.int .i64 (at_ + 1))
  have e8 := blk_far (p := ⟨b, 1, none⟩) e8 (blk_ne e8 hT.blk (by decide)) (.int .i64 (at_ + 1))
  clear y1 fz1 z4 hT hTn
  generalize w8.setCell ⟨b, 1, none⟩ (.int .i64 (at_ + 1)) = wZ at *
  have x80 := (blk_cell e8 0).trans rfl
  have x81 := (blk_cell e8 1).trans rfl
  have x82 := (blk_cell e8 2).trans rfl
  have x83 := (blk_cell e8 3).trans rfl
  have x60 := (blk_cell e6 0).trans rfl
  have x61 := (blk_cell e6 1).trans rfl
  have x62 := (blk_cell e6 2).trans rfl
  have x63 := (blk_cell e6 3).trans rfl
  have f60 : ∀ k, wZ.frozen? ⟨B6, k, none⟩ = false := fun k => by simp [World.frozen?, e6]
  go_wp2
  refine bodyPost_ret (results_c rfl _ _ B6 40 (eArr 0 (2) (i) (ht9)) (0, 0) _ rfl (put_ev e6) Try.underlying40 rfl (by kernel_rfl)) rfl ?_
  have hF := hM.event (a := 0) (b := 2) (c := i) (h := ht9) e6
  try simp only [List.set_set] at hF
  try (have hrv2 := hrv.out; subst hrv2)
  try (have hvv2 := hvv.out; subst hvv2)
  try (have hht2 := hht.out; subst hht2)
  exact ⟨rfl, hB.ev hn6, far_ev e9 n96, _, _, fun _ _ => rfl, hF⟩
set_option maxHeartbeats 8000000 in
set_option maxRecDepth 100000 in
theorem do8a.calls (base mb k b : Nat) (col : Nat → Nat) (ts : List Nat) (cv pv cvt wv ov : Value) (M : Mch) (t : Thr) (x : S28) (w : World) (hM : Mach w base mb col ts cv pv M) (hk : ts[k]? = some b) (ht : M.thr[k]? = some t)
    (hT : ThrM w base (fun q => col q = k + 1) b t cvt wv ov) (hbase : base ≤ w.heap.size) (ha : 0 ≤ t.at_ ∧ t.at_ < 1000000) (ge : Nat) (ce : Array Value) (hge : w.heap[ge]? = some (Obj.cells ce 40 (0, 0))) (ho : x.f0 = 8) (hc1 : M.cells.length ≤ 1048576) (hvl : 0 ≤ x.f6 ∧ x.f6 < 18446744073709551616) (i : Nat) (hil : i < M.cells.length) (hwl : t.wr.length ≤ 4194304) (hi : cellS M.cells.length x.f6 0 = (i : Int)) (hfree : M.cells[i] = 0) :
    Calls Try.prog 31 #[.pointer (some ⟨mb, 0, none⟩), .pointer (some ⟨b, 0, none⟩), .agg #[.int .i64 x.f0, .int .i64 x.f1, .int .i64 x.f2, .int .i64 x.f3, .int .i64 x.f4, .int .i64 x.f5, .int .u64 x.f6, .int .i64 x.f7]] w (DoP w base mb ts col pv k M (M.cells.set i 1) { t with at_ := t.at_ + 1 } 5 (i : Int) true ge ce) := by
  have hc26 : Aside0 (∀ q, cv.ownBlock = some q → ∃ cs, w.heap[q]? = some (Obj.cells cs 26 (0, 0))) := Aside0.mk (fun q hq => Kd.R_typed hM.cells q hq)
  have ho26 : Aside0 (∀ q, ov.ownBlock = some q → ∃ cs, w.heap[q]? = some (Obj.cells cs 26 (0, 0))) := Aside0.mk (fun q hq => Kd.R_typed hT.out q hq)
  obtain ⟨o, d, tw, a1, b1, c1, vl, tg⟩ := x
  obtain ⟨cds, at_, rs, wr, out, hd⟩ := t
  simp only at *
  subst ho
  have hb := hT.blk
  have hl := hT.len
  simp only at hb hl
  have y1 := t_c1 hb
  have hat : wrap64 (at_ + 1) = at_ + 1 := wrap_in (by omega) (by omega)
  go_enter Try.func31, Try.ntmps31
  go_upto_region 1 with go_in
  have e4 := blk_alloc (blk_alloc (heap_alloc_new w (Obj.cells #[Value.pointer (some ⟨b, 0, none⟩)] 72 (0, 0))) (Obj.cells (#[.int .i64 8, .int .i64 d, .int .i64 tw, .int .i64 a1, .int .i64 b1, .int .i64 c1, .int .u64 vl, .int .i64 tg]) 28 (0, 0))) (Obj.cells #[.int .i64 0, .int .i64 0, .int .i64 0, .bool false] 40 (0, 0))
  have e5 := blk_alloc (heap_alloc_new (w.alloc (Obj.cells #[Value.pointer (some ⟨b, 0, none⟩)] 72 (0, 0))) (Obj.cells (#[.int .i64 8, .int .i64 d, .int .i64 tw, .int .i64 a1, .int .i64 b1, .int .i64 c1, .int .u64 vl, .int .i64 tg]) 28 (0, 0))) (Obj.cells #[.int .i64 0, .int .i64 0, .int .i64 0, .bool false] 40 (0, 0))
  have e6 := heap_alloc_new ((w.alloc (Obj.cells #[Value.pointer (some ⟨b, 0, none⟩)] 72 (0, 0))).alloc (Obj.cells (#[.int .i64 8, .int .i64 d, .int .i64 tw, .int .i64 a1, .int .i64 b1, .int .i64 c1, .int .u64 vl, .int .i64 tg]) 28 (0, 0))) (Obj.cells #[.int .i64 0, .int .i64 0, .int .i64 0, .bool false] 40 (0, 0))
  have e9 := blk_alloc (blk_alloc (blk_alloc hge (Obj.cells #[Value.pointer (some ⟨b, 0, none⟩)] 72 (0, 0))) (Obj.cells (#[.int .i64 8, .int .i64 d, .int .i64 tw, .int .i64 a1, .int .i64 b1, .int .i64 c1, .int .u64 vl, .int .i64 tg]) 28 (0, 0))) (Obj.cells #[.int .i64 0, .int .i64 0, .int .i64 0, .bool false] 40 (0, 0))
  have hbl : Below w.heap.size w (((w.alloc (Obj.cells #[Value.pointer (some ⟨b, 0, none⟩)] 72 (0, 0))).alloc (Obj.cells (#[.int .i64 8, .int .i64 d, .int .i64 tw, .int .i64 a1, .int .i64 b1, .int .i64 c1, .int .u64 vl, .int .i64 tg]) 28 (0, 0))).alloc (Obj.cells #[.int .i64 0, .int .i64 0, .int .i64 0, .bool false] 40 (0, 0))) := below_alloc (below_alloc (below_alloc (Below.refl _ _) _) _) _
  have hM := hM.below hbl
  have hT := hT.below hbl
  have hb := hT.blk
  rw [alloc_sz] at e5
  rw [alloc_sz, alloc_sz] at e6
  generalize (((w.alloc (Obj.cells #[Value.pointer (some ⟨b, 0, none⟩)] 72 (0, 0))).alloc (Obj.cells (#[.int .i64 8, .int .i64 d, .int .i64 tw, .int .i64 a1, .int .i64 b1, .int .i64 c1, .int .u64 vl, .int .i64 tg]) 28 (0, 0))).alloc (Obj.cells #[.int .i64 0, .int .i64 0, .int .i64 0, .bool false] 40 (0, 0))) = w1 at *
  obtain ⟨B4, hB4⟩ : ∃ B, B = w.heap.size := ⟨_, rfl⟩
  obtain ⟨B5, hB5⟩ : ∃ B, B = w.heap.size + 1 := ⟨_, rfl⟩
  obtain ⟨B6, hB6⟩ : ∃ B, B = w.heap.size + 1 + 1 := ⟨_, rfl⟩
  have hg6 : base ≤ B6 := by omega
  have hn6 : w.heap.size ≤ B6 := by omega
  have n96 : ge ≠ B6 := by
    have := blk_lt hge
    omega
  have hB := Keep.of (base := base) (mb := mb) (ts := ts) (col := col) hbl
  rw [← hB6] at e6 ⊢
  rw [← hB5] at e5 ⊢
  rw [← hB4] at e4 ⊢
  clear hB4 hB5 hB6 hbl
  have y1 := t_c1 hb
  have z4 : w1.cell? ⟨B4, 0, none⟩ = some (.pointer (some ⟨b, 0, none⟩)) := (blk_cell e4 0).trans rfl
  go_upto_region 2 with go_in
  have hn1 : w.heap.size ≤ w1.heap.size := hB.size
  have hg8 : base ≤ w1.heap.size := Nat.le_trans hbase (by have := blk_lt e4; have := hB.size; omega)
  have e8 := heap_alloc_new w1 (Obj.cells #[.int .i64 0, .int .i64 6, .int .i64 0, .bool false] 40 (0, 0))
  have hbl : Below w1.heap.size w1 (w1.alloc (Obj.cells #[.int .i64 0, .int .i64 6, .int .i64 0, .bool false] 40 (0, 0))) := below_alloc (Below.refl _ _) _
  have e4 := blk_below e4 hbl
  have e5 := blk_below e5 hbl
  have e6 := blk_below e6 hbl
  have e9 := blk_below e9 hbl
  have hM := hM.below hbl
  have hT := hT.below hbl
  have hb := hT.blk
  have hB := hB.bel hbl
  have hn8 : w.heap.size ≤ w1.heap.size := hn1
  have n68 : B6 ≠ w1.heap.size := Nat.ne_of_lt (blk_lt (show w1.heap[B6]? = _ from by assumption))
  have n98 : ge ≠ w1.heap.size := Nat.ne_of_lt (blk_lt (show w1.heap[ge]? = _ from by assumption))
  clear y1 z4
  generalize w1.alloc (Obj.cells #[.int .i64 0, .int .i64 6, .int .i64 0, .bool false] 40 (0, 0)) = w2 at *
  generalize w1.heap.size = B8 at *
  clear hbl
  have y1 := t_c1 hb
  have z4 : w2.cell? ⟨B4, 0, none⟩ = some (.pointer (some ⟨b, 0, none⟩)) := (blk_cell e4 0).trans rfl
  have z50 : w2.cell? ⟨B5, 0, none⟩ = some (.int .i64 8) := (blk_cell e5 0).trans rfl
  obtain ⟨g, cap, rfl, hgb, hgl, _⟩ := Kd.R_form hM.cells (by omega)
  have hL : 0 < M.cells.length := by omega
  have hxi := hM.at_cell i hil
  obtain ⟨_, xc, fc, _, _⟩ := hxi
  have x0 : w2.cell? ⟨mb, 0, none⟩ = some (.slice (some ⟨g, 0, none⟩) M.cells.length cap) := (blk_cell hM.blk 0).trans rfl
  have lm := blk_lt hM.blk
  have lb := blk_lt hT.blk
  have l4 := blk_lt e4
  have l5 := blk_lt e5
  have hb := hT.blk
  have TC := cell.calls mb (some ⟨g, 0, none⟩) M.cells.length cap pv M.steps vl 0 w2 hM.blk hL hc1 hvl (by omega)
  unfold cellS at hi
  rw [hi] at TC
  have z56 : w2.cell? ⟨B5, 6, none⟩ = some (.int .u64 vl) := (blk_cell e5 6).trans rfl
  go_upto_region 30 with (first
    | (go_at_call 47; refine TC.mono ?_; rintro e w3 ⟨rfl, h3⟩; obtain rfl := h3.symm)
    | go_in)
  clear TC
  have hil2 : (i : Int) < (M.cells.length : Int) := by omega
  have hi02 : (0 : Int) ≤ (i : Int) := by omega
  have hfb : (M.cells[i] == 0) = true := beq_iff_eq.mpr hfree
  obtain ⟨cu, hcu⟩ : ∃ cu, cu = M.cells[i] := ⟨_, rfl⟩
  rw [← hcu] at xc hfb
  clear hfree
  replace hcu := Aside0.mk hcu
  have x80 := (blk_cell e8 0).trans rfl
  have x81 := (blk_cell e8 1).trans rfl
  have x82 := (blk_cell e8 2).trans rfl
  have x83 := (blk_cell e8 3).trans rfl
  have f80 := blk_frozen e8
  go_upto_region 31 with go_in
  clear x80 x81 x82 x83 f80 z4 z50 z56 y1 x0 xc fc lm lb l4 l5 hb hfb
  have hM := hM.event (a := 0) (b := 5) (c := i) (h := true) e8
  have hT := hT.event (a := 0) (b := 5) (c := i) (h := true) e8
  have hB := hB.ev (a := 0) (b := 5) (c := i) (x := true) hn8
  have e4 := far_ev (a := 0) (b := 5) (c := i) (h := true) e4 (blk_ne e4 e8 (by decide))
  have e5 := far_ev (a := 0) (b := 5) (c := i) (h := true) e5 (blk_ne e5 e8 (by decide))
  have e6 := far_ev (a := 0) (b := 5) (c := i) (h := true) e6 n68
  have e9 := far_ev (a := 0) (b := 5) (c := i) (h := true) e9 n98
  replace e8 := put_ev (a := 0) (b := 5) (c := i) (h := true) e8
  generalize ((((w2.setCell ⟨B8, 0, none⟩ (.int .i64 0)).setCell ⟨B8, 1, none⟩ (.int .i64 (5))).setCell ⟨B8, 2, none⟩ (.int .i64 (i))).setCell ⟨B8, 3, none⟩ (.bool (true))) = w3 at *
  have x80 := (blk_cell e8 0).trans rfl
  have x81 := (blk_cell e8 1).trans rfl
  have x82 := (blk_cell e8 2).trans rfl
  have x83 := (blk_cell e8 3).trans rfl
  have f80 := blk_frozen e8
  have x0 : w3.cell? ⟨mb, 0, none⟩ = some (.slice (some ⟨g, 0, none⟩) M.cells.length cap) := (blk_cell hM.blk 0).trans rfl
  have hxi := hM.at_cell i hil
  obtain ⟨_, xc, fc, _, _⟩ := hxi
  go_upto_region 46 with go_in
  clear x80 x81 x82 x83 f80 x0 xc fc
  have hT := hT.put hM i (1)
  have e4 := blk_far (p := ⟨g, i, none⟩) e4 (hM.ne_cell e4 (by decide)) (.int .u64 (1))
  have e5 := blk_far (p := ⟨g, i, none⟩) e5 (hM.ne_cell e5 (by decide)) (.int .u64 (1))
  have e6 := blk_far (p := ⟨g, i, none⟩) e6 (hM.ne_cell e6 (by decide)) (.int .u64 (1))
  have e9 := blk_far (p := ⟨g, i, none⟩) e9 (hM.ne_cell e9 (by decide)) (.int .u64 (1))
  have e8 := blk_far (p := ⟨g, i, none⟩) e8 (hM.ne_cell e8 (by decide)) (.int .u64 (1))
  have hM := hM.put i (1)
  have hB := hB.setC (p := ⟨g, i, none⟩) (Or.inr ⟨hgb, Or.inr (Or.inr ⟨Nat.le_trans (Nat.le_of_eq (hM.cells.1 g rfl)) (Nat.zero_le _), hc26.out g rfl⟩)⟩) (.int .u64 (1))
  generalize w3.setCell ⟨g, i, none⟩ (.int .u64 (1)) = w4 at *
  have y1 := t_c1 hT.blk
  have fz1 := blk_frozen hT.blk 1
  have z4 : w4.cell? ⟨B4, 0, none⟩ = some (.pointer (some ⟨b, 0, none⟩)) := (blk_cell e4 0).trans rfl
  go_upto_region 47 with go_in
  have hTn := hT.setAt (at_ + 1)
  have hM := hM.setT hk hT.blk 1 (.int .i64 (at_ + 1)) _ _ _ _ hTn
  have hB := hB.setC (p := ⟨b, 1, none⟩) (Or.inr ⟨hT.le, Or.inr (Or.inl (List.mem_of_getElem? hk))⟩) (.int .i64 (at_ + 1))
  have e6 := blk_far (p := ⟨b, 1, none⟩) e6 (blk_ne e6 hT.blk (by decide)) (.int .i64 (at_ + 1))
  have e9 := blk_far (p := ⟨b, 1, none⟩) e9 (blk_ne e9 hT.blk (by decide)) (.int .i64 (at_ + 1))
  have e8 := blk_far (p := ⟨b, 1, none⟩) e8 (blk_ne e8 hT.blk (by decide)) (.int .i64 (at_ + 1))
  clear y1 fz1 z4 hT hTn
  generalize w4.setCell ⟨b, 1, none⟩ (.int .i64 (at_ + 1)) = wZ at *
  have x80 := (blk_cell e8 0).trans rfl
  have x81 := (blk_cell e8 1).trans rfl
  have x82 := (blk_cell e8 2).trans rfl
  have x83 := (blk_cell e8 3).trans rfl
  have x60 := (blk_cell e6 0).trans rfl
  have x61 := (blk_cell e6 1).trans rfl
  have x62 := (blk_cell e6 2).trans rfl
  have x63 := (blk_cell e6 3).trans rfl
  have f60 : ∀ k, wZ.frozen? ⟨B6, k, none⟩ = false := fun k => by simp [World.frozen?, e6]
  go_wp2
  refine bodyPost_ret (results_c rfl _ _ B6 40 (eArr 0 (5) (i) (true)) (0, 0) _ rfl (put_ev e6) Try.underlying40 rfl (by kernel_rfl)) rfl ?_
  have hF := hM.event (a := 0) (b := 5) (c := i) (h := true) e6
  try simp only [List.set_set] at hF
  try (have hrv2 := hrv.out; subst hrv2)
  try (have hvv2 := hvv.out; subst hvv2)
  try (have hht2 := hht.out; subst hht2)
  exact ⟨rfl, hB.ev hn6, far_ev e9 n96, _, _, fun _ _ => rfl, hF⟩
set_option maxHeartbeats 8000000 in
set_option maxRecDepth 100000 in
theorem do8b.calls (base mb k b : Nat) (col : Nat → Nat) (ts : List Nat) (cv pv cvt wv ov : Value) (M : Mch) (t : Thr) (x : S28) (w : World) (hM : Mach w base mb col ts cv pv M) (hk : ts[k]? = some b) (ht : M.thr[k]? = some t)
    (hT : ThrM w base (fun q => col q = k + 1) b t cvt wv ov) (hbase : base ≤ w.heap.size) (ha : 0 ≤ t.at_ ∧ t.at_ < 1000000) (ge : Nat) (ce : Array Value) (hge : w.heap[ge]? = some (Obj.cells ce 40 (0, 0))) (ho : x.f0 = 8) (hc1 : M.cells.length ≤ 1048576) (hvl : 0 ≤ x.f6 ∧ x.f6 < 18446744073709551616) (i : Nat) (hil : i < M.cells.length) (hwl : t.wr.length ≤ 4194304) (hi : cellS M.cells.length x.f6 0 = (i : Int)) (hfree : ¬ M.cells[i] = 0) :
    Calls Try.prog 31 #[.pointer (some ⟨mb, 0, none⟩), .pointer (some ⟨b, 0, none⟩), .agg #[.int .i64 x.f0, .int .i64 x.f1, .int .i64 x.f2, .int .i64 x.f3, .int .i64 x.f4, .int .i64 x.f5, .int .u64 x.f6, .int .i64 x.f7]] w (DoP w base mb ts col pv k M M.cells t 5 (i : Int) false ge ce) := by
  have hc26 : Aside0 (∀ q, cv.ownBlock = some q → ∃ cs, w.heap[q]? = some (Obj.cells cs 26 (0, 0))) := Aside0.mk (fun q hq => Kd.R_typed hM.cells q hq)
  have ho26 : Aside0 (∀ q, ov.ownBlock = some q → ∃ cs, w.heap[q]? = some (Obj.cells cs 26 (0, 0))) := Aside0.mk (fun q hq => Kd.R_typed hT.out q hq)
  obtain ⟨o, d, tw, a1, b1, c1, vl, tg⟩ := x
  obtain ⟨cds, at_, rs, wr, out, hd⟩ := t
  simp only at *
  subst ho
  have hb := hT.blk
  have hl := hT.len
  simp only at hb hl
  have y1 := t_c1 hb
  have hat : wrap64 (at_ + 1) = at_ + 1 := wrap_in (by omega) (by omega)
  go_enter Try.func31, Try.ntmps31
  go_upto_region 1 with go_in
  have e4 := blk_alloc (blk_alloc (heap_alloc_new w (Obj.cells #[Value.pointer (some ⟨b, 0, none⟩)] 72 (0, 0))) (Obj.cells (#[.int .i64 8, .int .i64 d, .int .i64 tw, .int .i64 a1, .int .i64 b1, .int .i64 c1, .int .u64 vl, .int .i64 tg]) 28 (0, 0))) (Obj.cells #[.int .i64 0, .int .i64 0, .int .i64 0, .bool false] 40 (0, 0))
  have e5 := blk_alloc (heap_alloc_new (w.alloc (Obj.cells #[Value.pointer (some ⟨b, 0, none⟩)] 72 (0, 0))) (Obj.cells (#[.int .i64 8, .int .i64 d, .int .i64 tw, .int .i64 a1, .int .i64 b1, .int .i64 c1, .int .u64 vl, .int .i64 tg]) 28 (0, 0))) (Obj.cells #[.int .i64 0, .int .i64 0, .int .i64 0, .bool false] 40 (0, 0))
  have e6 := heap_alloc_new ((w.alloc (Obj.cells #[Value.pointer (some ⟨b, 0, none⟩)] 72 (0, 0))).alloc (Obj.cells (#[.int .i64 8, .int .i64 d, .int .i64 tw, .int .i64 a1, .int .i64 b1, .int .i64 c1, .int .u64 vl, .int .i64 tg]) 28 (0, 0))) (Obj.cells #[.int .i64 0, .int .i64 0, .int .i64 0, .bool false] 40 (0, 0))
  have e9 := blk_alloc (blk_alloc (blk_alloc hge (Obj.cells #[Value.pointer (some ⟨b, 0, none⟩)] 72 (0, 0))) (Obj.cells (#[.int .i64 8, .int .i64 d, .int .i64 tw, .int .i64 a1, .int .i64 b1, .int .i64 c1, .int .u64 vl, .int .i64 tg]) 28 (0, 0))) (Obj.cells #[.int .i64 0, .int .i64 0, .int .i64 0, .bool false] 40 (0, 0))
  have hbl : Below w.heap.size w (((w.alloc (Obj.cells #[Value.pointer (some ⟨b, 0, none⟩)] 72 (0, 0))).alloc (Obj.cells (#[.int .i64 8, .int .i64 d, .int .i64 tw, .int .i64 a1, .int .i64 b1, .int .i64 c1, .int .u64 vl, .int .i64 tg]) 28 (0, 0))).alloc (Obj.cells #[.int .i64 0, .int .i64 0, .int .i64 0, .bool false] 40 (0, 0))) := below_alloc (below_alloc (below_alloc (Below.refl _ _) _) _) _
  have hM := hM.below hbl
  have hT := hT.below hbl
  have hb := hT.blk
  rw [alloc_sz] at e5
  rw [alloc_sz, alloc_sz] at e6
  generalize (((w.alloc (Obj.cells #[Value.pointer (some ⟨b, 0, none⟩)] 72 (0, 0))).alloc (Obj.cells (#[.int .i64 8, .int .i64 d, .int .i64 tw, .int .i64 a1, .int .i64 b1, .int .i64 c1, .int .u64 vl, .int .i64 tg]) 28 (0, 0))).alloc (Obj.cells #[.int .i64 0, .int .i64 0, .int .i64 0, .bool false] 40 (0, 0))) = w1 at *
  obtain ⟨B4, hB4⟩ : ∃ B, B = w.heap.size := ⟨_, rfl⟩
  obtain ⟨B5, hB5⟩ : ∃ B, B = w.heap.size + 1 := ⟨_, rfl⟩
  obtain ⟨B6, hB6⟩ : ∃ B, B = w.heap.size + 1 + 1 := ⟨_, rfl⟩
  have hg6 : base ≤ B6 := by omega
  have hn6 : w.heap.size ≤ B6 := by omega
  have n96 : ge ≠ B6 := by
    have := blk_lt hge
    omega
  have hB := Keep.of (base := base) (mb := mb) (ts := ts) (col := col) hbl
  rw [← hB6] at e6 ⊢
  rw [← hB5] at e5 ⊢
  rw [← hB4] at e4 ⊢
  clear hB4 hB5 hB6 hbl
  have y1 := t_c1 hb
  have z4 : w1.cell? ⟨B4, 0, none⟩ = some (.pointer (some ⟨b, 0, none⟩)) := (blk_cell e4 0).trans rfl
  go_upto_region 2 with go_in
  have hn1 : w.heap.size ≤ w1.heap.size := hB.size
  have hg8 : base ≤ w1.heap.size := Nat.le_trans hbase (by have := blk_lt e4; have := hB.size; omega)
  have e8 := heap_alloc_new w1 (Obj.cells #[.int .i64 0, .int .i64 6, .int .i64 0, .bool false] 40 (0, 0))
  have hbl : Below w1.heap.size w1 (w1.alloc (Obj.cells #[.int .i64 0, .int .i64 6, .int .i64 0, .bool false] 40 (0, 0))) := below_alloc (Below.refl _ _) _
  have e4 := blk_below e4 hbl
  have e5 := blk_below e5 hbl
  have e6 := blk_below e6 hbl
  have e9 := blk_below e9 hbl
  have hM := hM.below hbl
  have hT := hT.below hbl
  have hb := hT.blk
  have hB := hB.bel hbl
  have hn8 : w.heap.size ≤ w1.heap.size := hn1
  have n68 : B6 ≠ w1.heap.size := Nat.ne_of_lt (blk_lt (show w1.heap[B6]? = _ from by assumption))
  have n98 : ge ≠ w1.heap.size := Nat.ne_of_lt (blk_lt (show w1.heap[ge]? = _ from by assumption))
  clear y1 z4
  generalize w1.alloc (Obj.cells #[.int .i64 0, .int .i64 6, .int .i64 0, .bool false] 40 (0, 0)) = w2 at *
  generalize w1.heap.size = B8 at *
  clear hbl
  have y1 := t_c1 hb
  have z4 : w2.cell? ⟨B4, 0, none⟩ = some (.pointer (some ⟨b, 0, none⟩)) := (blk_cell e4 0).trans rfl
  have z50 : w2.cell? ⟨B5, 0, none⟩ = some (.int .i64 8) := (blk_cell e5 0).trans rfl
  obtain ⟨g, cap, rfl, hgb, hgl, _⟩ := Kd.R_form hM.cells (by omega)
  have hL : 0 < M.cells.length := by omega
  have hxi := hM.at_cell i hil
  obtain ⟨_, xc, fc, _, _⟩ := hxi
  have x0 : w2.cell? ⟨mb, 0, none⟩ = some (.slice (some ⟨g, 0, none⟩) M.cells.length cap) := (blk_cell hM.blk 0).trans rfl
  have lm := blk_lt hM.blk
  have lb := blk_lt hT.blk
  have l4 := blk_lt e4
  have l5 := blk_lt e5
  have hb := hT.blk
  have TC := cell.calls mb (some ⟨g, 0, none⟩) M.cells.length cap pv M.steps vl 0 w2 hM.blk hL hc1 hvl (by omega)
  unfold cellS at hi
  rw [hi] at TC
  have z56 : w2.cell? ⟨B5, 6, none⟩ = some (.int .u64 vl) := (blk_cell e5 6).trans rfl
  go_upto_region 30 with (first
    | (go_at_call 47; refine TC.mono ?_; rintro e w3 ⟨rfl, h3⟩; obtain rfl := h3.symm)
    | go_in)
  clear TC
  have hil2 : (i : Int) < (M.cells.length : Int) := by omega
  have hi02 : (0 : Int) ≤ (i : Int) := by omega
  have hfb : (M.cells[i] == 0) = false := beq_eq_false_iff_ne.mpr hfree
  obtain ⟨cu, hcu⟩ : ∃ cu, cu = M.cells[i] := ⟨_, rfl⟩
  rw [← hcu] at xc hfb
  clear hfree
  replace hcu := Aside0.mk hcu
  have x80 := (blk_cell e8 0).trans rfl
  have x81 := (blk_cell e8 1).trans rfl
  have x82 := (blk_cell e8 2).trans rfl
  have x83 := (blk_cell e8 3).trans rfl
  have f80 := blk_frozen e8
  go_upto_region 31 with go_in
  clear x80 x81 x82 x83 f80 z4 z50 z56 y1 x0 xc fc lm lb l4 l5 hb hfb
  have hM := hM.event (a := 0) (b := 5) (c := i) (h := false) e8
  have hT := hT.event (a := 0) (b := 5) (c := i) (h := false) e8
  have hB := hB.ev (a := 0) (b := 5) (c := i) (x := false) hn8
  have e4 := far_ev (a := 0) (b := 5) (c := i) (h := false) e4 (blk_ne e4 e8 (by decide))
  have e5 := far_ev (a := 0) (b := 5) (c := i) (h := false) e5 (blk_ne e5 e8 (by decide))
  have e6 := far_ev (a := 0) (b := 5) (c := i) (h := false) e6 n68
  have e9 := far_ev (a := 0) (b := 5) (c := i) (h := false) e9 n98
  replace e8 := put_ev (a := 0) (b := 5) (c := i) (h := false) e8
  generalize ((((w2.setCell ⟨B8, 0, none⟩ (.int .i64 0)).setCell ⟨B8, 1, none⟩ (.int .i64 (5))).setCell ⟨B8, 2, none⟩ (.int .i64 (i))).setCell ⟨B8, 3, none⟩ (.bool (false))) = w3 at *
  have x80 := (blk_cell e8 0).trans rfl
  have x81 := (blk_cell e8 1).trans rfl
  have x82 := (blk_cell e8 2).trans rfl
  have x83 := (blk_cell e8 3).trans rfl
  have f80 := blk_frozen e8
  have y1 := t_c1 hT.blk
  have z4 : w3.cell? ⟨B4, 0, none⟩ = some (.pointer (some ⟨b, 0, none⟩)) := (blk_cell e4 0).trans rfl
  go_upto_region 46 with go_in
  clear x80 x81 x82 x83 f80 y1 z4
  have y1 := t_c1 hT.blk
  have fz1 := blk_frozen hT.blk 1
  have z4 : w3.cell? ⟨B4, 0, none⟩ = some (.pointer (some ⟨b, 0, none⟩)) := (blk_cell e4 0).trans rfl
  go_upto_region 47 with go_in
  have hTn := hT.setAt (at_)
  have hM := hM.setT hk hT.blk 1 (.int .i64 (at_)) _ _ _ _ hTn
  have hB := hB.setC (p := ⟨b, 1, none⟩) (Or.inr ⟨hT.le, Or.inr (Or.inl (List.mem_of_getElem? hk))⟩) (.int .i64 (at_))
  have e6 := blk_far (p := ⟨b, 1, none⟩) e6 (blk_ne e6 hT.blk (by decide)) (.int .i64 (at_))
  have e9 := blk_far (p := ⟨b, 1, none⟩) e9 (blk_ne e9 hT.blk (by decide)) (.int .i64 (at_))
  have e8 := blk_far (p := ⟨b, 1, none⟩) e8 (blk_ne e8 hT.blk (by decide)) (.int .i64 (at_))
  clear y1 fz1 z4 hT hTn
  generalize w3.setCell ⟨b, 1, none⟩ (.int .i64 (at_)) = wZ at *
  have x80 := (blk_cell e8 0).trans rfl
  have x81 := (blk_cell e8 1).trans rfl
  have x82 := (blk_cell e8 2).trans rfl
  have x83 := (blk_cell e8 3).trans rfl
  have x60 := (blk_cell e6 0).trans rfl
  have x61 := (blk_cell e6 1).trans rfl
  have x62 := (blk_cell e6 2).trans rfl
  have x63 := (blk_cell e6 3).trans rfl
  have f60 : ∀ k, wZ.frozen? ⟨B6, k, none⟩ = false := fun k => by simp [World.frozen?, e6]
  go_wp2
  refine bodyPost_ret (results_c rfl _ _ B6 40 (eArr 0 (5) (i) (false)) (0, 0) _ rfl (put_ev e6) Try.underlying40 rfl (by kernel_rfl)) rfl ?_
  have hF := hM.event (a := 0) (b := 5) (c := i) (h := false) e6
  try simp only [List.set_set] at hF
  try (have hrv2 := hrv.out; subst hrv2)
  try (have hvv2 := hvv.out; subst hvv2)
  try (have hht2 := hht.out; subst hht2)
  exact ⟨rfl, hB.ev hn6, far_ev e9 n96, _, _, fun _ _ => rfl, hF⟩
set_option maxHeartbeats 8000000 in
set_option maxRecDepth 100000 in
theorem do9.calls (base mb k b : Nat) (col : Nat → Nat) (ts : List Nat) (cv pv cvt wv ov : Value) (M : Mch) (t : Thr) (x : S28) (w : World) (hM : Mach w base mb col ts cv pv M) (hk : ts[k]? = some b) (ht : M.thr[k]? = some t)
    (hT : ThrM w base (fun q => col q = k + 1) b t cvt wv ov) (hbase : base ≤ w.heap.size) (ha : 0 ≤ t.at_ ∧ t.at_ < 1000000) (ge : Nat) (ce : Array Value) (hge : w.heap[ge]? = some (Obj.cells ce 40 (0, 0))) (ho : x.f0 = 9) (hc1 : M.cells.length ≤ 1048576) (hvl : 0 ≤ x.f6 ∧ x.f6 < 18446744073709551616) (i : Nat) (hil : i < M.cells.length) (hwl : t.wr.length ≤ 4194304) (hi : cellS M.cells.length x.f6 0 = (i : Int)) :
    Calls Try.prog 31 #[.pointer (some ⟨mb, 0, none⟩), .pointer (some ⟨b, 0, none⟩), .agg #[.int .i64 x.f0, .int .i64 x.f1, .int .i64 x.f2, .int .i64 x.f3, .int .i64 x.f4, .int .i64 x.f5, .int .u64 x.f6, .int .i64 x.f7]] w (DoP w base mb ts col pv k M M.cells { t with wr := t.wr ++ [⟨(i : Int), 0⟩], at_ := t.at_ + 1 } 3 (i : Int) false ge ce) := by
  have hc26 : Aside0 (∀ q, cv.ownBlock = some q → ∃ cs, w.heap[q]? = some (Obj.cells cs 26 (0, 0))) := Aside0.mk (fun q hq => Kd.R_typed hM.cells q hq)
  have ho26 : Aside0 (∀ q, ov.ownBlock = some q → ∃ cs, w.heap[q]? = some (Obj.cells cs 26 (0, 0))) := Aside0.mk (fun q hq => Kd.R_typed hT.out q hq)
  obtain ⟨o, d, tw, a1, b1, c1, vl, tg⟩ := x
  obtain ⟨cds, at_, rs, wr, out, hd⟩ := t
  simp only at *
  subst ho
  have hb := hT.blk
  have hl := hT.len
  simp only at hb hl
  have y1 := t_c1 hb
  have hat : wrap64 (at_ + 1) = at_ + 1 := wrap_in (by omega) (by omega)
  go_enter Try.func31, Try.ntmps31
  go_upto_region 1 with go_in
  have e4 := blk_alloc (blk_alloc (heap_alloc_new w (Obj.cells #[Value.pointer (some ⟨b, 0, none⟩)] 72 (0, 0))) (Obj.cells (#[.int .i64 9, .int .i64 d, .int .i64 tw, .int .i64 a1, .int .i64 b1, .int .i64 c1, .int .u64 vl, .int .i64 tg]) 28 (0, 0))) (Obj.cells #[.int .i64 0, .int .i64 0, .int .i64 0, .bool false] 40 (0, 0))
  have e5 := blk_alloc (heap_alloc_new (w.alloc (Obj.cells #[Value.pointer (some ⟨b, 0, none⟩)] 72 (0, 0))) (Obj.cells (#[.int .i64 9, .int .i64 d, .int .i64 tw, .int .i64 a1, .int .i64 b1, .int .i64 c1, .int .u64 vl, .int .i64 tg]) 28 (0, 0))) (Obj.cells #[.int .i64 0, .int .i64 0, .int .i64 0, .bool false] 40 (0, 0))
  have e6 := heap_alloc_new ((w.alloc (Obj.cells #[Value.pointer (some ⟨b, 0, none⟩)] 72 (0, 0))).alloc (Obj.cells (#[.int .i64 9, .int .i64 d, .int .i64 tw, .int .i64 a1, .int .i64 b1, .int .i64 c1, .int .u64 vl, .int .i64 tg]) 28 (0, 0))) (Obj.cells #[.int .i64 0, .int .i64 0, .int .i64 0, .bool false] 40 (0, 0))
  have e9 := blk_alloc (blk_alloc (blk_alloc hge (Obj.cells #[Value.pointer (some ⟨b, 0, none⟩)] 72 (0, 0))) (Obj.cells (#[.int .i64 9, .int .i64 d, .int .i64 tw, .int .i64 a1, .int .i64 b1, .int .i64 c1, .int .u64 vl, .int .i64 tg]) 28 (0, 0))) (Obj.cells #[.int .i64 0, .int .i64 0, .int .i64 0, .bool false] 40 (0, 0))
  have hbl : Below w.heap.size w (((w.alloc (Obj.cells #[Value.pointer (some ⟨b, 0, none⟩)] 72 (0, 0))).alloc (Obj.cells (#[.int .i64 9, .int .i64 d, .int .i64 tw, .int .i64 a1, .int .i64 b1, .int .i64 c1, .int .u64 vl, .int .i64 tg]) 28 (0, 0))).alloc (Obj.cells #[.int .i64 0, .int .i64 0, .int .i64 0, .bool false] 40 (0, 0))) := below_alloc (below_alloc (below_alloc (Below.refl _ _) _) _) _
  have hM := hM.below hbl
  have hT := hT.below hbl
  have hb := hT.blk
  rw [alloc_sz] at e5
  rw [alloc_sz, alloc_sz] at e6
  generalize (((w.alloc (Obj.cells #[Value.pointer (some ⟨b, 0, none⟩)] 72 (0, 0))).alloc (Obj.cells (#[.int .i64 9, .int .i64 d, .int .i64 tw, .int .i64 a1, .int .i64 b1, .int .i64 c1, .int .u64 vl, .int .i64 tg]) 28 (0, 0))).alloc (Obj.cells #[.int .i64 0, .int .i64 0, .int .i64 0, .bool false] 40 (0, 0))) = w1 at *
  obtain ⟨B4, hB4⟩ : ∃ B, B = w.heap.size := ⟨_, rfl⟩
  obtain ⟨B5, hB5⟩ : ∃ B, B = w.heap.size + 1 := ⟨_, rfl⟩
  obtain ⟨B6, hB6⟩ : ∃ B, B = w.heap.size + 1 + 1 := ⟨_, rfl⟩
  have hg6 : base ≤ B6 := by omega
  have hn6 : w.heap.size ≤ B6 := by omega
  have n96 : ge ≠ B6 := by
    have := blk_lt hge
    omega
  have hB := Keep.of (base := base) (mb := mb) (ts := ts) (col := col) hbl
  rw [← hB6] at e6 ⊢
  rw [← hB5] at e5 ⊢
  rw [← hB4] at e4 ⊢
  clear hB4 hB5 hB6 hbl
  have y1 := t_c1 hb
  have z4 : w1.cell? ⟨B4, 0, none⟩ = some (.pointer (some ⟨b, 0, none⟩)) := (blk_cell e4 0).trans rfl
  go_upto_region 2 with go_in
  have hn1 : w.heap.size ≤ w1.heap.size := hB.size
  have hg8 : base ≤ w1.heap.size := Nat.le_trans hbase (by have := blk_lt e4; have := hB.size; omega)
  have e8 := heap_alloc_new w1 (Obj.cells #[.int .i64 0, .int .i64 6, .int .i64 0, .bool false] 40 (0, 0))
  have hbl : Below w1.heap.size w1 (w1.alloc (Obj.cells #[.int .i64 0, .int .i64 6, .int .i64 0, .bool false] 40 (0, 0))) := below_alloc (Below.refl _ _) _
  have e4 := blk_below e4 hbl
  have e5 := blk_below e5 hbl
  have e6 := blk_below e6 hbl
  have e9 := blk_below e9 hbl
  have hM := hM.below hbl
  have hT := hT.below hbl
  have hb := hT.blk
  have hB := hB.bel hbl
  have hn8 : w.heap.size ≤ w1.heap.size := hn1
  have n68 : B6 ≠ w1.heap.size := Nat.ne_of_lt (blk_lt (show w1.heap[B6]? = _ from by assumption))
  have n98 : ge ≠ w1.heap.size := Nat.ne_of_lt (blk_lt (show w1.heap[ge]? = _ from by assumption))
  clear y1 z4
  generalize w1.alloc (Obj.cells #[.int .i64 0, .int .i64 6, .int .i64 0, .bool false] 40 (0, 0)) = w2 at *
  generalize w1.heap.size = B8 at *
  clear hbl
  have y1 := t_c1 hb
  have z4 : w2.cell? ⟨B4, 0, none⟩ = some (.pointer (some ⟨b, 0, none⟩)) := (blk_cell e4 0).trans rfl
  have z50 : w2.cell? ⟨B5, 0, none⟩ = some (.int .i64 9) := (blk_cell e5 0).trans rfl
  obtain ⟨g, cap, rfl, hgb, hgl, _⟩ := Kd.R_form hM.cells (by omega)
  have hL : 0 < M.cells.length := by omega
  have hxi := hM.at_cell i hil
  obtain ⟨_, xc, fc, _, _⟩ := hxi
  have x0 : w2.cell? ⟨mb, 0, none⟩ = some (.slice (some ⟨g, 0, none⟩) M.cells.length cap) := (blk_cell hM.blk 0).trans rfl
  have lm := blk_lt hM.blk
  have lb := blk_lt hT.blk
  have l4 := blk_lt e4
  have l5 := blk_lt e5
  have hb := hT.blk
  have TC := cell.calls mb (some ⟨g, 0, none⟩) M.cells.length cap pv M.steps vl 0 w2 hM.blk hL hc1 hvl (by omega)
  unfold cellS at hi
  rw [hi] at TC
  have z56 : w2.cell? ⟨B5, 6, none⟩ = some (.int .u64 vl) := (blk_cell e5 6).trans rfl
  go_upto_region 36 with (first
    | (go_at_call 47; refine TC.mono ?_; rintro e w3 ⟨rfl, h3⟩; obtain rfl := h3.symm)
    | go_in)
  clear TC x0 xc fc
  obtain ⟨Aw, cw, rfl, hcw, hCw⟩ := Kd.R_reads hT.wr
  have hb := hT.blk
  have x10 := t_c10 hb hl
  have lb := blk_lt hb
  have l4 := blk_lt e4
  have l5 := blk_lt e5
  have hbw : base ≤ w2.heap.size := Nat.le_trans hgb (Nat.le_of_lt (Kd.R_lt hM.cells g rfl))
  refine start_ (n := 10) (S := fun w' => Below w2.heap.size w2 w') (ds := [9]) #[false, false, false, false, false, false, false, false, false, false] (by kernel_rfl) rfl rfl (below_drew (Below.refl _ _)) (fun hHeld => ?_); refine with_tabW do31.tab36 do31.bits36 (fun HT_ HW_ => ?_)
  refine take_ (i := 0) (N := some 171) (v := ?_) (a' := ?_) #[true, false, false, false, false, false, false, false, false, false] rfl rfl (take_ofW HT_.out HW_.out (by kernel_rfl)) (fun _ _ _ h => h) (Or.inl ⟨by first | rfl | kernel_rfl, ?_⟩) hHeld ?_ ?_
  rotate_left
  · intro w' s0
    have zc := (s0.cell (by exact l4)).trans z4
    go_simp
    with_reducible rfl
  rotate_left
  · simp only [Act.put, List.setIfInBounds_toArray, List.set_cons_zero, List.set_cons_succ, i64_w, i32_w]
    rfl
  refine take_ (i := 1) (N := some 172) (v := ?_) (a' := ?_) #[true, true, false, false, false, false, false, false, false, false] rfl rfl (take_ofW HT_.out HW_.out (by kernel_rfl)) (fun _ _ _ h => h) (Or.inl ⟨by first | rfl | kernel_rfl, ?_⟩) hHeld ?_ ?_
  rotate_left
  · intro w' s0
    have zc := (s0.cell (by exact l4)).trans z4
    go_simp
    with_reducible rfl
  rotate_left
  · simp only [Act.put, List.setIfInBounds_toArray, List.set_cons_zero, List.set_cons_succ, i64_w, i32_w]
    rfl
  refine pure_ (i := 2) (N := some 173) (v := ?_) (a' := ?_) #[true, true, true, false, false, false, false, false, false, false] rfl rfl (any_of HT_.out (by kernel_rfl)) (fun _ _ _ h => h) (Or.inl ⟨by first | rfl | kernel_rfl, ?_⟩) ?_ ?_
  rotate_left
  · intro w'
    go_simp
    with_reducible rfl
  rotate_left
  · simp only [Act.put, List.setIfInBounds_toArray, List.set_cons_zero, List.set_cons_succ, i64_w, i32_w]
    rfl
  refine pure_ (i := 3) (N := some 174) (v := ?_) (a' := ?_) #[true, true, true, true, false, false, false, false, false, false] rfl rfl (any_of HT_.out (by kernel_rfl)) (fun _ _ _ h => h) (Or.inl ⟨by first | rfl | kernel_rfl, ?_⟩) ?_ ?_
  rotate_left
  · intro w'
    go_simp
    with_reducible rfl
  rotate_left
  · simp only [Act.put, List.setIfInBounds_toArray, List.set_cons_zero, List.set_cons_succ, i64_w, i32_w]
    rfl
  refine take_ (i := 4) (N := some 175) (v := ?_) (a' := ?_) #[true, true, true, true, true, false, false, false, false, false] rfl rfl (take_ofW HT_.out HW_.out (by kernel_rfl)) (fun _ _ _ h => h) (Or.inl ⟨by first | rfl | kernel_rfl, ?_⟩) hHeld ?_ ?_
  rotate_left
  · intro w' s0
    have zc := (s0.cell (by exact lb)).trans x10
    go_simp
    with_reducible rfl
  rotate_left
  · simp only [Act.put, List.setIfInBounds_toArray, List.set_cons_zero, List.set_cons_succ, i64_w, i32_w]
    rfl
  refine pure_ (i := 5) (N := some 176) (v := ?_) (a' := ?_) #[true, true, true, true, true, true, false, false, false, false] rfl rfl (any_of HT_.out (by kernel_rfl)) (fun _ _ _ h => h) (Or.inl ⟨by first | rfl | kernel_rfl, ?_⟩) ?_ ?_
  rotate_left
  · intro w'
    go_simp
    with_reducible rfl
  rotate_left
  · simp only [Act.put, List.setIfInBounds_toArray, List.set_cons_zero, List.set_cons_succ, i64_w, i32_w]
    rfl
  refine one_ (i := 6) (N := some 177) #[true, true, true, true, true, true, true, false, false, false] rfl rfl (one_of HT_.out (by kernel_rfl)) (by decide) (fun K hK => ?_)
  refine goes_ Try.func49 (by kernel_rfl) rfl #[.slice Aw wr.length cw, .int .i64 (i : Int), .int .u64 0] (by first | rfl | kernel_rfl) rfl rfl (by (try simp only [List.map_toArray, List.map_cons, List.map_nil]); first | done | rfl) ?_
  refine (push.calls Aw cw wr (i : Int) 0 _ (Kd.C_below hCw hHeld) hcw (by omega)).mono ?_
  rintro e w8 ⟨vP, rfl, hP, hb8⟩
  have hP := Kd.R_lower hP (Nat.le_trans hbw hHeld.size)
  obtain ⟨AP, cP, hvP⟩ := Kd.R_slice hP
  generalize hnP : (wr ++ [(⟨(i : Int), 0⟩ : S82)]).length = nP at hvP
  subst hvP
  replace hnP := Aside0.mk hnP
  have hHeld := hHeld.trans (hb8.mono hHeld.size)
  refine ⟨_, rfl, hK.out _ _ hHeld (fun hHeld => ?_)⟩
  clear hK K
  refine norm_ (a' := ?_) ?_ ?_
  rotate_left
  · show Act.put _ (some 177) _ = _
    simp only [Act.put, List.setIfInBounds_toArray, List.set_cons_zero, List.set_cons_succ, i64_w, i32_w]
    rfl
  refine pure_ (i := 7) (N := some 178) (v := ?_) (a' := ?_) #[true, true, true, true, true, true, true, true, false, false] rfl rfl (any_of HT_.out (by kernel_rfl)) (fun _ _ _ h => h) (Or.inl ⟨by first | rfl | kernel_rfl, ?_⟩) ?_ ?_
  rotate_left
  · intro w'
    go_simp
    with_reducible rfl
  rotate_left
  · simp only [Act.put, List.setIfInBounds_toArray, List.set_cons_zero, List.set_cons_succ, i64_w, i32_w]
    rfl
  refine pure_ (i := 8) (N := some 179) (v := ?_) (a' := ?_) #[true, true, true, true, true, true, true, true, true, false] rfl rfl (any_of HT_.out (by kernel_rfl)) (fun _ _ _ h => h) (Or.inl ⟨by first | rfl | kernel_rfl, ?_⟩) ?_ ?_
  rotate_left
  · intro w'
    go_simp
    with_reducible rfl
  rotate_left
  · simp only [Act.put, List.setIfInBounds_toArray, List.set_cons_zero, List.set_cons_succ, i64_w, i32_w]
    rfl
  refine last_ (i := 9) (N := none) #[true, true, true, true, true, true, true, true, true, true] rfl rfl (one_of HT_.out (by kernel_rfl)) (by decide) (fun K hK => ?_)
  have hb9 := blk_below hb hHeld
  have x10 := t_c10 hb9 hl
  have f10 := blk_frozen hb9 10
  refine skip_ (w1 := World.setCell w8 ⟨b, 10, none⟩ (.slice AP nP cP)) (by first | rfl | kernel_rfl) rfl ?_ ?_
  · go_simp
  refine hK.out _ _ ?_
  clear hK K x10 f10 hb9
  refine done_ (done_of HT_.out (by kernel_rfl)) ?_
  clear HT_ HW_
  clear z4 z50 z56 y1 x10 lb l4 l5 hCw hb
  have e4 := blk_below e4 hHeld
  have e5 := blk_below e5 hHeld
  have e6 := blk_below e6 hHeld
  have e9 := blk_below e9 hHeld
  have e8 := blk_below e8 hHeld
  have hM := hM.below hHeld
  have hT := hT.below hHeld
  have hB := hB.bel hHeld
  have hTn := hT.setWr hP
  have hM := hM.setT hk hT.blk 10 (.slice AP nP cP) _ _ _ _ hTn
  have hB := hB.setC (p := ⟨b, 10, none⟩) (Or.inr ⟨hT.le, Or.inr (Or.inl (List.mem_of_getElem? hk))⟩) (.slice AP nP cP)
  have e4 := blk_far (p := ⟨b, 10, none⟩) e4 (blk_ne e4 hT.blk (by decide)) (.slice AP nP cP)
  have e5 := blk_far (p := ⟨b, 10, none⟩) e5 (blk_ne e5 hT.blk (by decide)) (.slice AP nP cP)
  have e6 := blk_far (p := ⟨b, 10, none⟩) e6 (blk_ne e6 hT.blk (by decide)) (.slice AP nP cP)
  have e9 := blk_far (p := ⟨b, 10, none⟩) e9 (blk_ne e9 hT.blk (by decide)) (.slice AP nP cP)
  have e8 := blk_far (p := ⟨b, 10, none⟩) e8 (blk_ne e8 hT.blk (by decide)) (.slice AP nP cP)
  replace hT := hTn
  clear hTn
  generalize w8.setCell ⟨b, 10, none⟩ (.slice AP nP cP) = w9 at *
  have x80 := (blk_cell e8 0).trans rfl
  have x81 := (blk_cell e8 1).trans rfl
  have x82 := (blk_cell e8 2).trans rfl
  have x83 := (blk_cell e8 3).trans rfl
  have f80 := blk_frozen e8
  go_upto_region 46 with go_in
  clear x80 x81 x82 x83 f80
  have hM := hM.event (a := 0) (b := 3) (c := i) (h := false) e8
  have hT := hT.event (a := 0) (b := 3) (c := i) (h := false) e8
  have hB := hB.ev (a := 0) (b := 3) (c := i) (x := false) hn8
  have e4 := far_ev (a := 0) (b := 3) (c := i) (h := false) e4 (blk_ne e4 e8 (by decide))
  have e5 := far_ev (a := 0) (b := 3) (c := i) (h := false) e5 (blk_ne e5 e8 (by decide))
  have e6 := far_ev (a := 0) (b := 3) (c := i) (h := false) e6 n68
  have e9 := far_ev (a := 0) (b := 3) (c := i) (h := false) e9 n98
  replace e8 := put_ev (a := 0) (b := 3) (c := i) (h := false) e8
  generalize ((((w9.setCell ⟨B8, 0, none⟩ (.int .i64 0)).setCell ⟨B8, 1, none⟩ (.int .i64 (3))).setCell ⟨B8, 2, none⟩ (.int .i64 (i))).setCell ⟨B8, 3, none⟩ (.bool (false))) = wA at *
  have y1 := t_c1 hT.blk
  have fz1 := blk_frozen hT.blk 1
  have z4 : wA.cell? ⟨B4, 0, none⟩ = some (.pointer (some ⟨b, 0, none⟩)) := (blk_cell e4 0).trans rfl
  go_upto_region 47 with go_in
  have hTn := hT.setAt (at_ + 1)
  have hM := hM.setT hk hT.blk 1 (.int .i64 (at_ + 1)) _ _ _ _ hTn
  have hB := hB.setC (p := ⟨b, 1, none⟩) (Or.inr ⟨hT.le, Or.inr (Or.inl (List.mem_of_getElem? hk))⟩) (.int .i64 (at_ + 1))
  have e6 := blk_far (p := ⟨b, 1, none⟩) e6 (blk_ne e6 hT.blk (by decide)) (.int .i64 (at_ + 1))
  have e9 := blk_far (p := ⟨b, 1, none⟩) e9 (blk_ne e9 hT.blk (by decide)) (.int .i64 (at_ + 1))
  have e8 := blk_far (p := ⟨b, 1, none⟩) e8 (blk_ne e8 hT.blk (by decide)) (.int .i64 (at_ + 1))
  clear y1 fz1 z4 hT hTn
  generalize wA.setCell ⟨b, 1, none⟩ (.int .i64 (at_ + 1)) = wZ at *
  have x80 := (blk_cell e8 0).trans rfl
  have x81 := (blk_cell e8 1).trans rfl
  have x82 := (blk_cell e8 2).trans rfl
  have x83 := (blk_cell e8 3).trans rfl
  have x60 := (blk_cell e6 0).trans rfl
  have x61 := (blk_cell e6 1).trans rfl
  have x62 := (blk_cell e6 2).trans rfl
  have x63 := (blk_cell e6 3).trans rfl
  have f60 : ∀ k, wZ.frozen? ⟨B6, k, none⟩ = false := fun k => by simp [World.frozen?, e6]
  go_wp2
  refine bodyPost_ret (results_c rfl _ _ B6 40 (eArr 0 (3) (i) (false)) (0, 0) _ rfl (put_ev e6) Try.underlying40 rfl (by kernel_rfl)) rfl ?_
  have hF := hM.event (a := 0) (b := 3) (c := i) (h := false) e6
  try simp only [List.set_set] at hF
  try (have hrv2 := hrv.out; subst hrv2)
  try (have hvv2 := hvv.out; subst hvv2)
  try (have hht2 := hht.out; subst hht2)
  exact ⟨rfl, hB.ev hn6, far_ev e9 n96, _, _, fun _ _ => rfl, hF⟩
set_option maxHeartbeats 8000000 in
set_option maxRecDepth 100000 in
theorem do5.calls (base mb k b : Nat) (col : Nat → Nat) (ts : List Nat) (cv pv cvt wv ov : Value) (M : Mch) (t : Thr) (x : S28) (w : World) (hM : Mach w base mb col ts cv pv M) (hk : ts[k]? = some b) (ht : M.thr[k]? = some t)
    (hT : ThrM w base (fun q => col q = k + 1) b t cvt wv ov) (hbase : base ≤ w.heap.size) (ha : 0 ≤ t.at_ ∧ t.at_ < 1000000) (ge : Nat) (ce : Array Value) (hge : w.heap[ge]? = some (Obj.cells ce 40 (0, 0))) (ho : x.f0 = 5) (hc1 : M.cells.length ≤ 1048576) (hvl : 0 ≤ x.f6 ∧ x.f6 < 18446744073709551616) (hrr : 0 ≤ regS t.rs x.f3 ∧ regS t.rs x.f3 < 18446744073709551616) (i : Nat) (hil : i < M.cells.length) (hwl : t.wr.length ≤ 4194304) (hi : cellS M.cells.length x.f6 (regS t.rs x.f3) = (i : Int)) :
    Calls Try.prog 31 #[.pointer (some ⟨mb, 0, none⟩), .pointer (some ⟨b, 0, none⟩), .agg #[.int .i64 x.f0, .int .i64 x.f1, .int .i64 x.f2, .int .i64 x.f3, .int .i64 x.f4, .int .i64 x.f5, .int .u64 x.f6, .int .i64 x.f7]] w (DoP w base mb ts col pv k M M.cells { t with wr := t.wr ++ [⟨(i : Int), regS t.rs x.f4⟩], at_ := t.at_ + 1 } 3 (i : Int) false ge ce) := by
  have hc26 : Aside0 (∀ q, cv.ownBlock = some q → ∃ cs, w.heap[q]? = some (Obj.cells cs 26 (0, 0))) := Aside0.mk (fun q hq => Kd.R_typed hM.cells q hq)
  have ho26 : Aside0 (∀ q, ov.ownBlock = some q → ∃ cs, w.heap[q]? = some (Obj.cells cs 26 (0, 0))) := Aside0.mk (fun q hq => Kd.R_typed hT.out q hq)
  obtain ⟨o, d, tw, a1, b1, c1, vl, tg⟩ := x
  obtain ⟨cds, at_, rs, wr, out, hd⟩ := t
  simp only at *
  subst ho
  have hb := hT.blk
  have hl := hT.len
  simp only at hb hl
  have y1 := t_c1 hb
  have hat : wrap64 (at_ + 1) = at_ + 1 := wrap_in (by omega) (by omega)
  go_enter Try.func31, Try.ntmps31
  go_upto_region 1 with go_in
  have e4 := blk_alloc (blk_alloc (heap_alloc_new w (Obj.cells #[Value.pointer (some ⟨b, 0, none⟩)] 72 (0, 0))) (Obj.cells (#[.int .i64 5, .int .i64 d, .int .i64 tw, .int .i64 a1, .int .i64 b1, .int .i64 c1, .int .u64 vl, .int .i64 tg]) 28 (0, 0))) (Obj.cells #[.int .i64 0, .int .i64 0, .int .i64 0, .bool false] 40 (0, 0))
  have e5 := blk_alloc (heap_alloc_new (w.alloc (Obj.cells #[Value.pointer (some ⟨b, 0, none⟩)] 72 (0, 0))) (Obj.cells (#[.int .i64 5, .int .i64 d, .int .i64 tw, .int .i64 a1, .int .i64 b1, .int .i64 c1, .int .u64 vl, .int .i64 tg]) 28 (0, 0))) (Obj.cells #[.int .i64 0, .int .i64 0, .int .i64 0, .bool false] 40 (0, 0))
  have e6 := heap_alloc_new ((w.alloc (Obj.cells #[Value.pointer (some ⟨b, 0, none⟩)] 72 (0, 0))).alloc (Obj.cells (#[.int .i64 5, .int .i64 d, .int .i64 tw, .int .i64 a1, .int .i64 b1, .int .i64 c1, .int .u64 vl, .int .i64 tg]) 28 (0, 0))) (Obj.cells #[.int .i64 0, .int .i64 0, .int .i64 0, .bool false] 40 (0, 0))
  have e9 := blk_alloc (blk_alloc (blk_alloc hge (Obj.cells #[Value.pointer (some ⟨b, 0, none⟩)] 72 (0, 0))) (Obj.cells (#[.int .i64 5, .int .i64 d, .int .i64 tw, .int .i64 a1, .int .i64 b1, .int .i64 c1, .int .u64 vl, .int .i64 tg]) 28 (0, 0))) (Obj.cells #[.int .i64 0, .int .i64 0, .int .i64 0, .bool false] 40 (0, 0))
  have hbl : Below w.heap.size w (((w.alloc (Obj.cells #[Value.pointer (some ⟨b, 0, none⟩)] 72 (0, 0))).alloc (Obj.cells (#[.int .i64 5, .int .i64 d, .int .i64 tw, .int .i64 a1, .int .i64 b1, .int .i64 c1, .int .u64 vl, .int .i64 tg]) 28 (0, 0))).alloc (Obj.cells #[.int .i64 0, .int .i64 0, .int .i64 0, .bool false] 40 (0, 0))) := below_alloc (below_alloc (below_alloc (Below.refl _ _) _) _) _
  have hM := hM.below hbl
  have hT := hT.below hbl
  have hb := hT.blk
  rw [alloc_sz] at e5
  rw [alloc_sz, alloc_sz] at e6
  generalize (((w.alloc (Obj.cells #[Value.pointer (some ⟨b, 0, none⟩)] 72 (0, 0))).alloc (Obj.cells (#[.int .i64 5, .int .i64 d, .int .i64 tw, .int .i64 a1, .int .i64 b1, .int .i64 c1, .int .u64 vl, .int .i64 tg]) 28 (0, 0))).alloc (Obj.cells #[.int .i64 0, .int .i64 0, .int .i64 0, .bool false] 40 (0, 0))) = w1 at *
  obtain ⟨B4, hB4⟩ : ∃ B, B = w.heap.size := ⟨_, rfl⟩
  obtain ⟨B5, hB5⟩ : ∃ B, B = w.heap.size + 1 := ⟨_, rfl⟩
  obtain ⟨B6, hB6⟩ : ∃ B, B = w.heap.size + 1 + 1 := ⟨_, rfl⟩
  have hg6 : base ≤ B6 := by omega
  have hn6 : w.heap.size ≤ B6 := by omega
  have n96 : ge ≠ B6 := by
    have := blk_lt hge
    omega
  have hB := Keep.of (base := base) (mb := mb) (ts := ts) (col := col) hbl
  rw [← hB6] at e6 ⊢
  rw [← hB5] at e5 ⊢
  rw [← hB4] at e4 ⊢
  clear hB4 hB5 hB6 hbl
  have y1 := t_c1 hb
  have z4 : w1.cell? ⟨B4, 0, none⟩ = some (.pointer (some ⟨b, 0, none⟩)) := (blk_cell e4 0).trans rfl
  go_upto_region 2 with go_in
  have hn1 : w.heap.size ≤ w1.heap.size := hB.size
  have hg8 : base ≤ w1.heap.size := Nat.le_trans hbase (by have := blk_lt e4; have := hB.size; omega)
  have e8 := heap_alloc_new w1 (Obj.cells #[.int .i64 0, .int .i64 6, .int .i64 0, .bool false] 40 (0, 0))
  have hbl : Below w1.heap.size w1 (w1.alloc (Obj.cells #[.int .i64 0, .int .i64 6, .int .i64 0, .bool false] 40 (0, 0))) := below_alloc (Below.refl _ _) _
  have e4 := blk_below e4 hbl
  have e5 := blk_below e5 hbl
  have e6 := blk_below e6 hbl
  have e9 := blk_below e9 hbl
  have hM := hM.below hbl
  have hT := hT.below hbl
  have hb := hT.blk
  have hB := hB.bel hbl
  have hn8 : w.heap.size ≤ w1.heap.size := hn1
  have n68 : B6 ≠ w1.heap.size := Nat.ne_of_lt (blk_lt (show w1.heap[B6]? = _ from by assumption))
  have n98 : ge ≠ w1.heap.size := Nat.ne_of_lt (blk_lt (show w1.heap[ge]? = _ from by assumption))
  clear y1 z4
  generalize w1.alloc (Obj.cells #[.int .i64 0, .int .i64 6, .int .i64 0, .bool false] 40 (0, 0)) = w2 at *
  generalize w1.heap.size = B8 at *
  clear hbl
  have y1 := t_c1 hb
  have z4 : w2.cell? ⟨B4, 0, none⟩ = some (.pointer (some ⟨b, 0, none⟩)) := (blk_cell e4 0).trans rfl
  have z50 : w2.cell? ⟨B5, 0, none⟩ = some (.int .i64 5) := (blk_cell e5 0).trans rfl
  obtain ⟨g, cap, rfl, hgb, hgl, _⟩ := Kd.R_form hM.cells (by omega)
  have hL : 0 < M.cells.length := by omega
  have hxi := hM.at_cell i hil
  obtain ⟨_, xc, fc, _, _⟩ := hxi
  have x0 : w2.cell? ⟨mb, 0, none⟩ = some (.slice (some ⟨g, 0, none⟩) M.cells.length cap) := (blk_cell hM.blk 0).trans rfl
  have lm := blk_lt hM.blk
  have lb := blk_lt hT.blk
  have l4 := blk_lt e4
  have l5 := blk_lt e5
  have hb := hT.blk
  have TR := fun wx (hx : TBlk wx b cvt at_ rs wv ov hd) => reg.calls b cvt wv ov at_ rs hd a1 wx hl hx
  have z53 : w2.cell? ⟨B5, 3, none⟩ = some (.int .i64 a1) := (blk_cell e5 3).trans rfl
  have z56 : w2.cell? ⟨B5, 6, none⟩ = some (.int .u64 vl) := (blk_cell e5 6).trans rfl
  unfold cellS at hi
  go_upto_region 18 with go_in
  refine start_ (n := 9) (S := fun w' => Below w2.heap.size w2 w') (ds := []) #[false, false, false, false, false, false, false, false, false] (by kernel_rfl) rfl rfl (below_drew (Below.refl _ _)) (fun hHeld => ?_); refine with_tabW do31.tab18 do31.bits18 (fun HT_ HW_ => ?_)
  refine pure_ (i := 0) (N := some 97) (v := ?_) (a' := ?_) #[true, false, false, false, false, false, false, false, false] rfl rfl (any_of HT_.out (by kernel_rfl)) (fun _ _ _ h => h) (Or.inl ⟨by first | rfl | kernel_rfl, ?_⟩) ?_ ?_
  rotate_left
  · intro w'
    go_simp
    with_reducible rfl
  rotate_left
  · simp only [Act.put, List.setIfInBounds_toArray, List.set_cons_zero, List.set_cons_succ, i64_w, i32_w]
    rfl
  refine pure_ (i := 1) (N := some 98) (v := ?_) (a' := ?_) #[true, true, false, false, false, false, false, false, false] rfl rfl (any_of HT_.out (by kernel_rfl)) (fun _ _ _ h => h) (Or.inl ⟨by first | rfl | kernel_rfl, ?_⟩) ?_ ?_
  rotate_left
  · intro w'
    go_simp
    with_reducible rfl
  rotate_left
  · simp only [Act.put, List.setIfInBounds_toArray, List.set_cons_zero, List.set_cons_succ, i64_w, i32_w]
    rfl
  refine take_ (i := 2) (N := some 99) (v := ?_) (a' := ?_) #[true, true, true, false, false, false, false, false, false] rfl rfl (take_ofW HT_.out HW_.out (by kernel_rfl)) (fun _ _ _ h => h) (Or.inl ⟨by first | rfl | kernel_rfl, ?_⟩) hHeld ?_ ?_
  rotate_left
  · intro w' s0
    have zc := (s0.cell (by exact l5)).trans z56
    go_simp
    with_reducible rfl
  rotate_left
  · simp only [Act.put, List.setIfInBounds_toArray, List.set_cons_zero, List.set_cons_succ, i64_w, i32_w]
    rfl
  refine take_ (i := 3) (N := some 100) (v := ?_) (a' := ?_) #[true, true, true, true, false, false, false, false, false] rfl rfl (take_ofW HT_.out HW_.out (by kernel_rfl)) (fun _ _ _ h => h) (Or.inl ⟨by first | rfl | kernel_rfl, ?_⟩) hHeld ?_ ?_
  rotate_left
  · intro w' s0
    have zc := (s0.cell (by exact l4)).trans z4
    go_simp
    with_reducible rfl
  rotate_left
  · simp only [Act.put, List.setIfInBounds_toArray, List.set_cons_zero, List.set_cons_succ, i64_w, i32_w]
    rfl
  refine pure_ (i := 4) (N := some 101) (v := ?_) (a' := ?_) #[true, true, true, true, true, false, false, false, false] rfl rfl (any_of HT_.out (by kernel_rfl)) (fun _ _ _ h => h) (Or.inl ⟨by first | rfl | kernel_rfl, ?_⟩) ?_ ?_
  rotate_left
  · intro w'
    go_simp
    with_reducible rfl
  rotate_left
  · simp only [Act.put, List.setIfInBounds_toArray, List.set_cons_zero, List.set_cons_succ, i64_w, i32_w]
    rfl
  refine take_ (i := 5) (N := some 102) (v := ?_) (a' := ?_) #[true, true, true, true, true, true, false, false, false] rfl rfl (take_ofW HT_.out HW_.out (by kernel_rfl)) (fun _ _ _ h => h) (Or.inl ⟨by first | rfl | kernel_rfl, ?_⟩) hHeld ?_ ?_
  rotate_left
  · intro w' s0
    have zc := (s0.cell (by exact l5)).trans z53
    go_simp
    with_reducible rfl
  rotate_left
  · simp only [Act.put, List.setIfInBounds_toArray, List.set_cons_zero, List.set_cons_succ, i64_w, i32_w]
    rfl
  refine one_ (i := 6) (N := some 103) #[true, true, true, true, true, true, true, false, false] rfl rfl (one_of HT_.out (by kernel_rfl)) (by decide) (fun K hK => ?_)
  refine goes_ Try.func46 (by kernel_rfl) rfl #[.pointer (some ⟨b, 0, none⟩), .int .i64 a1] (by first | rfl | kernel_rfl) rfl rfl (by (try simp only [List.map_toArray, List.map_cons, List.map_nil]); first | done | rfl) ?_
  refine (TR _ (blk_below hb hHeld)).mono ?_
  rintro e w8 ⟨rfl, h8⟩
  subst h8
  refine ⟨_, rfl, hK.out _ _ hHeld (fun hHeld => ?_)⟩
  clear hK K
  refine norm_ (a' := ?_) ?_ ?_
  rotate_left
  · show Act.put _ (some 103) _ = _
    simp only [Act.put, List.setIfInBounds_toArray, List.set_cons_zero, List.set_cons_succ, i64_w, i32_w]
    rfl
  refine one_ (i := 7) (N := some 104) #[true, true, true, true, true, true, true, true, false] rfl rfl (one_of HT_.out (by kernel_rfl)) (by decide) (fun K hK => ?_)
  refine goes_ Try.func47 (by kernel_rfl) rfl #[.pointer (some ⟨mb, 0, none⟩), .int .u64 vl, .int .u64 (regS rs a1)] (by first | rfl | kernel_rfl) rfl rfl (by (try simp only [List.map_toArray, List.map_cons, List.map_nil]); first | done | rfl) ?_
  refine (cell.calls mb (some ⟨g, 0, none⟩) M.cells.length cap pv M.steps vl (regS rs a1) _ (blk_below hM.blk hHeld) hL hc1 hvl hrr).mono ?_
  rintro e w8 ⟨rfl, h8⟩
  subst h8
  refine ⟨_, rfl, hK.out _ _ hHeld (fun hHeld => ?_)⟩
  clear hK K
  refine norm_ (a' := ?_) ?_ ?_
  rotate_left
  · show Act.put _ (some 104) _ = _
    simp only [Act.put, List.setIfInBounds_toArray, List.set_cons_zero, List.set_cons_succ, i64_w, i32_w]
    rfl
  refine pure_ (i := 8) (N := some 13) (v := ?_) (a' := ?_) #[true, true, true, true, true, true, true, true, true] rfl rfl (any_of HT_.out (by kernel_rfl)) (fun _ _ _ h => h) (Or.inl ⟨by first | rfl | kernel_rfl, ?_⟩) ?_ ?_
  rotate_left
  · intro w'
    go_simp
    with_reducible rfl
  rotate_left
  · simp only [Act.put, List.setIfInBounds_toArray, List.set_cons_zero, List.set_cons_succ, i64_w, i32_w]
    rfl
  refine done_ (done_of HT_.out (by kernel_rfl)) ?_
  clear HT_ HW_
  rw [hi]
  have e4 := blk_drew e4
  have e5 := blk_drew e5
  have e6 := blk_drew e6
  have e9 := blk_drew e9
  have e8 := blk_drew e8
  have hM := hM.below (below_drew (Below.refl _ _))
  have hT := hT.below (below_drew (Below.refl _ _))
  have hB := hB.drew
  generalize w2.drew = w3 at *
  clear x0 xc fc lm lb l4 l5 hb TR z4 z50 z53 z56 y1
  obtain ⟨Aw, cw, rfl, hcw, hCw⟩ := Kd.R_reads hT.wr
  have hb := hT.blk
  have x10 := t_c10 hb hl
  have lb := blk_lt hb
  have l4 := blk_lt e4
  have l5 := blk_lt e5
  have z4 : w3.cell? ⟨B4, 0, none⟩ = some (.pointer (some ⟨b, 0, none⟩)) := (blk_cell e4 0).trans rfl
  have z54 : w3.cell? ⟨B5, 4, none⟩ = some (.int .i64 b1) := (blk_cell e5 4).trans rfl
  have TR := fun wx (hx : TBlk wx b cvt at_ rs (.slice Aw wr.length cw) ov hd) => reg.calls b cvt (.slice Aw wr.length cw) ov at_ rs hd b1 wx hl hx
  have hbw : base ≤ w3.heap.size := Nat.le_trans hgb (Nat.le_of_lt (Kd.R_lt hM.cells g rfl))
  go_upto_region 19 with go_in
  refine start_ (n := 14) (S := fun w' => Below w3.heap.size w3 w') (ds := [13]) #[false, false, false, false, false, false, false, false, false, false, false, false, false, false] (by kernel_rfl) rfl rfl (below_drew (Below.refl _ _)) (fun hHeld => ?_); refine with_tabW do31.tab19 do31.bits19 (fun HT_ HW_ => ?_)
  refine take_ (i := 0) (N := some 105) (v := ?_) (a' := ?_) #[true, false, false, false, false, false, false, false, false, false, false, false, false, false] rfl rfl (take_ofW HT_.out HW_.out (by kernel_rfl)) (fun _ _ _ h => h) (Or.inl ⟨by first | rfl | kernel_rfl, ?_⟩) hHeld ?_ ?_
  rotate_left
  · intro w' s0
    have zc := (s0.cell (by exact l4)).trans z4
    go_simp
    with_reducible rfl
  rotate_left
  · simp only [Act.put, List.setIfInBounds_toArray, List.set_cons_zero, List.set_cons_succ, i64_w, i32_w]
    rfl
  refine take_ (i := 1) (N := some 106) (v := ?_) (a' := ?_) #[true, true, false, false, false, false, false, false, false, false, false, false, false, false] rfl rfl (take_ofW HT_.out HW_.out (by kernel_rfl)) (fun _ _ _ h => h) (Or.inl ⟨by first | rfl | kernel_rfl, ?_⟩) hHeld ?_ ?_
  rotate_left
  · intro w' s0
    have zc := (s0.cell (by exact l4)).trans z4
    go_simp
    with_reducible rfl
  rotate_left
  · simp only [Act.put, List.setIfInBounds_toArray, List.set_cons_zero, List.set_cons_succ, i64_w, i32_w]
    rfl
  refine pure_ (i := 2) (N := some 107) (v := ?_) (a' := ?_) #[true, true, true, false, false, false, false, false, false, false, false, false, false, false] rfl rfl (any_of HT_.out (by kernel_rfl)) (fun _ _ _ h => h) (Or.inl ⟨by first | rfl | kernel_rfl, ?_⟩) ?_ ?_
  rotate_left
  · intro w'
    go_simp
    with_reducible rfl
  rotate_left
  · simp only [Act.put, List.setIfInBounds_toArray, List.set_cons_zero, List.set_cons_succ, i64_w, i32_w]
    rfl
  refine pure_ (i := 3) (N := some 108) (v := ?_) (a' := ?_) #[true, true, true, true, false, false, false, false, false, false, false, false, false, false] rfl rfl (any_of HT_.out (by kernel_rfl)) (fun _ _ _ h => h) (Or.inl ⟨by first | rfl | kernel_rfl, ?_⟩) ?_ ?_
  rotate_left
  · intro w'
    go_simp
    with_reducible rfl
  rotate_left
  · simp only [Act.put, List.setIfInBounds_toArray, List.set_cons_zero, List.set_cons_succ, i64_w, i32_w]
    rfl
  refine take_ (i := 4) (N := some 109) (v := ?_) (a' := ?_) #[true, true, true, true, true, false, false, false, false, false, false, false, false, false] rfl rfl (take_ofW HT_.out HW_.out (by kernel_rfl)) (fun _ _ _ h => h) (Or.inl ⟨by first | rfl | kernel_rfl, ?_⟩) hHeld ?_ ?_
  rotate_left
  · intro w' s0
    have zc := (s0.cell (by exact lb)).trans x10
    go_simp
    with_reducible rfl
  rotate_left
  · simp only [Act.put, List.setIfInBounds_toArray, List.set_cons_zero, List.set_cons_succ, i64_w, i32_w]
    rfl
  refine pure_ (i := 5) (N := some 110) (v := ?_) (a' := ?_) #[true, true, true, true, true, true, false, false, false, false, false, false, false, false] rfl rfl (any_of HT_.out (by kernel_rfl)) (fun _ _ _ h => h) (Or.inl ⟨by first | rfl | kernel_rfl, ?_⟩) ?_ ?_
  rotate_left
  · intro w'
    go_simp
    with_reducible rfl
  rotate_left
  · simp only [Act.put, List.setIfInBounds_toArray, List.set_cons_zero, List.set_cons_succ, i64_w, i32_w]
    rfl
  refine take_ (i := 6) (N := some 111) (v := ?_) (a' := ?_) #[true, true, true, true, true, true, true, false, false, false, false, false, false, false] rfl rfl (take_ofW HT_.out HW_.out (by kernel_rfl)) (fun _ _ _ h => h) (Or.inl ⟨by first | rfl | kernel_rfl, ?_⟩) hHeld ?_ ?_
  rotate_left
  · intro w' s0
    have zc := (s0.cell (by exact l4)).trans z4
    go_simp
    with_reducible rfl
  rotate_left
  · simp only [Act.put, List.setIfInBounds_toArray, List.set_cons_zero, List.set_cons_succ, i64_w, i32_w]
    rfl
  refine pure_ (i := 7) (N := some 112) (v := ?_) (a' := ?_) #[true, true, true, true, true, true, true, true, false, false, false, false, false, false] rfl rfl (any_of HT_.out (by kernel_rfl)) (fun _ _ _ h => h) (Or.inl ⟨by first | rfl | kernel_rfl, ?_⟩) ?_ ?_
  rotate_left
  · intro w'
    go_simp
    with_reducible rfl
  rotate_left
  · simp only [Act.put, List.setIfInBounds_toArray, List.set_cons_zero, List.set_cons_succ, i64_w, i32_w]
    rfl
  refine take_ (i := 8) (N := some 113) (v := ?_) (a' := ?_) #[true, true, true, true, true, true, true, true, true, false, false, false, false, false] rfl rfl (take_ofW HT_.out HW_.out (by kernel_rfl)) (fun _ _ _ h => h) (Or.inl ⟨by first | rfl | kernel_rfl, ?_⟩) hHeld ?_ ?_
  rotate_left
  · intro w' s0
    have zc := (s0.cell (by exact l5)).trans z54
    go_simp
    with_reducible rfl
  rotate_left
  · simp only [Act.put, List.setIfInBounds_toArray, List.set_cons_zero, List.set_cons_succ, i64_w, i32_w]
    rfl
  refine one_ (i := 9) (N := some 114) #[true, true, true, true, true, true, true, true, true, true, false, false, false, false] rfl rfl (one_of HT_.out (by kernel_rfl)) (by decide) (fun K hK => ?_)
  refine goes_ Try.func46 (by kernel_rfl) rfl #[.pointer (some ⟨b, 0, none⟩), .int .i64 b1] (by first | rfl | kernel_rfl) rfl rfl (by (try simp only [List.map_toArray, List.map_cons, List.map_nil]); first | done | rfl) ?_
  refine (TR _ (blk_below hb hHeld)).mono ?_
  rintro e w8 ⟨rfl, h8⟩
  subst h8
  refine ⟨_, rfl, hK.out _ _ hHeld (fun hHeld => ?_)⟩
  clear hK K
  refine norm_ (a' := ?_) ?_ ?_
  rotate_left
  · show Act.put _ (some 114) _ = _
    simp only [Act.put, List.setIfInBounds_toArray, List.set_cons_zero, List.set_cons_succ, i64_w, i32_w]
    rfl
  refine one_ (i := 10) (N := some 115) #[true, true, true, true, true, true, true, true, true, true, true, false, false, false] rfl rfl (one_of HT_.out (by kernel_rfl)) (by decide) (fun K hK => ?_)
  refine goes_ Try.func49 (by kernel_rfl) rfl #[.slice Aw wr.length cw, .int .i64 (i : Int), .int .u64 (regS rs b1)] (by first | rfl | kernel_rfl) rfl rfl (by (try simp only [List.map_toArray, List.map_cons, List.map_nil]); first | done | rfl) ?_
  refine (push.calls Aw cw wr (i : Int) (regS rs b1) _ (Kd.C_below hCw hHeld) hcw (by omega)).mono ?_
  rintro e w8 ⟨vP, rfl, hP, hb8⟩
  have hP := Kd.R_lower hP (Nat.le_trans hbw hHeld.size)
  obtain ⟨AP, cP, hvP⟩ := Kd.R_slice hP
  generalize hnP : (wr ++ [(⟨(i : Int), (regS rs b1)⟩ : S82)]).length = nP at hvP
  subst hvP
  replace hnP := Aside0.mk hnP
  have hHeld := hHeld.trans (hb8.mono hHeld.size)
  refine ⟨_, rfl, hK.out _ _ hHeld (fun hHeld => ?_)⟩
  clear hK K
  refine norm_ (a' := ?_) ?_ ?_
  rotate_left
  · show Act.put _ (some 115) _ = _
    simp only [Act.put, List.setIfInBounds_toArray, List.set_cons_zero, List.set_cons_succ, i64_w, i32_w]
    rfl
  refine pure_ (i := 11) (N := some 116) (v := ?_) (a' := ?_) #[true, true, true, true, true, true, true, true, true, true, true, true, false, false] rfl rfl (any_of HT_.out (by kernel_rfl)) (fun _ _ _ h => h) (Or.inl ⟨by first | rfl | kernel_rfl, ?_⟩) ?_ ?_
  rotate_left
  · intro w'
    go_simp
    with_reducible rfl
  rotate_left
  · simp only [Act.put, List.setIfInBounds_toArray, List.set_cons_zero, List.set_cons_succ, i64_w, i32_w]
    rfl
  refine pure_ (i := 12) (N := some 117) (v := ?_) (a' := ?_) #[true, true, true, true, true, true, true, true, true, true, true, true, true, false] rfl rfl (any_of HT_.out (by kernel_rfl)) (fun _ _ _ h => h) (Or.inl ⟨by first | rfl | kernel_rfl, ?_⟩) ?_ ?_
  rotate_left
  · intro w'
    go_simp
    with_reducible rfl
  rotate_left
  · simp only [Act.put, List.setIfInBounds_toArray, List.set_cons_zero, List.set_cons_succ, i64_w, i32_w]
    rfl
  refine last_ (i := 13) (N := none) #[true, true, true, true, true, true, true, true, true, true, true, true, true, true] rfl rfl (one_of HT_.out (by kernel_rfl)) (by decide) (fun K hK => ?_)
  have hb9 := blk_below hb hHeld
  have x10 := t_c10 hb9 hl
  have f10 := blk_frozen hb9 10
  refine skip_ (w1 := World.setCell w8 ⟨b, 10, none⟩ (.slice AP nP cP)) (by first | rfl | kernel_rfl) rfl ?_ ?_
  · go_simp
  refine hK.out _ _ ?_
  clear hK K x10 f10 hb9
  refine done_ (done_of HT_.out (by kernel_rfl)) ?_
  clear HT_ HW_
  clear z4 z54 x10 lb l4 l5 hCw hb TR
  have e4 := blk_below e4 hHeld
  have e5 := blk_below e5 hHeld
  have e6 := blk_below e6 hHeld
  have e9 := blk_below e9 hHeld
  have e8 := blk_below e8 hHeld
  have hM := hM.below hHeld
  have hT := hT.below hHeld
  have hB := hB.bel hHeld
  have hTn := hT.setWr hP
  have hM := hM.setT hk hT.blk 10 (.slice AP nP cP) _ _ _ _ hTn
  have hB := hB.setC (p := ⟨b, 10, none⟩) (Or.inr ⟨hT.le, Or.inr (Or.inl (List.mem_of_getElem? hk))⟩) (.slice AP nP cP)
  have e4 := blk_far (p := ⟨b, 10, none⟩) e4 (blk_ne e4 hT.blk (by decide)) (.slice AP nP cP)
  have e5 := blk_far (p := ⟨b, 10, none⟩) e5 (blk_ne e5 hT.blk (by decide)) (.slice AP nP cP)
  have e6 := blk_far (p := ⟨b, 10, none⟩) e6 (blk_ne e6 hT.blk (by decide)) (.slice AP nP cP)
  have e9 := blk_far (p := ⟨b, 10, none⟩) e9 (blk_ne e9 hT.blk (by decide)) (.slice AP nP cP)
  have e8 := blk_far (p := ⟨b, 10, none⟩) e8 (blk_ne e8 hT.blk (by decide)) (.slice AP nP cP)
  replace hT := hTn
  clear hTn
  generalize w8.setCell ⟨b, 10, none⟩ (.slice AP nP cP) = w9 at *
  have x80 := (blk_cell e8 0).trans rfl
  have x81 := (blk_cell e8 1).trans rfl
  have x82 := (blk_cell e8 2).trans rfl
  have x83 := (blk_cell e8 3).trans rfl
  have f80 := blk_frozen e8
  go_upto_region 46 with go_in
  clear x80 x81 x82 x83 f80
  have hM := hM.event (a := 0) (b := 3) (c := i) (h := false) e8
  have hT := hT.event (a := 0) (b := 3) (c := i) (h := false) e8
  have hB := hB.ev (a := 0) (b := 3) (c := i) (x := false) hn8
  have e4 := far_ev (a := 0) (b := 3) (c := i) (h := false) e4 (blk_ne e4 e8 (by decide))
  have e5 := far_ev (a := 0) (b := 3) (c := i) (h := false) e5 (blk_ne e5 e8 (by decide))
  have e6 := far_ev (a := 0) (b := 3) (c := i) (h := false) e6 n68
  have e9 := far_ev (a := 0) (b := 3) (c := i) (h := false) e9 n98
  replace e8 := put_ev (a := 0) (b := 3) (c := i) (h := false) e8
  generalize ((((w9.setCell ⟨B8, 0, none⟩ (.int .i64 0)).setCell ⟨B8, 1, none⟩ (.int .i64 (3))).setCell ⟨B8, 2, none⟩ (.int .i64 (i))).setCell ⟨B8, 3, none⟩ (.bool (false))) = wA at *
  have y1 := t_c1 hT.blk
  have fz1 := blk_frozen hT.blk 1
  have z4 : wA.cell? ⟨B4, 0, none⟩ = some (.pointer (some ⟨b, 0, none⟩)) := (blk_cell e4 0).trans rfl
  go_upto_region 47 with go_in
  have hTn := hT.setAt (at_ + 1)
  have hM := hM.setT hk hT.blk 1 (.int .i64 (at_ + 1)) _ _ _ _ hTn
  have hB := hB.setC (p := ⟨b, 1, none⟩) (Or.inr ⟨hT.le, Or.inr (Or.inl (List.mem_of_getElem? hk))⟩) (.int .i64 (at_ + 1))
  have e6 := blk_far (p := ⟨b, 1, none⟩) e6 (blk_ne e6 hT.blk (by decide)) (.int .i64 (at_ + 1))
  have e9 := blk_far (p := ⟨b, 1, none⟩) e9 (blk_ne e9 hT.blk (by decide)) (.int .i64 (at_ + 1))
  have e8 := blk_far (p := ⟨b, 1, none⟩) e8 (blk_ne e8 hT.blk (by decide)) (.int .i64 (at_ + 1))
  clear y1 fz1 z4 hT hTn
  generalize wA.setCell ⟨b, 1, none⟩ (.int .i64 (at_ + 1)) = wZ at *
  have x80 := (blk_cell e8 0).trans rfl
  have x81 := (blk_cell e8 1).trans rfl
  have x82 := (blk_cell e8 2).trans rfl
  have x83 := (blk_cell e8 3).trans rfl
  have x60 := (blk_cell e6 0).trans rfl
  have x61 := (blk_cell e6 1).trans rfl
  have x62 := (blk_cell e6 2).trans rfl
  have x63 := (blk_cell e6 3).trans rfl
  have f60 : ∀ k, wZ.frozen? ⟨B6, k, none⟩ = false := fun k => by simp [World.frozen?, e6]
  go_wp2
  refine bodyPost_ret (results_c rfl _ _ B6 40 (eArr 0 (3) (i) (false)) (0, 0) _ rfl (put_ev e6) Try.underlying40 rfl (by kernel_rfl)) rfl ?_
  have hF := hM.event (a := 0) (b := 3) (c := i) (h := false) e6
  try simp only [List.set_set] at hF
  try (have hrv2 := hrv.out; subst hrv2)
  try (have hvv2 := hvv.out; subst hvv2)
  try (have hht2 := hht.out; subst hht2)
  exact ⟨rfl, hB.ev hn6, far_ev e9 n96, _, _, fun _ _ => rfl, hF⟩
set_option maxHeartbeats 8000000 in
set_option maxRecDepth 100000 in
theorem do10.calls (base mb k b : Nat) (col : Nat → Nat) (ts : List Nat) (cv pv cvt wv ov : Value) (M : Mch) (t : Thr) (x : S28) (w : World) (hM : Mach w base mb col ts cv pv M) (hk : ts[k]? = some b) (ht : M.thr[k]? = some t)
    (hT : ThrM w base (fun q => col q = k + 1) b t cvt wv ov) (hbase : base ≤ w.heap.size) (ha : 0 ≤ t.at_ ∧ t.at_ < 1000000) (ge : Nat) (ce : Array Value) (hge : w.heap[ge]? = some (Obj.cells ce 40 (0, 0))) (ho : x.f0 = 10) (hc1 : M.cells.length ≤ 1048576) (hvl : 0 ≤ x.f6 ∧ x.f6 < 18446744073709551616) (i : Nat) (hil : i < M.cells.length) (hwl : t.wr.length ≤ 4194304) (hi : cellS M.cells.length x.f6 0 = (i : Int)) :
    Calls Try.prog 31 #[.pointer (some ⟨mb, 0, none⟩), .pointer (some ⟨b, 0, none⟩), .agg #[.int .i64 x.f0, .int .i64 x.f1, .int .i64 x.f2, .int .i64 x.f3, .int .i64 x.f4, .int .i64 x.f5, .int .u64 x.f6, .int .i64 x.f7]] w (DoP w base mb ts col pv k M (M.cells.set i (IntKind.u64.wrap (M.cells[i] + regS t.rs x.f3))) { t with at_ := t.at_ + 1 } 2 (i : Int) false ge ce) := by
  have hc26 : Aside0 (∀ q, cv.ownBlock = some q → ∃ cs, w.heap[q]? = some (Obj.cells cs 26 (0, 0))) := Aside0.mk (fun q hq => Kd.R_typed hM.cells q hq)
  have ho26 : Aside0 (∀ q, ov.ownBlock = some q → ∃ cs, w.heap[q]? = some (Obj.cells cs 26 (0, 0))) := Aside0.mk (fun q hq => Kd.R_typed hT.out q hq)
  obtain ⟨o, d, tw, a1, b1, c1, vl, tg⟩ := x
  obtain ⟨cds, at_, rs, wr, out, hd⟩ := t
  simp only at *
  subst ho
  have hb := hT.blk
  have hl := hT.len
  simp only at hb hl
  have y1 := t_c1 hb
  have hat : wrap64 (at_ + 1) = at_ + 1 := wrap_in (by omega) (by omega)
  go_enter Try.func31, Try.ntmps31
  go_upto_region 1 with go_in
  have e4 := blk_alloc (blk_alloc (heap_alloc_new w (Obj.cells #[Value.pointer (some ⟨b, 0, none⟩)] 72 (0, 0))) (Obj.cells (#[.int .i64 10, .int .i64 d, .int .i64 tw, .int .i64 a1, .int .i64 b1, .int .i64 c1, .int .u64 vl, .int .i64 tg]) 28 (0, 0))) (Obj.cells #[.int .i64 0, .int .i64 0, .int .i64 0, .bool false] 40 (0, 0))
  have e5 := blk_alloc (heap_alloc_new (w.alloc (Obj.cells #[Value.pointer (some ⟨b, 0, none⟩)] 72 (0, 0))) (Obj.cells (#[.int .i64 10, .int .i64 d, .int .i64 tw, .int .i64 a1, .int .i64 b1, .int .i64 c1, .int .u64 vl, .int .i64 tg]) 28 (0, 0))) (Obj.cells #[.int .i64 0, .int .i64 0, .int .i64 0, .bool false] 40 (0, 0))
  have e6 := heap_alloc_new ((w.alloc (Obj.cells #[Value.pointer (some ⟨b, 0, none⟩)] 72 (0, 0))).alloc (Obj.cells (#[.int .i64 10, .int .i64 d, .int .i64 tw, .int .i64 a1, .int .i64 b1, .int .i64 c1, .int .u64 vl, .int .i64 tg]) 28 (0, 0))) (Obj.cells #[.int .i64 0, .int .i64 0, .int .i64 0, .bool false] 40 (0, 0))
  have e9 := blk_alloc (blk_alloc (blk_alloc hge (Obj.cells #[Value.pointer (some ⟨b, 0, none⟩)] 72 (0, 0))) (Obj.cells (#[.int .i64 10, .int .i64 d, .int .i64 tw, .int .i64 a1, .int .i64 b1, .int .i64 c1, .int .u64 vl, .int .i64 tg]) 28 (0, 0))) (Obj.cells #[.int .i64 0, .int .i64 0, .int .i64 0, .bool false] 40 (0, 0))
  have hbl : Below w.heap.size w (((w.alloc (Obj.cells #[Value.pointer (some ⟨b, 0, none⟩)] 72 (0, 0))).alloc (Obj.cells (#[.int .i64 10, .int .i64 d, .int .i64 tw, .int .i64 a1, .int .i64 b1, .int .i64 c1, .int .u64 vl, .int .i64 tg]) 28 (0, 0))).alloc (Obj.cells #[.int .i64 0, .int .i64 0, .int .i64 0, .bool false] 40 (0, 0))) := below_alloc (below_alloc (below_alloc (Below.refl _ _) _) _) _
  have hM := hM.below hbl
  have hT := hT.below hbl
  have hb := hT.blk
  rw [alloc_sz] at e5
  rw [alloc_sz, alloc_sz] at e6
  generalize (((w.alloc (Obj.cells #[Value.pointer (some ⟨b, 0, none⟩)] 72 (0, 0))).alloc (Obj.cells (#[.int .i64 10, .int .i64 d, .int .i64 tw, .int .i64 a1, .int .i64 b1, .int .i64 c1, .int .u64 vl, .int .i64 tg]) 28 (0, 0))).alloc (Obj.cells #[.int .i64 0, .int .i64 0, .int .i64 0, .bool false] 40 (0, 0))) = w1 at *
  obtain ⟨B4, hB4⟩ : ∃ B, B = w.heap.size := ⟨_, rfl⟩
  obtain ⟨B5, hB5⟩ : ∃ B, B = w.heap.size + 1 := ⟨_, rfl⟩
  obtain ⟨B6, hB6⟩ : ∃ B, B = w.heap.size + 1 + 1 := ⟨_, rfl⟩
  have hg6 : base ≤ B6 := by omega
  have hn6 : w.heap.size ≤ B6 := by omega
  have n96 : ge ≠ B6 := by
    have := blk_lt hge
    omega
  have hB := Keep.of (base := base) (mb := mb) (ts := ts) (col := col) hbl
  rw [← hB6] at e6 ⊢
  rw [← hB5] at e5 ⊢
  rw [← hB4] at e4 ⊢
  clear hB4 hB5 hB6 hbl
  have y1 := t_c1 hb
  have z4 : w1.cell? ⟨B4, 0, none⟩ = some (.pointer (some ⟨b, 0, none⟩)) := (blk_cell e4 0).trans rfl
  go_upto_region 2 with go_in
  have hn1 : w.heap.size ≤ w1.heap.size := hB.size
  have hg8 : base ≤ w1.heap.size := Nat.le_trans hbase (by have := blk_lt e4; have := hB.size; omega)
  have e8 := heap_alloc_new w1 (Obj.cells #[.int .i64 0, .int .i64 6, .int .i64 0, .bool false] 40 (0, 0))
  have hbl : Below w1.heap.size w1 (w1.alloc (Obj.cells #[.int .i64 0, .int .i64 6, .int .i64 0, .bool false] 40 (0, 0))) := below_alloc (Below.refl _ _) _
  have e4 := blk_below e4 hbl
  have e5 := blk_below e5 hbl
  have e6 := blk_below e6 hbl
  have e9 := blk_below e9 hbl
  have hM := hM.below hbl
  have hT := hT.below hbl
  have hb := hT.blk
  have hB := hB.bel hbl
  have hn8 : w.heap.size ≤ w1.heap.size := hn1
  have n68 : B6 ≠ w1.heap.size := Nat.ne_of_lt (blk_lt (show w1.heap[B6]? = _ from by assumption))
  have n98 : ge ≠ w1.heap.size := Nat.ne_of_lt (blk_lt (show w1.heap[ge]? = _ from by assumption))
  clear y1 z4
  generalize w1.alloc (Obj.cells #[.int .i64 0, .int .i64 6, .int .i64 0, .bool false] 40 (0, 0)) = w2 at *
  generalize w1.heap.size = B8 at *
  clear hbl
  have y1 := t_c1 hb
  have z4 : w2.cell? ⟨B4, 0, none⟩ = some (.pointer (some ⟨b, 0, none⟩)) := (blk_cell e4 0).trans rfl
  have z50 : w2.cell? ⟨B5, 0, none⟩ = some (.int .i64 10) := (blk_cell e5 0).trans rfl
  obtain ⟨g, cap, rfl, hgb, hgl, _⟩ := Kd.R_form hM.cells (by omega)
  have hL : 0 < M.cells.length := by omega
  have hxi := hM.at_cell i hil
  obtain ⟨_, xc, fc, _, _⟩ := hxi
  have x0 : w2.cell? ⟨mb, 0, none⟩ = some (.slice (some ⟨g, 0, none⟩) M.cells.length cap) := (blk_cell hM.blk 0).trans rfl
  have lm := blk_lt hM.blk
  have lb := blk_lt hT.blk
  have l4 := blk_lt e4
  have l5 := blk_lt e5
  have hb := hT.blk
  have TC := cell.calls mb (some ⟨g, 0, none⟩) M.cells.length cap pv M.steps vl 0 w2 hM.blk hL hc1 hvl (by omega)
  unfold cellS at hi
  rw [hi] at TC
  have z53 : w2.cell? ⟨B5, 3, none⟩ = some (.int .i64 a1) := (blk_cell e5 3).trans rfl
  have z56 : w2.cell? ⟨B5, 6, none⟩ = some (.int .u64 vl) := (blk_cell e5 6).trans rfl
  go_upto_region 40 with (first
    | (go_at_call 47; refine TC.mono ?_; rintro e w3 ⟨rfl, h3⟩; obtain rfl := h3.symm)
    | go_in)
  clear TC
  have hil2 : (i : Int) < (M.cells.length : Int) := by omega
  have hi02 : (0 : Int) ≤ (i : Int) := by omega
  have lg := Kd.R_lt hM.cells g rfl
  have hbw : base ≤ w2.heap.size := Nat.le_trans hgb (Nat.le_of_lt lg)
  have TR := fun wx (hx : TBlk wx b cvt at_ rs wv ov hd) => reg.calls b cvt wv ov at_ rs hd a1 wx hl hx
  refine start_ (n := 14) (S := fun w' => Below w2.heap.size w2 w') (ds := [13]) #[false, false, false, false, false, false, false, false, false, false, false, false, false, false] (by kernel_rfl) rfl rfl (below_drew (Below.refl _ _)) (fun hHeld => ?_); refine with_tabW do31.tab40 do31.bits40 (fun HT_ HW_ => ?_)
  refine pure_ (i := 0) (N := some 188) (v := ?_) (a' := ?_) #[true, false, false, false, false, false, false, false, false, false, false, false, false, false] rfl rfl (any_of HT_.out (by kernel_rfl)) (fun _ _ _ h => h) (Or.inl ⟨by first | rfl | kernel_rfl, ?_⟩) ?_ ?_
  rotate_left
  · intro w'
    go_simp
    with_reducible rfl
  rotate_left
  · simp only [Act.put, List.setIfInBounds_toArray, List.set_cons_zero, List.set_cons_succ, i64_w, i32_w]
    rfl
  refine pure_ (i := 1) (N := some 189) (v := ?_) (a' := ?_) #[true, true, false, false, false, false, false, false, false, false, false, false, false, false] rfl rfl (any_of HT_.out (by kernel_rfl)) (fun _ _ _ h => h) (Or.inl ⟨by first | rfl | kernel_rfl, ?_⟩) ?_ ?_
  rotate_left
  · intro w'
    go_simp
    with_reducible rfl
  rotate_left
  · simp only [Act.put, List.setIfInBounds_toArray, List.set_cons_zero, List.set_cons_succ, i64_w, i32_w]
    rfl
  refine pure_ (i := 2) (N := some 190) (v := ?_) (a' := ?_) #[true, true, true, false, false, false, false, false, false, false, false, false, false, false] rfl rfl (any_of HT_.out (by kernel_rfl)) (fun _ _ _ h => h) (Or.inl ⟨by first | rfl | kernel_rfl, ?_⟩) ?_ ?_
  rotate_left
  · intro w'
    go_simp
    with_reducible rfl
  rotate_left
  · simp only [Act.put, List.setIfInBounds_toArray, List.set_cons_zero, List.set_cons_succ, i64_w, i32_w]
    rfl
  refine take_ (i := 3) (N := some 191) (v := ?_) (a' := ?_) #[true, true, true, true, false, false, false, false, false, false, false, false, false, false] rfl rfl (take_ofW HT_.out HW_.out (by kernel_rfl)) (fun _ _ _ h => h) (Or.inl ⟨by first | rfl | kernel_rfl, ?_⟩) hHeld ?_ ?_
  rotate_left
  · intro w' s0
    have zc := (s0.cell (by exact lm)).trans x0
    go_simp
    with_reducible rfl
  rotate_left
  · simp only [Act.put, List.setIfInBounds_toArray, List.set_cons_zero, List.set_cons_succ, i64_w, i32_w]
    rfl
  refine pure_ (i := 4) (N := some 192) (v := ?_) (a' := ?_) #[true, true, true, true, true, false, false, false, false, false, false, false, false, false] rfl rfl (any_of HT_.out (by kernel_rfl)) (fun _ _ _ h => h) (Or.inl ⟨by first | rfl | kernel_rfl, ?_⟩) ?_ ?_
  rotate_left
  · intro w'
    go_simp
    with_reducible rfl
  rotate_left
  · simp only [Act.put, List.setIfInBounds_toArray, List.set_cons_zero, List.set_cons_succ, i64_w, i32_w]
    rfl
  refine pure_ (i := 5) (N := some 193) (v := ?_) (a' := ?_) #[true, true, true, true, true, true, false, false, false, false, false, false, false, false] rfl rfl (any_of HT_.out (by kernel_rfl)) (fun _ _ _ h => h) (Or.inl ⟨by first | rfl | kernel_rfl, ?_⟩) ?_ ?_
  rotate_left
  · intro w'
    go_simp
    with_reducible rfl
  rotate_left
  · simp only [Act.put, List.setIfInBounds_toArray, List.set_cons_zero, List.set_cons_succ, i64_w, i32_w]
    rfl
  refine take_ (i := 6) (N := some 194) (v := ?_) (a' := ?_) #[true, true, true, true, true, true, true, false, false, false, false, false, false, false] rfl rfl (take_ofW HT_.out HW_.out (by kernel_rfl)) (fun _ _ _ h => h) (Or.inl ⟨by first | rfl | kernel_rfl, ?_⟩) hHeld ?_ ?_
  rotate_left
  · intro w' s0
    have zc := (s0.cell (by exact lg)).trans xc
    go_simp
    with_reducible rfl
  rotate_left
  · simp only [Act.put, List.setIfInBounds_toArray, List.set_cons_zero, List.set_cons_succ, i64_w, i32_w]
    rfl
  refine take_ (i := 7) (N := some 195) (v := ?_) (a' := ?_) #[true, true, true, true, true, true, true, true, false, false, false, false, false, false] rfl rfl (take_ofW HT_.out HW_.out (by kernel_rfl)) (fun _ _ _ h => h) (Or.inl ⟨by first | rfl | kernel_rfl, ?_⟩) hHeld ?_ ?_
  rotate_left
  · intro w' s0
    have zc := (s0.cell (by exact l4)).trans z4
    go_simp
    with_reducible rfl
  rotate_left
  · simp only [Act.put, List.setIfInBounds_toArray, List.set_cons_zero, List.set_cons_succ, i64_w, i32_w]
    rfl
  refine pure_ (i := 8) (N := some 196) (v := ?_) (a' := ?_) #[true, true, true, true, true, true, true, true, true, false, false, false, false, false] rfl rfl (any_of HT_.out (by kernel_rfl)) (fun _ _ _ h => h) (Or.inl ⟨by first | rfl | kernel_rfl, ?_⟩) ?_ ?_
  rotate_left
  · intro w'
    go_simp
    with_reducible rfl
  rotate_left
  · simp only [Act.put, List.setIfInBounds_toArray, List.set_cons_zero, List.set_cons_succ, i64_w, i32_w]
    rfl
  refine take_ (i := 9) (N := some 197) (v := ?_) (a' := ?_) #[true, true, true, true, true, true, true, true, true, true, false, false, false, false] rfl rfl (take_ofW HT_.out HW_.out (by kernel_rfl)) (fun _ _ _ h => h) (Or.inl ⟨by first | rfl | kernel_rfl, ?_⟩) hHeld ?_ ?_
  rotate_left
  · intro w' s0
    have zc := (s0.cell (by exact l5)).trans z53
    go_simp
    with_reducible rfl
  rotate_left
  · simp only [Act.put, List.setIfInBounds_toArray, List.set_cons_zero, List.set_cons_succ, i64_w, i32_w]
    rfl
  refine one_ (i := 10) (N := some 198) #[true, true, true, true, true, true, true, true, true, true, true, false, false, false] rfl rfl (one_of HT_.out (by kernel_rfl)) (by decide) (fun K hK => ?_)
  refine goes_ Try.func46 (by kernel_rfl) rfl #[.pointer (some ⟨b, 0, none⟩), .int .i64 a1] (by first | rfl | kernel_rfl) rfl rfl (by (try simp only [List.map_toArray, List.map_cons, List.map_nil]); first | done | rfl) ?_
  refine (TR _ (blk_below hb hHeld)).mono ?_
  rintro e w8 ⟨rfl, h8⟩
  subst h8
  refine ⟨_, rfl, hK.out _ _ hHeld (fun hHeld => ?_)⟩
  clear hK K
  refine norm_ (a' := ?_) ?_ ?_
  rotate_left
  · show Act.put _ (some 198) _ = _
    simp only [Act.put, List.setIfInBounds_toArray, List.set_cons_zero, List.set_cons_succ, i64_w, i32_w]
    rfl
  refine pure_ (i := 11) (N := some 199) (v := ?_) (a' := ?_) #[true, true, true, true, true, true, true, true, true, true, true, true, false, false] rfl rfl (any_of HT_.out (by kernel_rfl)) (fun _ _ _ h => h) (Or.inl ⟨by first | rfl | kernel_rfl, ?_⟩) ?_ ?_
  rotate_left
  · intro w'
    go_simp
    with_reducible rfl
  rotate_left
  · simp only [Act.put, List.setIfInBounds_toArray, List.set_cons_zero, List.set_cons_succ, i64_w, i32_w]
    rfl
  refine pure_ (i := 12) (N := some 200) (v := ?_) (a' := ?_) #[true, true, true, true, true, true, true, true, true, true, true, true, true, false] rfl rfl (any_of HT_.out (by kernel_rfl)) (fun _ _ _ h => h) (Or.inl ⟨by first | rfl | kernel_rfl, ?_⟩) ?_ ?_
  rotate_left
  · intro w'
    go_simp
    with_reducible rfl
  rotate_left
  · simp only [Act.put, List.setIfInBounds_toArray, List.set_cons_zero, List.set_cons_succ, i64_w, i32_w]
    rfl
  refine last_ (i := 13) (N := none) #[true, true, true, true, true, true, true, true, true, true, true, true, true, true] rfl rfl (one_of HT_.out (by kernel_rfl)) (by decide) (fun K hK => ?_)
  have xcc := (hHeld.cell (p := ⟨g, i, none⟩) lg).trans xc
  have fcc : World.frozen? _ ⟨g, i, none⟩ = false := (hM.below hHeld).at_cell i hil |>.2.2.1
  refine skip_ (w1 := ?_) (by first | rfl | kernel_rfl) rfl ?_ ?_
  rotate_left
  · go_simp
    rfl
  refine hK.out _ _ ?_
  clear hK K xcc fcc
  refine done_ (done_of HT_.out (by kernel_rfl)) ?_
  clear HT_ HW_
  clear z4 z50 z53 z56 y1 x0 xc fc lm lb l4 l5 hb TR lg
  have hT := hT.put hM i (IntKind.u64.wrap (M.cells[i] + regS rs a1))
  have e4 := blk_far (p := ⟨g, i, none⟩) e4 (hM.ne_cell e4 (by decide)) (.int .u64 (IntKind.u64.wrap (M.cells[i] + regS rs a1)))
  have e5 := blk_far (p := ⟨g, i, none⟩) e5 (hM.ne_cell e5 (by decide)) (.int .u64 (IntKind.u64.wrap (M.cells[i] + regS rs a1)))
  have e6 := blk_far (p := ⟨g, i, none⟩) e6 (hM.ne_cell e6 (by decide)) (.int .u64 (IntKind.u64.wrap (M.cells[i] + regS rs a1)))
  have e9 := blk_far (p := ⟨g, i, none⟩) e9 (hM.ne_cell e9 (by decide)) (.int .u64 (IntKind.u64.wrap (M.cells[i] + regS rs a1)))
  have e8 := blk_far (p := ⟨g, i, none⟩) e8 (hM.ne_cell e8 (by decide)) (.int .u64 (IntKind.u64.wrap (M.cells[i] + regS rs a1)))
  have hM := hM.put i (IntKind.u64.wrap (M.cells[i] + regS rs a1))
  have hB := hB.setC (p := ⟨g, i, none⟩) (Or.inr ⟨hgb, Or.inr (Or.inr ⟨Nat.le_trans (Nat.le_of_eq (hM.cells.1 g rfl)) (Nat.zero_le _), hc26.out g rfl⟩)⟩) (.int .u64 (IntKind.u64.wrap (M.cells[i] + regS rs a1)))
  generalize w2.setCell ⟨g, i, none⟩ (.int .u64 (IntKind.u64.wrap (M.cells[i] + regS rs a1))) = w3 at *
  have e4 := blk_drew e4
  have e5 := blk_drew e5
  have e6 := blk_drew e6
  have e9 := blk_drew e9
  have e8 := blk_drew e8
  have hM := hM.below (below_drew (Below.refl _ _))
  have hT := hT.below (below_drew (Below.refl _ _))
  have hB := hB.drew
  generalize w3.drew = w4 at *
  have x80 := (blk_cell e8 0).trans rfl
  have x81 := (blk_cell e8 1).trans rfl
  have x82 := (blk_cell e8 2).trans rfl
  have x83 := (blk_cell e8 3).trans rfl
  have f80 := blk_frozen e8
  go_upto_region 46 with go_in
  clear x80 x81 x82 x83 f80
  have hM := hM.event (a := 0) (b := 2) (c := i) (h := false) e8
  have hT := hT.event (a := 0) (b := 2) (c := i) (h := false) e8
  have hB := hB.ev (a := 0) (b := 2) (c := i) (x := false) hn8
  have e4 := far_ev (a := 0) (b := 2) (c := i) (h := false) e4 (blk_ne e4 e8 (by decide))
  have e5 := far_ev (a := 0) (b := 2) (c := i) (h := false) e5 (blk_ne e5 e8 (by decide))
  have e6 := far_ev (a := 0) (b := 2) (c := i) (h := false) e6 n68
  have e9 := far_ev (a := 0) (b := 2) (c := i) (h := false) e9 n98
  replace e8 := put_ev (a := 0) (b := 2) (c := i) (h := false) e8
  generalize ((((w4.setCell ⟨B8, 0, none⟩ (.int .i64 0)).setCell ⟨B8, 1, none⟩ (.int .i64 (2))).setCell ⟨B8, 2, none⟩ (.int .i64 (i))).setCell ⟨B8, 3, none⟩ (.bool (false))) = w5 at *
  have y1 := t_c1 hT.blk
  have fz1 := blk_frozen hT.blk 1
  have z4 : w5.cell? ⟨B4, 0, none⟩ = some (.pointer (some ⟨b, 0, none⟩)) := (blk_cell e4 0).trans rfl
  go_upto_region 47 with go_in
  have hTn := hT.setAt (at_ + 1)
  have hM := hM.setT hk hT.blk 1 (.int .i64 (at_ + 1)) _ _ _ _ hTn
  have hB := hB.setC (p := ⟨b, 1, none⟩) (Or.inr ⟨hT.le, Or.inr (Or.inl (List.mem_of_getElem? hk))⟩) (.int .i64 (at_ + 1))
  have e6 := blk_far (p := ⟨b, 1, none⟩) e6 (blk_ne e6 hT.blk (by decide)) (.int .i64 (at_ + 1))
  have e9 := blk_far (p := ⟨b, 1, none⟩) e9 (blk_ne e9 hT.blk (by decide)) (.int .i64 (at_ + 1))
  have e8 := blk_far (p := ⟨b, 1, none⟩) e8 (blk_ne e8 hT.blk (by decide)) (.int .i64 (at_ + 1))
  clear y1 fz1 z4 hT hTn
  generalize w5.setCell ⟨b, 1, none⟩ (.int .i64 (at_ + 1)) = wZ at *
  have x80 := (blk_cell e8 0).trans rfl
  have x81 := (blk_cell e8 1).trans rfl
  have x82 := (blk_cell e8 2).trans rfl
  have x83 := (blk_cell e8 3).trans rfl
  have x60 := (blk_cell e6 0).trans rfl
  have x61 := (blk_cell e6 1).trans rfl
  have x62 := (blk_cell e6 2).trans rfl
  have x63 := (blk_cell e6 3).trans rfl
  have f60 : ∀ k, wZ.frozen? ⟨B6, k, none⟩ = false := fun k => by simp [World.frozen?, e6]
  go_wp2
  refine bodyPost_ret (results_c rfl _ _ B6 40 (eArr 0 (2) (i) (false)) (0, 0) _ rfl (put_ev e6) Try.underlying40 rfl (by kernel_rfl)) rfl ?_
  have hF := hM.event (a := 0) (b := 2) (c := i) (h := false) e6
  try simp only [List.set_set] at hF
  try (have hrv2 := hrv.out; subst hrv2)
  try (have hvv2 := hvv.out; subst hvv2)
  try (have hht2 := hht.out; subst hht2)
  exact ⟨rfl, hB.ev hn6, far_ev e9 n96, _, _, fun _ _ => rfl, hF⟩
set_option maxHeartbeats 8000000 in
set_option maxRecDepth 100000 in
theorem do13.calls (base mb k b : Nat) (col : Nat → Nat) (ts : List Nat) (cv pv cvt wv ov : Value) (M : Mch) (t : Thr) (x : S28) (w : World) (hM : Mach w base mb col ts cv pv M) (hk : ts[k]? = some b) (ht : M.thr[k]? = some t)
    (hT : ThrM w base (fun q => col q = k + 1) b t cvt wv ov) (hbase : base ≤ w.heap.size) (ha : 0 ≤ t.at_ ∧ t.at_ < 1000000) (ge : Nat) (ce : Array Value) (hge : w.heap[ge]? = some (Obj.cells ce 40 (0, 0))) (ho : x.f0 = 13) :
    Calls Try.prog 31 #[.pointer (some ⟨mb, 0, none⟩), .pointer (some ⟨b, 0, none⟩), .agg #[.int .i64 x.f0, .int .i64 x.f1, .int .i64 x.f2, .int .i64 x.f3, .int .i64 x.f4, .int .i64 x.f5, .int .u64 x.f6, .int .i64 x.f7]] w (DoP w base mb ts col pv k M M.cells { t with halted := true } 6 0 false ge ce) := by
  have hc26 : Aside0 (∀ q, cv.ownBlock = some q → ∃ cs, w.heap[q]? = some (Obj.cells cs 26 (0, 0))) := Aside0.mk (fun q hq => Kd.R_typed hM.cells q hq)
  have ho26 : Aside0 (∀ q, ov.ownBlock = some q → ∃ cs, w.heap[q]? = some (Obj.cells cs 26 (0, 0))) := Aside0.mk (fun q hq => Kd.R_typed hT.out q hq)
  obtain ⟨o, d, tw, a1, b1, c1, vl, tg⟩ := x
  obtain ⟨cds, at_, rs, wr, out, hd⟩ := t
  simp only at *
  subst ho
  have hb := hT.blk
  have hl := hT.len
  simp only at hb hl
  have y1 := t_c1 hb
  have hat : wrap64 (at_ + 1) = at_ + 1 := wrap_in (by omega) (by omega)
  go_enter Try.func31, Try.ntmps31
  go_upto_region 1 with go_in
  have e4 := blk_alloc (blk_alloc (heap_alloc_new w (Obj.cells #[Value.pointer (some ⟨b, 0, none⟩)] 72 (0, 0))) (Obj.cells (#[.int .i64 13, .int .i64 d, .int .i64 tw, .int .i64 a1, .int .i64 b1, .int .i64 c1, .int .u64 vl, .int .i64 tg]) 28 (0, 0))) (Obj.cells #[.int .i64 0, .int .i64 0, .int .i64 0, .bool false] 40 (0, 0))
  have e5 := blk_alloc (heap_alloc_new (w.alloc (Obj.cells #[Value.pointer (some ⟨b, 0, none⟩)] 72 (0, 0))) (Obj.cells (#[.int .i64 13, .int .i64 d, .int .i64 tw, .int .i64 a1, .int .i64 b1, .int .i64 c1, .int .u64 vl, .int .i64 tg]) 28 (0, 0))) (Obj.cells #[.int .i64 0, .int .i64 0, .int .i64 0, .bool false] 40 (0, 0))
  have e6 := heap_alloc_new ((w.alloc (Obj.cells #[Value.pointer (some ⟨b, 0, none⟩)] 72 (0, 0))).alloc (Obj.cells (#[.int .i64 13, .int .i64 d, .int .i64 tw, .int .i64 a1, .int .i64 b1, .int .i64 c1, .int .u64 vl, .int .i64 tg]) 28 (0, 0))) (Obj.cells #[.int .i64 0, .int .i64 0, .int .i64 0, .bool false] 40 (0, 0))
  have e9 := blk_alloc (blk_alloc (blk_alloc hge (Obj.cells #[Value.pointer (some ⟨b, 0, none⟩)] 72 (0, 0))) (Obj.cells (#[.int .i64 13, .int .i64 d, .int .i64 tw, .int .i64 a1, .int .i64 b1, .int .i64 c1, .int .u64 vl, .int .i64 tg]) 28 (0, 0))) (Obj.cells #[.int .i64 0, .int .i64 0, .int .i64 0, .bool false] 40 (0, 0))
  have hbl : Below w.heap.size w (((w.alloc (Obj.cells #[Value.pointer (some ⟨b, 0, none⟩)] 72 (0, 0))).alloc (Obj.cells (#[.int .i64 13, .int .i64 d, .int .i64 tw, .int .i64 a1, .int .i64 b1, .int .i64 c1, .int .u64 vl, .int .i64 tg]) 28 (0, 0))).alloc (Obj.cells #[.int .i64 0, .int .i64 0, .int .i64 0, .bool false] 40 (0, 0))) := below_alloc (below_alloc (below_alloc (Below.refl _ _) _) _) _
  have hM := hM.below hbl
  have hT := hT.below hbl
  have hb := hT.blk
  rw [alloc_sz] at e5
  rw [alloc_sz, alloc_sz] at e6
  generalize (((w.alloc (Obj.cells #[Value.pointer (some ⟨b, 0, none⟩)] 72 (0, 0))).alloc (Obj.cells (#[.int .i64 13, .int .i64 d, .int .i64 tw, .int .i64 a1, .int .i64 b1, .int .i64 c1, .int .u64 vl, .int .i64 tg]) 28 (0, 0))).alloc (Obj.cells #[.int .i64 0, .int .i64 0, .int .i64 0, .bool false] 40 (0, 0))) = w1 at *
  obtain ⟨B4, hB4⟩ : ∃ B, B = w.heap.size := ⟨_, rfl⟩
  obtain ⟨B5, hB5⟩ : ∃ B, B = w.heap.size + 1 := ⟨_, rfl⟩
  obtain ⟨B6, hB6⟩ : ∃ B, B = w.heap.size + 1 + 1 := ⟨_, rfl⟩
  have hg6 : base ≤ B6 := by omega
  have hn6 : w.heap.size ≤ B6 := by omega
  have n96 : ge ≠ B6 := by
    have := blk_lt hge
    omega
  have hB := Keep.of (base := base) (mb := mb) (ts := ts) (col := col) hbl
  rw [← hB6] at e6 ⊢
  rw [← hB5] at e5 ⊢
  rw [← hB4] at e4 ⊢
  clear hB4 hB5 hB6 hbl
  have y1 := t_c1 hb
  have z4 : w1.cell? ⟨B4, 0, none⟩ = some (.pointer (some ⟨b, 0, none⟩)) := (blk_cell e4 0).trans rfl
  go_upto_region 2 with go_in
  have hn1 : w.heap.size ≤ w1.heap.size := hB.size
  have hg8 : base ≤ w1.heap.size := Nat.le_trans hbase (by have := blk_lt e4; have := hB.size; omega)
  have e8 := heap_alloc_new w1 (Obj.cells #[.int .i64 0, .int .i64 6, .int .i64 0, .bool false] 40 (0, 0))
  have hbl : Below w1.heap.size w1 (w1.alloc (Obj.cells #[.int .i64 0, .int .i64 6, .int .i64 0, .bool false] 40 (0, 0))) := below_alloc (Below.refl _ _) _
  have e4 := blk_below e4 hbl
  have e5 := blk_below e5 hbl
  have e6 := blk_below e6 hbl
  have e9 := blk_below e9 hbl
  have hM := hM.below hbl
  have hT := hT.below hbl
  have hb := hT.blk
  have hB := hB.bel hbl
  have hn8 : w.heap.size ≤ w1.heap.size := hn1
  have n68 : B6 ≠ w1.heap.size := Nat.ne_of_lt (blk_lt (show w1.heap[B6]? = _ from by assumption))
  have n98 : ge ≠ w1.heap.size := Nat.ne_of_lt (blk_lt (show w1.heap[ge]? = _ from by assumption))
  clear y1 z4
  generalize w1.alloc (Obj.cells #[.int .i64 0, .int .i64 6, .int .i64 0, .bool false] 40 (0, 0)) = w2 at *
  generalize w1.heap.size = B8 at *
  clear hbl
  have y1 := t_c1 hb
  have z4 : w2.cell? ⟨B4, 0, none⟩ = some (.pointer (some ⟨b, 0, none⟩)) := (blk_cell e4 0).trans rfl
  have z50 : w2.cell? ⟨B5, 0, none⟩ = some (.int .i64 13) := (blk_cell e5 0).trans rfl
  have x12 := t_c12 hT.blk hl
  have f12 := blk_frozen hT.blk 12
  go_upto_region 45 with go_in
  go_region
  have hTn := hT.setHalt true
  have hM := hM.setT hk hT.blk 12 (.bool true) _ _ _ _ hTn
  have hB := hB.setC (p := ⟨b, 12, none⟩) (Or.inr ⟨hT.le, Or.inr (Or.inl (List.mem_of_getElem? hk))⟩) (.bool true)
  have e4 := blk_far (p := ⟨b, 12, none⟩) e4 (blk_ne e4 hT.blk (by decide)) (.bool true)
  have e5 := blk_far (p := ⟨b, 12, none⟩) e5 (blk_ne e5 hT.blk (by decide)) (.bool true)
  have e6 := blk_far (p := ⟨b, 12, none⟩) e6 (blk_ne e6 hT.blk (by decide)) (.bool true)
  have e9 := blk_far (p := ⟨b, 12, none⟩) e9 (blk_ne e9 hT.blk (by decide)) (.bool true)
  have e8 := blk_far (p := ⟨b, 12, none⟩) e8 (blk_ne e8 hT.blk (by decide)) (.bool true)
  replace hT := hTn
  clear hTn x12 f12 y1 z4 z50
  generalize w2.setCell ⟨b, 12, none⟩ (.bool true) = w3 at *
  have e4 := blk_drew e4
  have e5 := blk_drew e5
  have e6 := blk_drew e6
  have e9 := blk_drew e9
  have e8 := blk_drew e8
  have hM := hM.below (below_drew (Below.refl _ _))
  have hT := hT.below (below_drew (Below.refl _ _))
  have hB := hB.drew
  generalize w3.drew = w4 at *
  go_upto_region 46 with go_in
  have y1 := t_c1 hT.blk
  have fz1 := blk_frozen hT.blk 1
  have z4 : w4.cell? ⟨B4, 0, none⟩ = some (.pointer (some ⟨b, 0, none⟩)) := (blk_cell e4 0).trans rfl
  go_upto_region 47 with go_in
  have hTn := hT.setAt (at_)
  have hM := hM.setT hk hT.blk 1 (.int .i64 (at_)) _ _ _ _ hTn
  have hB := hB.setC (p := ⟨b, 1, none⟩) (Or.inr ⟨hT.le, Or.inr (Or.inl (List.mem_of_getElem? hk))⟩) (.int .i64 (at_))
  have e6 := blk_far (p := ⟨b, 1, none⟩) e6 (blk_ne e6 hT.blk (by decide)) (.int .i64 (at_))
  have e9 := blk_far (p := ⟨b, 1, none⟩) e9 (blk_ne e9 hT.blk (by decide)) (.int .i64 (at_))
  have e8 := blk_far (p := ⟨b, 1, none⟩) e8 (blk_ne e8 hT.blk (by decide)) (.int .i64 (at_))
  clear y1 fz1 z4 hT hTn
  generalize w4.setCell ⟨b, 1, none⟩ (.int .i64 (at_)) = wZ at *
  have x80 := (blk_cell e8 0).trans rfl
  have x81 := (blk_cell e8 1).trans rfl
  have x82 := (blk_cell e8 2).trans rfl
  have x83 := (blk_cell e8 3).trans rfl
  have x60 := (blk_cell e6 0).trans rfl
  have x61 := (blk_cell e6 1).trans rfl
  have x62 := (blk_cell e6 2).trans rfl
  have x63 := (blk_cell e6 3).trans rfl
  have f60 : ∀ k, wZ.frozen? ⟨B6, k, none⟩ = false := fun k => by simp [World.frozen?, e6]
  go_wp2
  refine bodyPost_ret (results_c rfl _ _ B6 40 (eArr 0 (6) (0) (false)) (0, 0) _ rfl (put_ev e6) Try.underlying40 rfl (by kernel_rfl)) rfl ?_
  have hF := hM.event (a := 0) (b := 6) (c := 0) (h := false) e6
  try simp only [List.set_set] at hF
  try (have hrv2 := hrv.out; subst hrv2)
  try (have hvv2 := hvv.out; subst hvv2)
  try (have hht2 := hht.out; subst hht2)
  exact ⟨rfl, hB.ev hn6, far_ev e9 n96, _, _, fun _ _ => rfl, hF⟩
set_option maxHeartbeats 8000000 in
set_option maxRecDepth 100000 in
theorem do12.calls (base mb k b : Nat) (col : Nat → Nat) (ts : List Nat) (cv pv cvt wv ov : Value) (M : Mch) (t : Thr) (x : S28) (w : World) (hM : Mach w base mb col ts cv pv M) (hk : ts[k]? = some b) (ht : M.thr[k]? = some t)
    (hT : ThrM w base (fun q => col q = k + 1) b t cvt wv ov) (hbase : base ≤ w.heap.size) (ha : 0 ≤ t.at_ ∧ t.at_ < 1000000) (ge : Nat) (ce : Array Value) (hge : w.heap[ge]? = some (Obj.cells ce 40 (0, 0))) (ho : x.f0 = 12) (hol : t.out.length ≤ 4194304) :
    Calls Try.prog 31 #[.pointer (some ⟨mb, 0, none⟩), .pointer (some ⟨b, 0, none⟩), .agg #[.int .i64 x.f0, .int .i64 x.f1, .int .i64 x.f2, .int .i64 x.f3, .int .i64 x.f4, .int .i64 x.f5, .int .u64 x.f6, .int .i64 x.f7]] w (DoP w base mb ts col pv k M M.cells { t with out := t.out ++ [regS t.rs x.f3], at_ := t.at_ + 1 } 6 0 false ge ce) := by
  have hc26 : Aside0 (∀ q, cv.ownBlock = some q → ∃ cs, w.heap[q]? = some (Obj.cells cs 26 (0, 0))) := Aside0.mk (fun q hq => Kd.R_typed hM.cells q hq)
  have ho26 : Aside0 (∀ q, ov.ownBlock = some q → ∃ cs, w.heap[q]? = some (Obj.cells cs 26 (0, 0))) := Aside0.mk (fun q hq => Kd.R_typed hT.out q hq)
  obtain ⟨o, d, tw, a1, b1, c1, vl, tg⟩ := x
  obtain ⟨cds, at_, rs, wr, out, hd⟩ := t
  simp only at *
  subst ho
  have hb := hT.blk
  have hl := hT.len
  simp only at hb hl
  have y1 := t_c1 hb
  have hat : wrap64 (at_ + 1) = at_ + 1 := wrap_in (by omega) (by omega)
  go_enter Try.func31, Try.ntmps31
  go_upto_region 1 with go_in
  have e4 := blk_alloc (blk_alloc (heap_alloc_new w (Obj.cells #[Value.pointer (some ⟨b, 0, none⟩)] 72 (0, 0))) (Obj.cells (#[.int .i64 12, .int .i64 d, .int .i64 tw, .int .i64 a1, .int .i64 b1, .int .i64 c1, .int .u64 vl, .int .i64 tg]) 28 (0, 0))) (Obj.cells #[.int .i64 0, .int .i64 0, .int .i64 0, .bool false] 40 (0, 0))
  have e5 := blk_alloc (heap_alloc_new (w.alloc (Obj.cells #[Value.pointer (some ⟨b, 0, none⟩)] 72 (0, 0))) (Obj.cells (#[.int .i64 12, .int .i64 d, .int .i64 tw, .int .i64 a1, .int .i64 b1, .int .i64 c1, .int .u64 vl, .int .i64 tg]) 28 (0, 0))) (Obj.cells #[.int .i64 0, .int .i64 0, .int .i64 0, .bool false] 40 (0, 0))
  have e6 := heap_alloc_new ((w.alloc (Obj.cells #[Value.pointer (some ⟨b, 0, none⟩)] 72 (0, 0))).alloc (Obj.cells (#[.int .i64 12, .int .i64 d, .int .i64 tw, .int .i64 a1, .int .i64 b1, .int .i64 c1, .int .u64 vl, .int .i64 tg]) 28 (0, 0))) (Obj.cells #[.int .i64 0, .int .i64 0, .int .i64 0, .bool false] 40 (0, 0))
  have e9 := blk_alloc (blk_alloc (blk_alloc hge (Obj.cells #[Value.pointer (some ⟨b, 0, none⟩)] 72 (0, 0))) (Obj.cells (#[.int .i64 12, .int .i64 d, .int .i64 tw, .int .i64 a1, .int .i64 b1, .int .i64 c1, .int .u64 vl, .int .i64 tg]) 28 (0, 0))) (Obj.cells #[.int .i64 0, .int .i64 0, .int .i64 0, .bool false] 40 (0, 0))
  have hbl : Below w.heap.size w (((w.alloc (Obj.cells #[Value.pointer (some ⟨b, 0, none⟩)] 72 (0, 0))).alloc (Obj.cells (#[.int .i64 12, .int .i64 d, .int .i64 tw, .int .i64 a1, .int .i64 b1, .int .i64 c1, .int .u64 vl, .int .i64 tg]) 28 (0, 0))).alloc (Obj.cells #[.int .i64 0, .int .i64 0, .int .i64 0, .bool false] 40 (0, 0))) := below_alloc (below_alloc (below_alloc (Below.refl _ _) _) _) _
  have hM := hM.below hbl
  have hT := hT.below hbl
  have hb := hT.blk
  rw [alloc_sz] at e5
  rw [alloc_sz, alloc_sz] at e6
  generalize (((w.alloc (Obj.cells #[Value.pointer (some ⟨b, 0, none⟩)] 72 (0, 0))).alloc (Obj.cells (#[.int .i64 12, .int .i64 d, .int .i64 tw, .int .i64 a1, .int .i64 b1, .int .i64 c1, .int .u64 vl, .int .i64 tg]) 28 (0, 0))).alloc (Obj.cells #[.int .i64 0, .int .i64 0, .int .i64 0, .bool false] 40 (0, 0))) = w1 at *
  obtain ⟨B4, hB4⟩ : ∃ B, B = w.heap.size := ⟨_, rfl⟩
  obtain ⟨B5, hB5⟩ : ∃ B, B = w.heap.size + 1 := ⟨_, rfl⟩
  obtain ⟨B6, hB6⟩ : ∃ B, B = w.heap.size + 1 + 1 := ⟨_, rfl⟩
  have hg6 : base ≤ B6 := by omega
  have hn6 : w.heap.size ≤ B6 := by omega
  have n96 : ge ≠ B6 := by
    have := blk_lt hge
    omega
  have hB := Keep.of (base := base) (mb := mb) (ts := ts) (col := col) hbl
  rw [← hB6] at e6 ⊢
  rw [← hB5] at e5 ⊢
  rw [← hB4] at e4 ⊢
  clear hB4 hB5 hB6 hbl
  have y1 := t_c1 hb
  have z4 : w1.cell? ⟨B4, 0, none⟩ = some (.pointer (some ⟨b, 0, none⟩)) := (blk_cell e4 0).trans rfl
  go_upto_region 2 with go_in
  have hn1 : w.heap.size ≤ w1.heap.size := hB.size
  have hg8 : base ≤ w1.heap.size := Nat.le_trans hbase (by have := blk_lt e4; have := hB.size; omega)
  have e8 := heap_alloc_new w1 (Obj.cells #[.int .i64 0, .int .i64 6, .int .i64 0, .bool false] 40 (0, 0))
  have hbl : Below w1.heap.size w1 (w1.alloc (Obj.cells #[.int .i64 0, .int .i64 6, .int .i64 0, .bool false] 40 (0, 0))) := below_alloc (Below.refl _ _) _
  have e4 := blk_below e4 hbl
  have e5 := blk_below e5 hbl
  have e6 := blk_below e6 hbl
  have e9 := blk_below e9 hbl
  have hM := hM.below hbl
  have hT := hT.below hbl
  have hb := hT.blk
  have hB := hB.bel hbl
  have hn8 : w.heap.size ≤ w1.heap.size := hn1
  have n68 : B6 ≠ w1.heap.size := Nat.ne_of_lt (blk_lt (show w1.heap[B6]? = _ from by assumption))
  have n98 : ge ≠ w1.heap.size := Nat.ne_of_lt (blk_lt (show w1.heap[ge]? = _ from by assumption))
  clear y1 z4
  generalize w1.alloc (Obj.cells #[.int .i64 0, .int .i64 6, .int .i64 0, .bool false] 40 (0, 0)) = w2 at *
  generalize w1.heap.size = B8 at *
  clear hbl
  have y1 := t_c1 hb
  have z4 : w2.cell? ⟨B4, 0, none⟩ = some (.pointer (some ⟨b, 0, none⟩)) := (blk_cell e4 0).trans rfl
  have z50 : w2.cell? ⟨B5, 0, none⟩ = some (.int .i64 12) := (blk_cell e5 0).trans rfl
  have z53 : w2.cell? ⟨B5, 3, none⟩ = some (.int .i64 a1) := (blk_cell e5 3).trans rfl
  have x11 := t_c11 hT.blk hl
  have hb := hT.blk
  have lb := blk_lt hb
  have l4 := blk_lt e4
  have l5 := blk_lt e5
  have TR := fun wx (hx : TBlk wx b cvt at_ rs wv ov hd) => reg.calls b cvt wv ov at_ rs hd a1 wx hl hx
  have own_ne : ∀ (g : Nat) (cs : Array Value) (ty : TypeId), w2.heap[g]? = some (Obj.cells cs ty (0, 0)) → ty ≠ 26 → some g ≠ ov.ownBlock := by
    intro g cs ty hg2 hty e
    obtain ⟨cs2, h2⟩ := Kd.R_typed hT.out g e.symm
    exact blk_ne hg2 h2 hty rfl
  have n4 := own_ne _ _ _ e4 (by decide)
  have n5 := own_ne _ _ _ e5 (by decide)
  have nb := own_ne _ _ _ hb (by decide)
  have hbw : base ≤ w2.heap.size := Nat.le_trans hT.le (Nat.le_of_lt lb)
  have hw2 : w.heap.size ≤ w2.heap.size := hB.size
  go_upto_region 43 with go_in
  refine start_ (n := 14) (S := fun w' => w2.grownBy w' ov.ownBlock) (ds := [13]) #[false, false, false, false, false, false, false, false, false, false, false, false, false, false] (by kernel_rfl) rfl rfl (drew_grown _ _) (fun hHeld => ?_); refine with_tabW do31.tab43 do31.bits43 (fun HT_ HW_ => ?_)
  refine take_ (i := 0) (N := some 205) (v := ?_) (a' := ?_) #[true, false, false, false, false, false, false, false, false, false, false, false, false, false] rfl rfl (take_ofW HT_.out HW_.out (by kernel_rfl)) (fun _ _ _ h => h) (Or.inl ⟨by first | rfl | kernel_rfl, ?_⟩) hHeld ?_ ?_
  rotate_left
  · intro w' s0
    have zc := (grown_cell s0 (by exact l4) (by exact n4)).trans z4
    go_simp
    with_reducible rfl
  rotate_left
  · simp only [Act.put, List.setIfInBounds_toArray, List.set_cons_zero, List.set_cons_succ, i64_w, i32_w]
    rfl
  refine take_ (i := 1) (N := some 206) (v := ?_) (a' := ?_) #[true, true, false, false, false, false, false, false, false, false, false, false, false, false] rfl rfl (take_ofW HT_.out HW_.out (by kernel_rfl)) (fun _ _ _ h => h) (Or.inl ⟨by first | rfl | kernel_rfl, ?_⟩) hHeld ?_ ?_
  rotate_left
  · intro w' s0
    have zc := (grown_cell s0 (by exact l4) (by exact n4)).trans z4
    go_simp
    with_reducible rfl
  rotate_left
  · simp only [Act.put, List.setIfInBounds_toArray, List.set_cons_zero, List.set_cons_succ, i64_w, i32_w]
    rfl
  refine pure_ (i := 2) (N := some 207) (v := ?_) (a' := ?_) #[true, true, true, false, false, false, false, false, false, false, false, false, false, false] rfl rfl (any_of HT_.out (by kernel_rfl)) (fun _ _ _ h => h) (Or.inl ⟨by first | rfl | kernel_rfl, ?_⟩) ?_ ?_
  rotate_left
  · intro w'
    go_simp
    with_reducible rfl
  rotate_left
  · simp only [Act.put, List.setIfInBounds_toArray, List.set_cons_zero, List.set_cons_succ, i64_w, i32_w]
    rfl
  refine pure_ (i := 3) (N := some 208) (v := ?_) (a' := ?_) #[true, true, true, true, false, false, false, false, false, false, false, false, false, false] rfl rfl (any_of HT_.out (by kernel_rfl)) (fun _ _ _ h => h) (Or.inl ⟨by first | rfl | kernel_rfl, ?_⟩) ?_ ?_
  rotate_left
  · intro w'
    go_simp
    with_reducible rfl
  rotate_left
  · simp only [Act.put, List.setIfInBounds_toArray, List.set_cons_zero, List.set_cons_succ, i64_w, i32_w]
    rfl
  refine take_ (i := 4) (N := some 209) (v := ?_) (a' := ?_) #[true, true, true, true, true, false, false, false, false, false, false, false, false, false] rfl rfl (take_ofW HT_.out HW_.out (by kernel_rfl)) (fun _ _ _ h => h) (Or.inl ⟨by first | rfl | kernel_rfl, ?_⟩) hHeld ?_ ?_
  rotate_left
  · intro w' s0
    have zc := (grown_cell s0 (by exact lb) (by exact nb)).trans x11
    go_simp
    with_reducible rfl
  rotate_left
  · simp only [Act.put, List.setIfInBounds_toArray, List.set_cons_zero, List.set_cons_succ, i64_w, i32_w]
    rfl
  refine take_ (i := 5) (N := some 210) (v := ?_) (a' := ?_) #[true, true, true, true, true, true, false, false, false, false, false, false, false, false] rfl rfl (take_ofW HT_.out HW_.out (by kernel_rfl)) (fun _ _ _ h => h) (Or.inl ⟨by first | rfl | kernel_rfl, ?_⟩) hHeld ?_ ?_
  rotate_left
  · intro w' s0
    have zc := (grown_cell s0 (by exact l4) (by exact n4)).trans z4
    go_simp
    with_reducible rfl
  rotate_left
  · simp only [Act.put, List.setIfInBounds_toArray, List.set_cons_zero, List.set_cons_succ, i64_w, i32_w]
    rfl
  refine pure_ (i := 6) (N := some 211) (v := ?_) (a' := ?_) #[true, true, true, true, true, true, true, false, false, false, false, false, false, false] rfl rfl (any_of HT_.out (by kernel_rfl)) (fun _ _ _ h => h) (Or.inl ⟨by first | rfl | kernel_rfl, ?_⟩) ?_ ?_
  rotate_left
  · intro w'
    go_simp
    with_reducible rfl
  rotate_left
  · simp only [Act.put, List.setIfInBounds_toArray, List.set_cons_zero, List.set_cons_succ, i64_w, i32_w]
    rfl
  refine take_ (i := 7) (N := some 212) (v := ?_) (a' := ?_) #[true, true, true, true, true, true, true, true, false, false, false, false, false, false] rfl rfl (take_ofW HT_.out HW_.out (by kernel_rfl)) (fun _ _ _ h => h) (Or.inl ⟨by first | rfl | kernel_rfl, ?_⟩) hHeld ?_ ?_
  rotate_left
  · intro w' s0
    have zc := (grown_cell s0 (by exact l5) (by exact n5)).trans z53
    go_simp
    with_reducible rfl
  rotate_left
  · simp only [Act.put, List.setIfInBounds_toArray, List.set_cons_zero, List.set_cons_succ, i64_w, i32_w]
    rfl
  refine one_ (i := 8) (N := some 213) #[true, true, true, true, true, true, true, true, true, false, false, false, false, false] rfl rfl (one_of HT_.out (by kernel_rfl)) (by decide) (fun K hK => ?_)
  refine goes_ Try.func46 (by kernel_rfl) rfl #[.pointer (some ⟨b, 0, none⟩), .int .i64 a1] (by first | rfl | kernel_rfl) rfl rfl (by (try simp only [List.map_toArray, List.map_cons, List.map_nil]); first | done | rfl) ?_
  refine (TR _ (blk_grown hb hHeld nb)).mono ?_
  rintro e w8 ⟨rfl, h8⟩
  subst h8
  refine ⟨_, rfl, hK.out _ _ hHeld (fun hHeld => ?_)⟩
  clear hK K
  refine norm_ (a' := ?_) ?_ ?_
  rotate_left
  · show Act.put _ (some 213) _ = _
    simp only [Act.put, List.setIfInBounds_toArray, List.set_cons_zero, List.set_cons_succ, i64_w, i32_w]
    rfl
  refine one_ (i := 9) (N := some 214) #[true, true, true, true, true, true, true, true, true, true, false, false, false, false] rfl rfl (one_of HT_.out (by kernel_rfl)) (by decide) (fun K hK => ?_)
  refine val_ (w1 := (w2.alloc (Obj.cells #[.int .u64 (regS rs a1)] 26 (0, 0))).drew) (v := .slice (some ⟨w2.heap.size, 0, none⟩) 1 1) (by first | rfl | kernel_rfl) rfl ?_ ?_
  · go_simp
  refine hK.out _ _ (World.grownBy.trans (World.grownBy_alloc w2 _ _) (drew_grown _ _)) (fun hHeld => ?_)
  clear hK K
  refine norm_ (a' := ?_) ?_ ?_
  rotate_left
  · show Act.put _ (some 214) _ = _
    simp only [Act.put, List.setIfInBounds_toArray, List.set_cons_zero, List.set_cons_succ, i64_w, i32_w]
    rfl
  refine one_ (i := 10) (N := some 215) #[true, true, true, true, true, true, true, true, true, true, true, false, false, false] rfl rfl (one_of HT_.out (by kernel_rfl)) (by decide) (fun K hK => ?_)
  refine push_ (by first | rfl | kernel_rfl) (.tmp 209) (.tmp 214) 42 26 8 rfl Try.underlying42 infoU (by omega) ov base w2.heap.size out (regS rs a1) (fun q => (if q < w2.heap.size then col q else k + 1) = k + 1) rfl rfl (blk_drew (heap_alloc_new w2 _)) (Kd.R_drew (Kd.R_alloc (row_col hT.out (fun q hq => if_pos hq)) _)) (by show base ≤ (w2.alloc _).heap.size; rw [alloc_sz]; omega) (by omega) (fun q hq => if_neg (by have hq2 : (w2.alloc (Obj.cells #[.int .u64 (regS rs a1)] 26 (0, 0))).heap.size ≤ q := hq; rw [alloc_sz] at hq2; omega)) ?_
  intro v1 w8 hR8 hg8
  have hHeld := World.grownBy.trans hHeld hg8
  obtain ⟨AP, cP, hvP⟩ := Kd.R_slice hR8
  generalize hnP : (out ++ [regS rs a1]).length = nP at hvP
  subst hvP
  replace hnP := Aside0.mk hnP
  refine hK.out _ _ hHeld (fun hHeld => ?_)
  clear hK K
  refine norm_ (a' := ?_) ?_ ?_
  rotate_left
  · show Act.put _ (some 215) _ = _
    simp only [Act.put, List.setIfInBounds_toArray, List.set_cons_zero, List.set_cons_succ, i64_w, i32_w]
    rfl
  refine pure_ (i := 11) (N := some 216) (v := ?_) (a' := ?_) #[true, true, true, true, true, true, true, true, true, true, true, true, false, false] rfl rfl (any_of HT_.out (by kernel_rfl)) (fun _ _ _ h => h) (Or.inl ⟨by first | rfl | kernel_rfl, ?_⟩) ?_ ?_
  rotate_left
  · intro w'
    go_simp
    with_reducible rfl
  rotate_left
  · simp only [Act.put, List.setIfInBounds_toArray, List.set_cons_zero, List.set_cons_succ, i64_w, i32_w]
    rfl
  refine pure_ (i := 12) (N := some 217) (v := ?_) (a' := ?_) #[true, true, true, true, true, true, true, true, true, true, true, true, true, false] rfl rfl (any_of HT_.out (by kernel_rfl)) (fun _ _ _ h => h) (Or.inl ⟨by first | rfl | kernel_rfl, ?_⟩) ?_ ?_
  rotate_left
  · intro w'
    go_simp
    with_reducible rfl
  rotate_left
  · simp only [Act.put, List.setIfInBounds_toArray, List.set_cons_zero, List.set_cons_succ, i64_w, i32_w]
    rfl
  refine last_ (i := 13) (N := none) #[true, true, true, true, true, true, true, true, true, true, true, true, true, true] rfl rfl (one_of HT_.out (by kernel_rfl)) (by decide) (fun K hK => ?_)
  have hb9 := blk_grown hb hHeld nb
  have x119 := t_c11 hb9 hl
  have f11 := blk_frozen hb9 11
  refine skip_ (w1 := World.setCell w8 ⟨b, 11, none⟩ (.slice AP nP cP)) (by first | rfl | kernel_rfl) rfl ?_ ?_
  · go_simp
  refine hK.out _ _ ?_
  clear hK K x119 f11 hb9
  refine done_ (done_of HT_.out (by kernel_rfl)) ?_
  clear HT_ HW_
  clear z4 z50 z53 y1 x11 lb l4 l5 hb TR
  have n6 := own_ne _ _ _ e6 (by decide)
  have n9 := own_ne _ _ _ e9 (by decide)
  have n8 := own_ne _ _ _ e8 (by decide)
  have hb9 := blk_grown hT.blk hHeld nb
  have e4 := blk_far (p := ⟨b, 11, none⟩) (blk_grown e4 hHeld n4) (blk_ne (blk_grown e4 hHeld n4) hb9 (by decide)) (.slice AP nP cP)
  have e5 := blk_far (p := ⟨b, 11, none⟩) (blk_grown e5 hHeld n5) (blk_ne (blk_grown e5 hHeld n5) hb9 (by decide)) (.slice AP nP cP)
  have e6 := blk_far (p := ⟨b, 11, none⟩) (blk_grown e6 hHeld n6) (blk_ne (blk_grown e6 hHeld n6) hb9 (by decide)) (.slice AP nP cP)
  have e9 := blk_far (p := ⟨b, 11, none⟩) (blk_grown e9 hHeld n9) (blk_ne (blk_grown e9 hHeld n9) hb9 (by decide)) (.slice AP nP cP)
  have e8 := blk_far (p := ⟨b, 11, none⟩) (blk_grown e8 hHeld n8) (blk_ne (blk_grown e8 hHeld n8) hb9 (by decide)) (.slice AP nP cP)
  obtain ⟨hTn, hMn⟩ := hM.tell hk hT hHeld (fun q hq => if_pos hq) hR8
  have hB := (hB.grow hHeld (fun q hq => ⟨Kd.R_base hT.out q hq, Nat.le_trans (Nat.le_of_eq (hT.out.1 q hq)) (List.getElem?_eq_some_iff.mp hk).1, ho26.out q hq⟩)).setC (p := ⟨b, 11, none⟩) (Or.inr ⟨hT.le, Or.inr (Or.inl (List.mem_of_getElem? hk))⟩) (.slice AP nP cP)
  replace hT := hTn
  replace hM := hMn
  clear hTn hMn hHeld hR8 own_ne n4 n5 n6 n8 nb hb9
  generalize w8.setCell ⟨b, 11, none⟩ (.slice AP nP cP) = w9 at *
  go_upto_region 46 with go_in
  have y1 := t_c1 hT.blk
  have fz1 := blk_frozen hT.blk 1
  have z4 : w9.cell? ⟨B4, 0, none⟩ = some (.pointer (some ⟨b, 0, none⟩)) := (blk_cell e4 0).trans rfl
  go_upto_region 47 with go_in
  have hTn := hT.setAt (at_ + 1)
  have hM := hM.setT hk hT.blk 1 (.int .i64 (at_ + 1)) _ _ _ _ hTn
  have hB := hB.setC (p := ⟨b, 1, none⟩) (Or.inr ⟨hT.le, Or.inr (Or.inl (List.mem_of_getElem? hk))⟩) (.int .i64 (at_ + 1))
  have e6 := blk_far (p := ⟨b, 1, none⟩) e6 (blk_ne e6 hT.blk (by decide)) (.int .i64 (at_ + 1))
  have e9 := blk_far (p := ⟨b, 1, none⟩) e9 (blk_ne e9 hT.blk (by decide)) (.int .i64 (at_ + 1))
  have e8 := blk_far (p := ⟨b, 1, none⟩) e8 (blk_ne e8 hT.blk (by decide)) (.int .i64 (at_ + 1))
  clear y1 fz1 z4 hT hTn
  generalize w9.setCell ⟨b, 1, none⟩ (.int .i64 (at_ + 1)) = wZ at *
  have x80 := (blk_cell e8 0).trans rfl
  have x81 := (blk_cell e8 1).trans rfl
  have x82 := (blk_cell e8 2).trans rfl
  have x83 := (blk_cell e8 3).trans rfl
  have x60 := (blk_cell e6 0).trans rfl
  have x61 := (blk_cell e6 1).trans rfl
  have x62 := (blk_cell e6 2).trans rfl
  have x63 := (blk_cell e6 3).trans rfl
  have f60 : ∀ k, wZ.frozen? ⟨B6, k, none⟩ = false := fun k => by simp [World.frozen?, e6]
  go_wp2
  refine bodyPost_ret (results_c rfl _ _ B6 40 (eArr 0 (6) (0) (false)) (0, 0) _ rfl (put_ev e6) Try.underlying40 rfl (by kernel_rfl)) rfl ?_
  have hF := hM.event (a := 0) (b := 6) (c := 0) (h := false) e6
  try simp only [List.set_set] at hF
  try (have hrv2 := hrv.out; subst hrv2)
  try (have hvv2 := hvv.out; subst hvv2)
  try (have hht2 := hht.out; subst hht2)
  exact ⟨rfl, hB.ev hn6, far_ev e9 n96, _, _, fun q hq => if_pos (Nat.lt_of_lt_of_le hq hw2), hF⟩
end Go.Proofs.Ytaenjbhhpdmhgaa.Tso
