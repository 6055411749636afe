/-
The same picks do the same; a thread that is not picked does nothing: the law TsoSame, walked. Conditions: as each theorem states them.
-/
import Derived.Test.YtaenjbhhpdmhgaaMTsSA
import Derived.Test.YtaenjbhhpdmhgaaMTsMk
set_option linter.unusedVariables false
set_option linter.unusedSimpArgs false
namespace Go.Proofs.Ytaenjbhhpdmhgaa.Tso
open Go.RowKit Go.Proofs.YtaenjbhhpdmhgaaW.PrintWords Go.Proofs.YtaenjbhhpdmhgaaW.PrintLast Go.Proofs.YtaenjbhhpdmhgaaW.PrintMore
open Go.Proofs.Ytaenjbhhpdmhgaa.Kit
open Go.Proofs.Ytaenjbhhpdmhgaa.PTsoScript
open Go.ChangeMaps Go.MapKept
/-- Which thread a pick is of. -/
def pickK (p : Int) : Int := (p.tdiv 2).tmod 18
def pickedS (p : List Int) (j : Nat) : List Int := (p.take j).map pickK
theorem pickedS_succ (p : List Int) (j : Nat) (h : j < p.length) : pickedS p (j + 1) = pickedS p j ++ [pickK (p.getD j 0)] := by
  unfold pickedS
  rw [List.take_add_one, List.getD_eq_getElem?_getD, List.getElem?_eq_getElem h, List.map_append]
  rfl
/-- What TsoSame keeps: a good machine, and what was not picked is as it was. -/
structure SameM (LX : List (List S28)) (N : Nat) (S : List Int) (M : Mch) : Prop where
  good : GoodM 10 N M
  len : M.thr.length = LX.length
  free : ∀ (k : Nat) (t : List S28), LX[k]? = some t → (k : Int) ∉ S → M.thr[k]? = some (initThr t)
theorem same_init {LX : List (List S28)} {l : List Int} (him : Pure.imS 5 10 LX) (hu : ∀ t ∈ LX, ∀ x ∈ t, U64 x.f6) (hl : ∀ v ∈ l, U64 v) : SameM LX 0 [] ⟨firstS 5 10 l, LX.map initThr, 0⟩ := by
  refine ⟨⟨?_, ?_, by decide, ?_⟩, List.length_map .., ?_⟩
  · show (firstS 5 10 l).length = 10
    simp only [firstS, List.length_append, List.length_take, List.length_drop, List.length_replicate]
    omega
  · intro v hv
    have hv : v ∈ firstS 5 10 l := hv
    unfold firstS at hv
    rcases List.mem_append.mp hv with hv | hv
    · exact hl v (List.mem_of_mem_take hv)
    · rw [(List.mem_replicate.mp (List.mem_of_mem_drop hv)).2]; exact ⟨by decide, by decide⟩
  · intro t ht
    obtain ⟨x, hx, rfl⟩ := List.mem_map.mp ht
    have hth := him.2.2.2.2 x hx
    refine ⟨hth, hu x hx, rfl, ?_, Int.le_refl 0, ?_, Nat.le_refl 0, ?_, Nat.le_refl 0⟩
    · intro v hv
      rw [(List.mem_replicate.mp hv).2]; exact ⟨by decide, by decide⟩
    · have := hth.1.1
      show 0 < x.length
      omega
    · intro y hy; cases hy
  · intro k t hk _
    rw [List.getElem?_map, hk]; rfl
theorem same_step {LX : List (List S28)} {N : Nat} {S : List Int} {M : Mch} (h : SameM LX N S M) (k : Nat) : SameM LX (N + 1) (S ++ [(k : Int)]) (stepG M k).1 := by
  refine ⟨good_step h.good k, by rw [step_len]; exact h.len, fun q t hq hn => ?_⟩
  have hqk : q ≠ k := fun e => hn (by rw [e]; simp)
  rw [step_far _ hqk]
  exact h.free q t hq (fun hm => hn (List.mem_append_left _ hm))
theorem same_flush {LX : List (List S28)} {N : Nat} {S : List Int} {M : Mch} (h : SameM LX N S M) (k : Nat) : SameM LX (N + 1) (S ++ [(k : Int)]) (flushF M k).1 := by
  refine ⟨(good_flush h.good k).mono (Nat.le_succ N), by rw [flush_len]; exact h.len, fun q t hq hn => ?_⟩
  have hqk : q ≠ k := fun e => hn (by rw [e]; simp)
  rw [flush_far _ hqk]
  exact h.free q t hq (fun hm => hn (List.mem_append_left _ hm))
theorem same_none {LX : List (List S28)} {N : Nat} {S : List Int} {M : Mch} (h : SameM LX N S M) (k : Int) : SameM LX (N + 1) (S ++ [k]) M :=
  ⟨h.good.mono (Nat.le_succ N), h.len, fun q t hq hn => h.free q t hq (fun hm => hn (List.mem_append_left _ hm))⟩
/-- What a machine does at a pick, of any number. -/
def actF (st : Bool) (M : Mch) (n : Nat) (k : Int) : Mch × Int × Int × Bool :=
  if 0 ≤ k ∧ k < n then (if st then stepG M k.toNat else flushF M k.toNat) else (M, 0, 0, false)
theorem act12.calls {w : World} {base mb : Nat} {col : Nat → Nat} {ts : List Nat} {cv pv : Value} {M : Mch} {n : Nat} (hM : Mach w base mb col ts cv pv M) (hn : ts.length = n) (hbase : base ≤ w.heap.size) (hf : FitsG M) (k : Int) :
    Calls Try.prog 12 #[.pointer (some ⟨mb, 0, none⟩), .int .i64 k] w (StepP w base mb ts col pv (actF true M n k).1 k (actF true M n k).2.1 (actF true M n k).2.2.1 (actF true M n k).2.2.2) := by
  subst hn
  unfold actF
  by_cases hk : 0 ≤ k ∧ k < ts.length
  · obtain ⟨q, rfl⟩ := Int.eq_ofNat_of_zero_le hk.1
    simp only [if_pos hk, if_true, Int.toNat_natCast]
    exact stepG.calls base mb q col ts cv pv M w hM (by omega) hbase hf
  · simp only [if_neg hk]
    exact step_none.calls base mb col ts cv pv M k w hM hbase hk
theorem act13.calls {w : World} {base mb : Nat} {col : Nat → Nat} {ts : List Nat} {cv pv : Value} {M : Mch} {n : Nat} (hM : Mach w base mb col ts cv pv M) (hn : ts.length = n) (hbase : base ≤ w.heap.size) (hf : ∀ t ∈ M.thr, t.wr.length ≤ 4194304 ∧ ∀ x ∈ t.wr, 0 ≤ x.f0 ∧ x.f0 < M.cells.length) (k : Int) :
    Calls Try.prog 13 #[.pointer (some ⟨mb, 0, none⟩), .int .i64 k] w (StepP w base mb ts col pv (actF false M n k).1 k (actF false M n k).2.1 (actF false M n k).2.2.1 (actF false M n k).2.2.2) := by
  subst hn
  unfold actF
  by_cases hk : 0 ≤ k ∧ k < ts.length
  · obtain ⟨q, rfl⟩ := Int.eq_ofNat_of_zero_le hk.1
    simp only [if_pos hk, Bool.false_eq_true, if_false, Int.toNat_natCast]
    exact flushF.calls base mb q col ts cv pv M w hM (by omega) hbase hf
  · simp only [if_neg hk]
    exact flush_none.calls base mb col ts cv pv M k w hM hbase hk
theorem same_act {LX : List (List S28)} {N : Nat} {S : List Int} {M : Mch} (h : SameM LX N S M) (st : Bool) (n : Nat) (k : Int) : SameM LX (N + 1) (S ++ [k]) (actF st M n k).1 := by
  unfold actF
  by_cases hk : 0 ≤ k ∧ k < n
  · obtain ⟨q, rfl⟩ := Int.eq_ofNat_of_zero_le hk.1
    simp only [if_pos hk, Int.toNat_natCast]
    cases st
    · exact same_flush h q
    · exact same_step h q
  · simp only [if_neg hk]
    exact same_none h k
theorem good_wr {c N : Nat} {M : Mch} (h : GoodM c N M) (hN : N ≤ 4194304) : ∀ t ∈ M.thr, t.wr.length ≤ 4194304 ∧ ∀ x ∈ t.wr, 0 ≤ x.f0 ∧ x.f0 < M.cells.length := fun t ht =>
  ⟨Nat.le_trans (h.thr t ht).wl hN, fun x hx => by have := (h.thr t ht).wr x hx; rw [h.cl]; exact ⟨this.1, this.2.1⟩⟩
/-- A thread's shows, of a machine in memory. -/
theorem shows {W : World} {base mb : Nat} {col : Nat → Nat} {ts : List Nat} {cv pv : Value} {M : Mch} (hM : Mach W base mb col ts cv pv M) {k : Nat} (hk : k < ts.length) {t : Thr} (ht : M.thr[k]? = some t) :
    Calls Try.prog 19 #[.pointer (some ⟨mb, 0, none⟩), .int .i64 (k : Int)] W (fun e w' => e = .returned (.int .i64 t.at_) ∧ w' = W) ∧
    Calls Try.prog 17 #[.pointer (some ⟨mb, 0, none⟩), .int .i64 (k : Int)] W (fun e w' => e = .returned (.int .i64 (t.wr.length : Int)) ∧ w' = W) ∧
    Calls Try.prog 18 #[.pointer (some ⟨mb, 0, none⟩), .int .i64 (k : Int)] W (fun e w' => e = .returned (.bool t.halted) ∧ w' = W) ∧
    (t.out.length ≤ 17592186044416 → Calls Try.prog 16 #[.pointer (some ⟨mb, 0, none⟩), .int .i64 (k : Int)] W fun e w' => ∃ A c, e = .returned (.slice A t.out.length c) ∧ Kd.C kU w' A t.out.length t.out ∧ t.out.length ≤ c ∧ Below W.heap.size W w') := by
  obtain ⟨v, wv, ov, hT⟩ := hM.thr k ts[k] t (List.getElem?_eq_getElem hk) ht
  have hblk := hT.blk
  obtain ⟨Aw, cw, rfl⟩ := Kd.R_slice hT.wr
  obtain ⟨Ao, co, rfl⟩ := Kd.R_slice hT.out
  refine ⟨at.calls mb cv pv M.steps ts k W hM.blk (prow_of hM.ptrs) hk v _ _ t.at_ t.rs t.halted hT.len hblk, waiting.calls mb cv pv M.steps ts k W hM.blk (prow_of hM.ptrs) hk v _ Aw _ cw t.at_ t.rs t.halted hT.len hblk, halted.calls mb cv pv M.steps ts k W hM.blk (prow_of hM.ptrs) hk v _ _ t.at_ t.rs t.halted hT.len hblk, fun hx => ?_⟩
  refine (output.calls mb cv pv M.steps ts k ts[k] W hM.blk (prow_of hM.ptrs) (List.getElem?_eq_getElem hk) v _ Ao co t.out t.at_ t.rs t.halted hT.len hblk (Kd.R_reads' hT.out).2.2 hx).mono ?_
  rintro e w' ⟨v1, rfl, hR, hb⟩
  obtain ⟨A, c, rfl⟩ := Kd.R_slice hR
  exact ⟨A, c, rfl, (Kd.R_reads' hR).2.2, (Kd.R_reads' hR).2.1, hb⟩
theorem all_cells {W : World} {base mb : Nat} {col : Nat → Nat} {ts : List Nat} {cv pv : Value} {M : Mch} (hM : Mach W base mb col ts cv pv M) (hx : M.cells.length ≤ 17592186044416) :
    Calls Try.prog 14 #[.pointer (some ⟨mb, 0, none⟩)] W fun e w' => ∃ A c, e = .returned (.slice A M.cells.length c) ∧ Kd.C kU w' A M.cells.length M.cells ∧ M.cells.length ≤ c ∧ Below W.heap.size W w' := by
  obtain ⟨A, c, rfl⟩ := Kd.R_slice hM.cells
  refine (cells.calls mb A c M.cells pv M.steps W hM.blk (Kd.R_reads' hM.cells).2.2 hx).mono ?_
  rintro e w' ⟨v, rfl, hR, hb⟩
  obtain ⟨A, c, rfl⟩ := Kd.R_slice hR
  exact ⟨A, c, rfl, (Kd.R_reads' hR).2.2, (Kd.R_reads' hR).2.1, hb⟩
theorem Keep.map {W W' : World} {base mb : Nat} {col : Nat → Nat} {ts : List Nat} {cv pv : Value} {M : Mch} {m : Nat} {S : List Int} (hK : Keep base mb ts col W W') (hM : Mach W base mb col ts cv pv M) (hm : MapB W m S) : MapB W' m S := by
  have hm2 := hm
  obtain ⟨es, c, hh, _⟩ := hm2
  refine hm.of (hK.typed hm.lt (fun e => ?_) (fun h => ?_) (fun cs hc => ?_))
  · subst e; rw [hM.blk] at hh; cases hh
  · obtain ⟨cs, hc, _⟩ := hM.ts_blk h; rw [hc] at hh; cases hh
  · rw [hc] at hh; cases hh
set_option maxHeartbeats 16000000 in
set_option maxRecDepth 100000 in
theorem tsoSame.calls (V : Option Addr) (cv : Nat) (R : List (List S28)) (A : Option Addr) (cA : Nat) (l : List Int) (Pp : Option Addr) (cp : Nat) (p : List Int) (w : World) (hC : Kd.C (Kd.slice 28 k28) w V R.length R) (hcv : R.length ≤ cv) (hRm : R.length ≤ 9223372036854775806)
    (hu : ∀ t ∈ R, ∀ x ∈ t, Pure.U64 x) (hX : Kd.C kU w A l.length l) (hU : ∀ x ∈ l, 0 ≤ x ∧ x ≤ 18446744073709551615) (hP : Kd.C (Kd.int .i8) w Pp p.length p) (hcp : p.length ≤ cp) (hpl : p.length ≤ 1048576) (hpb : ∀ x ∈ p, -128 ≤ x ∧ x ≤ 127) :
    Calls Try.prog 8 #[.slice V R.length cv, .slice A l.length cA, .slice Pp p.length cp] w fun e w' => e = .returned (.bool true) ∧ Below w.heap.size w w' := by
  have TA := awake.calls w
  obtain ⟨him, hxu⟩ := Pure.mkI_ok R 5 9 ⟨by decide, by decide⟩ ⟨by decide, by decide⟩ hu
  obtain ⟨LX, hLX⟩ : ∃ LX, LX = (R.take 16).map (Pure.thM 10) := ⟨_, rfl⟩
  have him : Pure.imS ((5 : Nat) : Int) ((10 : Nat) : Int) LX := by rw [hLX]; exact him
  have hxu : ∀ t ∈ LX, ∀ x ∈ t, U64 x.f6 := by
    intro t ht x hx
    rw [hLX] at ht
    have := hxu t ht x hx
    exact ⟨this.v0, by have := this.v1; omega⟩
  have TM := fun (wx : World) (h : Kd.C (Kd.slice 28 k28) wx V R.length R) => Pure.mkI.calls V cv R 5 9 wx h hcv hRm ⟨by decide, by decide⟩ ⟨by decide, by decide⟩ hu
  have TM : ∀ (wx : World), Kd.C (Kd.slice 28 k28) wx V R.length R → Calls Try.prog 22 #[.slice V R.length cv, .int .u8 5, .int .u8 9] wx fun e w' => ∃ v, e = .returned (.agg #[.int .i64 5, .int .i64 10, v]) ∧ Kd.S (Kd.slice 28 k28) 29 w' wx.heap.size (fun _ => True) v LX ∧ Below wx.heap.size wx w' := by
    intro wx h
    rw [hLX]
    exact TM wx h
  obtain ⟨M0, hM0⟩ : ∃ M0 : Mch, M0 = ⟨firstS 5 10 l, LX.map initThr, 0⟩ := ⟨_, rfl⟩
  have TF : ∀ (wx : World) (V2 : Option Addr) (c2 : Nat), Kd.C (Kd.slice 28 k28) wx V2 LX.length LX → LX.length ≤ c2 → Kd.C kU wx A l.length l →
      Calls Try.prog 11 #[.agg #[.int .i64 5, .int .i64 10, .slice V2 LX.length c2], .slice A l.length cA] wx fun e w' => ∃ (mb : Nat) (ts : List Nat) (cv pv : Value), e = .returned (.tuple #[.pointer (some ⟨mb, 0, none⟩), .bool true]) ∧ Mach w' wx.heap.size mb (fun _ => 0) ts cv pv M0 ∧ Below wx.heap.size wx w' := by
    intro wx V2 c2 h hc h2
    rw [hM0]
    exact of.calls 5 10 LX V2 c2 A cA l wx h hc (fun t ht => by have := (him.2.2.2.2 t ht).1.2.1; omega) him h2
  have hIN := same_init him hxu (fun v hv => ⟨(hU v hv).1, by have := (hU v hv).2; omega⟩)
  rw [← hM0] at hIN
  replace hM0 := Aside0.mk hM0
  have hL16 : LX.length ≤ 16 := him.2.2.2.1
  replace hC := Aside0.mk hC
  replace hX := Aside0.mk hX
  replace hP := Aside0.mk hP
  replace hU := Aside0.mk hU
  replace hpb := Aside0.mk hpb
  replace hu := Aside0.mk hu
  replace him := Aside0.mk him
  replace hxu := Aside0.mk hxu
  replace hLX := Aside0.mk hLX
  replace hIN := Aside0.mk hIN
  have hmm := @run_makeMap Try.prog
  go_enter Try.func8, Try.ntmps8
  go_upto_region 4 with (first
    | (go_at_call 9; refine TA.mono ?_; rintro e w1 ⟨rfl, hb1⟩)
    | (go_at_call 22; refine (TM w1 (Kd.C_below hC.out hb1)).mono ?_; rintro e w2 ⟨v2, rfl, hS2, hb2⟩; obtain ⟨V2, c2, rfl, hc2, hC2⟩ := Kd.S_reads hS2)
    | go_in)
  have ex := heap_alloc_new w2 (Obj.cells #[.int .i64 5, .int .i64 10, .slice V2 LX.length c2] 36 (0, 0))
  have hbl : Below w2.heap.size w2 (w2.alloc (Obj.cells #[.int .i64 5, .int .i64 10, .slice V2 LX.length c2] 36 (0, 0))) := below_alloc (Below.refl _ _) _
  have hsz : (w2.alloc (Obj.cells #[.int .i64 5, .int .i64 10, .slice V2 LX.length c2] 36 (0, 0))).heap.size = w2.heap.size + 1 := alloc_sz _ _
  have HB1 := hb1.trans (hb2.mono hb1.size)
  have HB3 := HB1.trans (hbl.mono HB1.size)
  have hC3 := Kd.C_below hC2 hbl
  clear hS2 hC2 hbl hb1 hb2 TA TM HB1
  generalize w2.alloc (Obj.cells #[.int .i64 5, .int .i64 10, .slice V2 LX.length c2] 36 (0, 0)) = w3 at ex hsz HB3 hC3 ⊢
  generalize w2.heap.size = BX at ex hsz ⊢
  have x0 : w3.cell? ⟨BX, 0, none⟩ = some (.int .i64 5) := (blk_cell ex 0).trans rfl
  have x1 : w3.cell? ⟨BX, 1, none⟩ = some (.int .i64 10) := (blk_cell ex 1).trans rfl
  have x2 : w3.cell? ⟨BX, 2, none⟩ = some (.slice V2 LX.length c2) := (blk_cell ex 2).trans rfl
  have TFa := TF w3 V2 c2 hC3 hc2 (Kd.C_below hX.out HB3)
  replace hsz := Aside0.mk hsz
  go_upto_region 5 with (first
    | (go_at_call 11; refine TFa.mono ?_; rintro e w4 ⟨ma, ta, va, pa, rfl, hMa, hb4⟩)
    | go_in)
  have ex4 := blk_below ex hb4
  have y0 : w4.cell? ⟨BX, 0, none⟩ = some (.int .i64 5) := (blk_cell ex4 0).trans rfl
  have y1 : w4.cell? ⟨BX, 1, none⟩ = some (.int .i64 10) := (blk_cell ex4 1).trans rfl
  have y2 : w4.cell? ⟨BX, 2, none⟩ = some (.slice V2 LX.length c2) := (blk_cell ex4 2).trans rfl
  have HB4 := HB3.trans (hb4.mono HB3.size)
  have TFb := TF w4 V2 c2 (Kd.C_below hC3 hb4) hc2 (Kd.C_below hX.out HB4)
  clear x0 x1 x2 TFa TF
  go_upto_region 8 with (first
    | (go_at_call 11; refine TFb.mono ?_; rintro e w5 ⟨mb, tb, vb, pb, rfl, hMb, hb5⟩)
    | go_in)
  have ex5 := blk_below ex4 hb5
  have HB5 := HB4.trans (hb5.mono HB4.size)
  have hxa : BX < w3.heap.size := blk_lt ex
  have hxb : BX < w4.heap.size := blk_lt ex4
  have hwa : w.heap.size ≤ w3.heap.size := HB3.size
  have hwb : w.heap.size ≤ w4.heap.size := HB4.size
  have hba5 : w3.heap.size ≤ w5.heap.size := Nat.le_trans hb4.size hb5.size
  have hbb5 : w4.heap.size ≤ w5.heap.size := hb5.size
  have hlen : M0.thr.length = LX.length := hIN.out.len
  have hla : ta.length = LX.length := hMa.len.trans hlen
  have hlb : tb.length = LX.length := hMb.len.trans hlen
  have hTwo : ∃ ca cb, Two w5 w3.heap.size ma ca ta va pa M0 w4.heap.size mb cb tb vb pb M0 := by
    refine ⟨fun q => if q < w4.heap.size then 0 else ta.length + 1, fun q => if q < w4.heap.size then tb.length + 1 else 0, (hMa.recol (fun q hq => if_pos hq)).below hb5, hMb.recolB (fun q hq _ => if_neg (by omega)), ?_, ?_, ?_⟩
    · exact Nat.ne_of_lt (Nat.lt_of_lt_of_le (blk_lt hMa.blk) hMb.le)
    · intro x hx hx2
      have h1 := hMa.mem_lt hx
      obtain ⟨_, _, h2⟩ := hMb.ts_blk hx2
      omega
    · intro g _ hg
      by_cases hq : g < w4.heap.size
      · show tb.length < (if g < w4.heap.size then tb.length + 1 else 0)
        rw [if_pos hq]; exact Nat.lt_succ_self _
      · replace hg : (if g < w4.heap.size then 0 else ta.length + 1) ≤ ta.length := hg
        rw [if_neg hq] at hg; omega
  obtain ⟨ca0, cb0, hTwo⟩ := hTwo
  clear hMa hMb hb4 hb5 TFb y0 y1 y2 ex ex4 hC3 HB3 HB4 hsz
  generalize w3.heap.size = ba at hTwo hxa hwa hba5
  generalize w4.heap.size = bb at hTwo hxb hwb hbb5
  replace hlen := Aside0.mk hlen
  replace hla := Aside0.mk hla
  replace hlb := Aside0.mk hlb
  go_upto_region 9 with go_in
  have hMap : MapB (w5.alloc (.map #[] 0)) w5.heap.size [] := ⟨#[], 0, heap_alloc_new w5 _, by simp, by simp⟩
  have hbl : Below w5.heap.size w5 (w5.alloc (.map #[] 0)) := below_alloc (Below.refl _ _) _
  have hTwo := hTwo.below hbl
  have ex6 := blk_below ex5 hbl
  have HB6 := HB5.trans (hbl.mono HB5.size)
  have hba6 := Nat.le_trans hba5 hbl.size
  have hbb6 := Nat.le_trans hbb5 hbl.size
  have hxm : BX ≠ w5.heap.size := Nat.ne_of_lt (blk_lt ex5)
  have hwm : w.heap.size ≤ w5.heap.size := HB5.size
  clear hbl ex5 HB5 hba5 hbb5
  generalize w5.alloc (.map #[] 0) = w6 at hMap hTwo ex6 HB6 hba6 hbb6 ⊢
  generalize w5.heap.size = mp at hMap hTwo hxm hwm ⊢
  replace hxm := Aside0.mk hxm
  have hI := hIN.out
  go_wp2
  go_loopw [42] (fun v42 wr' => ∃ (j : Nat) (M : Mch) (ca cb : Nat → Nat) (va vb : Value), v42 = .int .i64 j ∧ j ≤ p.length ∧ Two wr' ba ma ca ta va pa M bb mb cb tb vb pb M ∧ SameM LX j (pickedS p j) M ∧ MapB wr' mp (pickedS p j) ∧ wr'.heap[BX]? = some (Obj.cells #[.int .i64 5, .int .i64 10, .slice V2 LX.length c2] 36 (0, 0)) ∧ ba ≤ wr'.heap.size ∧ bb ≤ wr'.heap.size ∧ Below w.heap.size w wr')
    (fun v42 _ => p.length - (intOf v42).toNat)
  case atStart => exact ⟨0, M0, _, _, _, _, rfl, by omega, hTwo, hI, hMap, ex6, hba6, hbb6, HB6⟩
  case round =>
    clear hTwo hI hMap ex6 hba6 hbb6 HB6
    obtain ⟨j, M, ca, cb, va, vb, rfl, hjp, hTwo, hI, hMap, hXB, hba, hbb, HB⟩ := hrel
    by_cases hj : j < p.length
    · obtain ⟨_, _, hrd⟩ := Kd.reads_of_C (enc := Value.int .i8) (d := (0 : Int)) (h1 := fun _ => rfl) hP.out
      obtain ⟨ad, rfl, hc⟩ := hrd (by omega)
      have xz := hc j hj
      have hqb := hpb.out (p.getD j 0) (by rw [getD_at hj]; exact List.getElem_mem hj)
      have hsucc := pickedS_succ p j hj
      have xr := (HB.cell (World.block_lt_of_cell? w _ xz)).trans xz
      obtain ⟨pj, hpj⟩ : ∃ pj, pj = p.getD j 0 := ⟨_, rfl⟩
      rw [← hpj] at xr hqb hsucc
      obtain ⟨kk, hkk⟩ : ∃ kk, kk = pickK pj := ⟨_, rfl⟩
      rw [← hkk] at hsucc
      replace hsucc := Aside0.mk hsucc
      have hkd : (pj.tdiv 2).tmod 18 = kk := hkk.symm
      replace hpj := Aside0.mk hpj
      clear hc hrd xz hkk
      go_upto_region 13 with go_in
      try rw [hkd]
      clear hkd
      obtain ⟨w5, hput, hMap5, hs5, hk5, hb5⟩ := run_putM hMap kk
      have hTwo5 : Two w5 ba ma ca ta va pa M bb mb cb tb vb pb M := by
        obtain ⟨es, c, hh, _⟩ := hMap
        exact hTwo.mapped hh hk5 hs5
      have hXB5 := (hk5 BX hxm.out).trans hXB
      have HB5 := hb5 _ _ hwm HB
      have hba5 : ba ≤ w5.heap.size := by rw [hs5]; exact hba
      have hbb5 : bb ≤ w5.heap.size := by rw [hs5]; exact hbb
      clear hTwo hXB HB hba hbb hb5 hk5 xr
      replace hs5 := Aside0.mk hs5
      go_upto_region 14 with go_in
      clear hput hMap
      have hpar : (pj.tmod 2 == 0) = true ∨ (pj.tmod 2 == 0) = false := by cases pj.tmod 2 == 0 <;> simp
      have hN1 : j ≤ 4194304 := by omega
      have hFit : FitsG M := good_fits hI.good hN1
      have hWr := good_wr hI.good hN1
      rcases hpar with hpar | hpar
      · have hpar2 : (pj.tmod 2 != 0) = false := by rw [bne, hpar]; rfl
        have hI2 := same_act hI true LX.length kk
        rw [← hsucc.out] at hI2
        have TAf := act12.calls hTwo5.a hla.out hba5 hFit kk
        have TBf := fun (wx : World) (cx : Nat → Nat) (h : Mach wx bb mb cx tb vb pb M) (hx : bb ≤ wx.heap.size) => act12.calls h hlb.out hx hFit kk
        obtain ⟨⟨M', kind, place, hit⟩, hact⟩ : ∃ r, r = actF true M LX.length kk := ⟨_, rfl⟩
        rw [← hact] at TAf TBf hI2
        replace hact := Aside0.mk hact
        replace hI2 := Aside0.mk hI2
        replace hFit := Aside0.mk hFit
        replace hWr := Aside0.mk hWr
        clear hI
        go_wp2_with (first
          | (go_at_call 12; first
              | (refine TAf.mono ?_; rintro e w6 ⟨rfl, hk6, ca6, va6, hc6, hM6⟩; have hTwo6 := (hTwo5.step hk6 hc6 hM6).symm; have hMap6 := hk6.map hTwo5.a hMap5; have hXB6 := ((hk6.low hba5).block BX hxa).trans hXB5; have hba6 := Nat.le_trans hba5 hk6.size; have hbb6 := Nat.le_trans hbb5 hk6.size; have HB6 := HB5.trans ((hk6.low hba5).mono hwa); clear TAf; have TB6 := TBf w6 _ hTwo6.a hbb6; clear TBf)
              | (refine TB6.mono ?_; rintro e w7 ⟨rfl, hk7, cb7, vb7, hc7, hM7⟩; have hTwo7 := (hTwo6.step hk7 hc7 hM7).symm; have hMap7 := hk7.map hTwo6.a hMap6; have hXB7 := ((hk7.low hbb6).block BX hxb).trans hXB6; have hba7 := Nat.le_trans hba6 hk7.size; have hbb7 := Nat.le_trans hbb6 hk7.size; have HB7 := HB6.trans ((hk7.low hbb6).mono hwb)))
          | go_in)
        go_roundw
        case rel => exact ⟨j + 1, M', _, _, _, _, by first | rfl | go_num, by omega, hTwo7, hI2.out, by rw [hsucc.out]; exact hMap7, hXB7, hba7, hbb7, HB7⟩
        case measure => simp [intOf]; omega
      · have hpar2 : (pj.tmod 2 != 0) = true := by rw [bne, hpar]; rfl
        have hI2 := same_act hI false LX.length kk
        rw [← hsucc.out] at hI2
        have TAf := act13.calls hTwo5.a hla.out hba5 hWr kk
        have TBf := fun (wx : World) (cx : Nat → Nat) (h : Mach wx bb mb cx tb vb pb M) (hx : bb ≤ wx.heap.size) => act13.calls h hlb.out hx hWr kk
        obtain ⟨⟨M', kind, place, hit⟩, hact⟩ : ∃ r, r = actF false M LX.length kk := ⟨_, rfl⟩
        rw [← hact] at TAf TBf hI2
        replace hact := Aside0.mk hact
        replace hI2 := Aside0.mk hI2
        replace hFit := Aside0.mk hFit
        replace hWr := Aside0.mk hWr
        clear hI
        go_wp2_with (first
          | (go_at_call 13; first
              | (refine TAf.mono ?_; rintro e w6 ⟨rfl, hk6, ca6, va6, hc6, hM6⟩; have hTwo6 := (hTwo5.step hk6 hc6 hM6).symm; have hMap6 := hk6.map hTwo5.a hMap5; have hXB6 := ((hk6.low hba5).block BX hxa).trans hXB5; have hba6 := Nat.le_trans hba5 hk6.size; have hbb6 := Nat.le_trans hbb5 hk6.size; have HB6 := HB5.trans ((hk6.low hba5).mono hwa); clear TAf; have TB6 := TBf w6 _ hTwo6.a hbb6; clear TBf)
              | (refine TB6.mono ?_; rintro e w7 ⟨rfl, hk7, cb7, vb7, hc7, hM7⟩; have hTwo7 := (hTwo6.step hk7 hc7 hM7).symm; have hMap7 := hk7.map hTwo6.a hMap6; have hXB7 := ((hk7.low hbb6).block BX hxb).trans hXB6; have hba7 := Nat.le_trans hba6 hk7.size; have hbb7 := Nat.le_trans hbb6 hk7.size; have HB7 := HB6.trans ((hk7.low hbb6).mono hwb)))
          | go_in)
        go_roundw
        case rel => exact ⟨j + 1, M', _, _, _, _, by first | rfl | go_num, by omega, hTwo7, hI2.out, by rw [hsucc.out]; exact hMap7, hXB7, hba7, hbb7, HB7⟩
        case measure => simp [intOf]; omega
    · obtain rfl : p.length = j := by omega
      obtain ⟨SS, hSS⟩ : ∃ SS, SS = pickedS p p.length := ⟨_, rfl⟩
      rw [← hSS] at hI hMap
      replace hSS := Aside0.mk hSS
      have hN1 : p.length ≤ 4194304 := by omega
      have z2 : wr.cell? ⟨BX, 2, none⟩ = some (.slice V2 LX.length c2) := (blk_cell hXB 2).trans rfl
      go_upto_region 18 with go_in
      clear z2
      go_loopw [82] (fun v82 wr' => ∃ (q : Nat) (ca cb : Nat → Nat), v82 = .int .i64 q ∧ q ≤ LX.length ∧ Two wr' ba ma ca ta va pa M bb mb cb tb vb pb M ∧ MapB wr' mp SS ∧ Below w.heap.size w wr')
        (fun v82 _ => LX.length - (intOf v82).toNat)
      case atStart => exact ⟨0, _, _, rfl, by omega, hTwo, hMap, HB⟩
      case round =>
        clear hTwo hMap HB hXB hba hbb
        obtain ⟨q, ca, cb, rfl, hql, hTwo, hMap, HB⟩ := hrel
        by_cases hq : q < LX.length
        · have hqt : q < M.thr.length := by rw [hI.len]; exact hq
          have hta : q < ta.length := by rw [hla.out]; exact hq
          have htb : q < tb.length := by rw [hlb.out]; exact hq
          obtain ⟨a19, a17, a18, a16⟩ := shows hTwo.a hta (List.getElem?_eq_getElem hqt)
          obtain ⟨b19, _, _, _⟩ := shows hTwo.b htb (List.getElem?_eq_getElem hqt)
          have hout := (hI.good.thr _ (List.getElem_mem hqt)).out
          have hfree := hI.free q _ (List.getElem?_eq_getElem hq)
          have hlk := run_look hMap (q : Int)
          by_cases hS : (q : Int) ∈ SS
          · rw [decide_eq_true hS] at hlk
            generalize M.thr[q] = tq at a19 a17 a18 a16 b19 hout
            clear hfree a17 a18 a16
            replace hS := Aside0.mk hS
            go_wp2_with (first
              | (go_at_call 19; first
                  | ((with_reducible refine a19.mono ?_); rintro e w5 ⟨rfl, h5⟩; obtain rfl := h5.symm; clear a19)
                  | ((with_reducible refine b19.mono ?_); rintro e w5 ⟨rfl, h5⟩; obtain rfl := h5.symm; clear b19))
              | go_in)
            go_roundw
            case rel => exact ⟨q + 1, _, _, by first | rfl | go_num, by omega, hTwo, hMap, HB⟩
            case measure => simp [intOf]; omega
          · rw [decide_eq_false hS] at hlk
            have hf := hfree hS
            rw [List.getElem?_eq_getElem hqt] at hf
            rw [Option.some.inj hf] at a19 a17 a18 a16 b19
            have a16 : Calls Try.prog 16 #[.pointer (some ⟨ma, 0, none⟩), .int .i64 (q : Int)] wr fun e w' => ∃ A c, e = .returned (.slice A 0 c) ∧ Kd.C kU w' A 0 [] ∧ 0 ≤ c ∧ Below wr.heap.size wr w' := a16 (Nat.zero_le _)
            have a19 : Calls Try.prog 19 #[.pointer (some ⟨ma, 0, none⟩), .int .i64 (q : Int)] wr (fun e w' => e = .returned (.int .i64 0) ∧ w' = wr) := a19
            have b19 : Calls Try.prog 19 #[.pointer (some ⟨mb, 0, none⟩), .int .i64 (q : Int)] wr (fun e w' => e = .returned (.int .i64 0) ∧ w' = wr) := b19
            have a17 : Calls Try.prog 17 #[.pointer (some ⟨ma, 0, none⟩), .int .i64 (q : Int)] wr (fun e w' => e = .returned (.int .i64 0) ∧ w' = wr) := a17
            have a18 : Calls Try.prog 18 #[.pointer (some ⟨ma, 0, none⟩), .int .i64 (q : Int)] wr (fun e w' => e = .returned (.bool false) ∧ w' = wr) := a18
            clear hfree hf hout
            replace hS := Aside0.mk hS
            go_wp2_with (first
              | (go_at_call 19; first
                  | ((with_reducible refine a19.mono ?_); rintro e w5 ⟨rfl, h5⟩; obtain rfl := h5.symm)
                  | ((with_reducible refine b19.mono ?_); rintro e w5 ⟨rfl, h5⟩; obtain rfl := h5.symm))
              | (go_at_call 17; refine a17.mono ?_; rintro e w5 ⟨rfl, h5⟩; obtain rfl := h5.symm)
              | (go_at_call 18; refine a18.mono ?_; rintro e w5 ⟨rfl, h5⟩; obtain rfl := h5.symm)
              | (go_at_call 16; refine a16.mono ?_; rintro e w8 ⟨A8, c8, rfl, -, -, hb8⟩)
              | go_in)
            go_roundw
            case rel => exact ⟨q + 1, _, _, by first | rfl | go_num, by omega, hTwo.below hb8, hMap.below hb8, HB.trans (hb8.mono HB.size)⟩
            case measure => simp [intOf]; omega
        · have hcl : M.cells.length = 10 := hI.good.cl
          have TC := all_cells hTwo.a (by rw [hcl]; decide)
          have TD := fun (wx : World) (h : Mach wx bb mb cb tb vb pb M) => all_cells h (by rw [hcl]; decide)
          rw [hcl] at TC
          simp only [hcl] at TD
          have TSa := fun (wx : World) (h : Mach wx ba ma ca ta va pa M) => steps.calls ma va pa M.steps wx h.blk
          have TSb := fun (wx : World) (h : Mach wx bb mb cb tb vb pb M) => steps.calls mb vb pb M.steps wx h.blk
          have hMa := hTwo.a
          have hMb := hTwo.b
          obtain ⟨cls, hcls⟩ : ∃ cls, cls = M.cells := ⟨_, rfl⟩
          obtain ⟨sts, hsts⟩ : ∃ sts, sts = M.steps := ⟨_, rfl⟩
          rw [← hcls] at TC TD hcl
          rw [← hsts] at TSa TSb
          replace hcls := Aside0.mk hcls
          replace hsts := Aside0.mk hsts
          replace hcl := Aside0.mk hcl
          clear hTwo hMap hI
          go_wp2_with (first
            | (go_at_call 14; first
                | (refine TC.mono ?_; rintro e w5 ⟨A5, c5, rfl, hC5, hc5, hb5⟩; have hMa5 := hMa.below hb5; have hMb5 := hMb.below hb5; have HB5 := HB.trans (hb5.mono HB.size); have TD5 := TD w5 hMb5; clear TC TD)
                | (refine TD5.mono ?_; rintro e w6 ⟨A6, c6, rfl, hC6, hc6, hb6⟩; have hMa6 := hMa5.below hb6; have hMb6 := hMb5.below hb6; have HB6 := HB5.trans (hb6.mono HB5.size); have TE := same_calls hcl.out (by decide) A5 c5 A6 c6 w6 (Kd.C_below hC5 hb6) hC6 hc5 hc6; clear TD5))
            | (go_at_call 15; refine TE.mono ?_; rintro e w7 ⟨rfl, hd7⟩; have hMa7 := hMa6.below hd7.below; have hMb7 := hMb6.below hd7.below; have HB7 := HB6.trans (hd7.below.mono HB6.size); have TG := TSa w7 hMa7; have TH := TSb w7 hMb7)
            | (go_at_call 26; first
                | (refine TG.mono ?_; rintro e w8 ⟨rfl, h8⟩; obtain rfl := h8.symm; clear TG)
                | (refine TH.mono ?_; rintro e w9 ⟨rfl, h9⟩; obtain rfl := h9.symm; clear TH))
            | go_in)
          go_ret
          exact ⟨rfl, HB7⟩
end Go.Proofs.Ytaenjbhhpdmhgaa.Tso
