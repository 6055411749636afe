/-
The walk of the law's Run. Conditions: as each theorem states them.
-/
import Derived.Test.YtpibifgllbfgmaaPureDeC
set_option linter.unusedSimpArgs false
set_option linter.unusedVariables false
namespace Go.Proofs.Ytpibifgllbfgmaa.Pure
open Go.RowKit Go.Proofs.YtpibifgllbfgmaaW.PrintWords Go.Proofs.YtpibifgllbfgmaaW.PrintLast Go.Proofs.YtpibifgllbfgmaaW.PrintMore Go.Proofs.Ytpibifgllbfgmaa.Kit
open Go.Proofs.Ytpibifgllbfgmaa.PDeadOf
open Go.ChangeMaps Go.MapKept
attribute [local go_sem] max2_int min2_int max_two min_two max_three min_three max_four min_four   -- for this text's walks alone
def apS (d a b : Int) : Int := (word_Apply.f d a b).getD 0
def U64 (v : Int) : Prop := 0 ≤ v ∧ v ≤ 18446744073709551615
def uK : Kd Int := Kd.int .u64
theorem info29 : (Try.prog.info? 29).map (fun i => (i.zero, i.size, i.bytes)) = some (some (.int .u64 0), 1, 8) := by kernel_rfl
/-- What Run hands back. -/
def RunP (w : World) (r : Option (List Int × List Int)) (e : Ending) (w' : World) : Prop := Below w.heap.size w w' ∧ match r with
  | none => e = .returned (.tuple #[.slice none 0 0, .slice none 0 0, .bool false])
  | some (o, t) => ∃ Ao co At ct, e = .returned (.tuple #[.slice Ao o.length co, .slice At t.length ct, .bool true]) ∧ o.length ≤ co ∧ t.length ≤ ct ∧ Kd.C (Kd.int .u64) w' Ao o.length o ∧ Kd.C (Kd.int .u64) w' At t.length t
/-- A row that has a block of its own, of any length. -/
theorem R_form2 {α : Type} {d : Kd α} {e : TypeId} {w : World} {base B : Nat} {ok : Nat → Prop} {v : Value} {xs : List α} (h : Kd.R d e w base ok v xs) (hb : ∃ b, v.ownBlock = some b ∧ B ≤ b) :
    ∃ g cap, v = .slice (some ⟨g, 0, none⟩) xs.length cap ∧ base ≤ g ∧ g < w.heap.size ∧ ∃ cells, w.heap[g]? = some (.cells cells e (0, 0)) := by
  obtain ⟨inner, ho⟩ := Kd.R_own h
  obtain ⟨b, hb, _⟩ := hb
  rcases ho.2 with ⟨rfl, _⟩ | ⟨g, cap, cur, rfl, hg, hh, r⟩
  · simp [Value.ownBlock] at hb
  · exact ⟨g, cap, rfl, hg, blk_lt hh, cur, hh⟩
def rn.T31 : Bool × List (List Nat × List Nat) := (true, [([], []), ([], []), ([1], [1]), ([], []), ([3], [3]), ([], []), ([], []), ([6], [6]), ([5, 7], [5, 7]), ([8], [8]), ([], []), ([], []), ([11], [11]), ([10, 12], [10, 12]), ([13], [13]), ([4, 9, 14], [4, 9, 14]), ([0, 2, 0, 1, 2, 3, 4, 5, 6, 7, 8, 9, 10, 11, 12, 13, 14, 15], [0, 2]), ([16, 15, 15, 0, 1, 2, 3, 4, 5, 6, 7, 8, 9, 10, 11, 12, 13, 14, 15], [15, 16])])
def rn.B31 : List Nat := [0, 0, 2, 0, 8, 0, 0, 64, 224, 480, 0, 0, 2048, 7168, 15360, 32760, 65535, 131071]
theorem rn.tab31 : rtab .any (opsOf Try.f14 31) = rn.T31 := by kernel_rfl
theorem rn.bits31 : waitsOk rn.T31.2 rn.B31 = true := by kernel_rfl
theorem u64m_eq (x : Int) : u64m x = IntKind.u64.wrap x := by unfold u64m; rw [IntKind.wrap_u64]
theorem wrap_u (x : Int) : U64 (IntKind.u64.wrap x) := by rw [IntKind.wrap_u64]; unfold U64; omega
theorem U16_mem {us : List Int} (h : U16 us = true) : ∀ u ∈ us, 0 ≤ u ∧ u ≤ 65535 := by
  unfold U16 at h
  rw [List.all_eq_true] at h
  exact fun u hu => of_decide_eq_true (h u hu)
theorem set_u {vs : List Int} (h : ∀ v ∈ vs, U64 v) {k : Nat} {z : Int} (hz : U64 z) : ∀ v ∈ vs.set k z, U64 v := fun v hv => by
  rcases List.mem_or_eq_of_mem_set hv with hv | rfl
  · exact h v hv
  · exact hz
theorem vl_u {vs : List Int} (h : ∀ v ∈ vs, U64 v) (u : Int) : U64 (vl vs u) := by
  unfold vl
  rw [List.getD_eq_getElem?_getD]
  cases hx : vs[u.toNat]? with
  | none => exact ⟨by decide, by decide⟩
  | some z => exact h z (List.mem_of_getElem? hx)
theorem row_u64 {w : World} {base : Nat} {ok : Nat → Prop} {g n cg : Nat} {vs : List Int} (h : Kd.R (Kd.int .u64) 29 w base ok (.slice (some ⟨g, 0, none⟩) n cg) vs) (i : Int) (h0 : 0 ≤ i) (hi : i < n) :
    w.cell? ⟨g, i.toNat, none⟩ = some (.int .u64 (vl vs i)) ∧ w.frozen? ⟨g, i.toNat, none⟩ = false := by
  have hn := (Kd.R_reads' h).1
  have := Kd.R_celln 0 h i h0 hi
  exact this
set_option maxHeartbeats 4000000 in
set_option maxRecDepth 100000 in
theorem run.calls (l : List S31) (A : Option Addr) (c : Nat) (cs : List Int) (Ac : Option Addr) (cc : Nat) (w : World) (hC : Kd.C k31 w A l.length l) (hc : l.length ≤ c) (hgd : goodS l) (hu : ∀ x ∈ l, U64 x.f6)
    (hO : Kd.C (Kd.int .u64) w Ac cs.length cs) (hcc : cs.length ≤ cc) (hcl : 0 < cs.length ∧ cs.length ≤ 1000) (hcu : ∀ v ∈ cs, U64 v) :
    Calls Try.prog 14 #[.slice A l.length c, .slice Ac cs.length cc, .int .i64 500] w (RunP w (runS apS l 500 (List.replicate (valsS l) 0) cs [] 0)) := by
  have hl0 : 0 < l.length := by have := hgd.1; omega
  have hl : l.length ≤ 4096 := hgd.2.1
  have hV := valsS_le l.length hgd.2.2.2
  obtain ⟨kv, hkv⟩ : ∃ k, code_Values.f k l = some (valsS l : Int) := Ev.rounds (values_ev l hgd.2.2.2 hl)
  have TV := code_Values.calls kv A c l (valsS l) w hC hc hkv
  obtain ⟨r, hr⟩ : ∃ r, r = runS apS l 500 (List.replicate (valsS l) 0) cs [] 0 := ⟨_, rfl⟩
  rw [← hr]
  have hvd := valsS_def (l := l)
  generalize valsS l = V at TV hV hr hvd
  replace hr := Aside0.mk hr
  replace hvd := Aside0.mk hvd
  replace hgd := Aside0.mk hgd
  replace hu := Aside0.mk hu
  replace hcu := Aside0.mk hcu
  go_enter Try.func14, Try.ntmps14
  go_upto_region 3 with (first
    | (go_at_call 24; refine TV.mono ?_; rintro e w1 ⟨rfl, hb1⟩)
    | ((with_reducible refine gate_dst (N := 18) rfl ?_); refine Kd.R_make (w0 := w) (Kd.int .u64) w.heap.size 29 rfl (N := 18) rfl 32 _ _ rfl (V : Int) rfl rfl Try.underlying32 (.int .u64 0) 8 info29 rfl (by decide) (by omega) 0 (ok := fun _ => True) (okp := fun _ => True) rfl (fun _ hk => hk) trivial (by omega) (by omega) hb1 hb1.size ?_; intro v2 w2 ho2 hb2 hg2 hn2; rw [Int.toNat_natCast] at ho2; obtain ⟨gv, cv, rfl, hvb, hvl, hqq, hgh⟩ := R_form2 ho2 hn2; rw [List.length_replicate] at ho2; clear hgh hn2 hg2)
    | (at_builtin; go_loud (refine Kd.R_append_rows (Kd.int .u64) (w0 := w) w.heap.size rfl (.const (.slice none 0 0)) (.tmp 19) 32 29 (.int .u64 0) 8 rfl Try.underlying32 info29 rfl (by decide) (by omega) (.slice none 0 0) ([] : List Int) cs Ac _ cc (fun _ => True) (fun _ => False) rfl rfl (Kd.R_nil _ _ _ _ _) (Kd.C_below hO hb2) (fun _ _ h => h) (fun _ h => h.elim) (fun _ _ => trivial) hb2 hb2.size (by simp; omega) ?_; intro v3 w3 ho3 hb3 hg3 hat3; rw [List.nil_append] at ho3))
    | go_in)
  have hok3 : ∃ go co, v3 = .slice (some ⟨go, 0, none⟩) cs.length co ∧ w.heap.size ≤ go := by
    obtain ⟨go, co, e, hb, _⟩ := Kd.R_form ho3 (by omega)
    exact ⟨go, co, e, hb⟩
  obtain ⟨go, co, rfl, hob⟩ := hok3
  have nvo : gv ≠ go := by
    rcases hat3 with h | ⟨b, h, hle⟩
    · simp [Value.ownBlock] at h
    · have : go = b := by simpa [Value.ownBlock] using h
      omega
  have hR := Kd.R_grown ho2 hg3 (fun _ _ => by simp [Value.ownBlock])
  have hR : Kd.R (Kd.int .u64) 29 w3 w.heap.size (fun k => k ≠ go) (.slice (some ⟨gv, 0, none⟩) V cv) (List.replicate V 0) := Kd.R_mono (Kd.R_far1 hR rfl (g := go) (by simp [Value.ownBlock]; omega)) (fun _ hk => hk.2)
  have hQ : Kd.R (Kd.int .u64) 29 w3 w.heap.size (fun k => k ≠ gv) (.slice (some ⟨go, 0, none⟩) cs.length co) cs := Kd.R_mono (Kd.R_far1 ho3 rfl (g := gv) (by simp [Value.ownBlock]; omega)) (fun _ hk => hk.2)
  clear ho2 ho3 hg3 hat3 hb1 hb2 TV hvl
  obtain ⟨Cn, hCn⟩ : ∃ Cn, Cn = cs.length := ⟨_, rfl⟩
  rw [← hCn] at hQ hcl ⊢
  replace hCn := Aside0.mk hCn
  have hzero : ∀ v ∈ List.replicate V (0 : Int), U64 v := fun v hv => by rw [(List.mem_replicate.mp hv).2]; exact ⟨by decide, by decide⟩
  replace hzero := Aside0.mk hzero
  go_wp2
  go_loopw [11, 12, 13] (fun v11 v12 v13 wr => ∃ (q m a : Nat) (vs out told : List Int), v13 = .int .i64 q ∧ v12 = .int .i64 a ∧ q + m = 500 ∧ a ≤ 8192 ∧ r = runS apS l m vs out told a ∧ vs.length = V ∧ out.length = Cn ∧ told.length ≤ q ∧ (∀ v ∈ vs, U64 v) ∧ (∀ v ∈ out, U64 v) ∧
      Kd.R (Kd.int .u64) 29 wr w.heap.size (fun k => k ≠ go ∧ some k ≠ v11.ownBlock) (.slice (some ⟨gv, 0, none⟩) V cv) vs ∧ Kd.R (Kd.int .u64) 29 wr w.heap.size (fun k => k ≠ gv ∧ some k ≠ v11.ownBlock) (.slice (some ⟨go, 0, none⟩) Cn co) out ∧ Kd.R (Kd.int .u64) 29 wr w.heap.size (fun k => k ≠ gv ∧ k ≠ go) v11 told ∧ Below w.heap.size w wr)
    (fun _ _ v13 _ => 500 - (intOf v13).toNat)
  case atStart => exact ⟨0, 500, 0, _, _, _, rfl, rfl, rfl, by omega, hr.out, by simp, hCn.out.symm, by simp, hzero.out, hcu.out, Kd.R_mono hR (fun _ hk => ⟨hk, by simp [Value.ownBlock]⟩), Kd.R_mono hQ (fun _ hk => ⟨hk, by simp [Value.ownBlock]⟩), Kd.R_nil _ _ _ _ _, hb3⟩
  case round =>
    clear hR hQ hb3 hr hzero
    obtain ⟨q, m, a, vs, out, told, rfl, rfl, hqm, ha8, hr, hvl, hol, htl, huv, huo, hR, hQ, hT, hB⟩ := hrel
    have hstop : ∀ (h : runS apS l m vs out told a = none), r = none := fun h => hr.trans h
    by_cases hq : q < 500
    · obtain ⟨m, rfl⟩ : ∃ m', m = m' + 1 := ⟨m - 1, by omega⟩
      rw [runS] at hr hstop
      have hqi : (q : Int) < 500 := by omega
      have ha0 : (a : Int) ≥ 0 := by omega
      by_cases hal : a < l.length
      · rw [List.getElem?_eq_getElem hal] at hr
        simp only at hr
        clear hstop
        obtain ⟨ad, eA, y0, y1, y2, y3, y4, y5, y6, y7⟩ := at_T31 (Kd.C_below hC hB) a (by omega) (by omega)
        cases eA
        rw [rdT_at l a hal, Int.toNat_natCast] at y0 y1 y2 y3 y4 y5 y6 y7
        have hgx := hgd.out.2.2.2 l[a] (List.getElem_mem hal)
        have hux := hu.out l[a] (List.getElem_mem hal)
        have hvx := hvd.out l[a] (List.getElem_mem hal)
        generalize l[a] = x at y0 y1 y2 y3 y4 y5 y6 y7 hgx hux hvx hr
        obtain ⟨f0, f1, f2, f3, f4, f5, f6, f7⟩ := x
        obtain ⟨g0, g1, g2, g3, g4, g5⟩ := hgx
        simp only at y0 y1 y2 y3 y4 y5 y6 y7 g0 g1 g2 g3 g4 g5
        have hai : (a : Int) < (l.length : Int) := by omega
        replace hr := Aside0.mk hr
        replace hux := Aside0.mk hux
        replace hvx := Aside0.mk hvx
        replace g2 := Aside0.mk g2
        replace g3 := Aside0.mk g3
        replace g4 := Aside0.mk g4
        replace g5 := Aside0.mk g5
        replace huv := Aside0.mk huv
        replace huo := Aside0.mk huo
        replace hvl := Aside0.mk hvl
        replace hol := Aside0.mk hol
        go_upto_region 9 with go_in
        have e6 := heap_alloc_new wr (Obj.cells #[.int .i64 f0, .int .i64 f1, .int .i64 f2, .int .i64 f3, .int .i64 f4, .int .i64 f5, .int .u64 f6, .int .i64 f7] 31 (0, 0))
        have hb_ : Below wr.heap.size wr (wr.alloc (Obj.cells #[.int .i64 f0, .int .i64 f1, .int .i64 f2, .int .i64 f3, .int .i64 f4, .int .i64 f5, .int .u64 f6, .int .i64 f7] 31 (0, 0))) := below_alloc (Below.refl _ _) _
        generalize wr.alloc (Obj.cells #[.int .i64 f0, .int .i64 f1, .int .i64 f2, .int .i64 f3, .int .i64 f4, .int .i64 f5, .int .u64 f6, .int .i64 f7] 31 (0, 0)) = w3 at e6 hb_ ⊢
        clear y0 y1 y2 y3 y4 y5 y6 y7
        have hR := Kd.R_below hR hb_
        have hQ := Kd.R_below hQ hb_
        have hT := Kd.R_below hT hb_
        have hB := hB.trans (hb_.mono hB.size)
        have hgv : gv < w3.heap.size := by
          obtain ⟨cells, hcc⟩ := own_typed hR.2.choose_spec.1 gv (by simp [Value.ownBlock])
          exact blk_lt hcc
        have hgo : go < w3.heap.size := by
          obtain ⟨cells, hcc⟩ := own_typed hQ.2.choose_spec.1 go (by simp [Value.ownBlock])
          exact blk_lt hcc
        generalize wr.heap.size = B6 at e6 ⊢
        clear hb_
        have ho : f0 = 0 ∨ f0 = 1 ∨ f0 = 2 ∨ f0 = 3 ∨ f0 = 4 ∨ f0 = 5 ∨ f0 = 6 ∨ f0 = 7 ∨ f0 = 8 ∨ f0 = 9 ∨ f0 = 10 ∨ f0 = 11 ∨ f0 = 12 ∨ f0 = 13 := by omega
        clear g0 g1
        rcases ho with rfl | rfl | rfl | rfl | rfl | rfl | rfl | rfl | rfl | rfl | rfl | rfl | rfl | rfl
        · as_aux_lemma =>
            have kf2 : 0 ≤ f2 ∧ f2 < (V : Int) := by
              have h1 := g4.out (by decide)
              have h2 := hvx.out.1 rfl
              simp only at h2
              omega
            replace hr : Aside0 (r = runS apS l m (vs.set f2.toNat f6) out told (a + 1)) := ⟨by have := hr.out; simpa [effS, setV] using this⟩
            obtain ⟨xt, ft⟩ := row_u64 hR f2 kf2.1 kf2.2
            have x60 := blk_cell e6 0
            have x61 := blk_cell e6 1
            have x62 := blk_cell e6 2
            have x63 := blk_cell e6 3
            have x64 := blk_cell e6 4
            have x65 := blk_cell e6 5
            have x66 := blk_cell e6 6
            have x67 := blk_cell e6 7
            have hR2 := Kd.R_putn hR f2 f6
            have hQ2 := Kd.R_far (p := ⟨gv, f2.toNat, none⟩) hQ (fun _ hk => hk.1) (.int .u64 f6)
            have hT2 := Kd.R_far (p := ⟨gv, f2.toNat, none⟩) hT (fun _ hk => hk.1) (.int .u64 f6)
            have kf20 := kf2.1
            have kf21 := kf2.2
            go_wp2
            go_roundw
            case rel => exact ⟨q + 1, m, a + 1, _, out, told, by first | rfl | go_num, by first | rfl | go_num, by omega, by omega, hr.out, by rw [List.length_set]; exact hvl.out, hol.out, by omega, set_u huv.out hux.out, huo.out, hR2, hQ2, hT2, below_set hB hvb⟩
            case measure => simp [intOf]; omega
        · as_aux_lemma =>
            have kf2 : 0 ≤ f2 ∧ f2 < (V : Int) := by
              have h1 := g4.out (by decide)
              have h2 := hvx.out.1 rfl
              simp only at h2
              omega
            have kf3 : 0 ≤ f3 ∧ f3 < (V : Int) := by
              have h1 := (U16_mem g5.out f3 (by simp [usesS])).1
              have h2 := hvx.out.2 f3 (by simp [usesX, usesS])
              omega
            replace hr : Aside0 (r = runS apS l m (vs.set f2.toNat (vl vs f3)) out told (a + 1)) := ⟨by have := hr.out; simpa [effS, setV] using this⟩
            obtain ⟨xa, fxa⟩ := row_u64 hR f3 kf3.1 kf3.2
            obtain ⟨xt, fxt⟩ := row_u64 hR f2 kf2.1 kf2.2
            have x60 := blk_cell e6 0
            have x61 := blk_cell e6 1
            have x62 := blk_cell e6 2
            have x63 := blk_cell e6 3
            have x64 := blk_cell e6 4
            have x65 := blk_cell e6 5
            have x66 := blk_cell e6 6
            have x67 := blk_cell e6 7
            have kf20 := kf2.1
            have kf21 := kf2.2
            have kf30 := kf3.1
            have kf31 := kf3.2
            have hz := vl_u huv.out f3
            have hR2 := Kd.R_putn hR f2 (vl vs f3)
            have hQ2 := Kd.R_far (p := ⟨gv, f2.toNat, none⟩) hQ (fun _ hk => hk.1) (.int .u64 (vl vs f3))
            have hT2 := Kd.R_far (p := ⟨gv, f2.toNat, none⟩) hT (fun _ hk => hk.1) (.int .u64 (vl vs f3))
            have hB2 : Below w.heap.size w (w3.setCell ⟨gv, f2.toNat, none⟩ (.int .u64 (vl vs f3))) := below_set hB hvb
            replace hz := Aside0.mk hz
            go_wp2
            go_region
            go_wp2
            go_roundw
            case rel => exact ⟨q + 1, m, a + 1, (vs.set f2.toNat (vl vs f3)), out, told, by first | rfl | go_num, by first | rfl | go_num, by omega, by omega, hr.out, by rw [List.length_set]; exact hvl.out, hol.out, by omega, set_u huv.out hz.out, huo.out, (by repeat (first | exact hR2 | with_reducible apply Kd.R_drew | with_reducible apply Kd.R_drewN)), (by repeat (first | exact hQ2 | with_reducible apply Kd.R_drew | with_reducible apply Kd.R_drewN)), (by repeat (first | exact hT2 | with_reducible apply Kd.R_drew | with_reducible apply Kd.R_drewN)), (by repeat (first | exact hB2 | with_reducible apply below_drew1 | with_reducible apply pw_below_drewN))⟩
            case measure => simp [intOf]; omega
        · as_aux_lemma =>
            have kf2 : 0 ≤ f2 ∧ f2 < (V : Int) := by
              have h1 := g4.out (by decide)
              have h2 := hvx.out.1 rfl
              simp only at h2
              omega
            have kf3 : 0 ≤ f3 ∧ f3 < (V : Int) := by
              have h1 := (U16_mem g5.out f3 (by simp [usesS])).1
              have h2 := hvx.out.2 f3 (by simp [usesX, usesS])
              omega
            have kf4 : 0 ≤ f4 ∧ f4 < (V : Int) := by
              have h1 := (U16_mem g5.out f4 (by simp [usesS])).1
              have h2 := hvx.out.2 f4 (by simp [usesX, usesS])
              omega
            obtain ⟨z, hz1, hz2⟩ := apply_some f1 (vl vs f3) (vl vs f4) (vl_u huv.out f3) (vl_u huv.out f4)
            have hap : apS f1 (vl vs f3) (vl vs f4) = z := by unfold apS; rw [hz1]; rfl
            replace hr : Aside0 (r = runS apS l m (vs.set f2.toNat z) out told (a + 1)) := ⟨by have := hr.out; simpa [effS, setV, hap] using this⟩
            clear hap
            replace hz2 : Aside0 (U64 z) := ⟨hz2⟩
            obtain ⟨xa, fxa⟩ := row_u64 hR f3 kf3.1 kf3.2
            obtain ⟨xb, fxb⟩ := row_u64 hR f4 kf4.1 kf4.2
            have x60 := blk_cell e6 0
            have x61 := blk_cell e6 1
            have x62 := blk_cell e6 2
            have x63 := blk_cell e6 3
            have x64 := blk_cell e6 4
            have x65 := blk_cell e6 5
            have x66 := blk_cell e6 6
            have x67 := blk_cell e6 7
            have kf20 := kf2.1
            have kf21 := kf2.2
            have kf30 := kf3.1
            have kf31 := kf3.2
            have kf40 := kf4.1
            have kf41 := kf4.2
            generalize vl vs f3 = xv at xa hz1
            generalize vl vs f4 = yv at xb hz1
            have lB : B6 < w3.heap.size := blk_lt e6
            go_upto_region 31 with go_in
            refine start_ (n := 18) (S := fun w' => Below w3.heap.size w3 w') (ds := [17]) #[false, false, false, false, false, false, false, false, false, false, false, false, false, false, false, false, false, false] (by kernel_rfl) rfl rfl (below_drew (Below.refl _ _)) (fun hHeld => ?_); refine with_tabW rn.tab31 rn.bits31 (fun HT_ HW_ => ?_)
            refine pure_ (i := 0) (N := some 153) (v := ?_) (a' := ?_) #[true, false, false, false, false, false, false, false, false, false, false, false, false, false, false, false, false, false] rfl rfl (any_of HT_.out (by kernel_rfl)) (fun _ _ _ h => h) (Or.inl ⟨by first | rfl | kernel_rfl, ?_⟩) ?_ ?_
            rotate_left
            · intro w'
              go_simp
              with_reducible rfl
            rotate_left
            · simp only [Act.put, List.setIfInBounds_toArray, List.set_cons_zero, List.set_cons_succ, i64_w, i32_w]
              rfl
            refine pure_ (i := 1) (N := some 154) (v := ?_) (a' := ?_) #[true, true, false, false, false, false, false, false, false, false, false, false, false, false, false, false, false, false] rfl rfl (any_of HT_.out (by kernel_rfl)) (fun _ _ _ h => h) (Or.inl ⟨by first | rfl | kernel_rfl, ?_⟩) ?_ ?_
            rotate_left
            · intro w'
              go_simp
              with_reducible rfl
            rotate_left
            · simp only [Act.put, List.setIfInBounds_toArray, List.set_cons_zero, List.set_cons_succ, i64_w, i32_w]
              rfl
            refine take_ (i := 2) (N := some 155) (v := ?_) (a' := ?_) #[true, true, true, false, false, false, false, false, false, false, false, false, false, false, false, false, false, false] rfl rfl (take_ofW HT_.out HW_.out (by kernel_rfl)) (fun _ _ _ h => h) (Or.inl ⟨by first | rfl | kernel_rfl, ?_⟩) hHeld ?_ ?_
            rotate_left
            · intro w' s0
              have zc := (s0.cell (by exact lB)).trans x62
              go_simp
              with_reducible rfl
            rotate_left
            · simp only [Act.put, List.setIfInBounds_toArray, List.set_cons_zero, List.set_cons_succ, i64_w, i32_w]
              rfl
            refine pure_ (i := 3) (N := some 156) (v := ?_) (a' := ?_) #[true, true, true, true, false, false, false, false, false, false, false, false, false, false, false, false, false, false] rfl rfl (any_of HT_.out (by kernel_rfl)) (fun _ _ _ h => h) (Or.inl ⟨by first | rfl | kernel_rfl, ?_⟩) ?_ ?_
            rotate_left
            · intro w'
              go_simp
              with_reducible rfl
            rotate_left
            · simp only [Act.put, List.setIfInBounds_toArray, List.set_cons_zero, List.set_cons_succ, i64_w, i32_w]
              rfl
            refine take_ (i := 4) (N := some 157) (v := ?_) (a' := ?_) #[true, true, true, true, true, false, false, false, false, false, false, false, false, false, false, false, false, false] rfl rfl (take_ofW HT_.out HW_.out (by kernel_rfl)) (fun _ _ _ h => h) (Or.inl ⟨by first | rfl | kernel_rfl, ?_⟩) hHeld ?_ ?_
            rotate_left
            · intro w' s0
              have zc := (s0.cell (by exact lB)).trans x61
              go_simp
              with_reducible rfl
            rotate_left
            · simp only [Act.put, List.setIfInBounds_toArray, List.set_cons_zero, List.set_cons_succ, i64_w, i32_w]
              rfl
            refine pure_ (i := 5) (N := some 158) (v := ?_) (a' := ?_) #[true, true, true, true, true, true, false, false, false, false, false, false, false, false, false, false, false, false] rfl rfl (any_of HT_.out (by kernel_rfl)) (fun _ _ _ h => h) (Or.inl ⟨by first | rfl | kernel_rfl, ?_⟩) ?_ ?_
            rotate_left
            · intro w'
              go_simp
              with_reducible rfl
            rotate_left
            · simp only [Act.put, List.setIfInBounds_toArray, List.set_cons_zero, List.set_cons_succ, i64_w, i32_w]
              rfl
            refine pure_ (i := 6) (N := some 159) (v := ?_) (a' := ?_) #[true, true, true, true, true, true, true, false, false, false, false, false, false, false, false, false, false, false] rfl rfl (any_of HT_.out (by kernel_rfl)) (fun _ _ _ h => h) (Or.inl ⟨by first | rfl | kernel_rfl, ?_⟩) ?_ ?_
            rotate_left
            · intro w'
              go_simp
              with_reducible rfl
            rotate_left
            · simp only [Act.put, List.setIfInBounds_toArray, List.set_cons_zero, List.set_cons_succ, i64_w, i32_w]
              rfl
            refine take_ (i := 7) (N := some 160) (v := ?_) (a' := ?_) #[true, true, true, true, true, true, true, true, false, false, false, false, false, false, false, false, false, false] rfl rfl (take_ofW HT_.out HW_.out (by kernel_rfl)) (fun _ _ _ h => h) (Or.inl ⟨by first | rfl | kernel_rfl, ?_⟩) hHeld ?_ ?_
            rotate_left
            · intro w' s0
              have zc := (s0.cell (by exact lB)).trans x63
              go_simp
              with_reducible rfl
            rotate_left
            · simp only [Act.put, List.setIfInBounds_toArray, List.set_cons_zero, List.set_cons_succ, i64_w, i32_w]
              rfl
            refine pure_ (i := 8) (N := some 161) (v := ?_) (a' := ?_) #[true, true, true, true, true, true, true, true, true, false, false, false, false, false, false, false, false, false] rfl rfl (any_of HT_.out (by kernel_rfl)) (fun _ _ _ h => h) (Or.inl ⟨by first | rfl | kernel_rfl, ?_⟩) ?_ ?_
            rotate_left
            · intro w'
              go_simp
              with_reducible rfl
            rotate_left
            · simp only [Act.put, List.setIfInBounds_toArray, List.set_cons_zero, List.set_cons_succ, i64_w, i32_w]
              rfl
            refine take_ (i := 9) (N := some 162) (v := ?_) (a' := ?_) #[true, true, true, true, true, true, true, true, true, true, false, false, false, false, false, false, false, false] rfl rfl (take_ofW HT_.out HW_.out (by kernel_rfl)) (fun _ _ _ h => h) (Or.inl ⟨by first | rfl | kernel_rfl, ?_⟩) hHeld ?_ ?_
            rotate_left
            · intro w' s0
              have zc := (s0.cell (by exact hgv)).trans xa
              go_simp
              with_reducible rfl
            rotate_left
            · simp only [Act.put, List.setIfInBounds_toArray, List.set_cons_zero, List.set_cons_succ, i64_w, i32_w]
              rfl
            refine pure_ (i := 10) (N := some 163) (v := ?_) (a' := ?_) #[true, true, true, true, true, true, true, true, true, true, true, false, false, false, false, false, false, false] rfl rfl (any_of HT_.out (by kernel_rfl)) (fun _ _ _ h => h) (Or.inl ⟨by first | rfl | kernel_rfl, ?_⟩) ?_ ?_
            rotate_left
            · intro w'
              go_simp
              with_reducible rfl
            rotate_left
            · simp only [Act.put, List.setIfInBounds_toArray, List.set_cons_zero, List.set_cons_succ, i64_w, i32_w]
              rfl
            refine pure_ (i := 11) (N := some 164) (v := ?_) (a' := ?_) #[true, true, true, true, true, true, true, true, true, true, true, true, false, false, false, false, false, false] rfl rfl (any_of HT_.out (by kernel_rfl)) (fun _ _ _ h => h) (Or.inl ⟨by first | rfl | kernel_rfl, ?_⟩) ?_ ?_
            rotate_left
            · intro w'
              go_simp
              with_reducible rfl
            rotate_left
            · simp only [Act.put, List.setIfInBounds_toArray, List.set_cons_zero, List.set_cons_succ, i64_w, i32_w]
              rfl
            refine take_ (i := 12) (N := some 165) (v := ?_) (a' := ?_) #[true, true, true, true, true, true, true, true, true, true, true, true, true, false, false, false, false, false] rfl rfl (take_ofW HT_.out HW_.out (by kernel_rfl)) (fun _ _ _ h => h) (Or.inl ⟨by first | rfl | kernel_rfl, ?_⟩) hHeld ?_ ?_
            rotate_left
            · intro w' s0
              have zc := (s0.cell (by exact lB)).trans x64
              go_simp
              with_reducible rfl
            rotate_left
            · simp only [Act.put, List.setIfInBounds_toArray, List.set_cons_zero, List.set_cons_succ, i64_w, i32_w]
              rfl
            refine pure_ (i := 13) (N := some 166) (v := ?_) (a' := ?_) #[true, true, true, true, true, true, true, true, true, true, true, true, true, true, false, false, false, false] rfl rfl (any_of HT_.out (by kernel_rfl)) (fun _ _ _ h => h) (Or.inl ⟨by first | rfl | kernel_rfl, ?_⟩) ?_ ?_
            rotate_left
            · intro w'
              go_simp
              with_reducible rfl
            rotate_left
            · simp only [Act.put, List.setIfInBounds_toArray, List.set_cons_zero, List.set_cons_succ, i64_w, i32_w]
              rfl
            refine take_ (i := 14) (N := some 167) (v := ?_) (a' := ?_) #[true, true, true, true, true, true, true, true, true, true, true, true, true, true, true, false, false, false] rfl rfl (take_ofW HT_.out HW_.out (by kernel_rfl)) (fun _ _ _ h => h) (Or.inl ⟨by first | rfl | kernel_rfl, ?_⟩) hHeld ?_ ?_
            rotate_left
            · intro w' s0
              have zc := (s0.cell (by exact hgv)).trans xb
              go_simp
              with_reducible rfl
            rotate_left
            · simp only [Act.put, List.setIfInBounds_toArray, List.set_cons_zero, List.set_cons_succ, i64_w, i32_w]
              rfl
            refine one_ (i := 15) (N := some 168) #[true, true, true, true, true, true, true, true, true, true, true, true, true, true, true, true, false, false] rfl rfl (one_of HT_.out (by kernel_rfl)) (by decide) (fun K hK => ?_)
            refine goes_ Try.func25 (by kernel_rfl) rfl #[.int .i64 f1, .int .u64 xv, .int .u64 yv] (by first | rfl | kernel_rfl) rfl rfl (by first | rfl | kernel_rfl) ?_
            refine (word_Apply.calls f1 xv yv z _ hz1).mono ?_
            rintro e w8 ⟨rfl, hd8⟩
            have hb8 := hd8.below
            have hHeld := hHeld.trans (hb8.mono hHeld.size)
            refine ⟨_, rfl, hK.out _ _ hHeld (fun hHeld => ?_)⟩
            clear hK K
            refine norm_ (a' := ?_) ?_ ?_
            rotate_left
            · show Act.put _ (some 168) _ = _
              simp only [Act.put, List.setIfInBounds_toArray, List.set_cons_zero, List.set_cons_succ, i64_w, i32_w]
              rfl
            refine pure_ (i := 16) (N := some 169) (v := ?_) (a' := ?_) #[true, true, true, true, true, true, true, true, true, true, true, true, true, true, true, true, true, false] rfl rfl (any_of HT_.out (by kernel_rfl)) (fun _ _ _ h => h) (Or.inl ⟨by first | rfl | kernel_rfl, ?_⟩) ?_ ?_
            rotate_left
            · intro w'
              go_simp
              with_reducible rfl
            rotate_left
            · simp only [Act.put, List.setIfInBounds_toArray, List.set_cons_zero, List.set_cons_succ, i64_w, i32_w]
              rfl
            refine last_ (i := 17) (N := none) #[true, true, true, true, true, true, true, true, true, true, true, true, true, true, true, true, true, true] rfl rfl (one_of HT_.out (by kernel_rfl)) (by decide) (fun K hK => ?_)
            have hR8 := Kd.R_below hR hHeld
            have hQ8 := Kd.R_below hQ hHeld
            have hT8 := Kd.R_below hT hHeld
            have hB8 := hB.trans (hHeld.mono hB.size)
            obtain ⟨xz, fz⟩ := row_u64 hR8 f2 kf20 kf21
            refine skip_ (w1 := World.setCell w8 ⟨gv, f2.toNat, none⟩ (.int .u64 z)) (by first | rfl | kernel_rfl) rfl ?_ ?_
            · go_simp
            refine hK.out _ _ ?_
            clear hK K xz fz
            refine done_ (done_of HT_.out (by kernel_rfl)) ?_
            clear HT_ HW_
            have hR2 := Kd.R_putn hR8 f2 z
            have hQ2 := Kd.R_far (p := ⟨gv, f2.toNat, none⟩) hQ8 (fun _ hk => hk.1) (.int .u64 z)
            have hT2 := Kd.R_far (p := ⟨gv, f2.toNat, none⟩) hT8 (fun _ hk => hk.1) (.int .u64 z)
            have hB2 : Below w.heap.size w (w8.setCell ⟨gv, f2.toNat, none⟩ (.int .u64 z)) := below_set hB8 hvb
            go_wp2
            go_roundw
            case rel => exact ⟨q + 1, m, a + 1, (vs.set f2.toNat z), out, told, by first | rfl | go_num, by first | rfl | go_num, by omega, by omega, hr.out, by rw [List.length_set]; exact hvl.out, hol.out, by omega, set_u huv.out hz2.out, huo.out, (by repeat (first | exact hR2 | with_reducible apply Kd.R_drew | with_reducible apply Kd.R_drewN)), (by repeat (first | exact hQ2 | with_reducible apply Kd.R_drew | with_reducible apply Kd.R_drewN)), (by repeat (first | exact hT2 | with_reducible apply Kd.R_drew | with_reducible apply Kd.R_drewN)), (by repeat (first | exact hB2 | with_reducible apply below_drew1 | with_reducible apply pw_below_drewN))⟩
            case measure => simp [intOf]; omega
        · as_aux_lemma =>
            have kf2 : 0 ≤ f2 ∧ f2 < (V : Int) := by
              have h1 := g4.out (by decide)
              have h2 := hvx.out.1 rfl
              simp only at h2
              omega
            have kf3 : 0 ≤ f3 ∧ f3 < (V : Int) := by
              have h1 := (U16_mem g5.out f3 (by simp [usesS])).1
              have h2 := hvx.out.2 f3 (by simp [usesX, usesS])
              omega
            have kf4 : 0 ≤ f4 ∧ f4 < (V : Int) := by
              have h1 := (U16_mem g5.out f4 (by simp [usesS])).1
              have h2 := hvx.out.2 f4 (by simp [usesX, usesS])
              omega
            have kf5 : 0 ≤ f5 ∧ f5 < (V : Int) := by
              have h1 := (U16_mem g5.out f5 (by simp [usesS])).1
              have h2 := hvx.out.2 f5 (by simp [usesX, usesS])
              omega
            obtain ⟨xa, fxa⟩ := row_u64 hR f3 kf3.1 kf3.2
            obtain ⟨xb, fxb⟩ := row_u64 hR f4 kf4.1 kf4.2
            obtain ⟨xc, fxc⟩ := row_u64 hR f5 kf5.1 kf5.2
            obtain ⟨xt, fxt⟩ := row_u64 hR f2 kf2.1 kf2.2
            have x60 := blk_cell e6 0
            have x61 := blk_cell e6 1
            have x62 := blk_cell e6 2
            have x63 := blk_cell e6 3
            have x64 := blk_cell e6 4
            have x65 := blk_cell e6 5
            have x66 := blk_cell e6 6
            have x67 := blk_cell e6 7
            have kf20 := kf2.1
            have kf21 := kf2.2
            have kf30 := kf3.1
            have kf31 := kf3.2
            have kf40 := kf4.1
            have kf41 := kf4.2
            have kf50 := kf5.1
            have kf51 := kf5.2
            have hz4 := Aside0.mk (vl_u huv.out f4)
            have hz5 := Aside0.mk (vl_u huv.out f5)
            by_cases hc : vl vs f3 = 0
            · replace hr : Aside0 (r = runS apS l m (vs.set f2.toNat (vl vs f5)) out told (a + 1)) := ⟨by have := hr.out; simpa [effS, setV, hc] using this⟩
              have hR2 := Kd.R_putn hR f2 (vl vs f5)
              have hQ2 := Kd.R_far (p := ⟨gv, f2.toNat, none⟩) hQ (fun _ hk => hk.1) (.int .u64 (vl vs f5))
              have hT2 := Kd.R_far (p := ⟨gv, f2.toNat, none⟩) hT (fun _ hk => hk.1) (.int .u64 (vl vs f5))
              have hB2 : Below w.heap.size w (w3.setCell ⟨gv, f2.toNat, none⟩ (.int .u64 (vl vs f5))) := below_set hB hvb
              have hcb : (vl vs f3 != 0) = false := by rw [hc]; rfl
              replace hc := Aside0.mk hc
              go_wp2
              go_region
              go_wp2
              go_roundw
              case rel => exact ⟨q + 1, m, a + 1, (vs.set f2.toNat (vl vs f5)), out, told, by first | rfl | go_num, by first | rfl | go_num, by omega, by omega, hr.out, by rw [List.length_set]; exact hvl.out, hol.out, by omega, set_u huv.out hz5.out, huo.out, (by repeat (first | exact hR2 | with_reducible apply Kd.R_drew | with_reducible apply Kd.R_drewN)), (by repeat (first | exact hQ2 | with_reducible apply Kd.R_drew | with_reducible apply Kd.R_drewN)), (by repeat (first | exact hT2 | with_reducible apply Kd.R_drew | with_reducible apply Kd.R_drewN)), (by repeat (first | exact hB2 | with_reducible apply below_drew1 | with_reducible apply pw_below_drewN))⟩
              case measure => simp [intOf]; omega
            · replace hr : Aside0 (r = runS apS l m (vs.set f2.toNat (vl vs f4)) out told (a + 1)) := ⟨by have := hr.out; simpa [effS, setV, hc] using this⟩
              have hR2 := Kd.R_putn hR f2 (vl vs f4)
              have hQ2 := Kd.R_far (p := ⟨gv, f2.toNat, none⟩) hQ (fun _ hk => hk.1) (.int .u64 (vl vs f4))
              have hT2 := Kd.R_far (p := ⟨gv, f2.toNat, none⟩) hT (fun _ hk => hk.1) (.int .u64 (vl vs f4))
              have hB2 : Below w.heap.size w (w3.setCell ⟨gv, f2.toNat, none⟩ (.int .u64 (vl vs f4))) := below_set hB hvb
              have hcb : (vl vs f3 != 0) = true := by simpa using hc
              go_wp2
              go_region
              go_wp2
              go_roundw
              case rel => exact ⟨q + 1, m, a + 1, (vs.set f2.toNat (vl vs f4)), out, told, by first | rfl | go_num, by first | rfl | go_num, by omega, by omega, hr.out, by rw [List.length_set]; exact hvl.out, hol.out, by omega, set_u huv.out hz4.out, huo.out, (by repeat (first | exact hR2 | with_reducible apply Kd.R_drew | with_reducible apply Kd.R_drewN)), (by repeat (first | exact hQ2 | with_reducible apply Kd.R_drew | with_reducible apply Kd.R_drewN)), (by repeat (first | exact hT2 | with_reducible apply Kd.R_drew | with_reducible apply Kd.R_drewN)), (by repeat (first | exact hB2 | with_reducible apply below_drew1 | with_reducible apply pw_below_drewN))⟩
              case measure => simp [intOf]; omega
        · as_aux_lemma =>
            by_cases h3 : 0 ≤ f3
            · have h3i : f3 ≥ 0 := h3
              have kf3 : 0 ≤ f3 ∧ f3 < (V : Int) := by
                have h1 := (U16_mem g5.out f3 (by simp [usesS, h3])).1
                have h2 := hvx.out.2 f3 (by simp [usesX, usesS, h3])
                omega
              obtain ⟨xa, fxa⟩ := row_u64 hR f3 kf3.1 kf3.2
              have kf30 := kf3.1
              have kf31 := kf3.2
              obtain ⟨p, hpe⟩ : ∃ p, wrap64 (IntKind.u64.wrap (f6 + vl vs f3)) = p := ⟨_, rfl⟩
              have x60 := blk_cell e6 0
              have x61 := blk_cell e6 1
              have x62 := blk_cell e6 2
              have x63 := blk_cell e6 3
              have x64 := blk_cell e6 4
              have x65 := blk_cell e6 5
              have x66 := blk_cell e6 6
              have x67 := blk_cell e6 7
              go_upto_region 12 with go_in
              go_region
              clear xa
              have hol' := hol.out
              replace hol' := Aside0.mk hol'
              by_cases hp0 : p < 0
              · have hrn : r = none := by have := hr.out; simpa [effS, placeS, u64m_eq, hpe, hp0, h3] using this
                clear hr
                go_wp2
                refine bodyPost_ret (v := .tuple #[.slice none 0 0, .slice none 0 0, .bool false]) (by simp [results, Try.results14, go_sem]) rfl ?_
                exact ⟨(by repeat (first | exact hB | with_reducible apply below_drew1 | with_reducible apply pw_below_drewN)), rfl⟩
              by_cases hp1 : (Cn : Int) ≤ p
              · have hp2 : (out.length : Int) ≤ p := by have := hol.out; omega
                have hrn : r = none := by have := hr.out; simpa [effS, placeS, u64m_eq, hpe, hp2, h3] using this
                clear hr
                replace hp2 := Aside0.mk hp2
                have hp3 : p ≥ (Cn : Int) := hp1
                go_wp2
                refine bodyPost_ret (v := .tuple #[.slice none 0 0, .slice none 0 0, .bool false]) (by simp [results, Try.results14, go_sem]) rfl ?_
                exact ⟨(by repeat (first | exact hB | with_reducible apply below_drew1 | with_reducible apply pw_below_drewN)), rfl⟩
              have hp2 : ¬ (out.length : Int) ≤ p := by have := hol.out; omega
              have kf2 : 0 ≤ f2 ∧ f2 < (V : Int) := by
                have h1 := g4.out (by decide)
                have h2 := hvx.out.1 rfl
                simp only at h2
                omega
              replace hr : Aside0 (r = runS apS l m (vs.set f2.toNat (vl out p)) out told (a + 1)) := ⟨by have := hr.out; simpa [effS, setV, placeS, u64m_eq, hpe, hp0, hp2, h3] using this⟩
              replace hp2 := Aside0.mk hp2
              obtain ⟨xp, fp⟩ := row_u64 hQ p (by omega) (by omega)
              have hp4 : 0 ≤ p := by omega
              have hp5 : p < (Cn : Int) := by omega
              obtain ⟨xt, fxt⟩ := row_u64 hR f2 kf2.1 kf2.2
              have kf20 := kf2.1
              have kf21 := kf2.2
              have hz := Aside0.mk (vl_u huo.out p)
              have hR2 := Kd.R_putn hR f2 (vl out p)
              have hQ2 := Kd.R_far (p := ⟨gv, f2.toNat, none⟩) hQ (fun _ hk => hk.1) (.int .u64 (vl out p))
              have hT2 := Kd.R_far (p := ⟨gv, f2.toNat, none⟩) hT (fun _ hk => hk.1) (.int .u64 (vl out p))
              have hB2 : Below w.heap.size w (w3.setCell ⟨gv, f2.toNat, none⟩ (.int .u64 (vl out p))) := below_set hB hvb
              go_wp2
              go_region
              go_wp2
              go_roundw
              case rel => exact ⟨q + 1, m, a + 1, (vs.set f2.toNat (vl out p)), out, told, by first | rfl | go_num, by first | rfl | go_num, by omega, by omega, hr.out, by rw [List.length_set]; exact hvl.out, hol.out, by omega, set_u huv.out hz.out, huo.out, (by repeat (first | exact hR2 | with_reducible apply Kd.R_drew | with_reducible apply Kd.R_drewN)), (by repeat (first | exact hQ2 | with_reducible apply Kd.R_drew | with_reducible apply Kd.R_drewN)), (by repeat (first | exact hT2 | with_reducible apply Kd.R_drew | with_reducible apply Kd.R_drewN)), (by repeat (first | exact hB2 | with_reducible apply below_drew1 | with_reducible apply pw_below_drewN))⟩
              case measure => simp [intOf]; omega
            · have h3i : ¬ f3 ≥ 0 := h3
              obtain ⟨p, hpe⟩ : ∃ p, wrap64 f6 = p := ⟨_, rfl⟩
              have x60 := blk_cell e6 0
              have x61 := blk_cell e6 1
              have x62 := blk_cell e6 2
              have x63 := blk_cell e6 3
              have x64 := blk_cell e6 4
              have x65 := blk_cell e6 5
              have x66 := blk_cell e6 6
              have x67 := blk_cell e6 7
              have hol' := hol.out
              replace hol' := Aside0.mk hol'
              by_cases hp0 : p < 0
              · have hrn : r = none := by have := hr.out; simpa [effS, placeS, u64m_eq, hpe, hp0, h3] using this
                clear hr
                go_wp2
                refine bodyPost_ret (v := .tuple #[.slice none 0 0, .slice none 0 0, .bool false]) (by simp [results, Try.results14, go_sem]) rfl ?_
                exact ⟨(by repeat (first | exact hB | with_reducible apply below_drew1 | with_reducible apply pw_below_drewN)), rfl⟩
              by_cases hp1 : (Cn : Int) ≤ p
              · have hp2 : (out.length : Int) ≤ p := by have := hol.out; omega
                have hrn : r = none := by have := hr.out; simpa [effS, placeS, u64m_eq, hpe, hp2, h3] using this
                clear hr
                replace hp2 := Aside0.mk hp2
                have hp3 : p ≥ (Cn : Int) := hp1
                go_wp2
                refine bodyPost_ret (v := .tuple #[.slice none 0 0, .slice none 0 0, .bool false]) (by simp [results, Try.results14, go_sem]) rfl ?_
                exact ⟨(by repeat (first | exact hB | with_reducible apply below_drew1 | with_reducible apply pw_below_drewN)), rfl⟩
              have hp2 : ¬ (out.length : Int) ≤ p := by have := hol.out; omega
              have kf2 : 0 ≤ f2 ∧ f2 < (V : Int) := by
                have h1 := g4.out (by decide)
                have h2 := hvx.out.1 rfl
                simp only at h2
                omega
              replace hr : Aside0 (r = runS apS l m (vs.set f2.toNat (vl out p)) out told (a + 1)) := ⟨by have := hr.out; simpa [effS, setV, placeS, u64m_eq, hpe, hp0, hp2, h3] using this⟩
              replace hp2 := Aside0.mk hp2
              obtain ⟨xp, fp⟩ := row_u64 hQ p (by omega) (by omega)
              have hp4 : 0 ≤ p := by omega
              have hp5 : p < (Cn : Int) := by omega
              obtain ⟨xt, fxt⟩ := row_u64 hR f2 kf2.1 kf2.2
              have kf20 := kf2.1
              have kf21 := kf2.2
              have hz := Aside0.mk (vl_u huo.out p)
              have hR2 := Kd.R_putn hR f2 (vl out p)
              have hQ2 := Kd.R_far (p := ⟨gv, f2.toNat, none⟩) hQ (fun _ hk => hk.1) (.int .u64 (vl out p))
              have hT2 := Kd.R_far (p := ⟨gv, f2.toNat, none⟩) hT (fun _ hk => hk.1) (.int .u64 (vl out p))
              have hB2 : Below w.heap.size w (w3.setCell ⟨gv, f2.toNat, none⟩ (.int .u64 (vl out p))) := below_set hB hvb
              go_wp2
              go_region
              go_wp2
              go_roundw
              case rel => exact ⟨q + 1, m, a + 1, (vs.set f2.toNat (vl out p)), out, told, by first | rfl | go_num, by first | rfl | go_num, by omega, by omega, hr.out, by rw [List.length_set]; exact hvl.out, hol.out, by omega, set_u huv.out hz.out, huo.out, (by repeat (first | exact hR2 | with_reducible apply Kd.R_drew | with_reducible apply Kd.R_drewN)), (by repeat (first | exact hQ2 | with_reducible apply Kd.R_drew | with_reducible apply Kd.R_drewN)), (by repeat (first | exact hT2 | with_reducible apply Kd.R_drew | with_reducible apply Kd.R_drewN)), (by repeat (first | exact hB2 | with_reducible apply below_drew1 | with_reducible apply pw_below_drewN))⟩
              case measure => simp [intOf]; omega
  
        · as_aux_lemma =>
            by_cases h3 : 0 ≤ f3
            · have h3i : f3 ≥ 0 := h3
              have kf3 : 0 ≤ f3 ∧ f3 < (V : Int) := by
                have h1 := (U16_mem g5.out f3 (by simp [usesS, h3])).1
                have h2 := hvx.out.2 f3 (by simp [usesX, usesS, h3])
                omega
              obtain ⟨xa, fxa⟩ := row_u64 hR f3 kf3.1 kf3.2
              have kf30 := kf3.1
              have kf31 := kf3.2
              obtain ⟨p, hpe⟩ : ∃ p, wrap64 (IntKind.u64.wrap (f6 + vl vs f3)) = p := ⟨_, rfl⟩
              have x60 := blk_cell e6 0
              have x61 := blk_cell e6 1
              have x62 := blk_cell e6 2
              have x63 := blk_cell e6 3
              have x64 := blk_cell e6 4
              have x65 := blk_cell e6 5
              have x66 := blk_cell e6 6
              have x67 := blk_cell e6 7
              go_upto_region 12 with go_in
              go_region
              clear xa
              have hol' := hol.out
              replace hol' := Aside0.mk hol'
              by_cases hp0 : p < 0
              · have hrn : r = none := by have := hr.out; simpa [effS, placeS, u64m_eq, hpe, hp0, h3] using this
                clear hr
                go_wp2
                refine bodyPost_ret (v := .tuple #[.slice none 0 0, .slice none 0 0, .bool false]) (by simp [results, Try.results14, go_sem]) rfl ?_
                exact ⟨(by repeat (first | exact hB | with_reducible apply below_drew1 | with_reducible apply pw_below_drewN)), rfl⟩
              by_cases hp1 : (Cn : Int) ≤ p
              · have hp2 : (out.length : Int) ≤ p := by have := hol.out; omega
                have hrn : r = none := by have := hr.out; simpa [effS, placeS, u64m_eq, hpe, hp2, h3] using this
                clear hr
                replace hp2 := Aside0.mk hp2
                have hp3 : p ≥ (Cn : Int) := hp1
                go_wp2
                refine bodyPost_ret (v := .tuple #[.slice none 0 0, .slice none 0 0, .bool false]) (by simp [results, Try.results14, go_sem]) rfl ?_
                exact ⟨(by repeat (first | exact hB | with_reducible apply below_drew1 | with_reducible apply pw_below_drewN)), rfl⟩
              have hp2 : ¬ (out.length : Int) ≤ p := by have := hol.out; omega
              have kf4 : 0 ≤ f4 ∧ f4 < (V : Int) := by
                have h1 := (U16_mem g5.out f4 (by simp [usesS, h3])).1
                have h2 := hvx.out.2 f4 (by simp [usesX, usesS, h3])
                omega
              obtain ⟨xb, fxb⟩ := row_u64 hR f4 kf4.1 kf4.2
              have kf40 := kf4.1
              have kf41 := kf4.2
              have hz := Aside0.mk (vl_u huv.out f4)
              replace hr : Aside0 (r = runS apS l m vs (out.set p.toNat (vl vs f4)) told (a + 1)) := ⟨by have := hr.out; simpa [effS, setV, placeS, u64m_eq, hpe, hp0, hp2, h3] using this⟩
              replace hp2 := Aside0.mk hp2
              obtain ⟨xp, fp⟩ := row_u64 hQ p (by omega) (by omega)
              have hp4 : 0 ≤ p := by omega
              have hp5 : p < (Cn : Int) := by omega
              have hQ2 := Kd.R_putn hQ p (vl vs f4)
              have hR2 := Kd.R_far (p := ⟨go, p.toNat, none⟩) hR (fun _ hk => hk.1) (.int .u64 (vl vs f4))
              have hT2 := Kd.R_far (p := ⟨go, p.toNat, none⟩) hT (fun _ hk => hk.2) (.int .u64 (vl vs f4))
              have hB2 : Below w.heap.size w (w3.setCell ⟨go, p.toNat, none⟩ (.int .u64 (vl vs f4))) := below_set hB hob
              go_wp2
              go_roundw
              case rel => exact ⟨q + 1, m, a + 1, vs, (out.set p.toNat (vl vs f4)), told, by first | rfl | go_num, by first | rfl | go_num, by omega, by omega, hr.out, hvl.out, by rw [List.length_set]; exact hol.out, by omega, huv.out, set_u huo.out hz.out, (by repeat (first | exact hR2 | with_reducible apply Kd.R_drew | with_reducible apply Kd.R_drewN)), (by repeat (first | exact hQ2 | with_reducible apply Kd.R_drew | with_reducible apply Kd.R_drewN)), (by repeat (first | exact hT2 | with_reducible apply Kd.R_drew | with_reducible apply Kd.R_drewN)), (by repeat (first | exact hB2 | with_reducible apply below_drew1 | with_reducible apply pw_below_drewN))⟩
              case measure => simp [intOf]; omega
            · have h3i : ¬ f3 ≥ 0 := h3
              obtain ⟨p, hpe⟩ : ∃ p, wrap64 f6 = p := ⟨_, rfl⟩
              have x60 := blk_cell e6 0
              have x61 := blk_cell e6 1
              have x62 := blk_cell e6 2
              have x63 := blk_cell e6 3
              have x64 := blk_cell e6 4
              have x65 := blk_cell e6 5
              have x66 := blk_cell e6 6
              have x67 := blk_cell e6 7
              have hol' := hol.out
              replace hol' := Aside0.mk hol'
              by_cases hp0 : p < 0
              · have hrn : r = none := by have := hr.out; simpa [effS, placeS, u64m_eq, hpe, hp0, h3] using this
                clear hr
                go_wp2
                refine bodyPost_ret (v := .tuple #[.slice none 0 0, .slice none 0 0, .bool false]) (by simp [results, Try.results14, go_sem]) rfl ?_
                exact ⟨(by repeat (first | exact hB | with_reducible apply below_drew1 | with_reducible apply pw_below_drewN)), rfl⟩
              by_cases hp1 : (Cn : Int) ≤ p
              · have hp2 : (out.length : Int) ≤ p := by have := hol.out; omega
                have hrn : r = none := by have := hr.out; simpa [effS, placeS, u64m_eq, hpe, hp2, h3] using this
                clear hr
                replace hp2 := Aside0.mk hp2
                have hp3 : p ≥ (Cn : Int) := hp1
                go_wp2
                refine bodyPost_ret (v := .tuple #[.slice none 0 0, .slice none 0 0, .bool false]) (by simp [results, Try.results14, go_sem]) rfl ?_
                exact ⟨(by repeat (first | exact hB | with_reducible apply below_drew1 | with_reducible apply pw_below_drewN)), rfl⟩
              have hp2 : ¬ (out.length : Int) ≤ p := by have := hol.out; omega
              have kf4 : 0 ≤ f4 ∧ f4 < (V : Int) := by
                have h1 := (U16_mem g5.out f4 (by simp [usesS, h3])).1
                have h2 := hvx.out.2 f4 (by simp [usesX, usesS, h3])
                omega
              obtain ⟨xb, fxb⟩ := row_u64 hR f4 kf4.1 kf4.2
              have kf40 := kf4.1
              have kf41 := kf4.2
              have hz := Aside0.mk (vl_u huv.out f4)
              replace hr : Aside0 (r = runS apS l m vs (out.set p.toNat (vl vs f4)) told (a + 1)) := ⟨by have := hr.out; simpa [effS, setV, placeS, u64m_eq, hpe, hp0, hp2, h3] using this⟩
              replace hp2 := Aside0.mk hp2
              obtain ⟨xp, fp⟩ := row_u64 hQ p (by omega) (by omega)
              have hp4 : 0 ≤ p := by omega
              have hp5 : p < (Cn : Int) := by omega
              have hQ2 := Kd.R_putn hQ p (vl vs f4)
              have hR2 := Kd.R_far (p := ⟨go, p.toNat, none⟩) hR (fun _ hk => hk.1) (.int .u64 (vl vs f4))
              have hT2 := Kd.R_far (p := ⟨go, p.toNat, none⟩) hT (fun _ hk => hk.2) (.int .u64 (vl vs f4))
              have hB2 : Below w.heap.size w (w3.setCell ⟨go, p.toNat, none⟩ (.int .u64 (vl vs f4))) := below_set hB hob
              go_wp2
              go_roundw
              case rel => exact ⟨q + 1, m, a + 1, vs, (out.set p.toNat (vl vs f4)), told, by first | rfl | go_num, by first | rfl | go_num, by omega, by omega, hr.out, hvl.out, by rw [List.length_set]; exact hol.out, by omega, huv.out, set_u huo.out hz.out, (by repeat (first | exact hR2 | with_reducible apply Kd.R_drew | with_reducible apply Kd.R_drewN)), (by repeat (first | exact hQ2 | with_reducible apply Kd.R_drew | with_reducible apply Kd.R_drewN)), (by repeat (first | exact hT2 | with_reducible apply Kd.R_drew | with_reducible apply Kd.R_drewN)), (by repeat (first | exact hB2 | with_reducible apply below_drew1 | with_reducible apply pw_below_drewN))⟩
              case measure => simp [intOf]; omega
  
        · as_aux_lemma =>
            have k7 : 0 ≤ f7 ∧ f7 < (l.length : Int) := g3.out (by decide)
            obtain ⟨t, rfl⟩ : ∃ t : Nat, f7 = (t : Int) := ⟨f7.toNat, by omega⟩
            replace hr : Aside0 (r = runS apS l m vs out told t) := ⟨by have := hr.out; simpa [effS, setV] using this⟩
            have x60 := blk_cell e6 0
            have x61 := blk_cell e6 1
            have x62 := blk_cell e6 2
            have x63 := blk_cell e6 3
            have x64 := blk_cell e6 4
            have x65 := blk_cell e6 5
            have x66 := blk_cell e6 6
            have x67 := blk_cell e6 7
            go_wp2
            go_roundw
            case rel => exact ⟨q + 1, m, t, vs, out, told, by first | rfl | go_num, by first | rfl | go_num, by omega, by omega, hr.out, hvl.out, hol.out, by omega, huv.out, huo.out, (by repeat (first | exact hR | with_reducible apply Kd.R_drew | with_reducible apply Kd.R_drewN)), (by repeat (first | exact hQ | with_reducible apply Kd.R_drew | with_reducible apply Kd.R_drewN)), (by repeat (first | exact hT | with_reducible apply Kd.R_drew | with_reducible apply Kd.R_drewN)), (by repeat (first | exact hB | with_reducible apply below_drew1 | with_reducible apply pw_below_drewN))⟩
            case measure => simp [intOf]; omega
        · as_aux_lemma =>
            have k7 : 0 ≤ f7 ∧ f7 < (l.length : Int) := g3.out (by decide)
            obtain ⟨t, rfl⟩ : ∃ t : Nat, f7 = (t : Int) := ⟨f7.toNat, by omega⟩
            have kf3 : 0 ≤ f3 ∧ f3 < (V : Int) := by
              have h1 := (U16_mem g5.out f3 (by simp [usesS])).1
              have h2 := hvx.out.2 f3 (by simp [usesX, usesS])
              omega
            obtain ⟨xa, fxa⟩ := row_u64 hR f3 kf3.1 kf3.2
            have x60 := blk_cell e6 0
            have x61 := blk_cell e6 1
            have x62 := blk_cell e6 2
            have x63 := blk_cell e6 3
            have x64 := blk_cell e6 4
            have x65 := blk_cell e6 5
            have x66 := blk_cell e6 6
            have x67 := blk_cell e6 7
            have kf30 := kf3.1
            have kf31 := kf3.2
            by_cases hc : vl vs f3 = 0
            · replace hr : Aside0 (r = runS apS l m vs out told t) := ⟨by have := hr.out; simpa [effS, setV, hc] using this⟩
              have hcb : (vl vs f3 == 0) = true := by rw [hc]; rfl
              replace hc := Aside0.mk hc
              go_wp2
              go_roundw
              case rel => exact ⟨q + 1, m, t, vs, out, told, by first | rfl | go_num, by first | rfl | go_num, by omega, by omega, hr.out, hvl.out, hol.out, by omega, huv.out, huo.out, (by repeat (first | exact hR | with_reducible apply Kd.R_drew | with_reducible apply Kd.R_drewN)), (by repeat (first | exact hQ | with_reducible apply Kd.R_drew | with_reducible apply Kd.R_drewN)), (by repeat (first | exact hT | with_reducible apply Kd.R_drew | with_reducible apply Kd.R_drewN)), (by repeat (first | exact hB | with_reducible apply below_drew1 | with_reducible apply pw_below_drewN))⟩
              case measure => simp [intOf]; omega
            · replace hr : Aside0 (r = runS apS l m vs out told (a + 1)) := ⟨by have := hr.out; simpa [effS, setV, hc] using this⟩
              have hcb : (vl vs f3 == 0) = false := by simpa using hc
              go_wp2
              go_roundw
              case rel => exact ⟨q + 1, m, a + 1, vs, out, told, by first | rfl | go_num, by first | rfl | go_num, by omega, by omega, hr.out, hvl.out, hol.out, by omega, huv.out, huo.out, (by repeat (first | exact hR | with_reducible apply Kd.R_drew | with_reducible apply Kd.R_drewN)), (by repeat (first | exact hQ | with_reducible apply Kd.R_drew | with_reducible apply Kd.R_drewN)), (by repeat (first | exact hT | with_reducible apply Kd.R_drew | with_reducible apply Kd.R_drewN)), (by repeat (first | exact hB | with_reducible apply below_drew1 | with_reducible apply pw_below_drewN))⟩
              case measure => simp [intOf]; omega
        · as_aux_lemma =>
            obtain ⟨p, hpe⟩ : ∃ p, wrap64 f6 = p := ⟨_, rfl⟩
            have x60 := blk_cell e6 0
            have x61 := blk_cell e6 1
            have x62 := blk_cell e6 2
            have x63 := blk_cell e6 3
            have x64 := blk_cell e6 4
            have x65 := blk_cell e6 5
            have x66 := blk_cell e6 6
            have x67 := blk_cell e6 7
            have hol' := hol.out
            replace hol' := Aside0.mk hol'
            by_cases hp0 : p < 0
            · have hrn : r = none := by have := hr.out; simpa [effS, placeS, hpe, hp0] using this
              clear hr
              go_wp2
              refine bodyPost_ret (v := .tuple #[.slice none 0 0, .slice none 0 0, .bool false]) (by simp [results, Try.results14, go_sem]) rfl ?_
              exact ⟨(by repeat (first | exact hB | with_reducible apply below_drew1 | with_reducible apply pw_below_drewN)), rfl⟩
            by_cases hp1 : (Cn : Int) ≤ p
            · have hp2 : (out.length : Int) ≤ p := by have := hol.out; omega
              have hrn : r = none := by have := hr.out; simpa [effS, placeS, hpe, hp2] using this
              clear hr
              replace hp2 := Aside0.mk hp2
              have hp3 : p ≥ (Cn : Int) := hp1
              go_wp2
              refine bodyPost_ret (v := .tuple #[.slice none 0 0, .slice none 0 0, .bool false]) (by simp [results, Try.results14, go_sem]) rfl ?_
              exact ⟨(by repeat (first | exact hB | with_reducible apply below_drew1 | with_reducible apply pw_below_drewN)), rfl⟩
            have hp2 : ¬ (out.length : Int) ≤ p := by have := hol.out; omega
            by_cases hz : vl out p = 0
            · replace hr : Aside0 (r = runS apS l m vs (out.set p.toNat 1) told (a + 1)) := ⟨by have := hr.out; simpa [effS, setV, placeS, hpe, hp0, hp2, hz] using this⟩
              replace hp2 := Aside0.mk hp2
              obtain ⟨xp, fp⟩ := row_u64 hQ p (by omega) (by omega)
              have hp4 : 0 ≤ p := by omega
              have hp5 : p < (Cn : Int) := by omega
              have hQ2 := Kd.R_putn hQ p 1
              have hR2 := Kd.R_far (p := ⟨go, p.toNat, none⟩) hR (fun _ hk => hk.1) (.int .u64 1)
              have hT2 := Kd.R_far (p := ⟨go, p.toNat, none⟩) hT (fun _ hk => hk.2) (.int .u64 1)
              have hB2 : Below w.heap.size w (w3.setCell ⟨go, p.toNat, none⟩ (.int .u64 1)) := below_set hB hob
              have hzb : (vl out p != 0) = false := by rw [hz]; rfl
              replace hz := Aside0.mk hz
              go_wp2
              go_roundw
              case rel => exact ⟨q + 1, m, a + 1, vs, (out.set p.toNat 1), told, by first | rfl | go_num, by first | rfl | go_num, by omega, by omega, hr.out, hvl.out, by rw [List.length_set]; exact hol.out, by omega, huv.out, set_u huo.out ⟨by decide, by decide⟩, (by repeat (first | exact hR2 | with_reducible apply Kd.R_drew | with_reducible apply Kd.R_drewN)), (by repeat (first | exact hQ2 | with_reducible apply Kd.R_drew | with_reducible apply Kd.R_drewN)), (by repeat (first | exact hT2 | with_reducible apply Kd.R_drew | with_reducible apply Kd.R_drewN)), (by repeat (first | exact hB2 | with_reducible apply below_drew1 | with_reducible apply pw_below_drewN))⟩
              case measure => simp [intOf]; omega
            · have hrn : r = none := by have := hr.out; simpa [effS, placeS, hpe, hp0, hp2, hz] using this
              clear hr
              replace hp2 := Aside0.mk hp2
              obtain ⟨xp, fp⟩ := row_u64 hQ p (by omega) (by omega)
              have hp4 : 0 ≤ p := by omega
              have hp5 : p < (Cn : Int) := by omega
              have hzb : (vl out p != 0) = true := by simpa using hz
              go_wp2
              refine bodyPost_ret (v := .tuple #[.slice none 0 0, .slice none 0 0, .bool false]) (by simp [results, Try.results14, go_sem]) rfl ?_
              exact ⟨(by repeat (first | exact hB | with_reducible apply below_drew1 | with_reducible apply pw_below_drewN)), rfl⟩
        · as_aux_lemma =>
            obtain ⟨p, hpe⟩ : ∃ p, wrap64 f6 = p := ⟨_, rfl⟩
            have x60 := blk_cell e6 0
            have x61 := blk_cell e6 1
            have x62 := blk_cell e6 2
            have x63 := blk_cell e6 3
            have x64 := blk_cell e6 4
            have x65 := blk_cell e6 5
            have x66 := blk_cell e6 6
            have x67 := blk_cell e6 7
            have hol' := hol.out
            replace hol' := Aside0.mk hol'
            by_cases hp0 : p < 0
            · have hrn : r = none := by have := hr.out; simpa [effS, placeS, hpe, hp0] using this
              clear hr
              go_wp2
              refine bodyPost_ret (v := .tuple #[.slice none 0 0, .slice none 0 0, .bool false]) (by simp [results, Try.results14, go_sem]) rfl ?_
              exact ⟨(by repeat (first | exact hB | with_reducible apply below_drew1 | with_reducible apply pw_below_drewN)), rfl⟩
            by_cases hp1 : (Cn : Int) ≤ p
            · have hp2 : (out.length : Int) ≤ p := by have := hol.out; omega
              have hrn : r = none := by have := hr.out; simpa [effS, placeS, hpe, hp2] using this
              clear hr
              replace hp2 := Aside0.mk hp2
              have hp3 : p ≥ (Cn : Int) := hp1
              go_wp2
              refine bodyPost_ret (v := .tuple #[.slice none 0 0, .slice none 0 0, .bool false]) (by simp [results, Try.results14, go_sem]) rfl ?_
              exact ⟨(by repeat (first | exact hB | with_reducible apply below_drew1 | with_reducible apply pw_below_drewN)), rfl⟩
            have hp2 : ¬ (out.length : Int) ≤ p := by have := hol.out; omega
            replace hr : Aside0 (r = runS apS l m vs (out.set p.toNat 0) told (a + 1)) := ⟨by have := hr.out; simpa [effS, setV, placeS, hpe, hp0, hp2] using this⟩
            replace hp2 := Aside0.mk hp2
            obtain ⟨xp, fp⟩ := row_u64 hQ p (by omega) (by omega)
            have hp4 : 0 ≤ p := by omega
            have hp5 : p < (Cn : Int) := by omega
            have hQ2 := Kd.R_putn hQ p 0
            have hR2 := Kd.R_far (p := ⟨go, p.toNat, none⟩) hR (fun _ hk => hk.1) (.int .u64 0)
            have hT2 := Kd.R_far (p := ⟨go, p.toNat, none⟩) hT (fun _ hk => hk.2) (.int .u64 0)
            have hB2 : Below w.heap.size w (w3.setCell ⟨go, p.toNat, none⟩ (.int .u64 0)) := below_set hB hob
            go_wp2
            go_roundw
            case rel => exact ⟨q + 1, m, a + 1, vs, (out.set p.toNat 0), told, by first | rfl | go_num, by first | rfl | go_num, by omega, by omega, hr.out, hvl.out, by rw [List.length_set]; exact hol.out, by omega, huv.out, set_u huo.out ⟨by decide, by decide⟩, (by repeat (first | exact hR2 | with_reducible apply Kd.R_drew | with_reducible apply Kd.R_drewN)), (by repeat (first | exact hQ2 | with_reducible apply Kd.R_drew | with_reducible apply Kd.R_drewN)), (by repeat (first | exact hT2 | with_reducible apply Kd.R_drew | with_reducible apply Kd.R_drewN)), (by repeat (first | exact hB2 | with_reducible apply below_drew1 | with_reducible apply pw_below_drewN))⟩
            case measure => simp [intOf]; omega
        · as_aux_lemma =>
            obtain ⟨p, hpe⟩ : ∃ p, wrap64 f6 = p := ⟨_, rfl⟩
            have x60 := blk_cell e6 0
            have x61 := blk_cell e6 1
            have x62 := blk_cell e6 2
            have x63 := blk_cell e6 3
            have x64 := blk_cell e6 4
            have x65 := blk_cell e6 5
            have x66 := blk_cell e6 6
            have x67 := blk_cell e6 7
            have hol' := hol.out
            replace hol' := Aside0.mk hol'
            by_cases hp0 : p < 0
            · have hrn : r = none := by have := hr.out; simpa [effS, placeS, hpe, hp0] using this
              clear hr
              go_wp2
              refine bodyPost_ret (v := .tuple #[.slice none 0 0, .slice none 0 0, .bool false]) (by simp [results, Try.results14, go_sem]) rfl ?_
              exact ⟨(by repeat (first | exact hB | with_reducible apply below_drew1 | with_reducible apply pw_below_drewN)), rfl⟩
            by_cases hp1 : (Cn : Int) ≤ p
            · have hp2 : (out.length : Int) ≤ p := by have := hol.out; omega
              have hrn : r = none := by have := hr.out; simpa [effS, placeS, hpe, hp2] using this
              clear hr
              replace hp2 := Aside0.mk hp2
              have hp3 : p ≥ (Cn : Int) := hp1
              go_wp2
              refine bodyPost_ret (v := .tuple #[.slice none 0 0, .slice none 0 0, .bool false]) (by simp [results, Try.results14, go_sem]) rfl ?_
              exact ⟨(by repeat (first | exact hB | with_reducible apply below_drew1 | with_reducible apply pw_below_drewN)), rfl⟩
            have hp2 : ¬ (out.length : Int) ≤ p := by have := hol.out; omega
            have kf3 : 0 ≤ f3 ∧ f3 < (V : Int) := by
              have h1 := (U16_mem g5.out f3 (by simp [usesS])).1
              have h2 := hvx.out.2 f3 (by simp [usesX, usesS])
              omega
            obtain ⟨xa, fxa⟩ := row_u64 hR f3 kf3.1 kf3.2
            have kf30 := kf3.1
            have kf31 := kf3.2
            obtain ⟨z, hze⟩ : ∃ z, IntKind.u64.wrap (vl out p + vl vs f3) = z := ⟨_, rfl⟩
            have hz : Aside0 (U64 z) := ⟨by rw [← hze]; exact wrap_u _⟩
            replace hr : Aside0 (r = runS apS l m vs (out.set p.toNat z) told (a + 1)) := ⟨by have := hr.out; simpa [effS, setV, placeS, u64m_eq, hpe, hp0, hp2, hze] using this⟩
            replace hp2 := Aside0.mk hp2
            obtain ⟨xp, fp⟩ := row_u64 hQ p (by omega) (by omega)
            have hp4 : 0 ≤ p := by omega
            have hp5 : p < (Cn : Int) := by omega
            have hQ2 := Kd.R_putn hQ p z
            have hR2 := Kd.R_far (p := ⟨go, p.toNat, none⟩) hR (fun _ hk => hk.1) (.int .u64 z)
            have hT2 := Kd.R_far (p := ⟨go, p.toNat, none⟩) hT (fun _ hk => hk.2) (.int .u64 z)
            have hB2 : Below w.heap.size w (w3.setCell ⟨go, p.toNat, none⟩ (.int .u64 z)) := below_set hB hob
            go_wp2
            go_region
            go_wp2
            go_roundw
            case rel => exact ⟨q + 1, m, a + 1, vs, (out.set p.toNat z), told, by first | rfl | go_num, by first | rfl | go_num, by omega, by omega, hr.out, hvl.out, by rw [List.length_set]; exact hol.out, by omega, huv.out, set_u huo.out hz.out, (by repeat (first | exact hR2 | with_reducible apply Kd.R_drew | with_reducible apply Kd.R_drewN)), (by repeat (first | exact hQ2 | with_reducible apply Kd.R_drew | with_reducible apply Kd.R_drewN)), (by repeat (first | exact hT2 | with_reducible apply Kd.R_drew | with_reducible apply Kd.R_drewN)), (by repeat (first | exact hB2 | with_reducible apply below_drew1 | with_reducible apply pw_below_drewN))⟩
            case measure => simp [intOf]; omega
        · as_aux_lemma =>
            replace hr : Aside0 (r = runS apS l m vs out told (a + 1)) := ⟨by have := hr.out; simpa [effS, setV] using this⟩
            have x60 := blk_cell e6 0
            have x61 := blk_cell e6 1
            have x62 := blk_cell e6 2
            have x63 := blk_cell e6 3
            have x64 := blk_cell e6 4
            have x65 := blk_cell e6 5
            have x66 := blk_cell e6 6
            have x67 := blk_cell e6 7
            go_wp2
            go_roundw
            case rel => exact ⟨q + 1, m, a + 1, vs, out, told, by first | rfl | go_num, by first | rfl | go_num, by omega, by omega, hr.out, hvl.out, hol.out, by omega, huv.out, huo.out, (by repeat (first | exact hR | with_reducible apply Kd.R_drew | with_reducible apply Kd.R_drewN)), (by repeat (first | exact hQ | with_reducible apply Kd.R_drew | with_reducible apply Kd.R_drewN)), (by repeat (first | exact hT | with_reducible apply Kd.R_drew | with_reducible apply Kd.R_drewN)), (by repeat (first | exact hB | with_reducible apply below_drew1 | with_reducible apply pw_below_drewN))⟩
            case measure => simp [intOf]; omega
        · as_aux_lemma =>
            have kf3 : 0 ≤ f3 ∧ f3 < (V : Int) := by
              have h1 := (U16_mem g5.out f3 (by simp [usesS])).1
              have h2 := hvx.out.2 f3 (by simp [usesX, usesS])
              omega
            obtain ⟨xa, fxa⟩ := row_u64 hR f3 kf3.1 kf3.2
            have x60 := blk_cell e6 0
            have x61 := blk_cell e6 1
            have x62 := blk_cell e6 2
            have x63 := blk_cell e6 3
            have x64 := blk_cell e6 4
            have x65 := blk_cell e6 5
            have x66 := blk_cell e6 6
            have x67 := blk_cell e6 7
            have kf30 := kf3.1
            have kf31 := kf3.2
            have hz := Aside0.mk (vl_u huv.out f3)
            replace hr : Aside0 (r = runS apS l m vs out (told ++ [vl vs f3]) (a + 1)) := ⟨by have := hr.out; simpa [effS, setV] using this⟩
            obtain ⟨z, hzz⟩ : ∃ z, z = vl vs f3 := ⟨_, rfl⟩
            rw [← hzz] at xa hr hz
            replace hzz := Aside0.mk hzz
            go_wp2_with (first
              | (at_builtin; go_loud (refine Kd.R_append (Kd.int .u64) (w0 := w) w.heap.size rfl (.tmp 212) (.tmp 218) 32 29 (.int .u64 0) 8 rfl Try.underlying32 info29 rfl (by decide) (by omega) u11 told z [.int .u64 z] (fun k => k ≠ gv ∧ k ≠ go) (fun _ => False) rfl (by first | rfl | (go_simp; done) | (go_simp; rfl)) rfl (fun _ hk => hk.elim) (fun k hk => ⟨by omega, by omega⟩) hT hB hB.size (by omega) ?_; intro v11 w12 ho1 hb1 hg1 hat1)))
            have hR := Kd.R_after (ok := fun k => k ≠ go) hR hg1 hat1
            have hQ := Kd.R_after (ok := fun k => k ≠ gv) hQ hg1 hat1
            go_roundw
            case rel => exact ⟨q + 1, m, a + 1, vs, out, (told ++ [z]), by first | rfl | go_num, by first | rfl | go_num, by omega, by omega, hr.out, hvl.out, hol.out, by rw [List.length_append]; simp; omega, huv.out, huo.out, (by repeat (first | exact hR | with_reducible apply Kd.R_drew | with_reducible apply Kd.R_drewN)), (by repeat (first | exact hQ | with_reducible apply Kd.R_drew | with_reducible apply Kd.R_drewN)), (by repeat (first | exact ho1 | with_reducible apply Kd.R_drew | with_reducible apply Kd.R_drewN)), (by repeat (first | exact hb1 | with_reducible apply below_drew1 | with_reducible apply pw_below_drewN))⟩
            case measure => simp [intOf]; omega
        · as_aux_lemma =>
            replace hr : Aside0 (r = some (out, told)) := ⟨by have := hr.out; simpa [effS] using this⟩
            have x60 := blk_cell e6 0
            have x61 := blk_cell e6 1
            have x62 := blk_cell e6 2
            have x63 := blk_cell e6 3
            have x64 := blk_cell e6 4
            have x65 := blk_cell e6 5
            have x66 := blk_cell e6 6
            have x67 := blk_cell e6 7
            obtain ⟨hc1_, hoc, hCo⟩ := Kd.R_reads' hQ
            replace hc1_ := Aside0.mk hc1_
            obtain ⟨At, ct, eT, hct, hCt⟩ := Kd.R_reads hT
            replace eT := Aside0.mk eT
            go_wp2
            refine bodyPost_ret (v := .tuple #[.slice (some ⟨go, 0, none⟩) Cn co, u11, .bool true]) (by simp [results, Try.results14, go_sem]) rfl ?_
            rw [hr.out]
            refine ⟨hB, some ⟨go, 0, none⟩, co, At, ct, ?_, by have := hol.out; omega, hct, hCo, hCt⟩
            rw [hol.out, ← eT.out]
      · have hai : ¬ (a : Int) < (l.length : Int) := by omega
        have hrn := hstop (by rw [List.getElem?_eq_none (by omega)])
        clear hr hstop hR hQ hT huv huo
        go_wp2
        refine bodyPost_ret (v := .tuple #[.slice none 0 0, .slice none 0 0, .bool false]) (by simp [results, Try.results14, go_sem]) rfl ?_
        exact ⟨hB, rfl⟩
    · have hqi : ¬ (q : Int) < 500 := by omega
      obtain rfl : m = 0 := by omega
      have hrn := hstop (by rw [runS])
      clear hr hstop hR hQ hT huv huo
      go_wp2
      refine bodyPost_ret (v := .tuple #[.slice none 0 0, .slice none 0 0, .bool false]) (by simp [results, Try.results14, go_sem]) rfl ?_
      exact ⟨hB, rfl⟩
end Go.Proofs.Ytpibifgllbfgmaa.Pure
