/-
An instruction, done: (*Machine).do, operation by operation. Conditions: as each theorem states them.
-/
import Derived.Test.YtaenjbhhpdmhgaaMTsC
import Derived.RegionCalls
set_option linter.unusedVariables false
set_option linter.unusedSimpArgs false
namespace Go.Proofs.Ytaenjbhhpdmhgaa.Tso
open Go.RowKit Go.Proofs.YtaenjbhhpdmhgaaW.PrintWords Go.Proofs.YtaenjbhhpdmhgaaW.PrintLast Go.Proofs.YtaenjbhhpdmhgaaW.PrintMore
open Go.Proofs.Ytaenjbhhpdmhgaa.Kit
open Go.Proofs.Ytaenjbhhpdmhgaa.PTsoScript
theorem setr.calls (b p4 p5 tw : Nat) (v : Int) (cv wv ov : Value) (at_ : Int) (rs : List Int) (h : Bool) (w : World) (hp4 : w.cell? ⟨p4, 0, none⟩ = some (.pointer (some ⟨b, 0, none⟩))) (hp5 : w.cell? ⟨p5, 2, none⟩ = some (.int .i64 (tw : Int)))
    (htw : tw < 8) (hl : rs.length = 8) (hb : TBlk w b cv at_ rs wv ov h) :
    Calls Try.prog 45 #[.int .u64 v, .pointer (some ⟨p4, 0, none⟩), .pointer (some ⟨p5, 0, none⟩)] w fun e w' => e = .returned (.tuple #[]) ∧ w' = w.drew.setCell ⟨b, 2 + tw, none⟩ (.int .u64 v) := by
  have hr := t_reg hb tw (by omega)
  have hz := blk_frozen hb (2 + tw)
  have h1 : (tw : Int) < 8 := by omega
  have h0 : (0 : Int) ≤ (tw : Int) := by omega
  generalize rs[tw]'(by omega) = u at hr
  go_enter Try.func45, Try.ntmps45
  go_wp2
  go_region
  all_goals (go_end0; exact ⟨rfl, rfl⟩)
abbrev cArr (x : S28) : Array Value := #[.int .i64 x.f0, .int .i64 x.f1, .int .i64 x.f2, .int .i64 x.f3, .int .i64 x.f4, .int .i64 x.f5, .int .u64 x.f6, .int .i64 x.f7]
abbrev eArr (a b c : Int) (h : Bool) : Array Value := #[.int .i64 a, .int .i64 b, .int .i64 c, .bool h]
/-- A write into an event's block is none into the machine's. -/
theorem Mach.other {W : World} {base mb : Nat} {col : Nat → Nat} {ts : List Nat} {cv pv : Value} {M : Mch} (h : Mach W base mb col ts cv pv M) {g : Nat} {cs : Array Value} (hg : W.heap[g]? = some (Obj.cells cs 40 (0, 0))) (j : Nat) (u : Value) : Mach (W.setCell ⟨g, j, none⟩ u) base mb col ts cv pv M :=
  ⟨blk_far h.blk (blk_ne h.blk hg (by decide)) _, row_set h.ptrs hg rfl (by decide) _ _, row_set h.cells hg rfl (by decide) _ _, h.len, fun k b t h1 h2 => by
    obtain ⟨v, wv, ov, hT⟩ := h.thr k b t h1 h2
    exact ⟨v, wv, ov, blk_far hT.blk (blk_ne hT.blk hg (by decide)) _, hT.len, row_set hT.codes hg rfl (by decide) _ _, row_set hT.wr hg rfl (by decide) _ _, row_set hT.out hg rfl (by decide) _ _, hT.le⟩, h.nodup, h.le⟩
/-- The event's four cells written: an event, a machine as it was. -/
theorem put_ev {W : World} {g : Nat} {a0 b0 c0 a b c : Int} {h0 h : Bool} (hg : W.heap[g]? = some (Obj.cells (eArr a0 b0 c0 h0) 40 (0, 0))) :
    ((((W.setCell ⟨g, 0, none⟩ (.int .i64 a)).setCell ⟨g, 1, none⟩ (.int .i64 b)).setCell ⟨g, 2, none⟩ (.int .i64 c)).setCell ⟨g, 3, none⟩ (.bool h)).heap[g]? = some (Obj.cells (eArr a b c h) 40 (0, 0)) := by
  refine blk_put (cs := eArr a b c h0) ?_ 3 _ rfl
  refine blk_put (cs := eArr a b c0 h0) ?_ 2 _ rfl
  refine blk_put (cs := eArr a b0 c0 h0) ?_ 1 _ rfl
  exact blk_put (cs := eArr a0 b0 c0 h0) hg 0 _ rfl
theorem Mach.event {W : World} {base mb : Nat} {col : Nat → Nat} {ts : List Nat} {cv pv : Value} {M : Mch} (hM : Mach W base mb col ts cv pv M) {g : Nat} {a0 b0 c0 a b c : Int} {h0 h : Bool} (hg : W.heap[g]? = some (Obj.cells (eArr a0 b0 c0 h0) 40 (0, 0))) :
    Mach ((((W.setCell ⟨g, 0, none⟩ (.int .i64 a)).setCell ⟨g, 1, none⟩ (.int .i64 b)).setCell ⟨g, 2, none⟩ (.int .i64 c)).setCell ⟨g, 3, none⟩ (.bool h)) base mb col ts cv pv M := by
  have h1 := blk_put (cs' := eArr a b0 c0 h0) hg 0 (.int .i64 a) rfl
  have h2 := blk_put (cs' := eArr a b c0 h0) h1 1 (.int .i64 b) rfl
  have h3 := blk_put (cs' := eArr a b c h0) h2 2 (.int .i64 c) rfl
  exact (((hM.other hg 0 _).other h1 1 _).other h2 2 _).other h3 3 _
/-- What do leaves: the event, and the machine. -/
def DoP (W : World) (base mb : Nat) (ts : List Nat) (col : Nat → Nat) (pv : Value) (k : Nat) (M : Mch) (cells : List Int) (t : Thr) (kind place : Int) (hit : Bool) (ge : Nat) (ce : Array Value) (e : Ending) (w' : World) : Prop :=
  e = .returned (.agg (eArr 0 kind place hit)) ∧ Keep base mb ts col W w' ∧ w'.heap[ge]? = some (Obj.cells ce 40 (0, 0)) ∧ ∃ col' cv', (∀ q, q < W.heap.size → col' q = col q) ∧ Mach w' base mb col' ts cv' pv { M with cells := cells, thr := M.thr.set k t }
theorem ThrM.other {W : World} {base : Nat} {ok : Nat → Prop} {b : Nat} {t : Thr} {v wv ov : Value} (hT : ThrM W base ok b t v wv ov) {g : Nat} {cs : Array Value} (hg : W.heap[g]? = some (Obj.cells cs 40 (0, 0))) (j : Nat) (u : Value) : ThrM (W.setCell ⟨g, j, none⟩ u) base ok b t v wv ov :=
  ⟨blk_far hT.blk (blk_ne hT.blk hg (by decide)) _, hT.len, row_set hT.codes hg rfl (by decide) _ _, row_set hT.wr hg rfl (by decide) _ _, row_set hT.out hg rfl (by decide) _ _, hT.le⟩
theorem ThrM.event {W : World} {base : Nat} {ok : Nat → Prop} {b0 : Nat} {t : Thr} {v wv ov : Value} (hT : ThrM W base ok b0 t v wv ov) {g : Nat} {a0 b1 c0 a b c : Int} {h0 h : Bool} (hg : W.heap[g]? = some (Obj.cells (eArr a0 b1 c0 h0) 40 (0, 0))) :
    ThrM ((((W.setCell ⟨g, 0, none⟩ (.int .i64 a)).setCell ⟨g, 1, none⟩ (.int .i64 b)).setCell ⟨g, 2, none⟩ (.int .i64 c)).setCell ⟨g, 3, none⟩ (.bool h)) base ok b0 t v wv ov := by
  have h1 := blk_put (cs' := eArr a b1 c0 h0) hg 0 (.int .i64 a) rfl
  have h2 := blk_put (cs' := eArr a b c0 h0) h1 1 (.int .i64 b) rfl
  have h3 := blk_put (cs' := eArr a b c h0) h2 2 (.int .i64 c) rfl
  exact (((hT.other hg 0 _).other h1 1 _).other h2 2 _).other h3 3 _
theorem far_ev {W : World} {g g' : Nat} {cs : Array Value} {ty : TypeId} {a b c : Int} {h : Bool} (hg : W.heap[g']? = some (Obj.cells cs ty (0, 0))) (hne : g' ≠ g) :
    ((((W.setCell ⟨g, 0, none⟩ (.int .i64 a)).setCell ⟨g, 1, none⟩ (.int .i64 b)).setCell ⟨g, 2, none⟩ (.int .i64 c)).setCell ⟨g, 3, none⟩ (.bool h)).heap[g']? = some (Obj.cells cs ty (0, 0)) :=
  blk_far (p := ⟨g, 3, none⟩) (blk_far (p := ⟨g, 2, none⟩) (blk_far (p := ⟨g, 1, none⟩) (blk_far (p := ⟨g, 0, none⟩) hg hne _) hne _) hne _) hne _
theorem results_c {P : Program} {fn : Func} {p : Tmp} {ty : TypeId} (h : fn.results = #[.cell p ty]) (tmps : Array Value) (w : World) (g : Nat) (t : TypeId) (cs : Array Value) (fr : Nat × Nat) (d : TypeDesc)
    (hp : tmps.getD p undef = .pointer (some ⟨g, 0, none⟩)) (hg : w.heap[g]? = some (.cells cs t fr))
    (hu : P.underlying ty = some d) (hd : (match d with | .struct _ | .array _ _ => true | _ => false) = true) (hi : (P.info? ty).map (·.size) = some cs.size) :
    (results fn tmps).run P w = .ok (.agg cs) w := by
  have hp' : tmps[p]?.getD undef = .pointer (some ⟨g, 0, none⟩) := by simpa using hp
  simp [results, h, hp', asAddr, run_loadVar_row w g t ty cs fr d hg hu hd hi]
theorem alloc_sz (w : World) (o : Obj) : (w.alloc o).heap.size = w.heap.size + 1 := Array.size_push _
theorem below_mono {B B' : Nat} {w W : World} (h : Below B w W) (hB : B' ≤ B) : Below B' w W := ⟨h.os, h.tape, h.output, h.size, fun k hk => h.block k (by omega)⟩
set_option maxHeartbeats 8000000 in
set_option maxRecDepth 100000 in
theorem do11.calls (base mb k b : Nat) (col : Nat → Nat) (ts : List Nat) (cv pv cvt wv ov : Value) (M : Mch) (t : Thr) (x : S28) (w : World) (hM : Mach w base mb col ts cv pv M) (hk : ts[k]? = some b) (ht : M.thr[k]? = some t)
    (hT : ThrM w base (fun q => col q = k + 1) b t cvt wv ov) (hbase : base ≤ w.heap.size) (ha : 0 ≤ t.at_ ∧ t.at_ < 1000000) (ge : Nat) (ce : Array Value) (hge : w.heap[ge]? = some (Obj.cells ce 40 (0, 0))) (ho : x.f0 = 11) :
    Calls Try.prog 31 #[.pointer (some ⟨mb, 0, none⟩), .pointer (some ⟨b, 0, none⟩), .agg #[.int .i64 x.f0, .int .i64 x.f1, .int .i64 x.f2, .int .i64 x.f3, .int .i64 x.f4, .int .i64 x.f5, .int .u64 x.f6, .int .i64 x.f7]] w (DoP w base mb ts col pv k M M.cells { t with at_ := t.at_ + 1 } 6 0 false ge ce) := by
  have hc26 : Aside0 (∀ q, cv.ownBlock = some q → ∃ cs, w.heap[q]? = some (Obj.cells cs 26 (0, 0))) := Aside0.mk (fun q hq => Kd.R_typed hM.cells q hq)
  have ho26 : Aside0 (∀ q, ov.ownBlock = some q → ∃ cs, w.heap[q]? = some (Obj.cells cs 26 (0, 0))) := Aside0.mk (fun q hq => Kd.R_typed hT.out q hq)
  obtain ⟨o, d, tw, a1, b1, c1, vl, tg⟩ := x
  obtain ⟨cds, at_, rs, wr, out, hd⟩ := t
  simp only at *
  subst ho
  have hb := hT.blk
  have hl := hT.len
  simp only at hb hl
  have y1 := t_c1 hb
  have hat : wrap64 (at_ + 1) = at_ + 1 := wrap_in (by omega) (by omega)
  go_enter Try.func31, Try.ntmps31
  go_upto_region 1 with go_in
  have e4 := blk_alloc (blk_alloc (heap_alloc_new w (Obj.cells #[Value.pointer (some ⟨b, 0, none⟩)] 72 (0, 0))) (Obj.cells (#[.int .i64 11, .int .i64 d, .int .i64 tw, .int .i64 a1, .int .i64 b1, .int .i64 c1, .int .u64 vl, .int .i64 tg]) 28 (0, 0))) (Obj.cells #[.int .i64 0, .int .i64 0, .int .i64 0, .bool false] 40 (0, 0))
  have e5 := blk_alloc (heap_alloc_new (w.alloc (Obj.cells #[Value.pointer (some ⟨b, 0, none⟩)] 72 (0, 0))) (Obj.cells (#[.int .i64 11, .int .i64 d, .int .i64 tw, .int .i64 a1, .int .i64 b1, .int .i64 c1, .int .u64 vl, .int .i64 tg]) 28 (0, 0))) (Obj.cells #[.int .i64 0, .int .i64 0, .int .i64 0, .bool false] 40 (0, 0))
  have e6 := heap_alloc_new ((w.alloc (Obj.cells #[Value.pointer (some ⟨b, 0, none⟩)] 72 (0, 0))).alloc (Obj.cells (#[.int .i64 11, .int .i64 d, .int .i64 tw, .int .i64 a1, .int .i64 b1, .int .i64 c1, .int .u64 vl, .int .i64 tg]) 28 (0, 0))) (Obj.cells #[.int .i64 0, .int .i64 0, .int .i64 0, .bool false] 40 (0, 0))
  have e9 := blk_alloc (blk_alloc (blk_alloc hge (Obj.cells #[Value.pointer (some ⟨b, 0, none⟩)] 72 (0, 0))) (Obj.cells (#[.int .i64 11, .int .i64 d, .int .i64 tw, .int .i64 a1, .int .i64 b1, .int .i64 c1, .int .u64 vl, .int .i64 tg]) 28 (0, 0))) (Obj.cells #[.int .i64 0, .int .i64 0, .int .i64 0, .bool false] 40 (0, 0))
  have hbl : Below w.heap.size w (((w.alloc (Obj.cells #[Value.pointer (some ⟨b, 0, none⟩)] 72 (0, 0))).alloc (Obj.cells (#[.int .i64 11, .int .i64 d, .int .i64 tw, .int .i64 a1, .int .i64 b1, .int .i64 c1, .int .u64 vl, .int .i64 tg]) 28 (0, 0))).alloc (Obj.cells #[.int .i64 0, .int .i64 0, .int .i64 0, .bool false] 40 (0, 0))) := below_alloc (below_alloc (below_alloc (Below.refl _ _) _) _) _
  have hM := hM.below hbl
  have hT := hT.below hbl
  have hb := hT.blk
  rw [alloc_sz] at e5
  rw [alloc_sz, alloc_sz] at e6
  generalize (((w.alloc (Obj.cells #[Value.pointer (some ⟨b, 0, none⟩)] 72 (0, 0))).alloc (Obj.cells (#[.int .i64 11, .int .i64 d, .int .i64 tw, .int .i64 a1, .int .i64 b1, .int .i64 c1, .int .u64 vl, .int .i64 tg]) 28 (0, 0))).alloc (Obj.cells #[.int .i64 0, .int .i64 0, .int .i64 0, .bool false] 40 (0, 0))) = w1 at *
  obtain ⟨B4, hB4⟩ : ∃ B, B = w.heap.size := ⟨_, rfl⟩
  obtain ⟨B5, hB5⟩ : ∃ B, B = w.heap.size + 1 := ⟨_, rfl⟩
  obtain ⟨B6, hB6⟩ : ∃ B, B = w.heap.size + 1 + 1 := ⟨_, rfl⟩
  have hg6 : base ≤ B6 := by omega
  have hn6 : w.heap.size ≤ B6 := by omega
  have n96 : ge ≠ B6 := by
    have := blk_lt hge
    omega
  have hB := Keep.of (base := base) (mb := mb) (ts := ts) (col := col) hbl
  rw [← hB6] at e6 ⊢
  rw [← hB5] at e5 ⊢
  rw [← hB4] at e4 ⊢
  clear hB4 hB5 hB6 hbl
  have y1 := t_c1 hb
  have z4 : w1.cell? ⟨B4, 0, none⟩ = some (.pointer (some ⟨b, 0, none⟩)) := (blk_cell e4 0).trans rfl
  go_upto_region 2 with go_in
  have hn1 : w.heap.size ≤ w1.heap.size := hB.size
  have hg8 : base ≤ w1.heap.size := Nat.le_trans hbase (by have := blk_lt e4; have := hB.size; omega)
  have e8 := heap_alloc_new w1 (Obj.cells #[.int .i64 0, .int .i64 6, .int .i64 0, .bool false] 40 (0, 0))
  have hbl : Below w1.heap.size w1 (w1.alloc (Obj.cells #[.int .i64 0, .int .i64 6, .int .i64 0, .bool false] 40 (0, 0))) := below_alloc (Below.refl _ _) _
  have e4 := blk_below e4 hbl
  have e5 := blk_below e5 hbl
  have e6 := blk_below e6 hbl
  have e9 := blk_below e9 hbl
  have hM := hM.below hbl
  have hT := hT.below hbl
  have hb := hT.blk
  have hB := hB.bel hbl
  have hn8 : w.heap.size ≤ w1.heap.size := hn1
  have n68 : B6 ≠ w1.heap.size := Nat.ne_of_lt (blk_lt (show w1.heap[B6]? = _ from by assumption))
  have n98 : ge ≠ w1.heap.size := Nat.ne_of_lt (blk_lt (show w1.heap[ge]? = _ from by assumption))
  clear y1 z4
  generalize w1.alloc (Obj.cells #[.int .i64 0, .int .i64 6, .int .i64 0, .bool false] 40 (0, 0)) = w2 at *
  generalize w1.heap.size = B8 at *
  clear hbl
  have y1 := t_c1 hb
  have z4 : w2.cell? ⟨B4, 0, none⟩ = some (.pointer (some ⟨b, 0, none⟩)) := (blk_cell e4 0).trans rfl
  have z50 : w2.cell? ⟨B5, 0, none⟩ = some (.int .i64 11) := (blk_cell e5 0).trans rfl
  go_upto_region 46 with go_in
  have y1 := t_c1 hT.blk
  have fz1 := blk_frozen hT.blk 1
  have z4 : w2.cell? ⟨B4, 0, none⟩ = some (.pointer (some ⟨b, 0, none⟩)) := (blk_cell e4 0).trans rfl
  go_upto_region 47 with go_in
  have hTn := hT.setAt (at_ + 1)
  have hM := hM.setT hk hT.blk 1 (.int .i64 (at_ + 1)) _ _ _ _ hTn
  have hB := hB.setC (p := ⟨b, 1, none⟩) (Or.inr ⟨hT.le, Or.inr (Or.inl (List.mem_of_getElem? hk))⟩) (.int .i64 (at_ + 1))
  have e6 := blk_far (p := ⟨b, 1, none⟩) e6 (blk_ne e6 hT.blk (by decide)) (.int .i64 (at_ + 1))
  have e9 := blk_far (p := ⟨b, 1, none⟩) e9 (blk_ne e9 hT.blk (by decide)) (.int .i64 (at_ + 1))
  have e8 := blk_far (p := ⟨b, 1, none⟩) e8 (blk_ne e8 hT.blk (by decide)) (.int .i64 (at_ + 1))
  clear y1 fz1 z4 hT hTn
  generalize w2.setCell ⟨b, 1, none⟩ (.int .i64 (at_ + 1)) = wZ at *
  have x80 := (blk_cell e8 0).trans rfl
  have x81 := (blk_cell e8 1).trans rfl
  have x82 := (blk_cell e8 2).trans rfl
  have x83 := (blk_cell e8 3).trans rfl
  have x60 := (blk_cell e6 0).trans rfl
  have x61 := (blk_cell e6 1).trans rfl
  have x62 := (blk_cell e6 2).trans rfl
  have x63 := (blk_cell e6 3).trans rfl
  have f60 : ∀ k, wZ.frozen? ⟨B6, k, none⟩ = false := fun k => by simp [World.frozen?, e6]
  go_wp2
  refine bodyPost_ret (results_c rfl _ _ B6 40 (eArr 0 (6) (0) (false)) (0, 0) _ rfl (put_ev e6) Try.underlying40 rfl (by kernel_rfl)) rfl ?_
  have hF := hM.event (a := 0) (b := 6) (c := 0) (h := false) e6
  try simp only [List.set_set] at hF
  try (have hrv2 := hrv.out; subst hrv2)
  try (have hvv2 := hvv.out; subst hvv2)
  try (have hht2 := hht.out; subst hht2)
  exact ⟨rfl, hB.ev hn6, far_ev e9 n96, _, _, fun _ _ => rfl, hF⟩
set_option maxHeartbeats 8000000 in
set_option maxRecDepth 100000 in
theorem do0.calls (base mb k b : Nat) (col : Nat → Nat) (ts : List Nat) (cv pv cvt wv ov : Value) (M : Mch) (t : Thr) (x : S28) (w : World) (hM : Mach w base mb col ts cv pv M) (hk : ts[k]? = some b) (ht : M.thr[k]? = some t)
    (hT : ThrM w base (fun q => col q = k + 1) b t cvt wv ov) (hbase : base ≤ w.heap.size) (ha : 0 ≤ t.at_ ∧ t.at_ < 1000000) (ge : Nat) (ce : Array Value) (hge : w.heap[ge]? = some (Obj.cells ce 40 (0, 0))) (ho : x.f0 = 0) (htw : 0 ≤ x.f2 ∧ x.f2 < 8) :
    Calls Try.prog 31 #[.pointer (some ⟨mb, 0, none⟩), .pointer (some ⟨b, 0, none⟩), .agg #[.int .i64 x.f0, .int .i64 x.f1, .int .i64 x.f2, .int .i64 x.f3, .int .i64 x.f4, .int .i64 x.f5, .int .u64 x.f6, .int .i64 x.f7]] w (DoP w base mb ts col pv k M M.cells { t with rs := t.rs.set x.f2.toNat x.f6, at_ := t.at_ + 1 } 6 0 false ge ce) := by
  have hc26 : Aside0 (∀ q, cv.ownBlock = some q → ∃ cs, w.heap[q]? = some (Obj.cells cs 26 (0, 0))) := Aside0.mk (fun q hq => Kd.R_typed hM.cells q hq)
  have ho26 : Aside0 (∀ q, ov.ownBlock = some q → ∃ cs, w.heap[q]? = some (Obj.cells cs 26 (0, 0))) := Aside0.mk (fun q hq => Kd.R_typed hT.out q hq)
  obtain ⟨o, d, tw, a1, b1, c1, vl, tg⟩ := x
  obtain ⟨cds, at_, rs, wr, out, hd⟩ := t
  simp only at *
  subst ho
  obtain ⟨q, rfl⟩ := Int.eq_ofNat_of_zero_le htw.1
  have hq8 : q < 8 := by omega
  have hb := hT.blk
  have hl := hT.len
  simp only at hb hl
  have y1 := t_c1 hb
  have hat : wrap64 (at_ + 1) = at_ + 1 := wrap_in (by omega) (by omega)
  go_enter Try.func31, Try.ntmps31
  go_upto_region 1 with go_in
  have e4 := blk_alloc (blk_alloc (heap_alloc_new w (Obj.cells #[Value.pointer (some ⟨b, 0, none⟩)] 72 (0, 0))) (Obj.cells (cArr ⟨0, d, (q : Int), a1, b1, c1, vl, tg⟩) 28 (0, 0))) (Obj.cells #[.int .i64 0, .int .i64 0, .int .i64 0, .bool false] 40 (0, 0))
  have e5 := blk_alloc (heap_alloc_new (w.alloc (Obj.cells #[Value.pointer (some ⟨b, 0, none⟩)] 72 (0, 0))) (Obj.cells (cArr ⟨0, d, (q : Int), a1, b1, c1, vl, tg⟩) 28 (0, 0))) (Obj.cells #[.int .i64 0, .int .i64 0, .int .i64 0, .bool false] 40 (0, 0))
  have e6 := heap_alloc_new ((w.alloc (Obj.cells #[Value.pointer (some ⟨b, 0, none⟩)] 72 (0, 0))).alloc (Obj.cells (cArr ⟨0, d, (q : Int), a1, b1, c1, vl, tg⟩) 28 (0, 0))) (Obj.cells #[.int .i64 0, .int .i64 0, .int .i64 0, .bool false] 40 (0, 0))
  have e9 := blk_alloc (blk_alloc (blk_alloc hge (Obj.cells #[Value.pointer (some ⟨b, 0, none⟩)] 72 (0, 0))) (Obj.cells (cArr ⟨0, d, (q : Int), a1, b1, c1, vl, tg⟩) 28 (0, 0))) (Obj.cells #[.int .i64 0, .int .i64 0, .int .i64 0, .bool false] 40 (0, 0))
  have hbl : Below w.heap.size w (((w.alloc (Obj.cells #[Value.pointer (some ⟨b, 0, none⟩)] 72 (0, 0))).alloc (Obj.cells (cArr ⟨0, d, (q : Int), a1, b1, c1, vl, tg⟩) 28 (0, 0))).alloc (Obj.cells #[.int .i64 0, .int .i64 0, .int .i64 0, .bool false] 40 (0, 0))) := below_alloc (below_alloc (below_alloc (Below.refl _ _) _) _) _
  have hM := hM.below hbl
  have hT := hT.below hbl
  have hb := hT.blk
  rw [alloc_sz] at e5
  rw [alloc_sz, alloc_sz] at e6
  generalize (((w.alloc (Obj.cells #[Value.pointer (some ⟨b, 0, none⟩)] 72 (0, 0))).alloc (Obj.cells (cArr ⟨0, d, (q : Int), a1, b1, c1, vl, tg⟩) 28 (0, 0))).alloc (Obj.cells #[.int .i64 0, .int .i64 0, .int .i64 0, .bool false] 40 (0, 0))) = w1 at *
  obtain ⟨B4, hB4⟩ : ∃ B, B = w.heap.size := ⟨_, rfl⟩
  obtain ⟨B5, hB5⟩ : ∃ B, B = w.heap.size + 1 := ⟨_, rfl⟩
  obtain ⟨B6, hB6⟩ : ∃ B, B = w.heap.size + 1 + 1 := ⟨_, rfl⟩
  have hg6 : base ≤ B6 := by omega
  have hn6 : w.heap.size ≤ B6 := by omega
  have n96 : ge ≠ B6 := by
    have := blk_lt hge
    omega
  have hB := Keep.of (base := base) (mb := mb) (ts := ts) (col := col) hbl
  rw [← hB6] at e6 ⊢
  rw [← hB5] at e5 ⊢
  rw [← hB4] at e4 ⊢
  clear hB4 hB5 hB6 hbl
  have y1 := t_c1 hb
  have z4 : w1.cell? ⟨B4, 0, none⟩ = some (.pointer (some ⟨b, 0, none⟩)) := (blk_cell e4 0).trans rfl
  go_upto_region 2 with go_in
  have hn1 : w.heap.size ≤ w1.heap.size := hB.size
  have hg8 : base ≤ w1.heap.size := Nat.le_trans hbase (by have := blk_lt e4; have := hB.size; omega)
  have e8 := heap_alloc_new w1 (Obj.cells #[.int .i64 0, .int .i64 6, .int .i64 0, .bool false] 40 (0, 0))
  have hbl : Below w1.heap.size w1 (w1.alloc (Obj.cells #[.int .i64 0, .int .i64 6, .int .i64 0, .bool false] 40 (0, 0))) := below_alloc (Below.refl _ _) _
  have e4 := blk_below e4 hbl
  have e5 := blk_below e5 hbl
  have e6 := blk_below e6 hbl
  have e9 := blk_below e9 hbl
  have hM := hM.below hbl
  have hT := hT.below hbl
  have hb := hT.blk
  have hB := hB.bel hbl
  have hn8 : w.heap.size ≤ w1.heap.size := hn1
  have n68 : B6 ≠ w1.heap.size := Nat.ne_of_lt (blk_lt (show w1.heap[B6]? = _ from by assumption))
  have n98 : ge ≠ w1.heap.size := Nat.ne_of_lt (blk_lt (show w1.heap[ge]? = _ from by assumption))
  clear y1 z4
  generalize w1.alloc (Obj.cells #[.int .i64 0, .int .i64 6, .int .i64 0, .bool false] 40 (0, 0)) = w2 at *
  generalize w1.heap.size = B8 at *
  clear hbl
  have y1 := t_c1 hb
  have z4 : w2.cell? ⟨B4, 0, none⟩ = some (.pointer (some ⟨b, 0, none⟩)) := (blk_cell e4 0).trans rfl
  have z50 : w2.cell? ⟨B5, 0, none⟩ = some (.int .i64 0) := (blk_cell e5 0).trans rfl
  have z52 : w2.cell? ⟨B5, 2, none⟩ = some (.int .i64 (q : Int)) := (blk_cell e5 2).trans rfl
  have z56 : w2.cell? ⟨B5, 6, none⟩ = some (.int .u64 vl) := (blk_cell e5 6).trans rfl
  go_upto_region 46 with (first
    | (go_at_call 45; refine (setr.calls b B4 B5 q vl _ _ _ _ _ _ w2 z4 z52 hq8 hl hT.blk).mono ?_; rintro e w3 ⟨rfl, rfl⟩)
    | go_in)
  clear z4 z50 z52 z56 y1
  have hTn := hT.setReg q (by omega) (vl)
  have hM := hM.setT hk hT.blk (2 + q) (.int .u64 (vl)) _ _ _ _ hTn
  have hB := hB.setC (p := ⟨b, 2 + q, none⟩) (Or.inr ⟨hT.le, Or.inr (Or.inl (List.mem_of_getElem? hk))⟩) (.int .u64 (vl))
  have e4 := blk_far (p := ⟨b, 2 + q, none⟩) e4 (blk_ne e4 hT.blk (by decide)) (.int .u64 (vl))
  have e5 := blk_far (p := ⟨b, 2 + q, none⟩) e5 (blk_ne e5 hT.blk (by decide)) (.int .u64 (vl))
  have e6 := blk_far (p := ⟨b, 2 + q, none⟩) e6 (blk_ne e6 hT.blk (by decide)) (.int .u64 (vl))
  have e9 := blk_far (p := ⟨b, 2 + q, none⟩) e9 (blk_ne e9 hT.blk (by decide)) (.int .u64 (vl))
  have e8 := blk_far (p := ⟨b, 2 + q, none⟩) e8 (blk_ne e8 hT.blk (by decide)) (.int .u64 (vl))
  replace hT := hTn
  clear hTn
  generalize w2.setCell ⟨b, 2 + q, none⟩ (.int .u64 (vl)) = w3 at *
  have e4 := blk_drew e4
  have e5 := blk_drew e5
  have e6 := blk_drew e6
  have e9 := blk_drew e9
  have e8 := blk_drew e8
  have hM := hM.below (below_drew (Below.refl _ _))
  have hT := hT.below (below_drew (Below.refl _ _))
  have hB := hB.drew
  generalize w3.drew = w4 at *
  have y1 := t_c1 hT.blk
  have fz1 := blk_frozen hT.blk 1
  have z4 : w4.cell? ⟨B4, 0, none⟩ = some (.pointer (some ⟨b, 0, none⟩)) := (blk_cell e4 0).trans rfl
  go_upto_region 47 with go_in
  have hTn := hT.setAt (at_ + 1)
  have hM := hM.setT hk hT.blk 1 (.int .i64 (at_ + 1)) _ _ _ _ hTn
  have hB := hB.setC (p := ⟨b, 1, none⟩) (Or.inr ⟨hT.le, Or.inr (Or.inl (List.mem_of_getElem? hk))⟩) (.int .i64 (at_ + 1))
  have e6 := blk_far (p := ⟨b, 1, none⟩) e6 (blk_ne e6 hT.blk (by decide)) (.int .i64 (at_ + 1))
  have e9 := blk_far (p := ⟨b, 1, none⟩) e9 (blk_ne e9 hT.blk (by decide)) (.int .i64 (at_ + 1))
  have e8 := blk_far (p := ⟨b, 1, none⟩) e8 (blk_ne e8 hT.blk (by decide)) (.int .i64 (at_ + 1))
  clear y1 fz1 z4 hT hTn
  generalize w4.setCell ⟨b, 1, none⟩ (.int .i64 (at_ + 1)) = wZ at *
  have x80 := (blk_cell e8 0).trans rfl
  have x81 := (blk_cell e8 1).trans rfl
  have x82 := (blk_cell e8 2).trans rfl
  have x83 := (blk_cell e8 3).trans rfl
  have x60 := (blk_cell e6 0).trans rfl
  have x61 := (blk_cell e6 1).trans rfl
  have x62 := (blk_cell e6 2).trans rfl
  have x63 := (blk_cell e6 3).trans rfl
  have f60 : ∀ k, wZ.frozen? ⟨B6, k, none⟩ = false := fun k => by simp [World.frozen?, e6]
  go_wp2
  refine bodyPost_ret (results_c rfl _ _ B6 40 (eArr 0 (6) (0) (false)) (0, 0) _ rfl (put_ev e6) Try.underlying40 rfl (by kernel_rfl)) rfl ?_
  have hF := hM.event (a := 0) (b := 6) (c := 0) (h := false) e6
  try simp only [List.set_set] at hF
  try (have hrv2 := hrv.out; subst hrv2)
  try (have hvv2 := hvv.out; subst hvv2)
  try (have hht2 := hht.out; subst hht2)
  exact ⟨rfl, hB.ev hn6, far_ev e9 n96, _, _, fun _ _ => rfl, hF⟩
set_option maxHeartbeats 8000000 in
set_option maxRecDepth 100000 in
theorem do1.calls (base mb k b : Nat) (col : Nat → Nat) (ts : List Nat) (cv pv cvt wv ov : Value) (M : Mch) (t : Thr) (x : S28) (w : World) (hM : Mach w base mb col ts cv pv M) (hk : ts[k]? = some b) (ht : M.thr[k]? = some t)
    (hT : ThrM w base (fun q => col q = k + 1) b t cvt wv ov) (hbase : base ≤ w.heap.size) (ha : 0 ≤ t.at_ ∧ t.at_ < 1000000) (ge : Nat) (ce : Array Value) (hge : w.heap[ge]? = some (Obj.cells ce 40 (0, 0))) (ho : x.f0 = 1) (htw : 0 ≤ x.f2 ∧ x.f2 < 8) :
    Calls Try.prog 31 #[.pointer (some ⟨mb, 0, none⟩), .pointer (some ⟨b, 0, none⟩), .agg #[.int .i64 x.f0, .int .i64 x.f1, .int .i64 x.f2, .int .i64 x.f3, .int .i64 x.f4, .int .i64 x.f5, .int .u64 x.f6, .int .i64 x.f7]] w (DoP w base mb ts col pv k M M.cells { t with rs := t.rs.set x.f2.toNat (regS t.rs x.f3), at_ := t.at_ + 1 } 6 0 false ge ce) := by
  have hc26 : Aside0 (∀ q, cv.ownBlock = some q → ∃ cs, w.heap[q]? = some (Obj.cells cs 26 (0, 0))) := Aside0.mk (fun q hq => Kd.R_typed hM.cells q hq)
  have ho26 : Aside0 (∀ q, ov.ownBlock = some q → ∃ cs, w.heap[q]? = some (Obj.cells cs 26 (0, 0))) := Aside0.mk (fun q hq => Kd.R_typed hT.out q hq)
  obtain ⟨o, d, tw, a1, b1, c1, vl, tg⟩ := x
  obtain ⟨cds, at_, rs, wr, out, hd⟩ := t
  simp only at *
  subst ho
  obtain ⟨q, rfl⟩ := Int.eq_ofNat_of_zero_le htw.1
  have hq8 : q < 8 := by omega
  have hb := hT.blk
  have hl := hT.len
  simp only at hb hl
  have y1 := t_c1 hb
  have hat : wrap64 (at_ + 1) = at_ + 1 := wrap_in (by omega) (by omega)
  go_enter Try.func31, Try.ntmps31
  go_upto_region 1 with go_in
  have e4 := blk_alloc (blk_alloc (heap_alloc_new w (Obj.cells #[Value.pointer (some ⟨b, 0, none⟩)] 72 (0, 0))) (Obj.cells (cArr ⟨1, d, (q : Int), a1, b1, c1, vl, tg⟩) 28 (0, 0))) (Obj.cells #[.int .i64 0, .int .i64 0, .int .i64 0, .bool false] 40 (0, 0))
  have e5 := blk_alloc (heap_alloc_new (w.alloc (Obj.cells #[Value.pointer (some ⟨b, 0, none⟩)] 72 (0, 0))) (Obj.cells (cArr ⟨1, d, (q : Int), a1, b1, c1, vl, tg⟩) 28 (0, 0))) (Obj.cells #[.int .i64 0, .int .i64 0, .int .i64 0, .bool false] 40 (0, 0))
  have e6 := heap_alloc_new ((w.alloc (Obj.cells #[Value.pointer (some ⟨b, 0, none⟩)] 72 (0, 0))).alloc (Obj.cells (cArr ⟨1, d, (q : Int), a1, b1, c1, vl, tg⟩) 28 (0, 0))) (Obj.cells #[.int .i64 0, .int .i64 0, .int .i64 0, .bool false] 40 (0, 0))
  have e9 := blk_alloc (blk_alloc (blk_alloc hge (Obj.cells #[Value.pointer (some ⟨b, 0, none⟩)] 72 (0, 0))) (Obj.cells (cArr ⟨1, d, (q : Int), a1, b1, c1, vl, tg⟩) 28 (0, 0))) (Obj.cells #[.int .i64 0, .int .i64 0, .int .i64 0, .bool false] 40 (0, 0))
  have hbl : Below w.heap.size w (((w.alloc (Obj.cells #[Value.pointer (some ⟨b, 0, none⟩)] 72 (0, 0))).alloc (Obj.cells (cArr ⟨1, d, (q : Int), a1, b1, c1, vl, tg⟩) 28 (0, 0))).alloc (Obj.cells #[.int .i64 0, .int .i64 0, .int .i64 0, .bool false] 40 (0, 0))) := below_alloc (below_alloc (below_alloc (Below.refl _ _) _) _) _
  have hM := hM.below hbl
  have hT := hT.below hbl
  have hb := hT.blk
  rw [alloc_sz] at e5
  rw [alloc_sz, alloc_sz] at e6
  generalize (((w.alloc (Obj.cells #[Value.pointer (some ⟨b, 0, none⟩)] 72 (0, 0))).alloc (Obj.cells (cArr ⟨1, d, (q : Int), a1, b1, c1, vl, tg⟩) 28 (0, 0))).alloc (Obj.cells #[.int .i64 0, .int .i64 0, .int .i64 0, .bool false] 40 (0, 0))) = w1 at *
  obtain ⟨B4, hB4⟩ : ∃ B, B = w.heap.size := ⟨_, rfl⟩
  obtain ⟨B5, hB5⟩ : ∃ B, B = w.heap.size + 1 := ⟨_, rfl⟩
  obtain ⟨B6, hB6⟩ : ∃ B, B = w.heap.size + 1 + 1 := ⟨_, rfl⟩
  have hg6 : base ≤ B6 := by omega
  have hn6 : w.heap.size ≤ B6 := by omega
  have n96 : ge ≠ B6 := by
    have := blk_lt hge
    omega
  have hB := Keep.of (base := base) (mb := mb) (ts := ts) (col := col) hbl
  rw [← hB6] at e6 ⊢
  rw [← hB5] at e5 ⊢
  rw [← hB4] at e4 ⊢
  clear hB4 hB5 hB6 hbl
  have y1 := t_c1 hb
  have z4 : w1.cell? ⟨B4, 0, none⟩ = some (.pointer (some ⟨b, 0, none⟩)) := (blk_cell e4 0).trans rfl
  go_upto_region 2 with go_in
  have hn1 : w.heap.size ≤ w1.heap.size := hB.size
  have hg8 : base ≤ w1.heap.size := Nat.le_trans hbase (by have := blk_lt e4; have := hB.size; omega)
  have e8 := heap_alloc_new w1 (Obj.cells #[.int .i64 0, .int .i64 6, .int .i64 0, .bool false] 40 (0, 0))
  have hbl : Below w1.heap.size w1 (w1.alloc (Obj.cells #[.int .i64 0, .int .i64 6, .int .i64 0, .bool false] 40 (0, 0))) := below_alloc (Below.refl _ _) _
  have e4 := blk_below e4 hbl
  have e5 := blk_below e5 hbl
  have e6 := blk_below e6 hbl
  have e9 := blk_below e9 hbl
  have hM := hM.below hbl
  have hT := hT.below hbl
  have hb := hT.blk
  have hB := hB.bel hbl
  have hn8 : w.heap.size ≤ w1.heap.size := hn1
  have n68 : B6 ≠ w1.heap.size := Nat.ne_of_lt (blk_lt (show w1.heap[B6]? = _ from by assumption))
  have n98 : ge ≠ w1.heap.size := Nat.ne_of_lt (blk_lt (show w1.heap[ge]? = _ from by assumption))
  clear y1 z4
  generalize w1.alloc (Obj.cells #[.int .i64 0, .int .i64 6, .int .i64 0, .bool false] 40 (0, 0)) = w2 at *
  generalize w1.heap.size = B8 at *
  clear hbl
  have y1 := t_c1 hb
  have z4 : w2.cell? ⟨B4, 0, none⟩ = some (.pointer (some ⟨b, 0, none⟩)) := (blk_cell e4 0).trans rfl
  have z50 : w2.cell? ⟨B5, 0, none⟩ = some (.int .i64 1) := (blk_cell e5 0).trans rfl
  have z52 : w2.cell? ⟨B5, 2, none⟩ = some (.int .i64 (q : Int)) := (blk_cell e5 2).trans rfl
  have z53 : w2.cell? ⟨B5, 3, none⟩ = some (.int .i64 a1) := (blk_cell e5 3).trans rfl
  have TR := reg.calls b _ _ _ _ _ _ a1 w2 hl hT.blk
  obtain ⟨rv, hrv⟩ : ∃ rv, rv = regS rs a1 := ⟨_, rfl⟩
  rw [← hrv] at TR
  replace hrv := Aside0.mk hrv
  go_upto_region 46 with (first
    | (go_at_call 46; refine TR.mono ?_; rintro e w3 ⟨rfl, h3⟩; obtain rfl := h3.symm)
    | (go_at_call 45; refine (setr.calls b B4 B5 q rv _ _ _ _ _ _ _ z4 z52 hq8 hl hT.blk).mono ?_; rintro e w3 ⟨rfl, rfl⟩)
    | go_in)
  clear z4 z50 z52 z53 y1 TR
  have hTn := hT.setReg q (by omega) (rv)
  have hM := hM.setT hk hT.blk (2 + q) (.int .u64 (rv)) _ _ _ _ hTn
  have hB := hB.setC (p := ⟨b, 2 + q, none⟩) (Or.inr ⟨hT.le, Or.inr (Or.inl (List.mem_of_getElem? hk))⟩) (.int .u64 (rv))
  have e4 := blk_far (p := ⟨b, 2 + q, none⟩) e4 (blk_ne e4 hT.blk (by decide)) (.int .u64 (rv))
  have e5 := blk_far (p := ⟨b, 2 + q, none⟩) e5 (blk_ne e5 hT.blk (by decide)) (.int .u64 (rv))
  have e6 := blk_far (p := ⟨b, 2 + q, none⟩) e6 (blk_ne e6 hT.blk (by decide)) (.int .u64 (rv))
  have e9 := blk_far (p := ⟨b, 2 + q, none⟩) e9 (blk_ne e9 hT.blk (by decide)) (.int .u64 (rv))
  have e8 := blk_far (p := ⟨b, 2 + q, none⟩) e8 (blk_ne e8 hT.blk (by decide)) (.int .u64 (rv))
  replace hT := hTn
  clear hTn
  generalize w2.setCell ⟨b, 2 + q, none⟩ (.int .u64 (rv)) = w3 at *
  have e4 := blk_drew e4
  have e5 := blk_drew e5
  have e6 := blk_drew e6
  have e9 := blk_drew e9
  have e8 := blk_drew e8
  have hM := hM.below (below_drew (Below.refl _ _))
  have hT := hT.below (below_drew (Below.refl _ _))
  have hB := hB.drew
  generalize w3.drew = w4 at *
  have y1 := t_c1 hT.blk
  have fz1 := blk_frozen hT.blk 1
  have z4 : w4.cell? ⟨B4, 0, none⟩ = some (.pointer (some ⟨b, 0, none⟩)) := (blk_cell e4 0).trans rfl
  go_upto_region 47 with go_in
  have hTn := hT.setAt (at_ + 1)
  have hM := hM.setT hk hT.blk 1 (.int .i64 (at_ + 1)) _ _ _ _ hTn
  have hB := hB.setC (p := ⟨b, 1, none⟩) (Or.inr ⟨hT.le, Or.inr (Or.inl (List.mem_of_getElem? hk))⟩) (.int .i64 (at_ + 1))
  have e6 := blk_far (p := ⟨b, 1, none⟩) e6 (blk_ne e6 hT.blk (by decide)) (.int .i64 (at_ + 1))
  have e9 := blk_far (p := ⟨b, 1, none⟩) e9 (blk_ne e9 hT.blk (by decide)) (.int .i64 (at_ + 1))
  have e8 := blk_far (p := ⟨b, 1, none⟩) e8 (blk_ne e8 hT.blk (by decide)) (.int .i64 (at_ + 1))
  clear y1 fz1 z4 hT hTn
  generalize w4.setCell ⟨b, 1, none⟩ (.int .i64 (at_ + 1)) = wZ at *
  have x80 := (blk_cell e8 0).trans rfl
  have x81 := (blk_cell e8 1).trans rfl
  have x82 := (blk_cell e8 2).trans rfl
  have x83 := (blk_cell e8 3).trans rfl
  have x60 := (blk_cell e6 0).trans rfl
  have x61 := (blk_cell e6 1).trans rfl
  have x62 := (blk_cell e6 2).trans rfl
  have x63 := (blk_cell e6 3).trans rfl
  have f60 : ∀ k, wZ.frozen? ⟨B6, k, none⟩ = false := fun k => by simp [World.frozen?, e6]
  go_wp2
  refine bodyPost_ret (results_c rfl _ _ B6 40 (eArr 0 (6) (0) (false)) (0, 0) _ rfl (put_ev e6) Try.underlying40 rfl (by kernel_rfl)) rfl ?_
  have hF := hM.event (a := 0) (b := 6) (c := 0) (h := false) e6
  try simp only [List.set_set] at hF
  try (have hrv2 := hrv.out; subst hrv2)
  try (have hvv2 := hvv.out; subst hvv2)
  try (have hht2 := hht.out; subst hht2)
  exact ⟨rfl, hB.ev hn6, far_ev e9 n96, _, _, fun _ _ => rfl, hF⟩
set_option maxHeartbeats 8000000 in
set_option maxRecDepth 100000 in
theorem do6.calls (base mb k b : Nat) (col : Nat → Nat) (ts : List Nat) (cv pv cvt wv ov : Value) (M : Mch) (t : Thr) (x : S28) (w : World) (hM : Mach w base mb col ts cv pv M) (hk : ts[k]? = some b) (ht : M.thr[k]? = some t)
    (hT : ThrM w base (fun q => col q = k + 1) b t cvt wv ov) (hbase : base ≤ w.heap.size) (ha : 0 ≤ t.at_ ∧ t.at_ < 1000000) (ge : Nat) (ce : Array Value) (hge : w.heap[ge]? = some (Obj.cells ce 40 (0, 0))) (ho : x.f0 = 6) :
    Calls Try.prog 31 #[.pointer (some ⟨mb, 0, none⟩), .pointer (some ⟨b, 0, none⟩), .agg #[.int .i64 x.f0, .int .i64 x.f1, .int .i64 x.f2, .int .i64 x.f3, .int .i64 x.f4, .int .i64 x.f5, .int .u64 x.f6, .int .i64 x.f7]] w (DoP w base mb ts col pv k M M.cells { t with at_ := x.f7 } 1 x.f7 false ge ce) := by
  have hc26 : Aside0 (∀ q, cv.ownBlock = some q → ∃ cs, w.heap[q]? = some (Obj.cells cs 26 (0, 0))) := Aside0.mk (fun q hq => Kd.R_typed hM.cells q hq)
  have ho26 : Aside0 (∀ q, ov.ownBlock = some q → ∃ cs, w.heap[q]? = some (Obj.cells cs 26 (0, 0))) := Aside0.mk (fun q hq => Kd.R_typed hT.out q hq)
  obtain ⟨o, d, tw, a1, b1, c1, vl, tg⟩ := x
  obtain ⟨cds, at_, rs, wr, out, hd⟩ := t
  simp only at *
  subst ho
  have hb := hT.blk
  have hl := hT.len
  simp only at hb hl
  have y1 := t_c1 hb
  have hat : wrap64 (at_ + 1) = at_ + 1 := wrap_in (by omega) (by omega)
  go_enter Try.func31, Try.ntmps31
  go_upto_region 1 with go_in
  have e4 := blk_alloc (blk_alloc (heap_alloc_new w (Obj.cells #[Value.pointer (some ⟨b, 0, none⟩)] 72 (0, 0))) (Obj.cells (#[.int .i64 6, .int .i64 d, .int .i64 tw, .int .i64 a1, .int .i64 b1, .int .i64 c1, .int .u64 vl, .int .i64 tg]) 28 (0, 0))) (Obj.cells #[.int .i64 0, .int .i64 0, .int .i64 0, .bool false] 40 (0, 0))
  have e5 := blk_alloc (heap_alloc_new (w.alloc (Obj.cells #[Value.pointer (some ⟨b, 0, none⟩)] 72 (0, 0))) (Obj.cells (#[.int .i64 6, .int .i64 d, .int .i64 tw, .int .i64 a1, .int .i64 b1, .int .i64 c1, .int .u64 vl, .int .i64 tg]) 28 (0, 0))) (Obj.cells #[.int .i64 0, .int .i64 0, .int .i64 0, .bool false] 40 (0, 0))
  have e6 := heap_alloc_new ((w.alloc (Obj.cells #[Value.pointer (some ⟨b, 0, none⟩)] 72 (0, 0))).alloc (Obj.cells (#[.int .i64 6, .int .i64 d, .int .i64 tw, .int .i64 a1, .int .i64 b1, .int .i64 c1, .int .u64 vl, .int .i64 tg]) 28 (0, 0))) (Obj.cells #[.int .i64 0, .int .i64 0, .int .i64 0, .bool false] 40 (0, 0))
  have e9 := blk_alloc (blk_alloc (blk_alloc hge (Obj.cells #[Value.pointer (some ⟨b, 0, none⟩)] 72 (0, 0))) (Obj.cells (#[.int .i64 6, .int .i64 d, .int .i64 tw, .int .i64 a1, .int .i64 b1, .int .i64 c1, .int .u64 vl, .int .i64 tg]) 28 (0, 0))) (Obj.cells #[.int .i64 0, .int .i64 0, .int .i64 0, .bool false] 40 (0, 0))
  have hbl : Below w.heap.size w (((w.alloc (Obj.cells #[Value.pointer (some ⟨b, 0, none⟩)] 72 (0, 0))).alloc (Obj.cells (#[.int .i64 6, .int .i64 d, .int .i64 tw, .int .i64 a1, .int .i64 b1, .int .i64 c1, .int .u64 vl, .int .i64 tg]) 28 (0, 0))).alloc (Obj.cells #[.int .i64 0, .int .i64 0, .int .i64 0, .bool false] 40 (0, 0))) := below_alloc (below_alloc (below_alloc (Below.refl _ _) _) _) _
  have hM := hM.below hbl
  have hT := hT.below hbl
  have hb := hT.blk
  rw [alloc_sz] at e5
  rw [alloc_sz, alloc_sz] at e6
  generalize (((w.alloc (Obj.cells #[Value.pointer (some ⟨b, 0, none⟩)] 72 (0, 0))).alloc (Obj.cells (#[.int .i64 6, .int .i64 d, .int .i64 tw, .int .i64 a1, .int .i64 b1, .int .i64 c1, .int .u64 vl, .int .i64 tg]) 28 (0, 0))).alloc (Obj.cells #[.int .i64 0, .int .i64 0, .int .i64 0, .bool false] 40 (0, 0))) = w1 at *
  obtain ⟨B4, hB4⟩ : ∃ B, B = w.heap.size := ⟨_, rfl⟩
  obtain ⟨B5, hB5⟩ : ∃ B, B = w.heap.size + 1 := ⟨_, rfl⟩
  obtain ⟨B6, hB6⟩ : ∃ B, B = w.heap.size + 1 + 1 := ⟨_, rfl⟩
  have hg6 : base ≤ B6 := by omega
  have hn6 : w.heap.size ≤ B6 := by omega
  have n96 : ge ≠ B6 := by
    have := blk_lt hge
    omega
  have hB := Keep.of (base := base) (mb := mb) (ts := ts) (col := col) hbl
  rw [← hB6] at e6 ⊢
  rw [← hB5] at e5 ⊢
  rw [← hB4] at e4 ⊢
  clear hB4 hB5 hB6 hbl
  have y1 := t_c1 hb
  have z4 : w1.cell? ⟨B4, 0, none⟩ = some (.pointer (some ⟨b, 0, none⟩)) := (blk_cell e4 0).trans rfl
  go_upto_region 2 with go_in
  have hn1 : w.heap.size ≤ w1.heap.size := hB.size
  have hg8 : base ≤ w1.heap.size := Nat.le_trans hbase (by have := blk_lt e4; have := hB.size; omega)
  have e8 := heap_alloc_new w1 (Obj.cells #[.int .i64 0, .int .i64 6, .int .i64 0, .bool false] 40 (0, 0))
  have hbl : Below w1.heap.size w1 (w1.alloc (Obj.cells #[.int .i64 0, .int .i64 6, .int .i64 0, .bool false] 40 (0, 0))) := below_alloc (Below.refl _ _) _
  have e4 := blk_below e4 hbl
  have e5 := blk_below e5 hbl
  have e6 := blk_below e6 hbl
  have e9 := blk_below e9 hbl
  have hM := hM.below hbl
  have hT := hT.below hbl
  have hb := hT.blk
  have hB := hB.bel hbl
  have hn8 : w.heap.size ≤ w1.heap.size := hn1
  have n68 : B6 ≠ w1.heap.size := Nat.ne_of_lt (blk_lt (show w1.heap[B6]? = _ from by assumption))
  have n98 : ge ≠ w1.heap.size := Nat.ne_of_lt (blk_lt (show w1.heap[ge]? = _ from by assumption))
  clear y1 z4
  generalize w1.alloc (Obj.cells #[.int .i64 0, .int .i64 6, .int .i64 0, .bool false] 40 (0, 0)) = w2 at *
  generalize w1.heap.size = B8 at *
  clear hbl
  have y1 := t_c1 hb
  have z4 : w2.cell? ⟨B4, 0, none⟩ = some (.pointer (some ⟨b, 0, none⟩)) := (blk_cell e4 0).trans rfl
  have z50 : w2.cell? ⟨B5, 0, none⟩ = some (.int .i64 6) := (blk_cell e5 0).trans rfl
  have z57 : w2.cell? ⟨B5, 7, none⟩ = some (.int .i64 tg) := (blk_cell e5 7).trans rfl
  have x80 := (blk_cell e8 0).trans rfl
  have x81 := (blk_cell e8 1).trans rfl
  have x82 := (blk_cell e8 2).trans rfl
  have x83 := (blk_cell e8 3).trans rfl
  have f80 := blk_frozen e8
  go_upto_region 46 with go_in
  clear z4 z50 z57 y1 x80 x81 x82 x83 f80
  have hM := hM.event (a := 0) (b := 1) (c := tg) (h := false) e8
  have hT := hT.event (a := 0) (b := 1) (c := tg) (h := false) e8
  have hB := hB.ev (a := 0) (b := 1) (c := tg) (x := false) hn8
  have e4 := far_ev (a := 0) (b := 1) (c := tg) (h := false) e4 (blk_ne e4 e8 (by decide))
  have e5 := far_ev (a := 0) (b := 1) (c := tg) (h := false) e5 (blk_ne e5 e8 (by decide))
  have e6 := far_ev (a := 0) (b := 1) (c := tg) (h := false) e6 n68
  have e9 := far_ev (a := 0) (b := 1) (c := tg) (h := false) e9 n98
  replace e8 := put_ev (a := 0) (b := 1) (c := tg) (h := false) e8
  generalize ((((w2.setCell ⟨B8, 0, none⟩ (.int .i64 0)).setCell ⟨B8, 1, none⟩ (.int .i64 (1))).setCell ⟨B8, 2, none⟩ (.int .i64 (tg))).setCell ⟨B8, 3, none⟩ (.bool (false))) = w3 at *
  have y1 := t_c1 hT.blk
  have fz1 := blk_frozen hT.blk 1
  have z4 : w3.cell? ⟨B4, 0, none⟩ = some (.pointer (some ⟨b, 0, none⟩)) := (blk_cell e4 0).trans rfl
  go_upto_region 47 with go_in
  have hTn := hT.setAt (tg)
  have hM := hM.setT hk hT.blk 1 (.int .i64 (tg)) _ _ _ _ hTn
  have hB := hB.setC (p := ⟨b, 1, none⟩) (Or.inr ⟨hT.le, Or.inr (Or.inl (List.mem_of_getElem? hk))⟩) (.int .i64 (tg))
  have e6 := blk_far (p := ⟨b, 1, none⟩) e6 (blk_ne e6 hT.blk (by decide)) (.int .i64 (tg))
  have e9 := blk_far (p := ⟨b, 1, none⟩) e9 (blk_ne e9 hT.blk (by decide)) (.int .i64 (tg))
  have e8 := blk_far (p := ⟨b, 1, none⟩) e8 (blk_ne e8 hT.blk (by decide)) (.int .i64 (tg))
  clear y1 fz1 z4 hT hTn
  generalize w3.setCell ⟨b, 1, none⟩ (.int .i64 (tg)) = wZ at *
  have x80 := (blk_cell e8 0).trans rfl
  have x81 := (blk_cell e8 1).trans rfl
  have x82 := (blk_cell e8 2).trans rfl
  have x83 := (blk_cell e8 3).trans rfl
  have x60 := (blk_cell e6 0).trans rfl
  have x61 := (blk_cell e6 1).trans rfl
  have x62 := (blk_cell e6 2).trans rfl
  have x63 := (blk_cell e6 3).trans rfl
  have f60 : ∀ k, wZ.frozen? ⟨B6, k, none⟩ = false := fun k => by simp [World.frozen?, e6]
  go_wp2
  refine bodyPost_ret (results_c rfl _ _ B6 40 (eArr 0 (1) (tg) (false)) (0, 0) _ rfl (put_ev e6) Try.underlying40 rfl (by kernel_rfl)) rfl ?_
  have hF := hM.event (a := 0) (b := 1) (c := tg) (h := false) e6
  try simp only [List.set_set] at hF
  try (have hrv2 := hrv.out; subst hrv2)
  try (have hvv2 := hvv.out; subst hvv2)
  try (have hht2 := hht.out; subst hht2)
  exact ⟨rfl, hB.ev hn6, far_ev e9 n96, _, _, fun _ _ => rfl, hF⟩
set_option maxHeartbeats 8000000 in
set_option maxRecDepth 100000 in
theorem do7a.calls (base mb k b : Nat) (col : Nat → Nat) (ts : List Nat) (cv pv cvt wv ov : Value) (M : Mch) (t : Thr) (x : S28) (w : World) (hM : Mach w base mb col ts cv pv M) (hk : ts[k]? = some b) (ht : M.thr[k]? = some t)
    (hT : ThrM w base (fun q => col q = k + 1) b t cvt wv ov) (hbase : base ≤ w.heap.size) (ha : 0 ≤ t.at_ ∧ t.at_ < 1000000) (ge : Nat) (ce : Array Value) (hge : w.heap[ge]? = some (Obj.cells ce 40 (0, 0))) (ho : x.f0 = 7) (hz : regS t.rs x.f3 = 0) :
    Calls Try.prog 31 #[.pointer (some ⟨mb, 0, none⟩), .pointer (some ⟨b, 0, none⟩), .agg #[.int .i64 x.f0, .int .i64 x.f1, .int .i64 x.f2, .int .i64 x.f3, .int .i64 x.f4, .int .i64 x.f5, .int .u64 x.f6, .int .i64 x.f7]] w (DoP w base mb ts col pv k M M.cells { t with at_ := x.f7 } 1 (x.f7) false ge ce) := by
  have hc26 : Aside0 (∀ q, cv.ownBlock = some q → ∃ cs, w.heap[q]? = some (Obj.cells cs 26 (0, 0))) := Aside0.mk (fun q hq => Kd.R_typed hM.cells q hq)
  have ho26 : Aside0 (∀ q, ov.ownBlock = some q → ∃ cs, w.heap[q]? = some (Obj.cells cs 26 (0, 0))) := Aside0.mk (fun q hq => Kd.R_typed hT.out q hq)
  obtain ⟨o, d, tw, a1, b1, c1, vl, tg⟩ := x
  obtain ⟨cds, at_, rs, wr, out, hd⟩ := t
  simp only at *
  subst ho
  have hb := hT.blk
  have hl := hT.len
  simp only at hb hl
  have y1 := t_c1 hb
  have hat : wrap64 (at_ + 1) = at_ + 1 := wrap_in (by omega) (by omega)
  go_enter Try.func31, Try.ntmps31
  go_upto_region 1 with go_in
  have e4 := blk_alloc (blk_alloc (heap_alloc_new w (Obj.cells #[Value.pointer (some ⟨b, 0, none⟩)] 72 (0, 0))) (Obj.cells (#[.int .i64 7, .int .i64 d, .int .i64 tw, .int .i64 a1, .int .i64 b1, .int .i64 c1, .int .u64 vl, .int .i64 tg]) 28 (0, 0))) (Obj.cells #[.int .i64 0, .int .i64 0, .int .i64 0, .bool false] 40 (0, 0))
  have e5 := blk_alloc (heap_alloc_new (w.alloc (Obj.cells #[Value.pointer (some ⟨b, 0, none⟩)] 72 (0, 0))) (Obj.cells (#[.int .i64 7, .int .i64 d, .int .i64 tw, .int .i64 a1, .int .i64 b1, .int .i64 c1, .int .u64 vl, .int .i64 tg]) 28 (0, 0))) (Obj.cells #[.int .i64 0, .int .i64 0, .int .i64 0, .bool false] 40 (0, 0))
  have e6 := heap_alloc_new ((w.alloc (Obj.cells #[Value.pointer (some ⟨b, 0, none⟩)] 72 (0, 0))).alloc (Obj.cells (#[.int .i64 7, .int .i64 d, .int .i64 tw, .int .i64 a1, .int .i64 b1, .int .i64 c1, .int .u64 vl, .int .i64 tg]) 28 (0, 0))) (Obj.cells #[.int .i64 0, .int .i64 0, .int .i64 0, .bool false] 40 (0, 0))
  have e9 := blk_alloc (blk_alloc (blk_alloc hge (Obj.cells #[Value.pointer (some ⟨b, 0, none⟩)] 72 (0, 0))) (Obj.cells (#[.int .i64 7, .int .i64 d, .int .i64 tw, .int .i64 a1, .int .i64 b1, .int .i64 c1, .int .u64 vl, .int .i64 tg]) 28 (0, 0))) (Obj.cells #[.int .i64 0, .int .i64 0, .int .i64 0, .bool false] 40 (0, 0))
  have hbl : Below w.heap.size w (((w.alloc (Obj.cells #[Value.pointer (some ⟨b, 0, none⟩)] 72 (0, 0))).alloc (Obj.cells (#[.int .i64 7, .int .i64 d, .int .i64 tw, .int .i64 a1, .int .i64 b1, .int .i64 c1, .int .u64 vl, .int .i64 tg]) 28 (0, 0))).alloc (Obj.cells #[.int .i64 0, .int .i64 0, .int .i64 0, .bool false] 40 (0, 0))) := below_alloc (below_alloc (below_alloc (Below.refl _ _) _) _) _
  have hM := hM.below hbl
  have hT := hT.below hbl
  have hb := hT.blk
  rw [alloc_sz] at e5
  rw [alloc_sz, alloc_sz] at e6
  generalize (((w.alloc (Obj.cells #[Value.pointer (some ⟨b, 0, none⟩)] 72 (0, 0))).alloc (Obj.cells (#[.int .i64 7, .int .i64 d, .int .i64 tw, .int .i64 a1, .int .i64 b1, .int .i64 c1, .int .u64 vl, .int .i64 tg]) 28 (0, 0))).alloc (Obj.cells #[.int .i64 0, .int .i64 0, .int .i64 0, .bool false] 40 (0, 0))) = w1 at *
  obtain ⟨B4, hB4⟩ : ∃ B, B = w.heap.size := ⟨_, rfl⟩
  obtain ⟨B5, hB5⟩ : ∃ B, B = w.heap.size + 1 := ⟨_, rfl⟩
  obtain ⟨B6, hB6⟩ : ∃ B, B = w.heap.size + 1 + 1 := ⟨_, rfl⟩
  have hg6 : base ≤ B6 := by omega
  have hn6 : w.heap.size ≤ B6 := by omega
  have n96 : ge ≠ B6 := by
    have := blk_lt hge
    omega
  have hB := Keep.of (base := base) (mb := mb) (ts := ts) (col := col) hbl
  rw [← hB6] at e6 ⊢
  rw [← hB5] at e5 ⊢
  rw [← hB4] at e4 ⊢
  clear hB4 hB5 hB6 hbl
  have y1 := t_c1 hb
  have z4 : w1.cell? ⟨B4, 0, none⟩ = some (.pointer (some ⟨b, 0, none⟩)) := (blk_cell e4 0).trans rfl
  go_upto_region 2 with go_in
  have hn1 : w.heap.size ≤ w1.heap.size := hB.size
  have hg8 : base ≤ w1.heap.size := Nat.le_trans hbase (by have := blk_lt e4; have := hB.size; omega)
  have e8 := heap_alloc_new w1 (Obj.cells #[.int .i64 0, .int .i64 6, .int .i64 0, .bool false] 40 (0, 0))
  have hbl : Below w1.heap.size w1 (w1.alloc (Obj.cells #[.int .i64 0, .int .i64 6, .int .i64 0, .bool false] 40 (0, 0))) := below_alloc (Below.refl _ _) _
  have e4 := blk_below e4 hbl
  have e5 := blk_below e5 hbl
  have e6 := blk_below e6 hbl
  have e9 := blk_below e9 hbl
  have hM := hM.below hbl
  have hT := hT.below hbl
  have hb := hT.blk
  have hB := hB.bel hbl
  have hn8 : w.heap.size ≤ w1.heap.size := hn1
  have n68 : B6 ≠ w1.heap.size := Nat.ne_of_lt (blk_lt (show w1.heap[B6]? = _ from by assumption))
  have n98 : ge ≠ w1.heap.size := Nat.ne_of_lt (blk_lt (show w1.heap[ge]? = _ from by assumption))
  clear y1 z4
  generalize w1.alloc (Obj.cells #[.int .i64 0, .int .i64 6, .int .i64 0, .bool false] 40 (0, 0)) = w2 at *
  generalize w1.heap.size = B8 at *
  clear hbl
  have y1 := t_c1 hb
  have z4 : w2.cell? ⟨B4, 0, none⟩ = some (.pointer (some ⟨b, 0, none⟩)) := (blk_cell e4 0).trans rfl
  have z50 : w2.cell? ⟨B5, 0, none⟩ = some (.int .i64 7) := (blk_cell e5 0).trans rfl
  have z57 : w2.cell? ⟨B5, 7, none⟩ = some (.int .i64 tg) := (blk_cell e5 7).trans rfl
  have z53 : w2.cell? ⟨B5, 3, none⟩ = some (.int .i64 a1) := (blk_cell e5 3).trans rfl
  have x80 := (blk_cell e8 0).trans rfl
  have x81 := (blk_cell e8 1).trans rfl
  have x82 := (blk_cell e8 2).trans rfl
  have x83 := (blk_cell e8 3).trans rfl
  have f80 := blk_frozen e8
  have TR := reg.calls b _ _ _ _ _ _ a1 w2 hl hT.blk
  generalize regS rs a1 = rv at TR hz
  go_upto_region 46 with (first
    | (go_at_call 46; refine TR.mono ?_; rintro e w3 ⟨rfl, h3⟩; obtain rfl := h3.symm)
    | go_in)
  clear z4 z50 z57 z53 y1 TR x80 x81 x82 x83 f80
  have hM := hM.event (a := 0) (b := 1) (c := tg) (h := false) e8
  have hT := hT.event (a := 0) (b := 1) (c := tg) (h := false) e8
  have hB := hB.ev (a := 0) (b := 1) (c := tg) (x := false) hn8
  have e4 := far_ev (a := 0) (b := 1) (c := tg) (h := false) e4 (blk_ne e4 e8 (by decide))
  have e5 := far_ev (a := 0) (b := 1) (c := tg) (h := false) e5 (blk_ne e5 e8 (by decide))
  have e6 := far_ev (a := 0) (b := 1) (c := tg) (h := false) e6 n68
  have e9 := far_ev (a := 0) (b := 1) (c := tg) (h := false) e9 n98
  replace e8 := put_ev (a := 0) (b := 1) (c := tg) (h := false) e8
  generalize ((((w2.setCell ⟨B8, 0, none⟩ (.int .i64 0)).setCell ⟨B8, 1, none⟩ (.int .i64 (1))).setCell ⟨B8, 2, none⟩ (.int .i64 (tg))).setCell ⟨B8, 3, none⟩ (.bool (false))) = w3 at *
  have y1 := t_c1 hT.blk
  have fz1 := blk_frozen hT.blk 1
  have z4 : w3.cell? ⟨B4, 0, none⟩ = some (.pointer (some ⟨b, 0, none⟩)) := (blk_cell e4 0).trans rfl
  go_upto_region 47 with go_in
  have hTn := hT.setAt (tg)
  have hM := hM.setT hk hT.blk 1 (.int .i64 (tg)) _ _ _ _ hTn
  have hB := hB.setC (p := ⟨b, 1, none⟩) (Or.inr ⟨hT.le, Or.inr (Or.inl (List.mem_of_getElem? hk))⟩) (.int .i64 (tg))
  have e6 := blk_far (p := ⟨b, 1, none⟩) e6 (blk_ne e6 hT.blk (by decide)) (.int .i64 (tg))
  have e9 := blk_far (p := ⟨b, 1, none⟩) e9 (blk_ne e9 hT.blk (by decide)) (.int .i64 (tg))
  have e8 := blk_far (p := ⟨b, 1, none⟩) e8 (blk_ne e8 hT.blk (by decide)) (.int .i64 (tg))
  clear y1 fz1 z4 hT hTn
  generalize w3.setCell ⟨b, 1, none⟩ (.int .i64 (tg)) = wZ at *
  have x80 := (blk_cell e8 0).trans rfl
  have x81 := (blk_cell e8 1).trans rfl
  have x82 := (blk_cell e8 2).trans rfl
  have x83 := (blk_cell e8 3).trans rfl
  have x60 := (blk_cell e6 0).trans rfl
  have x61 := (blk_cell e6 1).trans rfl
  have x62 := (blk_cell e6 2).trans rfl
  have x63 := (blk_cell e6 3).trans rfl
  have f60 : ∀ k, wZ.frozen? ⟨B6, k, none⟩ = false := fun k => by simp [World.frozen?, e6]
  go_wp2
  refine bodyPost_ret (results_c rfl _ _ B6 40 (eArr 0 (1) (tg) (false)) (0, 0) _ rfl (put_ev e6) Try.underlying40 rfl (by kernel_rfl)) rfl ?_
  have hF := hM.event (a := 0) (b := 1) (c := tg) (h := false) e6
  try simp only [List.set_set] at hF
  try (have hrv2 := hrv.out; subst hrv2)
  try (have hvv2 := hvv.out; subst hvv2)
  try (have hht2 := hht.out; subst hht2)
  exact ⟨rfl, hB.ev hn6, far_ev e9 n96, _, _, fun _ _ => rfl, hF⟩
set_option maxHeartbeats 8000000 in
set_option maxRecDepth 100000 in
theorem do7b.calls (base mb k b : Nat) (col : Nat → Nat) (ts : List Nat) (cv pv cvt wv ov : Value) (M : Mch) (t : Thr) (x : S28) (w : World) (hM : Mach w base mb col ts cv pv M) (hk : ts[k]? = some b) (ht : M.thr[k]? = some t)
    (hT : ThrM w base (fun q => col q = k + 1) b t cvt wv ov) (hbase : base ≤ w.heap.size) (ha : 0 ≤ t.at_ ∧ t.at_ < 1000000) (ge : Nat) (ce : Array Value) (hge : w.heap[ge]? = some (Obj.cells ce 40 (0, 0))) (ho : x.f0 = 7) (hz : ¬ regS t.rs x.f3 = 0) :
    Calls Try.prog 31 #[.pointer (some ⟨mb, 0, none⟩), .pointer (some ⟨b, 0, none⟩), .agg #[.int .i64 x.f0, .int .i64 x.f1, .int .i64 x.f2, .int .i64 x.f3, .int .i64 x.f4, .int .i64 x.f5, .int .u64 x.f6, .int .i64 x.f7]] w (DoP w base mb ts col pv k M M.cells { t with at_ := t.at_ + 1 } 1 (t.at_ + 1) false ge ce) := by
  have hc26 : Aside0 (∀ q, cv.ownBlock = some q → ∃ cs, w.heap[q]? = some (Obj.cells cs 26 (0, 0))) := Aside0.mk (fun q hq => Kd.R_typed hM.cells q hq)
  have ho26 : Aside0 (∀ q, ov.ownBlock = some q → ∃ cs, w.heap[q]? = some (Obj.cells cs 26 (0, 0))) := Aside0.mk (fun q hq => Kd.R_typed hT.out q hq)
  obtain ⟨o, d, tw, a1, b1, c1, vl, tg⟩ := x
  obtain ⟨cds, at_, rs, wr, out, hd⟩ := t
  simp only at *
  subst ho
  have hb := hT.blk
  have hl := hT.len
  simp only at hb hl
  have y1 := t_c1 hb
  have hat : wrap64 (at_ + 1) = at_ + 1 := wrap_in (by omega) (by omega)
  go_enter Try.func31, Try.ntmps31
  go_upto_region 1 with go_in
  have e4 := blk_alloc (blk_alloc (heap_alloc_new w (Obj.cells #[Value.pointer (some ⟨b, 0, none⟩)] 72 (0, 0))) (Obj.cells (#[.int .i64 7, .int .i64 d, .int .i64 tw, .int .i64 a1, .int .i64 b1, .int .i64 c1, .int .u64 vl, .int .i64 tg]) 28 (0, 0))) (Obj.cells #[.int .i64 0, .int .i64 0, .int .i64 0, .bool false] 40 (0, 0))
  have e5 := blk_alloc (heap_alloc_new (w.alloc (Obj.cells #[Value.pointer (some ⟨b, 0, none⟩)] 72 (0, 0))) (Obj.cells (#[.int .i64 7, .int .i64 d, .int .i64 tw, .int .i64 a1, .int .i64 b1, .int .i64 c1, .int .u64 vl, .int .i64 tg]) 28 (0, 0))) (Obj.cells #[.int .i64 0, .int .i64 0, .int .i64 0, .bool false] 40 (0, 0))
  have e6 := heap_alloc_new ((w.alloc (Obj.cells #[Value.pointer (some ⟨b, 0, none⟩)] 72 (0, 0))).alloc (Obj.cells (#[.int .i64 7, .int .i64 d, .int .i64 tw, .int .i64 a1, .int .i64 b1, .int .i64 c1, .int .u64 vl, .int .i64 tg]) 28 (0, 0))) (Obj.cells #[.int .i64 0, .int .i64 0, .int .i64 0, .bool false] 40 (0, 0))
  have e9 := blk_alloc (blk_alloc (blk_alloc hge (Obj.cells #[Value.pointer (some ⟨b, 0, none⟩)] 72 (0, 0))) (Obj.cells (#[.int .i64 7, .int .i64 d, .int .i64 tw, .int .i64 a1, .int .i64 b1, .int .i64 c1, .int .u64 vl, .int .i64 tg]) 28 (0, 0))) (Obj.cells #[.int .i64 0, .int .i64 0, .int .i64 0, .bool false] 40 (0, 0))
  have hbl : Below w.heap.size w (((w.alloc (Obj.cells #[Value.pointer (some ⟨b, 0, none⟩)] 72 (0, 0))).alloc (Obj.cells (#[.int .i64 7, .int .i64 d, .int .i64 tw, .int .i64 a1, .int .i64 b1, .int .i64 c1, .int .u64 vl, .int .i64 tg]) 28 (0, 0))).alloc (Obj.cells #[.int .i64 0, .int .i64 0, .int .i64 0, .bool false] 40 (0, 0))) := below_alloc (below_alloc (below_alloc (Below.refl _ _) _) _) _
  have hM := hM.below hbl
  have hT := hT.below hbl
  have hb := hT.blk
  rw [alloc_sz] at e5
  rw [alloc_sz, alloc_sz] at e6
  generalize (((w.alloc (Obj.cells #[Value.pointer (some ⟨b, 0, none⟩)] 72 (0, 0))).alloc (Obj.cells (#[.int .i64 7, .int .i64 d, .int .i64 tw, .int .i64 a1, .int .i64 b1, .int .i64 c1, .int .u64 vl, .int .i64 tg]) 28 (0, 0))).alloc (Obj.cells #[.int .i64 0, .int .i64 0, .int .i64 0, .bool false] 40 (0, 0))) = w1 at *
  obtain ⟨B4, hB4⟩ : ∃ B, B = w.heap.size := ⟨_, rfl⟩
  obtain ⟨B5, hB5⟩ : ∃ B, B = w.heap.size + 1 := ⟨_, rfl⟩
  obtain ⟨B6, hB6⟩ : ∃ B, B = w.heap.size + 1 + 1 := ⟨_, rfl⟩
  have hg6 : base ≤ B6 := by omega
  have hn6 : w.heap.size ≤ B6 := by omega
  have n96 : ge ≠ B6 := by
    have := blk_lt hge
    omega
  have hB := Keep.of (base := base) (mb := mb) (ts := ts) (col := col) hbl
  rw [← hB6] at e6 ⊢
  rw [← hB5] at e5 ⊢
  rw [← hB4] at e4 ⊢
  clear hB4 hB5 hB6 hbl
  have y1 := t_c1 hb
  have z4 : w1.cell? ⟨B4, 0, none⟩ = some (.pointer (some ⟨b, 0, none⟩)) := (blk_cell e4 0).trans rfl
  go_upto_region 2 with go_in
  have hn1 : w.heap.size ≤ w1.heap.size := hB.size
  have hg8 : base ≤ w1.heap.size := Nat.le_trans hbase (by have := blk_lt e4; have := hB.size; omega)
  have e8 := heap_alloc_new w1 (Obj.cells #[.int .i64 0, .int .i64 6, .int .i64 0, .bool false] 40 (0, 0))
  have hbl : Below w1.heap.size w1 (w1.alloc (Obj.cells #[.int .i64 0, .int .i64 6, .int .i64 0, .bool false] 40 (0, 0))) := below_alloc (Below.refl _ _) _
  have e4 := blk_below e4 hbl
  have e5 := blk_below e5 hbl
  have e6 := blk_below e6 hbl
  have e9 := blk_below e9 hbl
  have hM := hM.below hbl
  have hT := hT.below hbl
  have hb := hT.blk
  have hB := hB.bel hbl
  have hn8 : w.heap.size ≤ w1.heap.size := hn1
  have n68 : B6 ≠ w1.heap.size := Nat.ne_of_lt (blk_lt (show w1.heap[B6]? = _ from by assumption))
  have n98 : ge ≠ w1.heap.size := Nat.ne_of_lt (blk_lt (show w1.heap[ge]? = _ from by assumption))
  clear y1 z4
  generalize w1.alloc (Obj.cells #[.int .i64 0, .int .i64 6, .int .i64 0, .bool false] 40 (0, 0)) = w2 at *
  generalize w1.heap.size = B8 at *
  clear hbl
  have y1 := t_c1 hb
  have z4 : w2.cell? ⟨B4, 0, none⟩ = some (.pointer (some ⟨b, 0, none⟩)) := (blk_cell e4 0).trans rfl
  have z50 : w2.cell? ⟨B5, 0, none⟩ = some (.int .i64 7) := (blk_cell e5 0).trans rfl
  have z57 : w2.cell? ⟨B5, 7, none⟩ = some (.int .i64 tg) := (blk_cell e5 7).trans rfl
  have z53 : w2.cell? ⟨B5, 3, none⟩ = some (.int .i64 a1) := (blk_cell e5 3).trans rfl
  have x80 := (blk_cell e8 0).trans rfl
  have x81 := (blk_cell e8 1).trans rfl
  have x82 := (blk_cell e8 2).trans rfl
  have x83 := (blk_cell e8 3).trans rfl
  have f80 := blk_frozen e8
  have TR := reg.calls b _ _ _ _ _ _ a1 w2 hl hT.blk
  generalize regS rs a1 = rv at TR hz
  go_upto_region 46 with (first
    | (go_at_call 46; refine TR.mono ?_; rintro e w3 ⟨rfl, h3⟩; obtain rfl := h3.symm)
    | go_in)
  clear z4 z50 z57 z53 y1 TR x80 x81 x82 x83 f80
  have hM := hM.event (a := 0) (b := 1) (c := at_ + 1) (h := false) e8
  have hT := hT.event (a := 0) (b := 1) (c := at_ + 1) (h := false) e8
  have hB := hB.ev (a := 0) (b := 1) (c := at_ + 1) (x := false) hn8
  have e4 := far_ev (a := 0) (b := 1) (c := at_ + 1) (h := false) e4 (blk_ne e4 e8 (by decide))
  have e5 := far_ev (a := 0) (b := 1) (c := at_ + 1) (h := false) e5 (blk_ne e5 e8 (by decide))
  have e6 := far_ev (a := 0) (b := 1) (c := at_ + 1) (h := false) e6 n68
  have e9 := far_ev (a := 0) (b := 1) (c := at_ + 1) (h := false) e9 n98
  replace e8 := put_ev (a := 0) (b := 1) (c := at_ + 1) (h := false) e8
  generalize ((((w2.setCell ⟨B8, 0, none⟩ (.int .i64 0)).setCell ⟨B8, 1, none⟩ (.int .i64 (1))).setCell ⟨B8, 2, none⟩ (.int .i64 (at_ + 1))).setCell ⟨B8, 3, none⟩ (.bool (false))) = w3 at *
  have y1 := t_c1 hT.blk
  have fz1 := blk_frozen hT.blk 1
  have z4 : w3.cell? ⟨B4, 0, none⟩ = some (.pointer (some ⟨b, 0, none⟩)) := (blk_cell e4 0).trans rfl
  go_upto_region 47 with go_in
  have hTn := hT.setAt (at_ + 1)
  have hM := hM.setT hk hT.blk 1 (.int .i64 (at_ + 1)) _ _ _ _ hTn
  have hB := hB.setC (p := ⟨b, 1, none⟩) (Or.inr ⟨hT.le, Or.inr (Or.inl (List.mem_of_getElem? hk))⟩) (.int .i64 (at_ + 1))
  have e6 := blk_far (p := ⟨b, 1, none⟩) e6 (blk_ne e6 hT.blk (by decide)) (.int .i64 (at_ + 1))
  have e9 := blk_far (p := ⟨b, 1, none⟩) e9 (blk_ne e9 hT.blk (by decide)) (.int .i64 (at_ + 1))
  have e8 := blk_far (p := ⟨b, 1, none⟩) e8 (blk_ne e8 hT.blk (by decide)) (.int .i64 (at_ + 1))
  clear y1 fz1 z4 hT hTn
  generalize w3.setCell ⟨b, 1, none⟩ (.int .i64 (at_ + 1)) = wZ at *
  have x80 := (blk_cell e8 0).trans rfl
  have x81 := (blk_cell e8 1).trans rfl
  have x82 := (blk_cell e8 2).trans rfl
  have x83 := (blk_cell e8 3).trans rfl
  have x60 := (blk_cell e6 0).trans rfl
  have x61 := (blk_cell e6 1).trans rfl
  have x62 := (blk_cell e6 2).trans rfl
  have x63 := (blk_cell e6 3).trans rfl
  have f60 : ∀ k, wZ.frozen? ⟨B6, k, none⟩ = false := fun k => by simp [World.frozen?, e6]
  go_wp2
  refine bodyPost_ret (results_c rfl _ _ B6 40 (eArr 0 (1) (at_ + 1) (false)) (0, 0) _ rfl (put_ev e6) Try.underlying40 rfl (by kernel_rfl)) rfl ?_
  have hF := hM.event (a := 0) (b := 1) (c := at_ + 1) (h := false) e6
  try simp only [List.set_set] at hF
  try (have hrv2 := hrv.out; subst hrv2)
  try (have hvv2 := hvv.out; subst hvv2)
  try (have hht2 := hht.out; subst hht2)
  exact ⟨rfl, hB.ev hn6, far_ev e9 n96, _, _, fun _ _ => rfl, hF⟩
end Go.Proofs.Ytaenjbhhpdmhgaa.Tso
