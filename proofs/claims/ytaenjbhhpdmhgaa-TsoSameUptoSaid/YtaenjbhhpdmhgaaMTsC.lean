/-
The machine's writes and what threads see of them: buffer.Push, Find, Pop, load, Cells, Output. Conditions: as each theorem states them.
-/
import Derived.Test.YtaenjbhhpdmhgaaMTsB
import Derived.Test.YtaenjbhhpdmhgaaPTsoScriptx7
set_option linter.unusedVariables false
set_option linter.unusedSimpArgs false
namespace Go.Proofs.Ytaenjbhhpdmhgaa.Tso
open Go.RowKit Go.Proofs.YtaenjbhhpdmhgaaW.PrintWords Go.Proofs.YtaenjbhhpdmhgaaW.PrintLast Go.Proofs.YtaenjbhhpdmhgaaW.PrintMore
open Go.Proofs.Ytaenjbhhpdmhgaa.Kit
open Go.Proofs.Ytaenjbhhpdmhgaa.PTsoScript
/-- An append to a slice without spare room, its elements flat: the result is a row of the call's own. -/
theorem R_append_full {P : Program} {ops : Array Oper} {rest : List Oper} {o : Oper} {a : Act} {Q : Exit → Act → World → Prop} {α : Type} (d : Kd α) {W : World} (hgd : o.guard = none) (s x : Operand) (t e : TypeId) (z : Value) (bytes : Nat)
    (ho : o.op = .call { callee := .builtin .append, args := #[s, x], argTypes := #[t, t] })
    (ht : P.underlying t = some (.slice e)) (hinfo : (P.info? e).map (fun i => (i.zero, i.size, i.bytes)) = some (some z, d.sz, bytes)) (hz : z.cells.size = d.sz) (hs0 : 0 < d.sz)
    (hKM : ∀ (w w1 : World) (b : Nat) (ok : Nat → Prop) x cs, d.K w x cs → d.M w1 b ok x cs)
    (A : Option Addr) (xs : List α) (p : α) (cs : List Value) (hs : a.eval s = .slice A xs.length xs.length) (hx : a.eval x = .slice (some ⟨W.heap.size, 0, none⟩) 1 1)
    (HR : d.C W A xs.length xs) (hp : d.K W p cs) (hl : (xs.length + 1) * bytes ≤ 140737488355328) (hl2 : xs.length + 1 ≤ 140737488355328)
    (h : ∀ v1 w1, d.R e w1 W.heap.size (fun _ => True) v1 (xs ++ [p]) → Below W.heap.size W w1 → wpList P ops Q rest (a.put o.dst v1) w1) :
    wpList P ops Q (o :: rest) a (W.alloc (.cells cs.toArray e)) := by
  obtain ⟨i0, hi, hzz⟩ := Option.map_eq_some_iff.1 hinfo
  simp only [Prod.mk.injEq] at hzz
  obtain ⟨hz0, hz1, hz2⟩ := hzz
  have hKlen : cs.length = d.sz := d.K_len hp
  have hone : ∀ u ∈ cs, u.oneCell' = true := d.K_one hp
  have HRa : d.C (W.alloc (.cells cs.toArray e)) A xs.length xs := Kd.C_alloc HR _
  obtain ⟨olds, holdR, holdlen, hcell⟩ : ∃ olds : List Value, Reps (d.K W) d.sz xs olds ∧ olds.length = xs.length * d.sz ∧ ∀ b, A = some b → ∀ j u, olds[j]? = some u → (W.alloc (.cells cs.toArray e)).cell? (b.add j) = some u := by
    rcases A with _ | ad
    · have h0 : xs.length = 0 := by
        rcases Nat.eq_zero_or_pos xs.length with h0 | h0
        · exact h0
        · obtain ⟨ad, h, _⟩ := HR.2.2 h0
          cases h
      obtain rfl : xs = [] := List.eq_nil_of_length_eq_zero h0
      exact ⟨[], Reps.none _ _, by simp, fun b hb => by cases hb⟩
    · obtain ⟨news, hnr, hnc⟩ := ReadsRow.inner_ HR
      exact ⟨news, hnr, hnr.1, fun b hb j u hj => by injection hb with hb; subst hb; exact pw_cell_below (below_alloc (Below.refl _ _) _) (hnc j u hj)⟩
  refine wpList_append_grows (W.alloc (.cells cs.toArray e)) hgd s x t ho e i0 z d.sz bytes ht hi hz0 hz1 hz2 hz hs0 A xs.length xs.length olds hs (fun hA => ?_) holdlen hcell ⟨W.heap.size, 0, none⟩ 1 1 cs hx (by omega)
    (World.news_of_block (cs := cs.toArray) (t := e) (fr := (0, 0)) (heap_alloc_new W _)) hone (by omega) (by simp only [maxLen]; omega) hl ?_
  · subst hA
    rcases Nat.eq_zero_or_pos xs.length with h0 | h0
    · exact ⟨h0, h0⟩
    · obtain ⟨ad, h, _⟩ := HR.2.2 h0
      cases h
  · intro v' w' hown hgrow
    have hb : Below W.heap.size W w' := ((Below.refl _ _).alloc (Nat.le_refl _) _).grown hgrow (by simp) (fun k hk => by cases hk)
    refine h v' w' ?_ hb
    have hown' : w'.ownsRow W.heap.size e d.sz v' (xs ++ [p]).length (olds ++ cs) := by
      have h1 := own_weaken hown (base' := W.heap.size) (by simp)
      simpa using h1
    refine ⟨fun _ _ => trivial, olds ++ cs, hown', ?_⟩
    exact (holdR.imp_ (fun p c hp => hKM _ _ _ _ p c hp)).snoc (hKM _ _ _ _ p cs hp) hKlen
set_option maxHeartbeats 1000000 in
theorem push.calls (A0 : Option Addr) (c0 : Nat) (l0 : List S82) (a1 a2 : Int) (w : World) (hr0 : Kd.C k82 w A0 l0.length l0) (hc0 : l0.length ≤ c0) (hl : l0.length < 8796093022207) :
    Calls Try.prog 49 #[.slice A0 l0.length c0, .int .i64 a1, .int .u64 a2] w fun e w' => ∃ v, e = .returned v ∧ Kd.R k82 82 w' w.heap.size (fun _ => True) v (l0 ++ [⟨a1, a2⟩]) ∧ Below w.heap.size w w' := by
  have HR0 := Aside0.mk hr0
  clear hr0
  go_enter Try.func49, Try.ntmps49
  go_wp2_with (at_builtin; refine R_append_full k82 rfl (.tmp 12) (.tmp 16) 75 82 (.agg #[(.int .i64 0), (.int .u64 0)]) 16 rfl Try.underlying75 info82 rfl (by decide) (fun _ _ _ _ x cs hk => by rw [k82_open hk]; exact k82_mkM _ _ _ x) A0 l0 ⟨a1, a2⟩ [.int .i64 a1, .int .u64 a2] rfl rfl HR0.out (k82_mk _ _) (by omega) (by omega) ?_; intro v1 w1 ho hb; have HO := Aside0.mk ho; have HB := Aside0.mk hb; clear ho hb)
  go_ret
  exact ⟨_, rfl, HO.out, HB.out⟩
/-! ### find -/
/-- What is found among the first n writes, the last one first. -/
def findN (b : List S82) (c : Int) : Nat → Int × Bool
  | 0 => (0, false)
  | n + 1 => if (rd_T82 b n).f0 = c then ((rd_T82 b n).f1, true) else findN b c n
theorem find_loop (b : List S82) (c : Int) (hl : b.length ≤ 17592186044416) : ∀ n : Nat, n ≤ b.length → Ev (fun k => buffer_Find.l0 k b c ((n : Int) - 1)) (findN b c n) := by
  intro n
  induction n with
  | zero =>
    intro _
    refine Ev.step (fun k => rfl) ?_
    exact Ev.neg (by omega) (Ev.done rfl)
  | succ n ih =>
    intro hn
    have e : ((n + 1 : Nat) : Int) - 1 = (n : Int) := by omega
    rw [e]
    refine Ev.step (fun k => rfl) ?_
    refine Ev.pos (by omega) (Ev.pos (by omega) (Ev.pos (by omega) ?_))
    by_cases h : (rd_T82 b n).f0 = c
    · refine Ev.pos h (Ev.done ?_)
      simp [findN, h]
    · refine Ev.neg h ?_
      have e2 : wrap64 ((n : Int) - 1) = (n : Int) - 1 := wrap_in (by omega) (by omega)
      simp only [e2]
      have := ih (by omega)
      simpa [findN, h] using this
theorem find_ev (b : List S82) (c : Int) (hl : b.length ≤ 17592186044416) : Ev (fun k => buffer_Find.f k b c) (findN b c b.length) := by
  unfold buffer_Find.f
  rw [wrap_in (by omega) (by omega)]
  exact find_loop b c hl b.length (Nat.le_refl _)

theorem find.calls (A : Option Addr) (c : Nat) (l : List S82) (x : Int) (w : World) (hC : Kd.C k82 w A l.length l) (hc : l.length ≤ c) (hl : l.length ≤ 17592186044416) :
    Calls Try.prog 40 #[.slice A l.length c, .int .i64 x] w fun e w' => e = .returned (.tuple #[.int .u64 (findN l x l.length).1, .bool (findN l x l.length).2]) ∧ Drawn0 w w' := by
  obtain ⟨k, hk⟩ := Ev.rounds (find_ev l x hl)
  exact buffer_Find.calls k A c l x _ _ w hC hc hk
/-! ### what a thread sees of a cell -/
theorem load.calls (mb b g cA : Nat) (xs : List Int) (pv : Value) (n : Int) (cv ov : Value) (at_ : Int) (rs : List Int) (h : Bool) (A : Option Addr) (l : List S82) (c : Nat) (x : Nat) (w : World)
    (hm : MBlk w mb (.slice (some ⟨g, 0, none⟩) xs.length cA) pv n) (hb : TBlk w b cv at_ rs (.slice A l.length c) ov h) (hl8 : rs.length = 8) (hC : Kd.C k82 w A l.length l) (hc : l.length ≤ c) (hl : l.length ≤ 17592186044416)
    (hx : x < xs.length) (hcell : w.cell? ⟨g, x, none⟩ = some (.int .u64 xs[x])) :
    Calls Try.prog 48 #[.pointer (some ⟨mb, 0, none⟩), .pointer (some ⟨b, 0, none⟩), .int .i64 (x : Int)] w fun e w' => e = .returned (.tuple #[.int .u64 (if (findN l x l.length).2 = true then (findN l x l.length).1 else xs[x]), .bool (findN l x l.length).2]) ∧ Drawn0 w w' := by
  have TF := find.calls A c l (x : Int) w hC hc hl
  have y := t_c10 hb hl8
  have x0 : w.cell? ⟨mb, 0, none⟩ = some (.slice (some ⟨g, 0, none⟩) xs.length cA) := (blk_cell hm 0).trans rfl
  have hxi : (x : Int) < (xs.length : Int) := by omega
  have hx0 : (0 : Int) ≤ (x : Int) := by omega
  generalize xs[x] = u at hcell ⊢
  generalize findN l (x : Int) l.length = r at TF ⊢
  obtain ⟨r1, r2⟩ := r
  simp only at TF ⊢
  cases r2 with
  | true =>
    rw [if_pos rfl]
    go_enter Try.func48, Try.ntmps48
    go_wp2_with (first | (go_at_call 40; refine TF.mono ?_; rintro e w1 ⟨rfl, q, rfl⟩))
    go_ret2
    exact ⟨rfl, q, rfl⟩
  | false =>
    rw [if_neg (by decide)]
    go_enter Try.func48, Try.ntmps48
    go_wp2_with (first | (go_at_call 40; refine TF.mono ?_; rintro e w1 ⟨rfl, q, rfl⟩))
    go_ret2
    exact ⟨rfl, q, rfl⟩
/-! ### the oldest write -/
theorem pop_nil.calls (c : Nat) (A : Option Addr) (w : World) (hC : Kd.C k82 w A ([] : List S82).length []) :
    Calls Try.prog 32 #[.slice A ([] : List S82).length c] w fun e w' => ∃ v, e = .returned (.tuple #[.agg #[.int .i64 0, .int .u64 0], v, .bool false]) ∧ Below w.heap.size w w' := by
  have h : buffer_Pop.f [] = some (0, 0, [], false) := by
    unfold buffer_Pop.f
    rw [if_pos (by rfl)]
  exact (buffer_Pop.calls A c [] 0 0 [] false w hC (Nat.zero_le _) h).mono fun e w' ⟨v, h1, _, h3⟩ => ⟨v, h1, h3⟩
theorem pop.calls (A : Option Addr) (c : Nat) (x : S82) (l : List S82) (w : World) (hC : Kd.C k82 w A (x :: l).length (x :: l)) (hc : (x :: l).length ≤ c) (hl : l.length < 8796093022207) :
    Calls Try.prog 32 #[.slice A (x :: l).length c] w fun e w' => ∃ v, e = .returned (.tuple #[.agg #[.int .i64 x.f0, .int .u64 x.f1], v, .bool true]) ∧ Kd.R k82 82 w' w.heap.size (fun _ => True) v l ∧ Below w.heap.size w w' := by
  have h : buffer_Pop.f (x :: l) = some (x.f0, x.f1, l, true) := by
    unfold buffer_Pop.f
    rw [if_neg (by rw [List.length_cons]; omega), if_pos (by rw [List.length_cons]; omega), if_pos (by rw [List.length_cons]; omega)]
    simp only [Option.bind_some, List.drop_succ_cons, List.drop_zero, List.length_nil, Nat.zero_add, List.nil_append]
    rw [if_pos (by omega)]
    rfl
  exact buffer_Pop.calls A c (x :: l) x.f0 x.f1 l true w hC hc h
/-! ### all cells, all output -/
theorem infoU : (Try.prog.info? 26).map (fun i => (i.zero, i.size, i.bytes)) = some (some (.int .u64 0), 1, 8) := by kernel_rfl
theorem cells.calls (mb : Nat) (A : Option Addr) (c : Nat) (xs : List Int) (pv : Value) (n : Int) (w : World) (hm : MBlk w mb (.slice A xs.length c) pv n) (hC : Kd.C kU w A xs.length xs) (hl : xs.length ≤ 17592186044416) :
    Calls Try.prog 14 #[.pointer (some ⟨mb, 0, none⟩)] w fun e w' => ∃ v, e = .returned v ∧ Kd.R kU 26 w' w.heap.size (fun _ => True) v xs ∧ Below w.heap.size w w' := by
  have x0 : w.cell? ⟨mb, 0, none⟩ = some (.slice A xs.length c) := (blk_cell hm 0).trans rfl
  replace hC := Aside0.mk hC
  go_enter Try.func14, Try.ntmps14
  go_wp2_with (at_builtin; refine Kd.R_append_row (Value.int .u64) 0 (w0 := w) w.heap.size rfl (.const (.slice none 0 0)) (.tmp 6) 42 26 (.int .u64 0) 8 rfl Try.underlying42 infoU rfl (by omega) (.slice none 0 0) ([] : List Int) xs A xs.length c (fun _ => True) rfl rfl (fun _ _ => trivial) (Kd.R_nil _ _ _ _ _) hC.out (Below.refl _ _) (Nat.le_refl _) (by simp; omega) ?_; intro v1 w1 ho hb hg hat; have HO := Aside0.mk ho; have HB := Aside0.mk hb; clear ho hb hg hat)
  go_ret
  exact ⟨_, rfl, HO.out, HB.out⟩
theorem output.calls (mb : Nat) (cv pv : Value) (n : Int) (ts : List Nat) (k b : Nat) (w : World) (hm : MBlk w mb cv pv n) (hp : PRow w pv ts) (hk : ts[k]? = some b) (cv2 wv : Value) (A : Option Addr) (c : Nat) (xs : List Int) (at_ : Int) (rs : List Int) (h : Bool) (hl : rs.length = 8)
    (hb : TBlk w b cv2 at_ rs wv (.slice A xs.length c) h) (hC : Kd.C kU w A xs.length xs) (hx : xs.length ≤ 17592186044416) :
    Calls Try.prog 16 #[.pointer (some ⟨mb, 0, none⟩), .int .i64 (k : Int)] w fun e w' => ∃ v, e = .returned v ∧ Kd.R kU 26 w' w.heap.size (fun _ => True) v xs ∧ Below w.heap.size w w' := by
  obtain ⟨hkl, hkb⟩ := List.getElem?_eq_some_iff.mp hk
  have TG := get.calls mb cv pv n ts k w hm hp
  rw [dif_pos ⟨by omega, by omega⟩] at TG
  simp only [Int.toNat_natCast, hkb] at TG
  have y := t_c11 hb hl
  replace hC := Aside0.mk hC
  clear hkb
  go_enter Try.func16, Try.ntmps16
  go_wp2_with (first
    | (go_at_call 29; refine TG.mono ?_; rintro e w1 ⟨rfl, rfl⟩)
    | (at_builtin; refine Kd.R_append_row (Value.int .u64) 0 (w0 := w1) w1.heap.size rfl (.const (.slice none 0 0)) (.tmp 14) 42 26 (.int .u64 0) 8 rfl Try.underlying42 infoU rfl (by omega) (.slice none 0 0) ([] : List Int) xs A xs.length c (fun _ => True) rfl rfl (fun _ _ => trivial) (Kd.R_nil _ _ _ _ _) hC.out (Below.refl _ _) (Nat.le_refl _) (by simp; omega) ?_; intro v1 w2 ho hb; intro hg hat; have HO := Aside0.mk ho; have HB := Aside0.mk hb; clear ho hb hg hat))
  go_ret
  exact ⟨_, rfl, HO.out, HB.out⟩
end Go.Proofs.Ytaenjbhhpdmhgaa.Tso
