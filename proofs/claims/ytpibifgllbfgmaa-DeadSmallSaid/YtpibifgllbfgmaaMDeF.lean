/-
The walks of the law's awake and of the laws DeadOf, DeadTwice, DeadLess. Conditions: as each theorem states them.
-/
import Derived.Test.YtpibifgllbfgmaaMDeE
set_option linter.unusedSimpArgs false
set_option linter.unusedVariables false
namespace Go.Proofs.Ytpibifgllbfgmaa.Pure
open Go.RowKit Go.Proofs.YtpibifgllbfgmaaW.PrintWords Go.Proofs.YtpibifgllbfgmaaW.PrintLast Go.Proofs.YtpibifgllbfgmaaW.PrintMore Go.Proofs.Ytpibifgllbfgmaa.Kit
open Go.Proofs.Ytpibifgllbfgmaa.PDeadOf
open Go.ChangeMaps Go.MapKept
attribute [local go_sem] max2_int min2_int max_two min_two max_three min_three max_four min_four   -- for this text's walks alone
def cl31 (p : S31) : List Value := [.int .i64 p.f0, .int .i64 p.f1, .int .i64 p.f2, .int .i64 p.f3, .int .i64 p.f4, .int .i64 p.f5, .int .u64 p.f6, .int .i64 p.f7]
theorem flat8 : ∀ (xs : List S31) (j : Nat) (p : S31), xs[j]? = some p → ∀ i u, (cl31 p)[i]? = some u → (xs.flatMap cl31)[j * 8 + i]? = some u
  | [], j, p, h, _, _, _ => by simp at h
  | x :: xs, 0, p, h, i, u, hi => by
    obtain rfl : x = p := by simpa using h
    have : i < 8 := (List.getElem?_eq_some_iff.mp hi).1
    rw [List.flatMap_cons, Nat.zero_mul, Nat.zero_add, List.getElem?_append_left this]
    exact hi
  | x :: xs, j + 1, p, h, i, u, hi => by
    have := flat8 xs j p (by simpa using h) i u hi
    rw [List.flatMap_cons, List.getElem?_append_right (by show 8 ≤ _; omega)]
    rw [show (j + 1) * 8 + i - (cl31 x).length = j * 8 + i by show _ - 8 = _; omega]
    exact this
theorem C_lit31 {w : World} {B : Nat} {cells : Array Value} (h : w.heap[B]? = some (.cells cells 31 (0, 0))) (xs : List S31) (hc : cells.toList = xs.flatMap cl31) (hl : xs.length ≤ 1000000) : Kd.C k31 w (some ⟨B, 0, none⟩) xs.length xs :=
  ⟨rfl, by omega, fun _ => ⟨_, rfl, fun j p hj => ⟨cl31 p, rfl, k31_mk w p, fun i u hi => by
    have := flat8 xs j p hj i u hi
    rw [← hc, Array.getElem?_toList] at this
    have e := blk_cell h (j * 8 + i)
    rw [this] at e
    rw [show k31.sz = 8 from rfl, Addr.add_lit, Nat.zero_add]
    exact e⟩⟩⟩
def awX : List S31 := [⟨0, 0, 0, 0, 0, 0, 1, 0⟩, ⟨6, 0, 0, 0, 0, 0, 0, 3⟩, ⟨12, 0, 0, 0, 0, 0, 0, 0⟩, ⟨13, 0, 0, 0, 0, 0, 0, 0⟩]
theorem awX_of : ofS awX = [⟨6, 0, 0, 0, 0, 0, 0, 1⟩, ⟨13, 0, 0, 0, 0, 0, 0, 0⟩] := by decide +kernel
set_option maxHeartbeats 4000000 in
set_option maxRecDepth 100000 in
theorem awake.calls (w : World) : Calls Try.prog 7 #[] w fun e w' => e = .returned (.bool true) ∧ Below w.heap.size w w' := by
  go_enter Try.func7, Try.ntmps7
  have e1 := heap_alloc_new w (Obj.cells (awX.flatMap cl31).toArray 31 (0, 0))
  have hb1 : Below w.heap.size w (w.alloc (Obj.cells (awX.flatMap cl31).toArray 31 (0, 0))) := below_alloc (Below.refl _ _) _
  have hC := C_lit31 e1 awX (by simp) (by decide)
  have TO := of.calls awX (some ⟨w.heap.size, 0, none⟩) 4 _ hC (by decide) (by decide)
  rw [awX_of] at TO
  go_upto_region 2 with (first
    | (go_at_call 10; refine TO.mono ?_; rintro e w2 ⟨v2, rfl, hR, hb2⟩; obtain ⟨A2, c2, hv2, hc2, hC2⟩ := Kd.R_reads hR; replace hv2 : v2 = .slice A2 2 c2 := hv2; subst hv2)
    | go_in)
  clear TO hC e1
  obtain ⟨ad, eA, x0, x1, x2, x3, x4, x5, x6, x7⟩ := at_T31 hC2 0 (by decide) (by decide)
  cases eA
  obtain ⟨ad2, eA2, y0, y1, y2, y3, y4, y5, y6, y7⟩ := at_T31 hC2 1 (by decide) (by decide)
  cases eA2
  have z0 : w2.cell? ad = some (.int .i64 6) := x0
  have z7 : w2.cell? ⟨ad.block, ad.off + 7, none⟩ = some (.int .i64 1) := x7
  have z8 : w2.cell? ⟨ad.block, ad.off + 8, none⟩ = some (.int .i64 13) := y0
  clear x0 x1 x2 x3 x4 x5 x6 x7 y0 y1 y2 y3 y4 y5 y6 y7 hR hC2 hc2
  go_wp2
  go_ret
  exact ⟨rfl, hb1.trans (hb2.mono hb1.size)⟩
theorem ofL_stop : ∀ (f : Nat) (l : List S31), goodS l → l.length ≤ f → goodS (ofL f l) ∧ ((oneS (ofL f l)).length = (ofL f l).length ∨ ¬ goodS (oneS (ofL f l))) ∧ (ofL f l).length ≤ l.length
  | 0, l, hg, hf => by have := hg.1; omega
  | f + 1, l, hg, hf => by
    rw [ofL]
    by_cases h : (oneS l).length = l.length ∨ ¬ goodS (oneS l)
    · rw [if_pos h]; exact ⟨hg, h, Nat.le_refl _⟩
    · rw [if_neg h]
      have hgo : goodS (oneS l) := Decidable.byContradiction fun hn => h (.inr hn)
      have hle := oneS_len l
      have hne : (oneS l).length ≠ l.length := fun e => h (.inl e)
      obtain ⟨h1, h2, h3⟩ := ofL_stop f (oneS l) hgo (by omega)
      exact ⟨h1, h2, by omega⟩
theorem ofS_twice (l : List S31) : ofS (ofS l) = ofS l := by
  by_cases hg : goodS l
  · have e : ofS l = ofL l.length l := by unfold ofS; rw [if_pos hg]
    obtain ⟨h1, h2, h3⟩ := ofL_stop l.length l hg (Nat.le_refl _)
    rw [← e] at h1 h2
    generalize ofS l = r at h1 h2
    unfold ofS
    rw [if_pos h1]
    obtain ⟨n, hn⟩ : ∃ n, r.length = n + 1 := ⟨r.length - 1, by have := h1.1; omega⟩
    rw [hn, ofL, if_pos h2]
  · have e : ofS l = l := by unfold ofS; rw [if_neg hg]
    rw [e, e]
theorem ofS_len (l : List S31) : (ofS l).length ≤ l.length := by
  by_cases hg : goodS l
  · unfold ofS; rw [if_pos hg]; exact (ofL_stop l.length l hg (Nat.le_refl _)).2.2
  · unfold ofS; rw [if_neg hg]; exact Nat.le_refl _
theorem lastS_snoc (l : List S31) (x : S31) : lastS (l ++ [x]) = x.f0 := by
  unfold lastS
  have e : (((l ++ [x]).length : Int) - 1) = ((l.length : Nat) : Int) := by rw [List.length_append]; simp
  rw [e, rdT_at _ _ (by simp)]
  simp
theorem smallS_len (l : List S31) : (smallS l).length ≤ 31 ∧ 0 < (smallS l).length := by
  unfold smallS; rw [List.length_append, List.length_map, List.length_take]; simp; omega
theorem small_good (l : List S31) : goodS (smallS l) := by
  have hlen := smallS_len l
  refine ⟨by omega, by omega, ?_, fun x hx => ?_⟩
  · left; unfold smallS; exact lastS_snoc _ _
  · have hn : ((smallS l).length : Int) = ((l.take 30).length : Int) + 1 := by unfold smallS; rw [List.length_append, List.length_map]; rfl
    unfold gcX gcS
    rw [hn]
    rw [smallS, List.mem_append] at hx
    have hb : ∀ z : Int, 0 ≤ z % 8 ∧ z % 8 < 8 := fun z => by omega
    rcases hx with hx | hx
    · rw [List.mem_map] at hx
      obtain ⟨y, _, rfl⟩ := hx
      have h0 : 0 ≤ y.f0 % 14 ∧ y.f0 % 14 < 14 := by omega
      have h1 : 0 ≤ y.f1 % 10 ∧ y.f1 % 10 < 10 := by omega
      have h7 : 0 ≤ y.f7 % (((l.take 30).length : Int) + 1) ∧ y.f7 % (((l.take 30).length : Int) + 1) < ((l.take 30).length : Int) + 1 := ⟨Int.emod_nonneg _ (by omega), Int.emod_lt_of_pos _ (by omega)⟩
      refine ⟨h0.1, by show y.f0 % 14 ≤ 13; omega, fun _ => ⟨h1.1, by show y.f1 % 10 ≤ 9; omega⟩, fun _ => h7, fun _ => ⟨(hb y.f2).1, by show y.f2 % 8 ≤ 65535; have := hb y.f2; omega⟩, ?_⟩
      have hall : ∀ u ∈ usesS (smallX ((l.take 30).length : Int) y).f0 (smallX ((l.take 30).length : Int) y).f3 (smallX ((l.take 30).length : Int) y).f4 (smallX ((l.take 30).length : Int) y).f5, 0 ≤ u ∧ u ≤ 65535 := by
        have e3 : (smallX ((l.take 30).length : Int) y).f3 = if y.f6 % 3 = 0 ∧ (y.f0 % 14 = 4 ∨ y.f0 % 14 = 5) then -1 else y.f3 % 8 := rfl
        have e0 : (smallX ((l.take 30).length : Int) y).f0 = y.f0 % 14 := rfl
        have e4 : (smallX ((l.take 30).length : Int) y).f4 = y.f4 % 8 := rfl
        have e5 : (smallX ((l.take 30).length : Int) y).f5 = y.f5 % 8 := rfl
        rw [e0, e3, e4, e5]
        have b3 := hb y.f3
        have b4 := hb y.f4
        have b5 := hb y.f5
        generalize y.f3 % 8 = a3 at b3 ⊢
        generalize y.f4 % 8 = a4 at b4 ⊢
        generalize y.f5 % 8 = a5 at b5 ⊢
        generalize y.f0 % 14 = a0 at h0 ⊢
        intro u hu
        by_cases hc : y.f6 % 3 = 0 ∧ (a0 = 4 ∨ a0 = 5)
        · rw [if_pos hc] at hu
          unfold usesS at hu
          (repeat' split at hu) <;> simp at hu <;> omega
        · rw [if_neg hc] at hu
          unfold usesS at hu
          (repeat' split at hu) <;> simp at hu <;> omega
      unfold U16
      rw [List.all_eq_true]
      exact fun u hu => decide_eq_true (hall u hu)
    · simp only [List.mem_singleton] at hx
      subst hx
      refine ⟨by decide, by decide, fun h => absurd h (by decide), fun h => absurd h (by decide), fun h => absurd h (by decide), by decide⟩
set_option maxHeartbeats 4000000 in
set_option maxRecDepth 100000 in
theorem deadOf.calls (l : List S31) (A : Option Addr) (c : Nat) (w : World) (hC : Kd.C k31 w A l.length l) (hc : l.length ≤ c) (hl : l.length ≤ 9223372036854775806) (hu : ∀ x ∈ l, 0 ≤ x.f6 ∧ x.f6 ≤ 18446744073709551615) :
    Calls Try.prog 3 #[.slice A l.length c] w fun e w' => e = .returned (.bool true) ∧ Below w.heap.size w w' := by
  have hsl := (smallS_len l).1
  have hol := ofS_len (smallS l)
  have TS := fun (wx : World) (h : Below w.heap.size w wx) => small.calls l A c wx (Kd.C_below hC h) hc hl hu
  generalize smallS l = s at TS hsl hol
  obtain ⟨q, hq⟩ : ∃ q, q = ofS s := ⟨_, rfl⟩
  rw [← hq] at hol
  obtain ⟨ke, hke⟩ : ∃ k, tautochronelaw15_Equal.f k q q = some true := by
    have := eq2_ev q q (by omega)
    rw [decide_eq_true rfl] at this
    exact Ev.rounds this
  have TO := fun (wx : World) (Ax : Option Addr) (cx : Nat) (h : Kd.C k31 wx Ax s.length s) (h2 : s.length ≤ cx) => of.calls s Ax cx wx h h2 (by omega)
  have TW := fun (wx : World) (Ax : Option Addr) (cx : Nat) (h : Kd.C k31 wx Ax s.length s) (h2 : s.length ≤ cx) => want.calls s Ax cx wx h h2 (by omega)
  rw [← hq] at TO TW
  replace hq := Aside0.mk hq
  replace hke := Aside0.mk hke
  replace TO := Aside0.mk TO
  replace TW := Aside0.mk TW
  replace TS := Aside0.mk TS
  go_enter Try.func3, Try.ntmps3
  go_wp2_with (first
    | (go_at_call 7; refine (awake.calls _).mono ?_; rintro e w1 ⟨rfl, hb1⟩)
    | (go_at_call 8; refine (TS.out w1 hb1).mono ?_; rintro e w2 ⟨v2, rfl, hR2, hb2⟩; have HB2 := hb1.trans (hb2.mono hb1.size); obtain ⟨A2, c2, rfl, hc2, hC2⟩ := Kd.R_reads hR2)
    | (go_at_call 10; refine (TO.out w2 A2 c2 hC2 hc2).mono ?_; rintro e w3 ⟨v3, rfl, hR3, hb3⟩; have HB3 := HB2.trans (hb3.mono HB2.size); obtain ⟨A3, c3, rfl, hc3, hC3⟩ := Kd.R_reads hR3)
    | (go_at_call 11; refine (TW.out w3 A2 c2 (Kd.C_below hC2 hb3) hc2).mono ?_; rintro e w4 ⟨v4, rfl, hR4, hb4⟩; have HB4 := HB3.trans (hb4.mono HB3.size); obtain ⟨A4, c4, rfl, hc4, hC4⟩ := Kd.R_reads hR4)
    | (go_at_call 9; refine (tautochronelaw15_Equal.calls ke A3 c3 q A4 c4 q true w4 (Kd.C_below hC3 hb4) hc3 hC4 hc4 hke.out).mono ?_; rintro e w5 ⟨rfl, hd5⟩; have HB5 := HB4.trans (hd5.below.mono HB4.size)))
  go_ret
  exact ⟨rfl, HB5⟩

theorem eq_some (q : List S31) (h : q.length ≤ 1000000) : ∃ k, tautochronelaw15_Equal.f k q q = some true := by
  have := eq2_ev q q (by omega)
  rw [decide_eq_true rfl] at this
  exact Ev.rounds this
set_option maxHeartbeats 4000000 in
set_option maxRecDepth 100000 in
theorem deadLess.calls (l : List S31) (A : Option Addr) (c : Nat) (w : World) (hC : Kd.C k31 w A l.length l) (hc : l.length ≤ c) (hl : l.length ≤ 9223372036854775806) (hu : ∀ x ∈ l, 0 ≤ x.f6 ∧ x.f6 ≤ 18446744073709551615) :
    Calls Try.prog 5 #[.slice A l.length c] w fun e w' => e = .returned (.bool true) ∧ Below w.heap.size w w' := by
  have hsl := (smallS_len l).1
  have hol := ofS_len (smallS l)
  have hst := ofL_stop (smallS l).length (smallS l) (small_good l) (Nat.le_refl _)
  have hof : ofS (smallS l) = ofL (smallS l).length (smallS l) := by unfold ofS; rw [if_pos (small_good l)]
  rw [← hof] at hst
  have TS := fun (wx : World) (h : Below w.heap.size w wx) => small.calls l A c wx (Kd.C_below hC h) hc hl hu
  clear hof
  generalize smallS l = s at TS hsl hol hst
  obtain ⟨q, hq⟩ : ∃ q, q = ofS s := ⟨_, rfl⟩
  rw [← hq] at hol hst
  have TO := fun (wx : World) (Ax : Option Addr) (cx : Nat) (h : Kd.C k31 wx Ax s.length s) (h2 : s.length ≤ cx) => of.calls s Ax cx wx h h2 (by omega)
  rw [← hq] at TO
  obtain ⟨hgq, hstop, _⟩ := hst
  obtain ⟨kg, hkg⟩ := good_some (decide_eq_true hgq) (by omega)
  have TG := fun (wx : World) (Ax : Option Addr) (cx : Nat) (h : Kd.C k31 wx Ax q.length q) (h2 : q.length ≤ cx) => code_Good.calls kg Ax cx q true wx h h2 hkg
  have T1 := fun (wx : World) (Ax : Option Addr) (cx : Nat) (h : Kd.C k31 wx Ax q.length q) (h2 : q.length ≤ cx) => once.calls q Ax cx wx h h2 hgq
  have hon := oneS_len q
  obtain ⟨nq, hnq⟩ : ∃ nq, nq = oneS q := ⟨_, rfl⟩
  rw [← hnq] at hstop T1 hon
  have hle : ¬ (q.length : Int) > (s.length : Int) := by omega
  replace hq := Aside0.mk hq
  replace hnq := Aside0.mk hnq
  replace TO := Aside0.mk TO
  replace TG := Aside0.mk TG
  replace T1 := Aside0.mk T1
  replace TS := Aside0.mk TS
  replace hstop := Aside0.mk hstop
  replace hgq := Aside0.mk hgq
  replace hkg := Aside0.mk hkg
  replace hol := Aside0.mk hol
  replace hon := Aside0.mk hon
  go_enter Try.func5, Try.ntmps5
  go_upto_region 5 with (first
    | (go_at_call 7; refine (awake.calls _).mono ?_; rintro e w1 ⟨rfl, hb1⟩)
    | (go_at_call 8; refine (TS.out w1 hb1).mono ?_; rintro e w2 ⟨v2, rfl, hR2, hb2⟩; have HB2 := hb1.trans (hb2.mono hb1.size); obtain ⟨A2, c2, rfl, hc2, hC2⟩ := Kd.R_reads hR2)
    | (go_at_call 10; refine (TO.out w2 A2 c2 hC2 hc2).mono ?_; rintro e w3 ⟨v3, rfl, hR3, hb3⟩; have HB3 := HB2.trans (hb3.mono HB2.size); obtain ⟨A3, c3, rfl, hc3, hC3⟩ := Kd.R_reads hR3)
    | go_in)
  go_upto_region 7 with (first
    | (go_at_call 12; refine (TG.out w3 A3 c3 hC3 hc3).mono ?_; rintro e w4 ⟨rfl, hb4⟩; have HB4 := HB3.trans (hb4.mono HB3.size); have hC3 := Kd.C_below hC3 hb4)
    | go_in)
  by_cases hn : nq.length = q.length
  · have hni : (nq.length : Int) = (q.length : Int) := by omega
    replace hn := Aside0.mk hn
    go_wp2_with (first
      | (go_at_call 13; refine (T1.out w4 A3 c3 hC3 hc3).mono ?_; rintro e w5 ⟨v5, rfl, hR5, hb5⟩; have HB5 := HB4.trans (hb5.mono HB4.size); obtain ⟨A5, c5, rfl, hc5, hC5⟩ := Kd.R_reads hR5))
    go_ret
    exact ⟨rfl, HB5⟩
  · have hni : ¬ (nq.length : Int) = (q.length : Int) := by omega
    have hgn : ¬ goodS nq := hstop.out.resolve_left hn
    obtain ⟨kn, hkn⟩ := good_some (decide_eq_false hgn) (by have := hon.out; have := hol.out; omega)
    have TN := fun (wx : World) (Ax : Option Addr) (cx : Nat) (h : Kd.C k31 wx Ax nq.length nq) (h2 : nq.length ≤ cx) => code_Good.calls kn Ax cx nq false wx h h2 hkn
    replace TN := Aside0.mk TN
    replace hgn := Aside0.mk hgn
    clear hn hkn
    go_upto_region 8 with (first
      | (go_at_call 13; (first
          | (refine (T1.out w4 A3 c3 hC3 hc3).mono ?_; rintro e w5 ⟨v5, rfl, hR5, hb5⟩; have HB5 := HB4.trans (hb5.mono HB4.size); have tok5 := HB5.size; obtain ⟨A5, c5, rfl, hc5, hC5⟩ := Kd.R_reads hR5)
          | (refine (T1.out w5 A3 c3 (Kd.C_below hC3 hb5) hc3).mono ?_; rintro e w6 ⟨v6, rfl, hR6, hb6⟩; have HB6 := HB5.trans (hb6.mono HB5.size); obtain ⟨A6, c6, rfl, hc6, hC6⟩ := Kd.R_reads hR6)))
      | (go_at_call 12; refine (TN.out w6 A6 c6 hC6 hc6).mono ?_; rintro e w7 ⟨rfl, hb7⟩; have HB7 := HB6.trans (hb7.mono HB6.size))
      | go_in)
    go_wp2
    go_ret
    exact ⟨rfl, HB7⟩
/-- A copy of a row of codes, and what stays. -/
theorem copy31g {ops : Array Oper} {rest : List Oper} {o : Oper} {a : Act} {Q : Exit → Act → World → Prop} {w0 W : World} (base : Nat) (hgd : o.guard = none) (x : Operand)
    (ho : o.op = .call { callee := .builtin .append, args := #[.const (.slice none 0 0), x], argTypes := #[22, 22] }) (l : List S31) (A : Option Addr) (c : Nat) (hs : a.eval (.const (.slice none 0 0)) = .slice none 0 0) (hx : a.eval x = .slice A l.length c)
    (HR : Kd.C k31 W A l.length l) (HB : Below base w0 W) (hbase : base ≤ W.heap.size) (hl : l.length ≤ 1000000)
    (h : ∀ v1 w1, Kd.R k31 31 w1 base (fun _ => True) v1 l → Below base w0 w1 → W.grownBy w1 (Value.slice none 0 0).ownBlock → (v1.ownBlock = (Value.slice none 0 0).ownBlock ∨ ∃ b, v1.ownBlock = some b ∧ W.heap.size ≤ b) → wpList Try.prog ops Q rest (a.put o.dst v1) w1) : wpList Try.prog ops Q (o :: rest) a W :=
  Kd.R_append_rows k31 (w0 := w0) base hgd (.const (.slice none 0 0)) x 22 31 (.agg #[(.int .i64 0), (.int .i64 0), (.int .i64 0), (.int .i64 0), (.int .i64 0), (.int .i64 0), (.int .u64 0), (.int .i64 0)]) 64 ho Try.underlying22 info31 rfl (by decide) (by omega) (.slice none 0 0) ([] : List S31) l A _ c (fun _ => True) (fun _ => False) hs hx
    (Kd.R_nil _ _ _ _ _) HR (fun _ _ h => h) (fun _ h => h.elim) (fun _ _ => trivial) HB hbase (by simp; omega) (fun v1 w1 h1 h2 h3 h4 => h v1 w1 (by simpa using h1) h2 h3 h4)
def tellX : S31 := ⟨12, 0, 0, -1, 0, 0, 0, 0⟩
theorem bad_of (l : List S31) : ofS (l ++ [tellX]) = l ++ [tellX] := by
  unfold ofS
  rw [if_neg]
  intro h
  have := h.2.2.1
  rw [lastS_snoc] at this
  rcases this with h | h <;> exact absurd h (by decide)
theorem nil_of : ofS [] = [] := by unfold ofS; rw [if_neg (fun h => h.1 rfl)]
set_option maxHeartbeats 4000000 in
set_option maxRecDepth 100000 in
theorem deadTwice.calls (l : List S31) (A : Option Addr) (c : Nat) (w : World) (hC : Kd.C k31 w A l.length l) (hc : l.length ≤ c) (hl : l.length ≤ 9223372036854775806) (hu : ∀ x ∈ l, 0 ≤ x.f6 ∧ x.f6 ≤ 18446744073709551615) :
    Calls Try.prog 4 #[.slice A l.length c] w fun e w' => e = .returned (.bool true) ∧ Below w.heap.size w w' := by
  have hsl := (smallS_len l).1
  have hol := ofS_len (smallS l)
  have htw := ofS_twice (smallS l)
  have TS := fun (wx : World) (h : Below w.heap.size w wx) => small.calls l A c wx (Kd.C_below hC h) hc hl hu
  generalize smallS l = s at TS hsl hol htw
  obtain ⟨q, hq⟩ : ∃ q, q = ofS s := ⟨_, rfl⟩
  have TO := fun (wx : World) (Ax : Option Addr) (cx : Nat) (h : Kd.C k31 wx Ax s.length s) (h2 : s.length ≤ cx) => of.calls s Ax cx wx h h2 (by omega)
  rw [← hq] at hol htw TO
  obtain ⟨ke, hke⟩ := eq_some q (by omega)
  have TQ := fun (wx : World) (Ax : Option Addr) (cx : Nat) (h : Kd.C k31 wx Ax q.length q) (h2 : q.length ≤ cx) => of.calls q Ax cx wx h h2 (by omega)
  rw [htw] at TQ
  have TE := fun (wx : World) (Ax : Option Addr) (cx : Nat) (By : Option Addr) (cy : Nat) (h : Kd.C k31 wx Ax q.length q) (h2 : q.length ≤ cx) (h3 : Kd.C k31 wx By q.length q) (h4 : q.length ≤ cy) => tautochronelaw15_Equal.calls ke Ax cx q By cy q true wx h h2 h3 h4 hke
  obtain ⟨T, hT⟩ : ∃ T, T = l.take 50 := ⟨_, rfl⟩
  have hT50 : T.length ≤ 50 := by rw [hT, List.length_take]; omega
  have hTl : T.length ≤ l.length := by rw [hT, List.length_take]; omega
  have hmn : (if (50 : Int) < (l.length : Int) then 50 else (l.length : Int)) = (T.length : Int) := by rw [hT, List.length_take]; split <;> omega
  have hTi0 : (0 : Int) ≤ (T.length : Int) := by omega
  have hTi1 : (T.length : Int) ≤ (l.length : Int) := by omega
  obtain ⟨i020, hi020, _, hsz20, _⟩ := info_parts info31
  have hcut := cut_to (P := Try.prog) 22 31 .i64 Try.underlying22 hi020 A l.length c (T.length : Int) hTi0 hTi1 hc
  rw [Int.toNat_natCast] at hcut
  have hCT : k31.C w A T.length T := by
    have := Kd.C_take (m := T.length) hC (by omega)
    have e : l.take T.length = T := by
      rw [hT, List.length_take]
      by_cases h : l.length ≤ 50
      · rw [Nat.min_eq_right h, List.take_of_length_le (Nat.le_refl _), List.take_of_length_le h]
      · rw [Nat.min_eq_left (by omega)]
    rw [e] at this
    exact this
  have hbl : (T ++ [tellX]).length ≤ 51 := by rw [List.length_append]; simp; omega
  obtain ⟨kb, hkb⟩ := eq_some (T ++ [tellX]) (by omega)
  have TB := fun (wx : World) (Ax : Option Addr) (cx : Nat) (h : Kd.C k31 wx Ax (T ++ [tellX]).length (T ++ [tellX])) (h2 : (T ++ [tellX]).length ≤ cx) => of.calls (T ++ [tellX]) Ax cx wx h h2 (by omega)
  rw [bad_of] at TB
  have TF := fun (wx : World) (Ax : Option Addr) (cx : Nat) (By : Option Addr) (cy : Nat) (h : Kd.C k31 wx Ax (T ++ [tellX]).length (T ++ [tellX])) (h2 : (T ++ [tellX]).length ≤ cx) (h3 : Kd.C k31 wx By (T ++ [tellX]).length (T ++ [tellX])) (h4 : (T ++ [tellX]).length ≤ cy) => tautochronelaw15_Equal.calls kb Ax cx (T ++ [tellX]) By cy (T ++ [tellX]) true wx h h2 h3 h4 hkb
  obtain ⟨bd, hbd⟩ : ∃ b, b = T ++ [tellX] := ⟨_, rfl⟩
  rw [← hbd] at TB TF
  have TZ := fun (wx : World) => of.calls [] none 0 wx (Kd.C_nil k31 wx) (Nat.le_refl _) (by decide)
  rw [nil_of] at TZ
  clear hke hkb hsl hol hbl hsz20 hi020
  replace hq := Aside0.mk hq
  replace htw := Aside0.mk htw
  replace hT := Aside0.mk hT
  replace hbd := Aside0.mk hbd
  replace TO := Aside0.mk TO
  replace TQ := Aside0.mk TQ
  replace TE := Aside0.mk TE
  replace TB := Aside0.mk TB
  replace TF := Aside0.mk TF
  replace TZ := Aside0.mk TZ
  replace TS := Aside0.mk TS
  go_enter Try.func4, Try.ntmps4
  go_upto_region 5 with (first
    | (go_at_call 7; refine (awake.calls _).mono ?_; rintro e w1 ⟨rfl, hb1⟩)
    | (go_at_call 8; refine (TS.out w1 hb1).mono ?_; rintro e w2 ⟨v2, rfl, hR2, hb2⟩; have HB2 := hb1.trans (hb2.mono hb1.size); obtain ⟨A2, c2, rfl, hc2, hC2⟩ := Kd.R_reads hR2)
    | (go_at_call 10; refine (TO.out w2 A2 c2 hC2 hc2).mono ?_; rintro e w3 ⟨v3, rfl, hR3, hb3⟩; have HB3 := HB2.trans (hb3.mono HB2.size); obtain ⟨A3, c3, rfl, hc3, hC3⟩ := Kd.R_reads hR3)
    | go_in)
  replace hmn := Aside0.mk hmn
  have hR3 := Aside0.mk hR3
  go_upto_region 6 with (first
    | (at_builtin; refine copy31g (w0 := w) w.heap.size rfl (.tmp 16) rfl T A c rfl rfl (Kd.C_below hCT HB3) HB3 HB3.size (by omega) ?_; intro v4 w4 hR4 HB4 hg4 hat4)
    | (at_builtin; go_loud (refine push31 (w0 := w) w.heap.size rfl (.tmp 17) (.tmp 19) rfl v4 T tellX rfl (by first | rfl | (go_simp; done) | (go_simp; rfl)) hR4 HB4 HB4.size (by omega) ?_; intro v5 w5 hR5 HB5 hg5 hat5))
    | go_in)
  have hR3 := Kd.R_after (Kd.R_after (ok := fun _ => True) (Kd.R_mono hR3.out (fun _ _ => ⟨trivial, by simp [Value.ownBlock]⟩)) hg4 hat4) hg5 hat5
  clear hR4 HB4 hg4 hat4 hg5 hat5 hC3 HB3 hR2 hC2 HB2
  obtain ⟨_, hc3', hC3⟩ := Kd.R_reads' hR3
  rw [← hbd.out] at hR5
  obtain ⟨A5, c5, rfl, hc5, hC5⟩ := Kd.R_reads hR5
  clear hR3 hR5
  go_wp2_with (first
    | (go_at_call 10; (first
        | (refine (TZ.out w9).mono ?_; rintro e w10 ⟨v10, rfl, hR10, hb10⟩; have HB10 := HB9.trans (hb10.mono HB9.size); obtain ⟨A10, c10, hv10, hc10, hC10⟩ := Kd.R_reads hR10; replace hv10 : v10 = .slice A10 0 c10 := hv10; subst hv10)
        | (refine (TB.out w7 A5 c5 (Kd.C_below (Kd.C_below hC5 hb6) hb7) hc5).mono ?_; rintro e w8 ⟨v8, rfl, hR8, hb8⟩; have HB8 := HB7.trans (hb8.mono HB7.size); obtain ⟨A8, c8, rfl, hc8, hC8⟩ := Kd.R_reads hR8)
        | (refine (TQ.out w5 A3 c3 hC3 hc3).mono ?_; rintro e w6 ⟨v6, rfl, hR6, hb6⟩; have HB6 := HB5.trans (hb6.mono HB5.size); obtain ⟨A6, c6, rfl, hc6, hC6⟩ := Kd.R_reads hR6)))
    | (go_at_call 9; (first
        | (refine (TF.out w8 A8 c8 A5 c5 hC8 hc8 (Kd.C_below (Kd.C_below (Kd.C_below hC5 hb6) hb7) hb8) hc5).mono ?_; rintro e w9 ⟨rfl, hd9⟩; have HB9 := HB8.trans (hd9.below.mono HB8.size))
        | (refine (TE.out w6 A6 c6 A3 c3 hC6 hc6 (Kd.C_below hC3 hb6) hc3).mono ?_; rintro e w7 ⟨rfl, hd7⟩; have hb7 := hd7.below; have HB7 := HB6.trans (hb7.mono HB6.size)))))
  go_ret
  exact ⟨rfl, HB10⟩
end Go.Proofs.Ytpibifgllbfgmaa.Pure
