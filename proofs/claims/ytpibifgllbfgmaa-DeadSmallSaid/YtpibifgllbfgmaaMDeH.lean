/-
The walk of the law DeadSmall. Conditions: as each theorem states them.
-/
import Derived.Test.YtpibifgllbfgmaaMDeG
set_option linter.unusedSimpArgs false
set_option linter.unusedVariables false
namespace Go.Proofs.Ytpibifgllbfgmaa.Pure
open Go.RowKit Go.Proofs.YtpibifgllbfgmaaW.PrintWords Go.Proofs.YtpibifgllbfgmaaW.PrintLast Go.Proofs.YtpibifgllbfgmaaW.PrintMore Go.Proofs.Ytpibifgllbfgmaa.Kit
open Go.Proofs.Ytpibifgllbfgmaa.PDeadOf
open Go.ChangeMaps Go.MapKept
attribute [local go_sem] max2_int min2_int max_two min_two max_three min_three max_four min_four   -- for this text's walks alone
theorem retX_u (n : Nat) (N : List Bool) (x : S31) (h : U64 x.f6) : U64 (retX n N x).f6 := by
  unfold retX; split <;> exact h
theorem keepS_u (l : List S31) (N : List Bool) (hu : ∀ x ∈ l, U64 x.f6) : ∀ x ∈ keepS l N, U64 x.f6 := by
  intro x hx
  unfold keepS at hx
  rw [List.mem_flatMap] at hx
  obtain ⟨p, hp, hx⟩ := hx
  have hp1 : p.1 ∈ l := (List.of_mem_zip hp).1
  unfold kF at hx
  split at hx
  · obtain rfl := List.mem_singleton.mp hx
    exact retX_u _ _ _ (hu _ hp1)
  · simp at hx
theorem ofL_u : ∀ (f : Nat) (l : List S31), (∀ x ∈ l, U64 x.f6) → ∀ x ∈ ofL f l, U64 x.f6
  | 0, l, hu => hu
  | f + 1, l, hu => by
    rw [ofL]
    split
    · exact hu
    · exact ofL_u f (oneS l) (keepS_u l _ hu)
theorem smallS_u (l : List S31) (hu : ∀ x ∈ l, U64 x.f6) : ∀ x ∈ smallS l, U64 x.f6 := by
  intro x hx
  unfold smallS at hx
  rw [List.mem_append] at hx
  rcases hx with hx | hx
  · rw [List.mem_map] at hx
    obtain ⟨y, hy, rfl⟩ := hx
    have := hu y (List.mem_of_mem_take hy)
    show U64 (y.f6 % 8)
    unfold U64 at this ⊢
    omega
  · simp only [List.mem_singleton] at hx
    subst hx
    exact ⟨by decide, by decide⟩
theorem same_ev2 (a : List Int) (hl : a.length ≤ 9223372036854775807) : Ev (fun k => tautochronelaw11_Same.f k a a) true := by
  unfold tautochronelaw11_Same.f
  refine Ev.pos rfl ?_
  have key : ∀ (m i : Nat), i + m = a.length → Ev (fun k => tautochronelaw11_Same.l0 k a a (a.length : Int) (i : Int)) true := by
    intro m
    induction m with
    | zero => intro i hi; exact Ev.step (fun k => tautochronelaw11_Same.l0.eq_2 ..) (Ev.neg (by omega) (Ev.done rfl))
    | succ m ih =>
      intro i hi
      refine Ev.step (fun k => tautochronelaw11_Same.l0.eq_2 ..) (Ev.pos (by omega) (Ev.pos (by omega) (Ev.pos (by omega) (Ev.pos (by omega) (Ev.pos rfl ?_)))))
      rw [nxt i (by omega)]
      exact ih (i + 1) (by omega)
  exact key a.length 0 (by omega)
theorem same_some (a : List Int) (hl : a.length ≤ 9223372036854775807) : ∃ k, tautochronelaw11_Same.f k a a = some true := Ev.rounds (same_ev2 a hl)
set_option maxHeartbeats 4000000 in
set_option maxRecDepth 100000 in
theorem deadSmall.calls (l : List S31) (A : Option Addr) (c : Nat) (cs : List Int) (Ac : Option Addr) (cc : Nat) (w : World) (hC : Kd.C k31 w A l.length l) (hc : l.length ≤ c) (hl : l.length ≤ 9223372036854775806) (hu : ∀ x ∈ l, 0 ≤ x.f6 ∧ x.f6 ≤ 18446744073709551615)
    (hO : Kd.C (Kd.int .u64) w Ac cs.length cs) (hcc : cs.length ≤ cc) (hcu : ∀ v ∈ cs, U64 v) :
    Calls Try.prog 6 #[.slice A l.length c, .slice Ac cs.length cc] w fun e w' => e = .returned (.bool true) ∧ Below w.heap.size w w' := by
  have hsl := (smallS_len l).1
  have hsg := small_good l
  have hsu := smallS_u l hu
  have TS := fun (wx : World) (h : Below w.heap.size w wx) => small.calls l A c wx (Kd.C_below hC h) hc hl hu
  generalize smallS l = s at TS hsl hsg hsu
  have hst := ofL_stop s.length s hsg (Nat.le_refl _)
  have hqu := ofL_u s.length s hsu
  have hsim := fun (out : List Int) (r : List Int × List Int) => simS (ap := apS) (l := s) 500 out r
  have hof : ofS s = ofL s.length s := by unfold ofS; rw [if_pos hsg]
  rw [← hof] at hst hqu
  obtain ⟨q, hq⟩ : ∃ q, q = ofS s := ⟨_, rfl⟩
  have TO := fun (wx : World) (Ax : Option Addr) (cx : Nat) (h : Kd.C k31 wx Ax s.length s) (h2 : s.length ≤ cx) => of.calls s Ax cx wx h h2 (by omega)
  rw [← hq] at hst hqu hsim TO
  have hqg := hst.1
  clear hst hof hq
  obtain ⟨T, hT⟩ : ∃ T, T = cs.take 8 := ⟨_, rfl⟩
  have hT8 : T.length ≤ 8 := by rw [hT, List.length_take]; omega
  have hTl : T.length ≤ cs.length := by rw [hT, List.length_take]; omega
  have hmn : (if (8 : Int) < (cs.length : Int) then 8 else (cs.length : Int)) = (T.length : Int) := by rw [hT, List.length_take]; split <;> omega
  have hTi0 : (0 : Int) ≤ (T.length : Int) := by omega
  have hTi1 : (T.length : Int) ≤ (cs.length : Int) := by omega
  obtain ⟨i020, hi020, _, hsz20, _⟩ := info_parts info29
  have hcut := cut_to (P := Try.prog) 32 29 .i64 Try.underlying32 hi020 Ac cs.length cc (T.length : Int) hTi0 hTi1 hcc
  rw [Int.toNat_natCast] at hcut
  have hCT : (Kd.int .u64).C w Ac T.length T := by
    have := Kd.C_take (m := T.length) hO (by omega)
    have e : cs.take T.length = T := by
      rw [hT, List.length_take]
      by_cases h : cs.length ≤ 8
      · rw [Nat.min_eq_right h, List.take_of_length_le (Nat.le_refl _), List.take_of_length_le h]
      · rw [Nat.min_eq_left (by omega)]
    rw [e] at this
    exact this
  have hTu : ∀ v ∈ T, U64 v := fun v hv => hcu v (List.mem_of_mem_take (hT ▸ hv))
  obtain ⟨st, hst⟩ : ∃ st, st = T ++ List.replicate 16 (0 : Int) := ⟨_, rfl⟩
  have hsl2 : 0 < st.length ∧ st.length ≤ 1000 := by rw [hst, List.length_append, List.length_replicate]; omega
  have hstu : ∀ v ∈ st, U64 v := fun v hv => by
    rw [hst, List.mem_append] at hv
    rcases hv with hv | hv
    · exact hTu v hv
    · rw [(List.mem_replicate.mp hv).2]; exact ⟨by decide, by decide⟩
  have hsim := hsim st
  have TR := fun (wx : World) (Ax : Option Addr) (cx : Nat) (By : Option Addr) (cy : Nat) (h : Kd.C k31 wx Ax s.length s) (h2 : s.length ≤ cx) (h3 : Kd.C (Kd.int .u64) wx By st.length st) (h4 : st.length ≤ cy) => run.calls s Ax cx st By cy wx h h2 hsg hsu h3 h4 hsl2 hstu
  have TR2 := fun (wx : World) (Ax : Option Addr) (cx : Nat) (By : Option Addr) (cy : Nat) (h : Kd.C k31 wx Ax q.length q) (h2 : q.length ≤ cx) (h3 : Kd.C (Kd.int .u64) wx By st.length st) (h4 : st.length ≤ cy) => run.calls q Ax cx st By cy wx h h2 hqg hqu h3 h4 hsl2 hstu
  generalize runS apS s 500 (List.replicate (valsS s) 0) st [] 0 = r1 at TR hsim
  generalize runS apS q 500 (List.replicate (valsS q) 0) st [] 0 = r2 at TR2 hsim
  clear hsz20 hi020 hsg hsu hqg hqu hsl2 hstu hTu hcu hu
  replace hT := Aside0.mk hT
  replace hst := Aside0.mk hst
  replace hsim := Aside0.mk hsim
  replace TS := Aside0.mk TS
  replace TO := Aside0.mk TO
  replace TR := Aside0.mk TR
  replace TR2 := Aside0.mk TR2
  go_enter Try.func6, Try.ntmps6
  go_upto_region 4 with (first
    | (go_at_call 7; refine (awake.calls _).mono ?_; rintro e w1 ⟨rfl, hb1⟩)
    | (go_at_call 8; refine (TS.out w1 hb1).mono ?_; rintro e w2 ⟨v2, rfl, hR2, hb2⟩; have HB2 := hb1.trans (hb2.mono hb1.size); obtain ⟨A2, c2, rfl, hc2, hC2⟩ := Kd.R_reads hR2)
    | go_in)
  have hRs := Aside0.mk hR2
  clear hR2 hC2
  go_upto_region 5 with (first
    | (at_builtin; refine Kd.R_append_rows (Kd.int .u64) (w0 := w) w.heap.size rfl (.const (.slice none 0 0)) (.tmp 21) 32 29 (.int .u64 0) 8 rfl Try.underlying32 info29 rfl (by decide) (by omega) (.slice none 0 0) ([] : List Int) T Ac _ cc (fun _ => True) (fun _ => False) rfl rfl (Kd.R_nil _ _ _ _ _) (Kd.C_below hCT HB2) (fun _ _ h => h) (fun _ h => h.elim) (fun _ _ => trivial) HB2 HB2.size (by simp; omega) ?_; intro v4 w4 hR4 HB4 hg4 hat4; rw [List.nil_append] at hR4)
    | (at_builtin; go_loud (refine Kd.R_append_zeros (Kd.int .u64) (w0 := w) w.heap.size rfl (.tmp 22) (.const (.int .i64 16)) 32 3 29 (.int .u64 0) 8 rfl Try.underlying32 Try.underlying3 info29 rfl (by decide) (by omega) v4 T 0 16 (fun _ => True) rfl rfl rfl (fun _ _ => trivial) hR4 (by decide) HB4 HB4.size (by simp; omega) ?_; intro v5 w5 hR5 HB5 hg5 hat5))
    | go_in)
  have hRs := Kd.R_after (Kd.R_after (ok := fun _ => True) (Kd.R_mono hRs.out (fun _ _ => ⟨trivial, by simp [Value.ownBlock]⟩)) hg4 hat4) hg5 hat5
  clear hmn hR4 HB4 hg4 hat4 hg5 hat5 HB2 hCT hO hcut
  obtain ⟨_, hc2', hC2⟩ := Kd.R_reads' hRs
  rw [show (16 : Int).toNat = 16 from rfl, ← hst.out] at hR5
  obtain ⟨B5, d5, rfl, hd5, hC5⟩ := Kd.R_reads hR5
  clear hRs hR5
  cases r1 with
  | none =>
    cases r2 with
    | none =>
      go_wp2_with (first
        | (go_at_call 14; (first
          | (refine (TR2.out w7 A7 c7 B5 d5 hC7 hc7 (Kd.C_below (Kd.C_below hC5 hb6) hb7) hd5).mono ?_; rintro e w8 ⟨hb8, rfl⟩; have HB8 := HB7.trans (hb8.mono HB7.size))
          | (refine (TR.out w5 A2 c2 B5 d5 hC2 hc2 hC5 hd5).mono ?_; rintro e w6 ⟨hb6, rfl⟩; have HB6 := HB5.trans (hb6.mono HB5.size); have hb6t := hb6)))
        | (go_at_call 10; refine (TO.out w6 A2 c2 (Kd.C_below hC2 hb6) hc2).mono ?_; rintro e w7 ⟨v7, rfl, hR7, hb7⟩; have HB7 := HB6.trans (hb7.mono HB6.size); obtain ⟨A7, c7, rfl, hc7, hC7⟩ := Kd.R_reads hR7))
      go_ret
      exact ⟨rfl, HB8⟩
    | some r =>
      obtain ⟨o, t⟩ := r
      go_wp2_with (first
        | (go_at_call 14; (first
          | (refine (TR2.out w7 A7 c7 B5 d5 hC7 hc7 (Kd.C_below (Kd.C_below hC5 hb6) hb7) hd5).mono ?_; rintro e w8 ⟨hb8, Ao, co, At, ct, rfl, hco, hct, hCo, hCt⟩; have HB8 := HB7.trans (hb8.mono HB7.size))
          | (refine (TR.out w5 A2 c2 B5 d5 hC2 hc2 hC5 hd5).mono ?_; rintro e w6 ⟨hb6, rfl⟩; have HB6 := HB5.trans (hb6.mono HB5.size); have hb6t := hb6)))
        | (go_at_call 10; refine (TO.out w6 A2 c2 (Kd.C_below hC2 hb6) hc2).mono ?_; rintro e w7 ⟨v7, rfl, hR7, hb7⟩; have HB7 := HB6.trans (hb7.mono HB6.size); obtain ⟨A7, c7, rfl, hc7, hC7⟩ := Kd.R_reads hR7))
      go_ret
      exact ⟨rfl, HB8⟩
  | some r =>
    obtain ⟨o, t⟩ := r
    obtain rfl := hsim.out _ rfl
    go_upto_region 7 with (first
        | (go_at_call 14; (first
          | (refine (TR2.out w7 A7 c7 B5 d5 hC7 hc7 (Kd.C_below (Kd.C_below hC5 hb6) hb7) hd5).mono ?_; rintro e w8 ⟨hb8, Ao2, co2, At2, ct2, rfl, hco2, hct2, hCo2, hCt2⟩; have HB8 := HB7.trans (hb8.mono HB7.size))
          | (refine (TR.out w5 A2 c2 B5 d5 hC2 hc2 hC5 hd5).mono ?_; rintro e w6 ⟨hb6, Ao, co, At, ct, rfl, hco, hct, hCo, hCt⟩; have HB6 := HB5.trans (hb6.mono HB5.size); have hb6t := hb6)))
        | (go_at_call 10; refine (TO.out w6 A2 c2 (Kd.C_below hC2 hb6) hc2).mono ?_; rintro e w7 ⟨v7, rfl, hR7, hb7⟩; have HB7 := HB6.trans (hb7.mono HB6.size); obtain ⟨A7, c7, rfl, hc7, hC7⟩ := Kd.R_reads hR7)
        | go_in)
    obtain ⟨ko, hko⟩ := same_some o hCo.2.1
    obtain ⟨kt, hkt⟩ := same_some t hCt.2.1
    have hCo8 := Kd.C_below (Kd.C_below hCo hb7) hb8
    have hCt8 := Kd.C_below (Kd.C_below hCt hb7) hb8
    have S1 := tautochronelaw11_Same.calls ko Ao co o Ao2 co2 o true w8 hCo8 hco hCo2 hco2 hko
    have S2 := fun (wx : World) (h : Below w8.heap.size w8 wx) => tautochronelaw11_Same.calls kt At ct t At2 ct2 t true wx (Kd.C_below hCt8 h) hct (Kd.C_below hCt2 h) hct2 hkt
    replace S1 := Aside0.mk S1
    replace S2 := Aside0.mk S2
    clear hko hkt hCo hCt hCo2 hCt2 hCo8 hCt8 hC7 hC2 hC5 TR TR2 TO TS hb7 hb6 hb8 hR7 HB7 HB6 HB5
    go_wp2_with (first
      | (go_at_call 15; (first
        | (refine (S2.out w9 hb9).mono ?_; rintro e w10 ⟨rfl, hd10⟩; have HB10 := HB9.trans (hd10.below.mono HB9.size))
        | (refine (S1.out).mono ?_; rintro e w9 ⟨rfl, hd9⟩; have hb9 := hd9.below; have HB9 := HB8.trans (hd9.below.mono HB8.size)))))
    go_ret
    exact ⟨rfl, HB10⟩
end Go.Proofs.Ytpibifgllbfgmaa.Pure
