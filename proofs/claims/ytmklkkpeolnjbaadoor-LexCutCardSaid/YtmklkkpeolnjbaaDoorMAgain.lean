/-
LexAgain: its tokens with blanks between them are the same text to lex. Conditions: as each theorem states them.
-/
import Derived.Test.YtmklkkpeolnjbaaDoorMAgp
import Derived.Test.YtmklkkpeolnjbaaDoorWEqStruct
import Derived.RegionTactic
import Derived.ChangeAlike
import Derived.BigRegion
set_option linter.unusedVariables false
set_option linter.unusedSimpArgs false
namespace Go.Proofs.YtmklkkpeolnjbaaDoor.Lex
open Go.RowKit Go.Proofs.YtmklkkpeolnjbaaDoorW.PrintWords Go.Proofs.YtmklkkpeolnjbaaDoorW.PrintLast Go.Proofs.YtmklkkpeolnjbaaDoorW.PrintMore
open Go.Proofs.YtmklkkpeolnjbaaDoor.Kit Go.ChangeMaps Go.MapKept
open Go.Proofs.YtmklkkpeolnjbaaDoor.PLexCut
/-! ### '==' of tokens -/
theorem eqTok (d : Nat) (w : World) (x0 y0 : Int) (x1 y1 : ByteArray) (x2 y2 : Int) (x3 y3 : Int) :
    (Op.equalIn (d + 2) 32 (.agg #[.int .i64 x0, .string x1, .int .u64 x2, .int .i64 x3]) (.agg #[.int .i64 y0, .string y1, .int .u64 y2, .int .i64 y3])).run Tryd.prog w = .ok (x0 == y0 && (x1.toList == y1.toList && (x2 == y2 && x3 == y3))) w := by
  refine eqA_of Tryd.underlying32 (by kernel_rfl) ?_
  refine eqf_cons (by rfl) (by go_simp; rfl) (by go_simp; rfl) (by go_simp) ?_
  refine eqf_cons (by rfl) (by go_simp; rfl) (by go_simp; rfl) (by go_simp) ?_
  refine eqf_cons (by rfl) (by go_simp; rfl) (by go_simp; rfl) (by go_simp) ?_
  exact eqf_last (by rfl) (by go_simp; rfl) (by go_simp; rfl) (by go_simp)
theorem kTok_openM {w : World} {base : Nat} {ok : Nat → Prop} {x : Tok} {cs : List Value} (h : kTok.M w base ok x cs) : cs = [.int .i64 x.f0, .string x.f1, .int .u64 x.f2, .int .i64 x.f3] := by
  obtain ⟨_, _, rfl, rfl, ⟨_, _, rfl, rfl, ⟨_, _, rfl, rfl, rfl⟩⟩⟩ := h
  exact rfl
/-! ### sizes -/
theorem catT_app : ∀ (a b : List Tok), catT (a ++ b) = catT a ++ catT b
  | [], b => by show catT b = ⟨#[]⟩ ++ catT b; exact (ByteArray.empty_append).symm
  | t :: a, b => by
    show sp ++ t.f1 ++ catT (a ++ b) = sp ++ t.f1 ++ catT a ++ catT b
    rw [catT_app a b, ByteArray.append_assoc (a := sp ++ t.f1)]
theorem catT_one (t : Tok) : catT [t] = sp ++ t.f1 := by
  show sp ++ t.f1 ++ ⟨#[]⟩ = _
  exact ByteArray.append_empty
theorem catT_take (us : List Tok) (k : Nat) (h : k < us.length) : catT (us.take (k + 1)) = catT (us.take k) ++ sp ++ us[k].f1 := by
  rw [List.take_add_one, List.getElem?_eq_getElem h, Option.toList_some, catT_app, catT_one, ByteArray.append_assoc]
theorem catT_le (us : List Tok) (k : Nat) : (catT (us.take k)).size ≤ (catT us).size := by
  have := congrArg ByteArray.size (catT_app (us.take k) (us.drop k))
  rw [List.take_append_drop, ByteArray.size_append] at this
  omega
theorem catT_size (s : ByteArray) : ∀ (vs : List Tok) (a : Nat), a ≤ s.size → (∀ t ∈ vs, Good t) → Placed s (vs ++ [endTok s]) a → (catT (vs ++ [endTok s])).size ≤ 2 * (s.size - a) + 1
  | [], a, ha, _, _ => by
    show (catT [endTok s]).size ≤ _
    rw [catT_one, ByteArray.size_append]
    show 1 + 0 ≤ _
    omega
  | t :: vs, a, ha, hg, hP => by
    obtain ⟨p, h1, h2, h3, h4, h5⟩ := hP
    have hpos := (hg t (List.mem_cons_self ..)).pos
    have ih := catT_size s vs (p + t.f1.size) h3 (fun x hx => hg x (List.mem_cons_of_mem _ hx)) h5
    show (sp ++ t.f1 ++ catT (vs ++ [endTok s])).size ≤ _
    rw [ByteArray.size_append, ByteArray.size_append]
    show 1 + t.f1.size + _ ≤ _
    omega
theorem again_all {s : ByteArray} {us : List Tok} (h : cutS s (s.size + 1) 0 [] = .inl us) : (catT us).size ≤ 2 * s.size + 1 ∧ 0 < us.length ∧
    ∃ ws, cutS (catT us) ((catT us).size + 1) 0 [] = .inl ws ∧ ws.length = us.length ∧ ∀ (k : Nat) (u t : Tok), ws[k]? = some u → us[k]? = some t → Like u t := by
  obtain ⟨vs, h1, h2, h3⟩ := cut_good _ _ _ _ (Nat.zero_le _) h
  rw [List.nil_append] at h1
  have hsz := catT_size s vs 0 (Nat.zero_le _) h2 h3
  obtain ⟨ws, k1, k2, k3⟩ := cut_again s vs h2 ⟨#[]⟩ (catT (vs ++ [endTok s])) ((catT (vs ++ [endTok s])).size + 1) [] (ByteArray.empty_append).symm (by show (catT (vs ++ [endTok s])).size - 0 < _; omega)
  subst h1
  exact ⟨hsz, by simp, ws, by rw [List.nil_append] at k1; exact k1, by rw [k2, List.length_append]; rfl, k3⟩
attribute [local go_sem high] eqTok
set_option maxHeartbeats 8000000 in
set_option maxRecDepth 100000 in
theorem lexAgain.calls (s : ByteArray) (w : World) (hg : As.Handle w) (hs : s.size ≤ 9223372036854775807) : Calls Tryd.prog 4 #[.string s] w fun e w' => e = .returned (.bool true) ∧ Below w.heap.size w w' := by
  have CA := awake.calls w hg
  go_enter Tryd.func4, Tryd.ntmps4
  go_upto_region 3 with (first
    | (go_at_call 9; refine CA.mono ?_; rintro e w1 ⟨rfl, hb1⟩)
    | go_in)
  clear CA
  by_cases hlen : 4000 < s.size
  · have hli : (s.size : Int) > 4000 := by omega
    go_wp2
    go_ret
    exact ⟨rfl, hb1⟩
  have hli : ¬ (s.size : Int) > 4000 := by omega
  have TC := cutR.calls s w1 (by omega)
  cases hr : cutS s (s.size + 1) 0 [] with
  | inr a =>
    rw [hr] at TC
    replace hr := Aside0.mk hr
    go_wp2_with (first
      | (go_at_call 10; refine TC.mono ?_; rintro e w2 ⟨hb2, v, rfl, hF⟩; obtain ⟨p, rfl⟩ := fault_form hF))
    go_ret
    exact ⟨rfl, hb1.trans (hb2.mono hb1.size)⟩
  | inl us =>
    rw [hr] at TC
    obtain ⟨hcs, hpos, ws, hws, hwl, hlike⟩ := again_all hr
    replace hr := Aside0.mk hr
    have hsz : s.size ≤ 4000 := by omega
    go_upto_region 9 with (first
      | (go_at_call 10; refine TC.mono ?_; rintro e w2 ⟨hb2, A, c, rfl, hc, hC, hR⟩)
      | go_in)
    have hB2 := hb1.trans (hb2.mono hb1.size)
    have hul := hC.2.1
    have hR := Kd.R_lower hR hb1.size
    clear TC hb2 hb1
    replace hws := Aside0.mk hws
    replace hwl := Aside0.mk hwl
    replace hlike := Aside0.mk hlike
    go_wp2
    go_loopw [5, 28] (fun v5 v28 wr => ∃ k : Nat, v28 = .int .i64 k ∧ v5 = .string (catT (us.take k)) ∧ k ≤ us.length ∧ Kd.C kTok wr A us.length us ∧ Kd.R kTok 32 wr w.heap.size (fun _ => True) (.slice A us.length c) us ∧ Below w.heap.size w wr)
      (fun _ v28 _ => us.length - (intOf v28).toNat)
    case atStart => exact ⟨0, rfl, rfl, by omega, hC, hR, hB2⟩
    case round =>
      clear hC hR hB2
      obtain ⟨k, rfl, rfl, hk, hC, hR, hB⟩ := hrel
      by_cases hkl : k < us.length
      · have hki : (k : Int) < (us.length : Int) := by omega
        obtain ⟨ad, eA, y0, y1, y2, y3⟩ := at_Tok hC k (by omega) (by omega)
        rw [rdTok_at us k hkl, Int.toNat_natCast] at y0 y1 y2 y3
        have hct := catT_take us k hkl
        have hle1 := catT_le us k
        have hle2 := catT_le us (k + 1)
        rw [hct, ByteArray.size_append, ByteArray.size_append] at hle2
        have hsp : sp.size = 1 := rfl
        generalize us[k] = t at y0 y1 y2 y3 hct hle2
        obtain ⟨f0, T, f2, f3⟩ := t
        simp only at y0 y1 y2 y3 hct hle2
        replace hct := Aside0.mk hct
        generalize catT (us.take k) = D at hct hle1 hle2 ⊢
        subst eA
        go_upto_region 12 with go_in
        have e7 := heap_alloc_new wr (Obj.cells #[.int .i64 f0, .string T, .int .u64 f2, .int .i64 f3] 32 (0, 0))
        have hb4 : Below wr.heap.size wr (wr.alloc (Obj.cells #[.int .i64 f0, .string T, .int .u64 f2, .int .i64 f3] 32 (0, 0))) := below_alloc (Below.refl _ _) _
        have hC := Kd.C_below hC hb4
        have hR := Kd.R_below hR hb4
        have hB := hB.trans (hb4.mono hB.size)
        clear y0 y1 y2 y3 hb4
        generalize wr.alloc (Obj.cells #[.int .i64 f0, .string T, .int .u64 f2, .int .i64 f3] 32 (0, 0)) = w4 at *
        generalize wr.heap.size = B7 at *
        have y1 := (blk_cell e7 1).trans rfl
        have hTs : T.size ≤ 8001 := by omega
        have hDs : D.size ≤ 8001 := by omega
        have hDs1 : (D ++ (⟨#[32]⟩ : ByteArray)).size ≤ 8002 := by rw [ByteArray.size_append]; show D.size + 1 ≤ _; omega
        go_wp2
        go_roundw
        case rel => exact ⟨k + 1, by first | rfl | go_num, by rw [hct.out]; rfl, by omega, hC, hR, hB⟩
        case measure => simp [intOf]; omega
      · have hki : ¬ (k : Int) < (us.length : Int) := by omega
        obtain rfl : k = us.length := by omega
        rw [List.take_length]
        have TC := cutR.calls (catT us) wr (by omega)
        rw [hws.out] at TC
        have hcs2 : (catT us).size ≤ 8001 := by omega
        clear hcs
        generalize catT us = D at TC hcs2 ⊢
        clear hws hC
        have hwl2 := hwl.out
        go_upto_region 17 with (first
          | (go_at_call 10; refine TC.mono ?_; rintro e w3 ⟨hb3, A2, c2, rfl, hc2, hC2, hR2⟩)
          | go_in)
        rw [hwl2] at hc2 hC2 hR2
        obtain ⟨g, cap, eg, hgb, hgl, _⟩ := Kd.R_form hR2 (by omega)
        injection eg with eg1 eg2 eg3
        subst eg1 eg3
        have hR3 : Kd.R kTok 32 w3 w.heap.size (fun k => k ≠ g) (.slice A us.length c) us := Kd.R_mono (Kd.R_below (Kd.R_bound hR) hb3) (fun k hk => by have := hk.2.2.1; omega)
        have hB3 := hB.trans (hb3.mono hB.size)
        have hBg : w.heap.size ≤ g := Nat.le_trans hB.size hgb
        generalize wr.heap.size = B3 at hR2 hgb
        clear hR hB hC2 hb3 TC
        replace hwl2 := Aside0.mk hwl2
        go_wp2
        go_loopw [54] (fun v54 wq => ∃ (k : Nat) (xs : List Tok), v54 = .int .i64 k ∧ k ≤ us.length ∧ Aside0 (xs.length = us.length) ∧ Aside0 (∀ (j : Nat) (u t : Tok), xs[j]? = some u → us[j]? = some t → Like u t) ∧ Kd.R kTok 32 wq B3 (fun _ => True) (.slice (some ⟨g, 0, none⟩) us.length c2) xs ∧ Kd.R kTok 32 wq w.heap.size (fun k => k ≠ g) (.slice A us.length c) us ∧ Below w.heap.size w wq)
          (fun v54 _ => us.length - (intOf v54).toNat)
        case atStart => exact ⟨0, ws, rfl, by omega, hwl, hlike, hR2, hR3, hB3⟩
        case round =>
          clear hR2 hR3 hB3 hlike hwl hwl2 hc2 hgl
          obtain ⟨k, xs, rfl, hk, hxl, hlike, hR2, hR3, hB3⟩ := hrel
          by_cases hkl : k < us.length
          · have hki : (k : Int) < (us.length : Int) := by omega
            have hkx : k < xs.length := by rw [hxl.out]; exact hkl
            obtain ⟨ad, eA, y0, y1, y2, y3⟩ := at_Tok (Kd.R_reads' hR3).2.2 k (by omega) (by omega)
            rw [rdTok_at us k hkl, Int.toNat_natCast] at y0 y1 y2 y3
            obtain ⟨cs, hcl, hM, hcc, hfz⟩ := Kd.R_elem hR2 zTok (k : Int) (by omega) (by omega)
            rw [Int.toNat_natCast] at hM hcc hfz
            have hgd : xs.getD k zTok = xs[k] := by simp [hkx]
            rw [hgd] at hM
            have hL := hlike.out k xs[k] us[k] (List.getElem?_eq_getElem hkx) (List.getElem?_eq_getElem hkl)
            have hcs := kTok_openM hM
            have hx : ∃ x : Tok, x = xs[k] := ⟨_, rfl⟩
            obtain ⟨x, hx⟩ := hx
            have ht : ∃ t : Tok, t = us[k] := ⟨_, rfl⟩
            obtain ⟨t, ht⟩ := ht
            rw [← hx] at hL hcs
            rw [← ht] at hL y0 y1 y2 y3
            obtain ⟨t0, T, t2, t3⟩ := t
            obtain ⟨x0, X, x2, x3⟩ := x
            obtain ⟨rfl, rfl, rfl⟩ := hL
            simp only at hcs y0 y1 y2 y3
            subst hcs
            have z3 : wr.cell? ⟨g, k * 4 + 3, none⟩ = some (.int .i64 x3) := hcc 3 _ rfl
            have fz3 : wr.frozen? ⟨g, k * 4 + 3, none⟩ = false := hfz 3
            have hseg := Kd.R_seg (okp := fun k => True ∧ k ≠ g) hR2 (k : Int) (by omega) (by omega) (c := [.int .i64 x0, .string X, .int .u64 x2, .int .i64 x3]) (seg := [.int .i64 t3]) (j := 3) rfl (by rw [Int.toNat_natCast]; exact hcc) (by show 3 + 1 ≤ 4; decide) (x' := ⟨x0, X, x2, t3⟩) (kTok_mkM _ _ _ _) (fun _ h => h)
            rw [Int.toNat_natCast] at hseg
            have hR5 : Kd.R kTok 32 (wr.setCell ⟨g, k * 4 + 3, none⟩ (.int .i64 t3)) B3 (fun _ => True) (.slice (some ⟨g, 0, none⟩) us.length c2) (xs.set k ⟨x0, X, x2, t3⟩) := hseg.1
            have hR6 := Kd.R_far (p := ⟨g, k * 4 + 3, none⟩) hR3 (fun k hk => hk) (.int .i64 t3)
            have hB5 : Below w.heap.size w (wr.setCell ⟨g, k * 4 + 3, none⟩ (.int .i64 t3)) := below_set hB3 hBg
            subst eA
            go_upto_region 21 with go_in
            have hlike2 : Aside0 (∀ (j : Nat) (u t : Tok), (xs.set k ⟨x0, X, x2, t3⟩)[j]? = some u → us[j]? = some t → Like u t) := ⟨by
              intro j u t h1 h2
              rw [List.getElem?_set] at h1
              split at h1
              · rename_i hjk
                subst hjk
                rw [List.getElem?_eq_getElem hkl, ← ht] at h2
                obtain rfl := Option.some.inj h1
                obtain rfl := Option.some.inj h2
                exact ⟨rfl, rfl, rfl⟩
              · exact hlike.out j u t h1 h2⟩
            have hxl2 : Aside0 ((xs.set k ⟨x0, X, x2, t3⟩).length = us.length) := ⟨by rw [List.length_set]; exact hxl.out⟩
            have hgd2 : (xs.set k ⟨x0, X, x2, t3⟩).getD k zTok = ⟨x0, X, x2, t3⟩ := by simp [hkx]
            clear z3 fz3 hseg hR2 hR3 hB3 y0 y1 y2 y3 hcc hfz hM hcl hlike hxl hgd hx
            generalize wr.setCell ⟨g, k * 4 + 3, none⟩ (.int .i64 t3) = w5 at *
            generalize xs.set k ⟨x0, X, x2, t3⟩ = xs5 at hR5 hlike2 hxl2 hgd2
            obtain ⟨cs, hcl, hM, hcc, hfz⟩ := Kd.R_elem hR5 zTok (k : Int) (by omega) (by omega)
            rw [Int.toNat_natCast] at hM hcc hfz
            rw [hgd2] at hM
            have hcs := kTok_openM hM
            simp only at hcs
            subst hcs
            have z0 : w5.cell? ⟨g, k * 4, none⟩ = some (.int .i64 x0) := hcc 0 _ rfl
            have z1 : w5.cell? ⟨g, k * 4 + 1, none⟩ = some (.string X) := hcc 1 _ rfl
            have z2 : w5.cell? ⟨g, k * 4 + 2, none⟩ = some (.int .u64 x2) := hcc 2 _ rfl
            have z3 : w5.cell? ⟨g, k * 4 + 3, none⟩ = some (.int .i64 t3) := hcc 3 _ rfl
            obtain ⟨ad', eA', y0, y1, y2, y3⟩ := at_Tok (Kd.R_reads' hR6).2.2 k (by omega) (by omega)
            rw [rdTok_at us k hkl, Int.toNat_natCast, ← ht] at y0 y1 y2 y3
            simp only at y0 y1 y2 y3
            obtain rfl := Option.some.inj eA'
            replace ht := Aside0.mk ht
            clear hcc hfz hM hcl hgd2
            go_region
            all_goals go_wp2
            go_roundw
            case rel => exact ⟨k + 1, xs5, by first | rfl | go_num, by omega, hxl2, hlike2, hR5, hR6, hB5.drew⟩
            case measure => simp [intOf]; omega
          · have hki : ¬ (k : Int) < (us.length : Int) := by omega
            go_wp2
            go_ret
            exact ⟨rfl, hB3⟩
end Go.Proofs.YtmklkkpeolnjbaaDoor.Lex
