/-
The law ScopeOf walked by hand: a list of declarations is a scope just if no name stands twice, and each is by a lock that stands ahead. Conditions: as each theorem states them.
-/
import Derived.Test.YtchgmfdojhbgaaaDoorMScopeC
import Derived.Test.YtchgmfdojhbgaaaDoorMScopeE
import Derived.Test.YtchgmfdojhbgaaaDoorMScopeD
import Derived.Test.YtchgmfdojhbgaaaDoorMAt
set_option linter.unusedVariables false
set_option linter.unusedSimpArgs false
namespace Go.Proofs.YtchgmfdojhbgaaaDoor.MScope
open Go.RowKit Go.Proofs.YtchgmfdojhbgaaaDoorW.PrintWords Go.Proofs.YtchgmfdojhbgaaaDoorW.PrintLast Go.Proofs.YtchgmfdojhbgaaaDoorW.PrintMore
open Go.Proofs.YtchgmfdojhbgaaaDoor.Kit Go.ChangeMaps Go.MapKept
attribute [local go_sem] max2_int min2_int max_two min_two max_three min_three max_four min_four   -- for this text's walks alone
theorem infoDc : (Tryd.prog.info? 29).map (fun i => (i.zero, i.size, i.bytes)) = some (some zDc.val, 6, 64) := by kernel_rfl
theorem flatD_one (D : List Dc) : ∀ u ∈ D.flatMap Dc.cells, u.oneCell' = true := by
  intro u hu
  obtain ⟨d, _, hd⟩ := List.mem_flatMap.mp hu
  simp only [Dc.cells, List.mem_cons, List.not_mem_nil, or_false] at hd
  rcases hd with rfl | rfl | rfl | rfl | rfl | rfl <;> rfl
theorem row_below {w w' : World} {base e size n : Nat} {v : Value} {xs : List Value} (h : w.ownsRow base e size v n xs) (hb : Below w.heap.size w w') : w'.ownsRow base e size v n xs :=
  pw_own_below h hb
/-- Whether a declaration fits behind others. -/
def fits (D : List Dc) (d : Dc) : Bool := (look D d.name).isNone && (decide (d.by_ = ⟨#[]⟩) || ((look D d.by_).map Dc.lock).getD false)
theorem fb_snoc : ∀ (r D : List Dc) (d : Dc), fb D (r ++ [d]) = match fb D r with | some x => some x | none => if fits (D ++ r) d = true then none else some d.at_
  | [], D, d => by simp [fb, fits]
  | x :: r, D, d => by
    rw [List.cons_append, fb, fb]
    split
    · rw [fb_snoc r (D ++ [x]) d, List.append_assoc]; rfl
    · rfl
theorem fb_okk : ∀ (r D : List Dc), fb D r = none → okk D r = true
  | [], _, _ => rfl
  | x :: r, D, h => by
    rw [fb] at h
    rw [okk]
    split at h
    · rename_i hc
      rw [Bool.and_eq_true]
      exact ⟨hc, fb_okk r _ h⟩
    · cases h
theorem fb_mem : ∀ (r D : List Dc) (a : Int), fb D r = some a → ∃ d ∈ r, d.at_ = a
  | [], _, _, h => by simp [fb] at h
  | x :: r, D, a, h => by
    rw [fb] at h
    split at h
    · obtain ⟨d, hd, e⟩ := fb_mem r _ a h
      exact ⟨d, List.mem_cons_of_mem _ hd, e⟩
    · exact ⟨x, by simp, by simpa using h⟩
/-- The law's number: where the first wrong one is, -1 if none is. -/
def wrongS (D : List Dc) : Int := (fb [] D).getD (-1)
theorem wrong_snoc (D : List Dc) (d : Dc) (ha : ∀ x ∈ D, 0 ≤ x.at_) : wrongS (D ++ [d]) = if wrongS D < 0 ∧ fits D d = false then d.at_ else wrongS D := by
  unfold wrongS
  rw [fb_snoc]
  cases h : fb [] D with
  | some a =>
    obtain ⟨x, hx, e⟩ := fb_mem D [] a h
    have := ha x hx
    simp only [Option.getD_some]
    rw [if_neg (by omega)]
  | none =>
    simp only [List.nil_append, Option.getD_none]
    by_cases hf : fits D d = true
    · rw [if_pos hf, if_neg (fun h => by rw [hf] at h; cases h.2)]; rfl
    · rw [if_neg hf, if_pos ⟨by decide, by simpa using hf⟩]; rfl
theorem fnd_one (D : List Dc) (n : ByteArray) : ((fnd D [] n).1 = 0 ↔ look D n = none) ∧ ((fnd D [] n).1 = 1 ↔ ((look D n).map Dc.lock).getD false = true) := by
  unfold fnd fndL
  simp only [Option.getD_none]
  cases h : look D n with
  | none => simp [fndD]
  | some d =>
    unfold fndD
    cases hl : d.lock <;> simp [hl] <;> split <;> simp
set_option maxHeartbeats 40000000 in
set_option maxRecDepth 100000 in
theorem scopeof.calls (A0 : Option Addr) (c0 n0 : Nat) (w : World) (hn0 : n0 ≤ 1048576) (hg : As.Handle w)
    (hraw : ∀ i, i < n0 → ∃ ad a b c d, A0 = some ad ∧ (0 ≤ a ∧ a ≤ 255) ∧ (0 ≤ b ∧ b ≤ 255) ∧ (0 ≤ c ∧ c ≤ 255) ∧ (0 ≤ d ∧ d ≤ 255) ∧ w.cell? (ad.add (i * 4)) = some (.int .u8 a) ∧ w.cell? ⟨(ad.add (i * 4)).block, (ad.add (i * 4)).off + 1, none⟩ = some (.int .u8 b) ∧
      w.cell? ⟨(ad.add (i * 4)).block, (ad.add (i * 4)).off + 2, none⟩ = some (.int .u8 c) ∧ w.cell? ⟨(ad.add (i * 4)).block, (ad.add (i * 4)).off + 3, none⟩ = some (.int .u8 d)) :
    Calls Tryd.prog 3 #[.slice A0 n0 c0] w fun e w' => e = .returned (.bool true) ∧ Below w.heap.size w w' := by
  replace hg := Aside0.mk hg
  go_enter Tryd.func3, Tryd.ntmps3
  go_upto_region 5 with (first
    | (go_at_call 4; refine (awake.calls w).mono ?_; rintro e w1 ⟨rfl, hb1⟩)
    | go_in)
  go_wp2
  go_loopw [3, 4, 22] (fun r wv i wr => ∃ q : Nat, q ≤ n0 ∧ i = .int .i64 q ∧ (∃ D : List Dc, wr.ownsRow w.heap.size 29 6 r D.length (D.flatMap Dc.cells) ∧ D.length = q ∧ wv = .int .i64 (wrongS D) ∧ ∀ d ∈ D, 0 ≤ d.at_) ∧ Below w.heap.size w wr)
    (fun _ _ i _ => n0 - (intOf i).toNat)
  case atStart => exact ⟨0, by omega, rfl, ⟨[], World.ownsRow_nil _ _ _ _, rfl, rfl, by simp⟩, hb1⟩
  case round =>
    clear hb1
    obtain ⟨q, hq, rfl, ⟨D, hD, hDq, rfl, hat⟩, HB⟩ := hrel
    by_cases hqn : q < n0
    · obtain ⟨ad, a, b, c, d, rfl, ⟨ha0, ha1⟩, ⟨hb0, hb1⟩, ⟨hc0, hc1⟩, ⟨hd0, hd1⟩, x0, x1, x2, x3⟩ := hraw q hqn
      have X0 := (HB.cell (World.block_lt_of_cell? w _ x0)).trans x0
      have X1 := (HB.cell (World.block_lt_of_cell? w _ x1)).trans x1
      have X2 := (HB.cell (World.block_lt_of_cell? w _ x2)).trans x2
      have X3 := (HB.cell (World.block_lt_of_cell? w _ x3)).trans x3
      have wq7 : wrap64 ((q : Int) + 7) = (q : Int) + 7 := wrap_in (by omega) (by omega)
      have hws := fun d : Dc => wrong_snoc D d hat
      replace hat := Aside0.mk hat
      replace hws := Aside0.mk hws
      replace hDq := Aside0.mk hDq
      go_upto_region 8 with go_in
      have e7 : (wr.alloc (Obj.cells #[.int .u8 a, .int .u8 b, .int .u8 c, .int .u8 d] 26 (0, 0))).heap[wr.heap.size]? = some (Obj.cells #[.int .u8 a, .int .u8 b, .int .u8 c, .int .u8 d] 26 (0, 0)) := heap_alloc_new wr _
      have hb7 : Below wr.heap.size wr (wr.alloc (Obj.cells #[.int .u8 a, .int .u8 b, .int .u8 c, .int .u8 d] 26 (0, 0))) := (Below.refl _ _).alloc (Nat.le_refl _) _
      generalize wr.alloc (Obj.cells #[.int .u8 a, .int .u8 b, .int .u8 c, .int .u8 d] 26 (0, 0)) = W6 at e7 hb7 ⊢
      have hD := row_below hD hb7
      have HB := HB.trans (hb7.mono HB.size)
      generalize wr.heap.size = B7 at e7 ⊢
      clear X0 X1 X2 X3 hb7
      have E0 : W6.cell? ⟨B7, 0, none⟩ = some (.int .u8 a) := by simp [World.cell?, e7]
      have E1 : W6.cell? ⟨B7, 1, none⟩ = some (.int .u8 b) := by simp [World.cell?, e7]
      have E2 : W6.cell? ⟨B7, 2, none⟩ = some (.int .u8 c) := by simp [World.cell?, e7]
      have E3 : W6.cell? ⟨B7, 3, none⟩ = some (.int .u8 d) := by simp [World.cell?, e7]
      go_upto_region 9 with (first
        | (go_at_call 5; refine (decl.calls a b c d ((q : Int) + 7) W6 ha0 ha1 hb0 hb1 hc0 hc1 hd0 hd1).mono ?_; rintro e W7 ⟨⟨lk, lb, nm, sz, by_, at_⟩, rfl, hx6, hxa, hb7⟩; simp only [Dc.val])
        | go_in)
      simp only at hx6 hxa
      subst hxa
      have hD := row_below hD hb7
      have HB := HB.trans (hb7.mono HB.size)
      clear e7 E0 E1 E2 E3 hb7 hx6
      have e8 : (W7.alloc (Obj.cells #[.bool lk, .int .i64 lb, .string nm, .int .i64 sz, .string by_, .int .i64 ((q : Int) + 7)] 29 (0, 0))).heap[W7.heap.size]? = some (Obj.cells #[.bool lk, .int .i64 lb, .string nm, .int .i64 sz, .string by_, .int .i64 ((q : Int) + 7)] 29 (0, 0)) := heap_alloc_new W7 _
      have hb8 : Below W7.heap.size W7 (W7.alloc (Obj.cells #[.bool lk, .int .i64 lb, .string nm, .int .i64 sz, .string by_, .int .i64 ((q : Int) + 7)] 29 (0, 0))) := (Below.refl _ _).alloc (Nat.le_refl _) _
      generalize W7.alloc (Obj.cells #[.bool lk, .int .i64 lb, .string nm, .int .i64 sz, .string by_, .int .i64 ((q : Int) + 7)] 29 (0, 0)) = W8 at e8 hb8 ⊢
      have hD := row_below hD hb8
      have HB := HB.trans (hb8.mono HB.size)
      generalize W7.heap.size = B8 at e8 ⊢
      clear hb8
      have l8 : B8 < W8.heap.size := (Array.getElem?_eq_some_iff.mp e8).1
      have d0 : W8.cell? ⟨B8, 0, none⟩ = some (.bool lk) := by simp [World.cell?, e8]
      have d1 : W8.cell? ⟨B8, 1, none⟩ = some (.int .i64 lb) := by simp [World.cell?, e8]
      have d2 : W8.cell? ⟨B8, 2, none⟩ = some (.string nm) := by simp [World.cell?, e8]
      have d3 : W8.cell? ⟨B8, 3, none⟩ = some (.int .i64 sz) := by simp [World.cell?, e8]
      have d4 : W8.cell? ⟨B8, 4, none⟩ = some (.string by_) := by simp [World.cell?, e8]
      have d5 : W8.cell? ⟨B8, 5, none⟩ = some (.int .i64 ((q : Int) + 7)) := by simp [World.cell?, e8]
      have hDlen : D.length ≤ 4611686018427387904 := by have := hDq.out; omega
      obtain ⟨n1, n2⟩ := fnd_one D nm
      obtain ⟨b1, b2⟩ := fnd_one D by_
      go_upto_region 10 with (first
        | (go_at_call 6; go_loud (refine (lfind.calls (L := []) nm hD (World.ownsRow_nil _ 0 _ _) hDlen (by decide)).mono ?_; rintro e W9 ⟨rfl, hb9⟩; simp only [fndV]))
        | go_in)
      have hD := row_below hD hb9
      have HB := HB.trans (hb9.mono HB.size)
      have d0 := (hb9.cell (by exact l8)).trans d0
      have d1 := (hb9.cell (by exact l8)).trans d1
      have d2 := (hb9.cell (by exact l8)).trans d2
      have d3 := (hb9.cell (by exact l8)).trans d3
      have d4 := (hb9.cell (by exact l8)).trans d4
      have d5 := (hb9.cell (by exact l8)).trans d5
      have l8 := Nat.lt_of_lt_of_le l8 hb9.size
      clear hb9 e8
      generalize fnd D [] nm = kk at n1 n2 ⊢
      obtain ⟨k1, k2, k3, k4⟩ := kk
      dsimp only at n1 n2 ⊢
      go_upto_region 11 with (first
        | (go_at_call 6; refine (lfind.calls (L := []) by_ hD (World.ownsRow_nil _ 0 _ _) hDlen (by decide)).mono ?_; rintro e W10 ⟨rfl, hb10⟩; simp only [fndV])
        | go_in)
      have hD := row_below hD hb10
      have HB := HB.trans (hb10.mono HB.size)
      have d0 := (hb10.cell (by exact l8)).trans d0
      have d1 := (hb10.cell (by exact l8)).trans d1
      have d2 := (hb10.cell (by exact l8)).trans d2
      have d3 := (hb10.cell (by exact l8)).trans d3
      have d4 := (hb10.cell (by exact l8)).trans d4
      have d5 := (hb10.cell (by exact l8)).trans d5
      clear hb10 l8
      generalize fnd D [] by_ = kk at b1 b2 ⊢
      obtain ⟨m1, m2, m3, m4⟩ := kk
      dsimp only at b1 b2 ⊢
      generalize hwe : wrongS D = wv at hws ⊢
      replace hwe := Aside0.mk hwe
      replace n1 := Aside0.mk n1
      replace b2 := Aside0.mk b2
      clear n2 b1 hDlen
      by_cases hw : wv < 0
      · by_cases hk : k1 = 0
        · have hkb : (k1 != 0) = false := by rw [hk]; rfl
          have hln := n1.out.mp hk
          by_cases hby : by_ = ⟨#[]⟩
          · have hsb : (by_.toList == ([] : List UInt8)) = true := by rw [hby]; simp
            have hf : fits D ⟨lk, lb, nm, sz, by_, (q : Int) + 7⟩ = true := by unfold fits; rw [hln, decide_eq_true hby]; rfl
            replace hby := Aside0.mk hby
            replace hln := Aside0.mk hln
            replace hk := Aside0.mk hk
            replace hf := Aside0.mk hf
            go_upto_region 14 with (first
              | (at_builtin; go_loud (refine print_append_cells (w0 := w) w.heap.size rfl (.tmp 66) (.tmp 68) 24 29 zDc.val 6 64 rfl Tryd.underlying24 infoDc rfl (by decide) (by decide) u3 D.length (D.flatMap Dc.cells) [.bool lk, .int .i64 lb, .string nm, .int .i64 sz, .string by_, .int .i64 ((q : Int) + 7)] rfl (by first | rfl | (go_simp; done) | (go_simp; rfl)) rfl (by simp [Value.oneCell']) hD HB HB.size (by have := hDq.out; omega) ?_; intro v1 w3 ho HB3 hg3 ha3))
              | go_in)
            have hrel2 : ∃ D2 : List Dc, w3.ownsRow w.heap.size 29 6 v1 D2.length (D2.flatMap Dc.cells) ∧ D2.length = q + 1 ∧ Value.int .i64 wv = .int .i64 (wrongS D2) ∧ ∀ d ∈ D2, 0 ≤ d.at_ := by
              refine ⟨D ++ [⟨lk, lb, nm, sz, by_, (q : Int) + 7⟩], by simpa [Dc.cells] using ho, by rw [List.length_append, hDq.out]; rfl, ?_, ?_⟩
              · rw [hws.out]
                rw [if_neg (fun h => by have := h.2; rw [hf.out] at this; cases this)]
              · intro d hd
                rcases List.mem_append.mp hd with hd | hd
                · exact hat.out d hd
                · obtain rfl := List.mem_singleton.mp hd
                  show (0 : Int) ≤ (q : Int) + 7
                  omega
            clear ho hg3 ha3 hD HB
            replace hrel2 := Aside0.mk hrel2
            go_wp2
            go_roundw
            case rel => exact ⟨q + 1, by omega, by first | rfl | go_num, hrel2.out, HB3⟩
            case measure => simp [intOf]; omega
          · have hsb : (by_.toList == ([] : List UInt8)) = false := by
              rw [show ([] : List UInt8) = (⟨#[]⟩ : ByteArray).toList by simp, same_b]; exact decide_eq_false hby
            by_cases hb : m1 = 1
            · have hbb : (m1 != 1) = false := by rw [hb]; rfl
              have hf : fits D ⟨lk, lb, nm, sz, by_, (q : Int) + 7⟩ = true := by unfold fits; rw [hln, b2.out.mp hb]; simp
              replace hby := Aside0.mk hby
              replace hln := Aside0.mk hln
              replace hk := Aside0.mk hk
              replace hb := Aside0.mk hb
              replace hf := Aside0.mk hf
              go_upto_region 14 with (first
                | (at_builtin; go_loud (refine print_append_cells (w0 := w) w.heap.size rfl (.tmp 66) (.tmp 68) 24 29 zDc.val 6 64 rfl Tryd.underlying24 infoDc rfl (by decide) (by decide) u3 D.length (D.flatMap Dc.cells) [.bool lk, .int .i64 lb, .string nm, .int .i64 sz, .string by_, .int .i64 ((q : Int) + 7)] rfl (by first | rfl | (go_simp; done) | (go_simp; rfl)) rfl (by simp [Value.oneCell']) hD HB HB.size (by have := hDq.out; omega) ?_; intro v1 w3 ho HB3 hg3 ha3))
                | go_in)
              have hrel2 : ∃ D2 : List Dc, w3.ownsRow w.heap.size 29 6 v1 D2.length (D2.flatMap Dc.cells) ∧ D2.length = q + 1 ∧ Value.int .i64 wv = .int .i64 (wrongS D2) ∧ ∀ d ∈ D2, 0 ≤ d.at_ := by
                refine ⟨D ++ [⟨lk, lb, nm, sz, by_, (q : Int) + 7⟩], by simpa [Dc.cells] using ho, by rw [List.length_append, hDq.out]; rfl, ?_, ?_⟩
                · rw [hws.out]
                  rw [if_neg (fun h => by have := h.2; rw [hf.out] at this; cases this)]
                · intro d hd
                  rcases List.mem_append.mp hd with hd | hd
                  · exact hat.out d hd
                  · obtain rfl := List.mem_singleton.mp hd
                    show (0 : Int) ≤ (q : Int) + 7
                    omega
              clear ho hg3 ha3 hD HB
              replace hrel2 := Aside0.mk hrel2
              go_wp2
              go_roundw
              case rel => exact ⟨q + 1, by omega, by first | rfl | go_num, hrel2.out, HB3⟩
              case measure => simp [intOf]; omega
            · have hbb : (m1 != 1) = true := by simpa using hb
              have hf : fits D ⟨lk, lb, nm, sz, by_, (q : Int) + 7⟩ = false := by
                unfold fits
                rw [hln, decide_eq_false hby]
                cases h : ((look D by_).map Dc.lock).getD false with
                | true => exact absurd (b2.out.mpr h) hb
                | false => rfl
              replace hby := Aside0.mk hby
              replace hln := Aside0.mk hln
              replace hk := Aside0.mk hk
              replace hb := Aside0.mk hb
              replace hf := Aside0.mk hf
              go_upto_region 14 with (first
                | (at_builtin; go_loud (refine print_append_cells (w0 := w) w.heap.size rfl (.tmp 66) (.tmp 68) 24 29 zDc.val 6 64 rfl Tryd.underlying24 infoDc rfl (by decide) (by decide) u3 D.length (D.flatMap Dc.cells) [.bool lk, .int .i64 lb, .string nm, .int .i64 sz, .string by_, .int .i64 ((q : Int) + 7)] rfl (by first | rfl | (go_simp; done) | (go_simp; rfl)) rfl (by simp [Value.oneCell']) hD HB HB.size (by have := hDq.out; omega) ?_; intro v1 w3 ho HB3 hg3 ha3))
                | go_in)
              have hrel2 : ∃ D2 : List Dc, w3.ownsRow w.heap.size 29 6 v1 D2.length (D2.flatMap Dc.cells) ∧ D2.length = q + 1 ∧ Value.int .i64 ((q : Int) + 7) = .int .i64 (wrongS D2) ∧ ∀ d ∈ D2, 0 ≤ d.at_ := by
                refine ⟨D ++ [⟨lk, lb, nm, sz, by_, (q : Int) + 7⟩], by simpa [Dc.cells] using ho, by rw [List.length_append, hDq.out]; rfl, ?_, ?_⟩
                · rw [hws.out]
                  rw [if_pos ⟨hw, hf.out⟩]
                · intro d hd
                  rcases List.mem_append.mp hd with hd | hd
                  · exact hat.out d hd
                  · obtain rfl := List.mem_singleton.mp hd
                    show (0 : Int) ≤ (q : Int) + 7
                    omega
              clear ho hg3 ha3 hD HB
              replace hrel2 := Aside0.mk hrel2
              go_wp2
              go_roundw
              case rel => exact ⟨q + 1, by omega, by first | rfl | go_num, hrel2.out, HB3⟩
              case measure => simp [intOf]; omega
        · have hkb : (k1 != 0) = true := by simpa using hk
          have hf : fits D ⟨lk, lb, nm, sz, by_, (q : Int) + 7⟩ = false := by
            unfold fits
            cases h : look D nm with
            | none => exact absurd (n1.out.mpr h) hk
            | some _ => rfl
          replace hk := Aside0.mk hk
          replace hf := Aside0.mk hf
          go_upto_region 14 with (first
            | (at_builtin; go_loud (refine print_append_cells (w0 := w) w.heap.size rfl (.tmp 66) (.tmp 68) 24 29 zDc.val 6 64 rfl Tryd.underlying24 infoDc rfl (by decide) (by decide) u3 D.length (D.flatMap Dc.cells) [.bool lk, .int .i64 lb, .string nm, .int .i64 sz, .string by_, .int .i64 ((q : Int) + 7)] rfl (by first | rfl | (go_simp; done) | (go_simp; rfl)) rfl (by simp [Value.oneCell']) hD HB HB.size (by have := hDq.out; omega) ?_; intro v1 w3 ho HB3 hg3 ha3))
            | go_in)
          have hrel2 : ∃ D2 : List Dc, w3.ownsRow w.heap.size 29 6 v1 D2.length (D2.flatMap Dc.cells) ∧ D2.length = q + 1 ∧ Value.int .i64 ((q : Int) + 7) = .int .i64 (wrongS D2) ∧ ∀ d ∈ D2, 0 ≤ d.at_ := by
            refine ⟨D ++ [⟨lk, lb, nm, sz, by_, (q : Int) + 7⟩], by simpa [Dc.cells] using ho, by rw [List.length_append, hDq.out]; rfl, ?_, ?_⟩
            · rw [hws.out]
              rw [if_pos ⟨hw, hf.out⟩]
            · intro d hd
              rcases List.mem_append.mp hd with hd | hd
              · exact hat.out d hd
              · obtain rfl := List.mem_singleton.mp hd
                show (0 : Int) ≤ (q : Int) + 7
                omega
          clear ho hg3 ha3 hD HB
          replace hrel2 := Aside0.mk hrel2
          go_wp2
          go_roundw
          case rel => exact ⟨q + 1, by omega, by first | rfl | go_num, hrel2.out, HB3⟩
          case measure => simp [intOf]; omega
      · have hf : True := trivial
        go_upto_region 14 with (first
          | (at_builtin; go_loud (refine print_append_cells (w0 := w) w.heap.size rfl (.tmp 66) (.tmp 68) 24 29 zDc.val 6 64 rfl Tryd.underlying24 infoDc rfl (by decide) (by decide) u3 D.length (D.flatMap Dc.cells) [.bool lk, .int .i64 lb, .string nm, .int .i64 sz, .string by_, .int .i64 ((q : Int) + 7)] rfl (by first | rfl | (go_simp; done) | (go_simp; rfl)) rfl (by simp [Value.oneCell']) hD HB HB.size (by have := hDq.out; omega) ?_; intro v1 w3 ho HB3 hg3 ha3))
          | go_in)
        have hrel2 : ∃ D2 : List Dc, w3.ownsRow w.heap.size 29 6 v1 D2.length (D2.flatMap Dc.cells) ∧ D2.length = q + 1 ∧ Value.int .i64 wv = .int .i64 (wrongS D2) ∧ ∀ d ∈ D2, 0 ≤ d.at_ := by
          refine ⟨D ++ [⟨lk, lb, nm, sz, by_, (q : Int) + 7⟩], by simpa [Dc.cells] using ho, by rw [List.length_append, hDq.out]; rfl, ?_, ?_⟩
          · rw [hws.out]
            rw [if_neg (fun h => hw h.1)]
          · intro d hd
            rcases List.mem_append.mp hd with hd | hd
            · exact hat.out d hd
            · obtain rfl := List.mem_singleton.mp hd
              show (0 : Int) ≤ (q : Int) + 7
              omega
        clear ho hg3 ha3 hD HB
        replace hrel2 := Aside0.mk hrel2
        go_wp2
        go_roundw
        case rel => exact ⟨q + 1, by omega, by first | rfl | go_num, hrel2.out, HB3⟩
        case measure => simp [intOf]; omega
    · have hqi : ¬ (q : Int) < (n0 : Int) := by omega
      have hg2 : As.Handle wr := As.Handle.below hg.out HB
      replace hg2 := Aside0.mk hg2
      cases hfb : fb [] D with
      | none =>
        have hwv : wrongS D = -1 := by unfold wrongS; rw [hfb]; rfl
        rw [hwv]
        have hok := fb_okk D [] hfb
        clear hat hwv
        go_upto_region 16 with (first
          | (go_at_call 7; refine (of.calls hD hok (by omega)).mono ?_; rintro e W2 ⟨p, m, rfl, hS, hb2⟩)
          | go_in)
        have HB2 := HB.trans (hb2.mono HB.size)
        go_wp2_with (first
          | (go_at_call 10; refine (mark.calls hS).mono ?_; rintro e W3 ⟨rfl, hb3⟩))
        refine bodyPost_ret (v := .bool true) (by simp [results, Tryd.results3, go_sem]) rfl ⟨rfl, ?_⟩
        exact HB2.trans (hb3.mono HB2.size)
      | some a0 =>
        have hwv : wrongS D = a0 := by unfold wrongS; rw [hfb]; rfl
        have ha0 : 0 ≤ a0 := by
          obtain ⟨d, hd, e⟩ := fb_mem D [] a0 hfb
          have := hat d hd
          omega
        rw [hwv]
        clear hat hwv
        go_upto_region 16 with (first
          | (go_at_call 7; refine (of.fails hD a0 hfb (by omega)).mono ?_; rintro e W2 ⟨v, rfl, hF, hb2⟩)
          | go_in)
        have HB2 := HB.trans (hb2.mono HB.size)
        have hg3 := hg2.out.below hb2
        have TN := As.number.calls v 3 a0 W2 hg3 hF
        have TP := fun (W3 : World) (hb3 : Below W2.heap.size W2 W3) => As.place.calls v 3 a0 W3 (hg3.below hb3) (hF.below hb3)
        obtain ⟨pf, rfl, _, _⟩ := hF.form
        replace TP := Aside0.mk TP
        clear hF hg3
        go_wp2_with (first
          | (go_at_call 8; refine TN.mono ?_; rintro e W3 ⟨rfl, hb3⟩)
          | (go_at_call 9; refine (TP.out W3 hb3).mono ?_; rintro e W4 ⟨rfl, hb4⟩))
        refine bodyPost_ret (v := .bool true) (by simp [results, Tryd.results3, go_sem]) rfl ⟨rfl, ?_⟩
        have HB3 := HB2.trans (hb3.mono HB2.size)
        exact HB3.trans (hb4.mono HB3.size)
end Go.Proofs.YtchgmfdojhbgaaaDoor.MScope
