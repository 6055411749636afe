/-
LexSigns: each sign is told as such, alone and beside another one that makes no longer one with it. Conditions: as each theorem states them.
-/
import Derived.Test.YtmklkkpeolnjbabDoorMAwake
import Derived.RegionTactic
import Derived.ChangeAlike
import Derived.BigRegion
set_option linter.unusedVariables false
set_option linter.unusedSimpArgs false
namespace Go.Proofs.YtmklkkpeolnjbabDoor.Lex
open Go.RowKit Go.Proofs.YtmklkkpeolnjbabDoorW.PrintWords Go.Proofs.YtmklkkpeolnjbabDoorW.PrintLast Go.Proofs.YtmklkkpeolnjbabDoorW.PrintMore
open Go.Proofs.YtmklkkpeolnjbabDoor.Kit Go.ChangeMaps Go.MapKept
open Go.Proofs.YtmklkkpeolnjbabDoor.PLexCut
def sgn : List ByteArray := [⟨#[59]⟩, ⟨#[61]⟩, ⟨#[91]⟩, ⟨#[93]⟩, ⟨#[123]⟩, ⟨#[125]⟩, ⟨#[40]⟩, ⟨#[41]⟩, ⟨#[44]⟩, ⟨#[43]⟩, ⟨#[45]⟩, ⟨#[42]⟩, ⟨#[38]⟩, ⟨#[124]⟩, ⟨#[94]⟩, ⟨#[60]⟩, ⟨#[126]⟩, ⟨#[60, 60]⟩, ⟨#[62, 62]⟩, ⟨#[61, 61]⟩]
def sgnCells : Array Value := (sgn.map Value.string).toArray
theorem sgn_cell {w : World} {g : Nat} (h : w.heap[g]? = some (Obj.cells sgnCells 9 (0, 0))) (q : Nat) (hq : q < sgn.length) : w.cell? ⟨g, q, none⟩ = some (.string sgn[q]) := by
  rw [blk_cell h q]
  unfold sgnCells
  simp [hq]
def lng (a b : ByteArray) : Bool := (decide (a = ⟨#[60]⟩) || decide (a = ⟨#[61]⟩)) && decide (bt b 0 = bt a 0)
def okTs (r : List Tok ⊕ Nat) (a b : ByteArray) : Bool := match r with
  | .inl [t, u, v] => decide (t.f0 = 4) && decide (t.f1 = a) && decide (u.f1 = b)
  | _ => false
def chk (a b : ByteArray) : Bool := decide (0 < a.size) && decide (0 < b.size) && decide (a.size ≤ 2) && decide (b.size ≤ 2) && okTs (cutS (a ++ ⟨#[32]⟩ ++ b) ((a ++ ⟨#[32]⟩ ++ b).size + 1) 0 []) a b && (lng a b || okTs (cutS (a ++ b) ((a ++ b).size + 1) 0 []) a b)
theorem chk_all : (sgn.all fun a => sgn.all fun b => chk a b) = true := by kernel_rfl
theorem okTs_form {r : List Tok ⊕ Nat} {a b : ByteArray} (h : okTs r a b = true) : ∃ x0 x2 x3 y0 y2 y3 z, r = .inl [⟨x0, a, x2, x3⟩, ⟨y0, b, y2, y3⟩, z] ∧ x0 = 4 := by
  unfold okTs at h
  split at h
  · rename_i t u v
    rw [Bool.and_eq_true, Bool.and_eq_true] at h
    obtain ⟨⟨h1, h2⟩, h3⟩ := h
    replace h1 := of_decide_eq_true h1
    replace h2 := of_decide_eq_true h2
    replace h3 := of_decide_eq_true h3
    obtain ⟨x0, x1, x2, x3⟩ := t
    obtain ⟨y0, y1, y2, y3⟩ := u
    subst h2 h3
    exact ⟨x0, x2, x3, y0, y2, y3, v, rfl, h1⟩
  · cases h
theorem chk_pair (p q : Nat) (hp : p < sgn.length) (hq : q < sgn.length) : chk sgn[p] sgn[q] = true := by
  have h := List.all_eq_true.mp chk_all _ (List.getElem_mem hp)
  exact List.all_eq_true.mp h _ (List.getElem_mem hq)
theorem pair_facts {a b : ByteArray} (h : chk a b = true) : 0 < a.size ∧ 0 < b.size ∧ a.size ≤ 2 ∧ b.size ≤ 2 ∧
    (∃ x2 x3 y0 y2 y3 z, cutS (a ++ ⟨#[32]⟩ ++ b) ((a ++ ⟨#[32]⟩ ++ b).size + 1) 0 [] = .inl [⟨4, a, x2, x3⟩, ⟨y0, b, y2, y3⟩, z]) ∧
    (lng a b = false → ∃ x2 x3 y0 y2 y3 z, cutS (a ++ b) ((a ++ b).size + 1) 0 [] = .inl [⟨4, a, x2, x3⟩, ⟨y0, b, y2, y3⟩, z]) := by
  unfold chk at h
  simp only [Bool.and_eq_true] at h
  obtain ⟨⟨⟨⟨⟨h1, h2⟩, h3⟩, h4⟩, h5⟩, h6⟩ := h
  refine ⟨of_decide_eq_true h1, of_decide_eq_true h2, of_decide_eq_true h3, of_decide_eq_true h4, ?_, fun hl => ?_⟩
  · obtain ⟨x0, x2, x3, y0, y2, y3, z, e, rfl⟩ := okTs_form h5
    exact ⟨x2, x3, y0, y2, y3, z, e⟩
  · rw [hl, Bool.false_or] at h6
    obtain ⟨x0, x2, x3, y0, y2, y3, z, e, rfl⟩ := okTs_form h6
    exact ⟨x2, x3, y0, y2, y3, z, e⟩
theorem cut_any (s : ByteArray) (w : World) (hs : s.size ≤ 65536) : Calls Tryd.prog 5 #[.string s] w fun e w' => Below w.heap.size w w' ∧ ∃ v1 v2, e = .returned (.tuple #[v1, v2]) :=
  (cut.calls s w hs).mono fun e w' h => ⟨h.1, by
    have h2 := h.2
    revert h2
    cases cutS s (s.size + 1) 0 [] with
    | inl ts => exact fun ⟨A, c, h1, h2, h3⟩ => ⟨_, _, h1⟩
    | inr a => exact fun ⟨v, h1, _⟩ => ⟨_, _, h1⟩⟩
set_option maxHeartbeats 8000000 in
set_option maxRecDepth 100000 in
theorem lexSigns.calls (m n : Int) (w : World) (hg : As.Handle w) (hm0 : 0 ≤ m) (hm1 : m < 256) (hn0 : 0 ≤ n) (hn1 : n < 256) : Calls Tryd.prog 3 #[.int .u8 m, .int .u8 n] w fun e w' => e = .returned (.bool true) ∧ Below w.heap.size w w' := by
  have CA := awake.calls w hg
  go_enter Tryd.func3, Tryd.ntmps3
  go_upto_region 4 with (first
    | (go_at_call 4; refine CA.mono ?_; rintro e w1 ⟨rfl, hb1⟩)
    | go_in)
  have eS : (w1.alloc (Obj.cells #[.string ⟨#[59]⟩, .string ⟨#[61]⟩, .string ⟨#[91]⟩, .string ⟨#[93]⟩, .string ⟨#[123]⟩, .string ⟨#[125]⟩, .string ⟨#[40]⟩, .string ⟨#[41]⟩, .string ⟨#[44]⟩, .string ⟨#[43]⟩, .string ⟨#[45]⟩, .string ⟨#[42]⟩, .string ⟨#[38]⟩, .string ⟨#[124]⟩, .string ⟨#[94]⟩, .string ⟨#[60]⟩, .string ⟨#[126]⟩, .string ⟨#[60, 60]⟩, .string ⟨#[62, 62]⟩, .string ⟨#[61, 61]⟩] 9 (0, 0))).heap[w1.heap.size]? = some (Obj.cells sgnCells 9 (0, 0)) := heap_alloc_new w1 (Obj.cells sgnCells 9 (0, 0))
  have hB : Below w.heap.size w (w1.alloc (Obj.cells #[.string ⟨#[59]⟩, .string ⟨#[61]⟩, .string ⟨#[91]⟩, .string ⟨#[93]⟩, .string ⟨#[123]⟩, .string ⟨#[125]⟩, .string ⟨#[40]⟩, .string ⟨#[41]⟩, .string ⟨#[44]⟩, .string ⟨#[43]⟩, .string ⟨#[45]⟩, .string ⟨#[42]⟩, .string ⟨#[38]⟩, .string ⟨#[124]⟩, .string ⟨#[94]⟩, .string ⟨#[60]⟩, .string ⟨#[126]⟩, .string ⟨#[60, 60]⟩, .string ⟨#[62, 62]⟩, .string ⟨#[61, 61]⟩] 9 (0, 0))) := below_alloc hb1 _
  clear CA
  generalize w1.alloc (Obj.cells #[.string ⟨#[59]⟩, .string ⟨#[61]⟩, .string ⟨#[91]⟩, .string ⟨#[93]⟩, .string ⟨#[123]⟩, .string ⟨#[125]⟩, .string ⟨#[40]⟩, .string ⟨#[41]⟩, .string ⟨#[44]⟩, .string ⟨#[43]⟩, .string ⟨#[45]⟩, .string ⟨#[42]⟩, .string ⟨#[38]⟩, .string ⟨#[124]⟩, .string ⟨#[94]⟩, .string ⟨#[60]⟩, .string ⟨#[126]⟩, .string ⟨#[60, 60]⟩, .string ⟨#[62, 62]⟩, .string ⟨#[61, 61]⟩] 9 (0, 0)) = w2 at *
  generalize w1.heap.size = G at *
  have hg2 := hg.below hB
  obtain ⟨p, hp⟩ := Int.eq_ofNat_of_zero_le (show 0 ≤ m % 20 by omega)
  obtain ⟨q, hq⟩ := Int.eq_ofNat_of_zero_le (show 0 ≤ n % 20 by omega)
  have hp20 : p < 20 := by omega
  have hq20 : q < 20 := by omega
  have hsl : sgn.length = 20 := rfl
  have ya := sgn_cell eS p (by omega)
  have yb := sgn_cell eS q (by omega)
  obtain ⟨ha0, hb0, ha2, hb2, F1, F2⟩ := pair_facts (chk_pair p q (by omega) (by omega))
  generalize sgn[p] = a at ya ha0 ha2 F1 F2
  generalize sgn[q] = b at yb hb0 hb2 F1 F2
  have hpi : m % 20 < 20 := by omega
  have hqi : n % 20 < 20 := by omega
  have hpn : (m % 20).toNat = p := by omega
  have hqn : (n % 20).toNat = q := by omega
  obtain ⟨x2, x3, y0, y2, y3, z, hc1⟩ := F1
  have T1 := cut.calls (a ++ ⟨#[32]⟩ ++ b) w2.drew (by rw [ByteArray.size_append, ByteArray.size_append]; show a.size + 1 + b.size ≤ 65536; omega)
  rw [hc1] at T1
  have hB2 := hB.drew
  have eS2 : w2.drew.heap = w2.heap := rfl
  clear hc1 hp hq eS eS2
  replace F2 := Aside0.mk F2
  go_region
  generalize w2.drew = W at T1 hB2 ⊢
  clear hB ya yb hpn hqn hpi hqi hg2
  go_upto_region 6 with (first
    | (go_at_call 5; refine T1.mono ?_; rintro e w3 ⟨hb3, A, c, rfl, hc, hC⟩)
    | go_in)
  obtain ⟨ad, rfl, z0, z1, _, _⟩ := at_Tok hC 0 (by decide) (by show (0 : Int) < 3; decide)
  obtain ⟨_, e1, _, z5, _, _⟩ := at_Tok hC 1 (by decide) (by show (1 : Int) < 3; decide)
  obtain rfl := Option.some.inj e1
  have r0 : rdTok [⟨4, a, x2, x3⟩, ⟨y0, b, y2, y3⟩, z] 0 = ⟨4, a, x2, x3⟩ := rfl
  have r1 : rdTok [⟨4, a, x2, x3⟩, ⟨y0, b, y2, y3⟩, z] 1 = ⟨y0, b, y2, y3⟩ := rfl
  rw [r0] at z0 z1
  rw [r1] at z5
  have e0 : Int.toNat 0 * 4 = 0 := rfl
  have e4 : Int.toNat 1 * 4 = 4 := rfl
  rw [e0] at z0 z1
  rw [e4] at z5
  replace z0 : w3.cell? ad = some (.int .i64 4) := z0
  replace z1 : w3.cell? ⟨ad.block, ad.off + 1, none⟩ = some (.string a) := z1
  replace z5 : w3.cell? ⟨ad.block, ad.off + 5, none⟩ = some (.string b) := z5
  have hB3 := hB2.trans (hb3.mono hB2.size)
  clear hC r0 r1 e0 e4 e1 T1 hB2 hb3
  have hsz : (a ++ b).size ≤ 65536 := by rw [ByteArray.size_append]; omega
  cases hl : lng a b with
  | true =>
    have T2 := cut_any (a ++ b) w3 hsz
    replace hl := Aside0.mk hl
    go_upto_region 7 with (first
      | (go_at_call 5; refine T2.mono ?_; rintro e w4 ⟨hb4, v1, v2, rfl⟩)
      | go_in)
    have hB4 := hB3.trans (hb4.mono hB3.size)
    have z0 := (hb4.cell (As.cell_lt z0)).trans z0
    have z1 := (hb4.cell (As.cell_lt z1)).trans z1
    have z5 := (hb4.cell (As.cell_lt z5)).trans z5
    clear hb4 hB3
    go_upto_region 9 with go_in
    have hba : ∀ h : 0 < a.size, ((a[0]'h).toNat : Int) = bt a 0 := fun h => bt_at a 0 (by simpa using h)
    have hbb : ∀ h : 0 < b.size, ((b[0]'h).toNat : Int) = bt b 0 := fun h => bt_at b 0 (by simpa using h)
    have ha0i : (0 : Int) < (a.size : Int) := by omega
    have hb0i : (0 : Int) < (b.size : Int) := by omega
    have e60 : (a.toList == ([60] : List UInt8)) = decide (a = ⟨#[60]⟩) := by have h := same_b a ⟨#[60]⟩; rw [show (⟨#[60]⟩ : ByteArray).toList = [60] by simp] at h; exact h
    have e61 : (a.toList == ([61] : List UInt8)) = decide (a = ⟨#[61]⟩) := by have h := same_b a ⟨#[61]⟩; rw [show (⟨#[61]⟩ : ByteArray).toList = [61] by simp] at h; exact h
    have hcc : (bt b 0 == bt a 0) = decide (bt b 0 = bt a 0) := by by_cases h : bt b 0 = bt a 0 <;> simp [h]
    have hl := hl.out
    unfold lng at hl
    revert hl e60 e61 hcc
    generalize decide (a = ⟨#[60]⟩) = d0
    generalize decide (a = ⟨#[61]⟩) = d1
    generalize decide (bt b 0 = bt a 0) = d2
    intro e60 e61 hcc hl
    generalize bt b 0 = cb at hbb hcc ⊢
    generalize bt a 0 = ca at hba hcc ⊢
    cases d2 with
    | false => cases d0 <;> cases d1 <;> cases hl
    | true =>
      have hce : cb = ca := beq_iff_eq.mp hcc
      subst hce
      clear T2
      cases d0 with
      | true =>
        clear hl
        go_region
        all_goals go_wp2
        all_goals go_ret
        all_goals exact ⟨rfl, by repeat (first | exact hB4 | apply below_drew | apply pw_below_drewN)⟩
      | false =>
        cases d1 with
        | false => cases hl
        | true =>
          clear hl
          go_region
          all_goals go_wp2
          all_goals go_ret
          all_goals exact ⟨rfl, by repeat (first | exact hB4 | apply below_drew | apply pw_below_drewN)⟩
  | false =>
    obtain ⟨u2, u3, v0, v2, v3, zz, hc2⟩ := F2.out hl
    have T2 := cut.calls (a ++ b) w3 hsz
    rw [hc2] at T2
    clear hc2
    replace hl := Aside0.mk hl
    go_upto_region 7 with (first
      | (go_at_call 5; refine T2.mono ?_; rintro e w4 ⟨hb4, A2, c2, rfl, hcc2, hC2⟩)
      | go_in)
    obtain ⟨ad2, rfl, _, k1, _, _⟩ := at_Tok hC2 0 (by decide) (by show (0 : Int) < 3; decide)
    obtain ⟨_, e1, _, k5, _, _⟩ := at_Tok hC2 1 (by decide) (by show (1 : Int) < 3; decide)
    obtain rfl := Option.some.inj e1
    have r0 : rdTok [⟨4, a, u2, u3⟩, ⟨v0, b, v2, v3⟩, zz] 0 = ⟨4, a, u2, u3⟩ := rfl
    have r1 : rdTok [⟨4, a, u2, u3⟩, ⟨v0, b, v2, v3⟩, zz] 1 = ⟨v0, b, v2, v3⟩ := rfl
    rw [r0] at k1
    rw [r1] at k5
    have e0 : Int.toNat 0 * 4 = 0 := rfl
    have e4 : Int.toNat 1 * 4 = 4 := rfl
    rw [e0] at k1
    rw [e4] at k5
    replace k1 : w4.cell? ⟨ad2.block, ad2.off + 1, none⟩ = some (.string a) := k1
    replace k5 : w4.cell? ⟨ad2.block, ad2.off + 5, none⟩ = some (.string b) := k5
    clear hC2 r0 r1 e0 e4 e1 T2
    have hB4 := hB3.trans (hb4.mono hB3.size)
    have z0 := (hb4.cell (As.cell_lt z0)).trans z0
    have z1 := (hb4.cell (As.cell_lt z1)).trans z1
    have z5 := (hb4.cell (As.cell_lt z5)).trans z5
    clear hb4 hB3
    go_upto_region 9 with go_in
    have hba : ∀ h : 0 < a.size, ((a[0]'h).toNat : Int) = bt a 0 := fun h => bt_at a 0 (by simpa using h)
    have hbb : ∀ h : 0 < b.size, ((b[0]'h).toNat : Int) = bt b 0 := fun h => bt_at b 0 (by simpa using h)
    have ha0i : (0 : Int) < (a.size : Int) := by omega
    have hb0i : (0 : Int) < (b.size : Int) := by omega
    have e60 : (a.toList == ([60] : List UInt8)) = decide (a = ⟨#[60]⟩) := by have h := same_b a ⟨#[60]⟩; rw [show (⟨#[60]⟩ : ByteArray).toList = [60] by simp] at h; exact h
    have e61 : (a.toList == ([61] : List UInt8)) = decide (a = ⟨#[61]⟩) := by have h := same_b a ⟨#[61]⟩; rw [show (⟨#[61]⟩ : ByteArray).toList = [61] by simp] at h; exact h
    have hcc : (bt b 0 == bt a 0) = decide (bt b 0 = bt a 0) := by by_cases h : bt b 0 = bt a 0 <;> simp [h]
    have hl := hl.out
    unfold lng at hl
    revert hl e60 e61 hcc
    generalize decide (a = ⟨#[60]⟩) = d0
    generalize decide (a = ⟨#[61]⟩) = d1
    generalize decide (bt b 0 = bt a 0) = d2
    intro e60 e61 hcc hl
    generalize hcb : bt b 0 = cb at hbb hcc ⊢
    generalize hca : bt a 0 = ca at hba hcc ⊢
    replace hcb := Aside0.mk hcb
    replace hca := Aside0.mk hca
    cases d0 with
    | true =>
      cases d2 with
      | true => cases d1 <;> cases hl
      | false =>
        have hne : ¬ cb = ca := fun h => by rw [h] at hcc; simp at hcc
        clear hl
        go_region
        all_goals go_wp2
        all_goals go_ret
        all_goals exact ⟨rfl, by repeat (first | exact hB4 | apply below_drew | apply pw_below_drewN)⟩
    | false =>
      cases d1 with
      | true =>
        cases d2 with
        | true => cases hl
        | false =>
          have hne : ¬ cb = ca := fun h => by rw [h] at hcc; simp at hcc
          clear hl
          go_region
          all_goals go_wp2
          all_goals go_ret
          all_goals exact ⟨rfl, by repeat (first | exact hB4 | apply below_drew | apply pw_below_drewN)⟩
      | false =>
        clear hl hcc
        go_region
        all_goals go_wp2
        all_goals go_ret
        all_goals exact ⟨rfl, by repeat (first | exact hB4 | apply below_drew | apply pw_below_drewN)⟩
end Go.Proofs.YtmklkkpeolnjbabDoor.Lex
