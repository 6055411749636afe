/-
An image that may be, made of any codes: law21.Make, plainly and walked. Conditions: as each theorem states them.
-/
import Derived.Test.YtaenjbhhpdmhgaaMTsP
import Derived.Test.YtaenjbhhpdmhgaaPTsoScriptx9
import Derived.Test.YtaenjbhhpdmhgaaOpens
import Derived.OpenShut
import Derived.ShutString
import Derived.ChangeOld
import Derived.Below
import Derived.SizedLaws
import Derived.Lib.SmallJoins
set_option linter.unusedSimpArgs false
set_option linter.unusedVariables false
namespace Go.Proofs.Ytaenjbhhpdmhgaa.Pure
open Go.RowKit Go.Proofs.YtaenjbhhpdmhgaaW.PrintWords Go.Proofs.YtaenjbhhpdmhgaaW.PrintLast Go.Proofs.YtaenjbhhpdmhgaaW.PrintMore Go.Proofs.Ytaenjbhhpdmhgaa.Kit
open Go.Proofs.Ytaenjbhhpdmhgaa.PTsoScript
attribute [local go_sem] max2_int min2_int max_two min_two max_three min_three max_four min_four   -- for this text's walks alone
theorem lawbare_is (k : Nat) (o d t a b c v g : Int) : tautochronelaw20_bare.f (k + 4) o d t a b c v g = some (bareS o d t a b c v g) := by
  refine op_cases (P := fun o => tautochronelaw20_bare.f (k + 4) o d t a b c v g = some (bareS o d t a b c v g)) o (fun n hn => ?_) (fun h0 h1 h2 h3 h4 h5 h6 h7 h8 h9 h10 h11 h12 h13 => ?_)
  · rcases hn with rfl | rfl | rfl | rfl | rfl | rfl | rfl | rfl | rfl | rfl | rfl | rfl | rfl | rfl <;> simp [tautochronelaw20_bare.f, code_Defines.f, tautochronelaw20_bare.j0, tautochronelaw20_bare.j1, tautochronelaw20_bare.j2, tautochronelaw20_bare.j3, bareS]
  · simp [tautochronelaw20_bare.f, code_Defines.f, tautochronelaw20_bare.j0, tautochronelaw20_bare.j1, tautochronelaw20_bare.j2, tautochronelaw20_bare.j3, bareS, h0, h1, h2, h3, h4, h5, h6, h7, h8, h9, h10, h11, h12, h13]
theorem lawbare_ev (o d t a b c v g : Int) : Ev (fun k => tautochronelaw20_bare.f k o d t a b c v g) (bareS o d t a b c v g) := ev4 4 (fun k => lawbare_is k ..)
theorem tmod_of (n m : Int) (hm : 0 < m) : Int.tmod n m = n % m ∨ Int.tmod n m = n % m - m := by
  rw [Int.tmod_eq_emod]
  split
  · left; omega
  · right; rw [Int.natAbs_of_nonneg (by omega)]
theorem rest_is (n m : Int) (hm : 0 < m) (hm2 : m ≤ 65536) : tautochronelaw20_rest.f n m = some (n % m) := by
  unfold tautochronelaw20_rest.f
  rw [if_neg (by omega)]
  have h0 := Int.emod_nonneg n (show m ≠ 0 by omega)
  have h1 := Int.emod_lt_of_pos n hm
  have ht := tmod_of n m hm
  rw [wrap_in (by omega) (by omega), Int.tmod_eq_emod_of_nonneg (by omega)]
  congr 1
  rcases ht with ht | ht <;> rw [ht]
  · rw [Int.add_emod_right, Int.emod_emod]
  · rw [show n % m - m + m = n % m by omega, Int.emod_emod]
/-- A code that may be, of any. -/
def mkA (o a : Int) : Int := if o % 14 = 4 ∨ o % 14 = 5 then a % 9 - 1 else a % 8
def makeS (o d t a b c v g : Int) : T8 := bareS (o % 14) (d % 10) (t % 8) (mkA o a) (b % 8) (c % 8) v (g % 65536)
theorem make_ev (o d t a b c v g : Int) : Ev (fun k => tautochronelaw20_Make.f k o d t a b c v g) (makeS o d t a b c v g) := by
  unfold tautochronelaw20_Make.f
  have hr : ∀ n m : Int, 0 < m → m ≤ 65536 → tautochronelaw20_rest.f n m = some (n % m) := rest_is
  refine Ev.pure (hr o 14 (by decide) (by decide)) (Ev.pure (hr d 10 (by decide) (by decide)) (Ev.pure (hr t 8 (by decide) (by decide)) (Ev.pure (hr b 8 (by decide) (by decide)) (Ev.pure (hr c 8 (by decide) (by decide)) (Ev.pure (hr g 65536 (by decide) (by decide)) ?_)))))
  have core : ∀ x : Bool, (x = true ↔ o % 14 = 4 ∨ o % 14 = 5) → Ev (fun k => tautochronelaw20_Make.j0 k x (o % 14) (d % 10) (t % 8) a (b % 8) (c % 8) v (g % 65536)) (makeS o d t a b c v g) := by
    intro x hx
    refine Ev.step (fun k => tautochronelaw20_Make.j0.eq_2 ..) ?_
    cases x with
    | true =>
      have h := hx.1 rfl
      refine Ev.pos rfl (Ev.pure (hr a 9 (by decide) (by decide)) ?_)
      rw [wrap_in (by omega) (by omega)]
      refine Ev.bind (lawbare_ev ..) (Ev.done ?_)
      simp only [makeS, mkA, if_pos h]
    | false =>
      have h : ¬ (o % 14 = 4 ∨ o % 14 = 5) := fun h => by have := hx.2 h; cases this
      refine Ev.neg (by decide) (Ev.pure (hr a 8 (by decide) (by decide)) ?_)
      refine Ev.bind (lawbare_ev ..) (Ev.done ?_)
      simp only [makeS, mkA, if_neg h]
  by_cases h4 : o % 14 = 4
  · exact Ev.pos h4 (core true (by simp [h4]))
  · exact Ev.neg h4 (core (o % 14 == 5) (by rw [beq_iff_eq]; omega))
/-- A code in its ranges, that is as it is told. -/
structure Ok8 (o d t a b c v g : Int) : Prop where
  o0 : 0 ≤ o
  o1 : o ≤ 13
  d0 : 0 ≤ d
  d1 : d ≤ 9
  t0 : -1 ≤ t
  t1 : t ≤ 7
  a0 : -1 ≤ a
  a1 : a ≤ 7
  b0 : -1 ≤ b
  b1 : b ≤ 7
  c0 : -1 ≤ c
  c1 : c ≤ 7
  v0 : 0 ≤ v
  v1 : v ≤ 18446744073709551615
  g0 : 0 ≤ g
  g1 : g ≤ 65535
  may : MayS o d t a b c v g
theorem make_ok (o d t a b c v g : Int) (hv0 : 0 ≤ v) (hv1 : v ≤ 18446744073709551615) :
    Ok8 (makeS o d t a b c v g).1 (makeS o d t a b c v g).2.1 (makeS o d t a b c v g).2.2.1 (makeS o d t a b c v g).2.2.2.1 (makeS o d t a b c v g).2.2.2.2.1 (makeS o d t a b c v g).2.2.2.2.2.1 (makeS o d t a b c v g).2.2.2.2.2.2.1 (makeS o d t a b c v g).2.2.2.2.2.2.2 := by
  have hA : (o % 14 = 4 ∨ o % 14 = 5 → -1 ≤ mkA o a ∧ mkA o a ≤ 7) ∧ (¬ (o % 14 = 4 ∨ o % 14 = 5) → 0 ≤ mkA o a ∧ mkA o a ≤ 7) := by
    unfold mkA
    constructor
    · intro h; rw [if_pos h]; omega
    · intro h; rw [if_neg h]; omega
  unfold makeS
  generalize mkA o a = a' at hA
  have ho : 0 ≤ o % 14 ∧ o % 14 ≤ 13 := by omega
  generalize o % 14 = o' at ho hA
  have hd : 0 ≤ d % 10 ∧ d % 10 ≤ 9 := by omega
  generalize d % 10 = d' at hd
  have ht : 0 ≤ t % 8 ∧ t % 8 ≤ 7 := by omega
  generalize t % 8 = t' at ht
  have hb : 0 ≤ b % 8 ∧ b % 8 ≤ 7 := by omega
  generalize b % 8 = b' at hb
  have hc : 0 ≤ c % 8 ∧ c % 8 ≤ 7 := by omega
  generalize c % 8 = c' at hc
  have hg : 0 ≤ g % 65536 ∧ g % 65536 ≤ 65535 := by omega
  generalize g % 65536 = g' at hg
  have hcases : o' = 0 ∨ o' = 1 ∨ o' = 2 ∨ o' = 3 ∨ o' = 4 ∨ o' = 5 ∨ o' = 6 ∨ o' = 7 ∨ o' = 8 ∨ o' = 9 ∨ o' = 10 ∨ o' = 11 ∨ o' = 12 ∨ o' = 13 := by omega
  clear ho
  rcases hcases with rfl | rfl | rfl | rfl | rfl | rfl | rfl | rfl | rfl | rfl | rfl | rfl | rfl | rfl <;> simp at hA
  all_goals first
    | (constructor <;> simp [bareS, MayS, IsBare, usesS] <;> omega)
    | (have hm : mx a' (-1) = a' := by unfold mx; omega
       constructor <;> simp [bareS, MayS, IsBare, usesS, hm] <;> (first | omega | (split <;> simp <;> omega)))
def Ok28 (x : S28) : Prop := Ok8 x.f0 x.f1 x.f2 x.f3 x.f4 x.f5 x.f6 x.f7
/-! The law's Make. -/
def U64 (x : S28) : Prop := 0 ≤ x.f6 ∧ x.f6 ≤ 18446744073709551615
def mkX (x : S28) : S28 :=
  let p := makeS x.f0 x.f1 x.f2 x.f3 x.f4 x.f5 x.f6 x.f7
  ⟨p.1, p.2.1, p.2.2.1, p.2.2.2.1, p.2.2.2.2.1, p.2.2.2.2.2.1, p.2.2.2.2.2.2.1, p.2.2.2.2.2.2.2⟩
theorem mk_ok (x : S28) (h : U64 x) : Ok28 (mkX x) := make_ok x.f0 x.f1 x.f2 x.f3 x.f4 x.f5 x.f6 x.f7 h.1 h.2
def PlaceOp (o : Int) : Prop := o = 4 ∨ o = 5 ∨ o = 8 ∨ o = 9 ∨ o = 10
instance (o : Int) : Decidable (PlaceOp o) := by unfold PlaceOp; infer_instance
def fixX (c n : Int) (d : S28) : S28 := ⟨d.f0, d.f1, d.f2, d.f3, d.f4, d.f5, if PlaceOp d.f0 then d.f6 % c else d.f6, d.f7 % (n + 1)⟩
def haltX : S28 := ⟨13, 0, -1, -1, -1, -1, 0, 0⟩
def thM (c : Int) (t : List S28) : List S28 := (t.take 30).map (fun x => fixX c ((t.take 30).length : Int) (mkX x)) ++ [haltX]
/-- What Make makes may be. -/
theorem fix_ok {c n : Int} {d : S28} (h : Ok28 d) (hc0 : 1 ≤ c) (hc1 : c ≤ 1048576) (hn0 : 0 ≤ n) (hn1 : n ≤ 30) : Ok28 (fixX c n d) ∧ inS c (fixX c n d) ∧ ∀ m : Nat, n + 1 = m → gcX m (fixX c n d) := by
  have hv : 0 ≤ (fixX c n d).f6 ∧ (fixX c n d).f6 ≤ 18446744073709551615 := by
    have h0 := h.v0
    have h1 := h.v1
    show 0 ≤ (if PlaceOp d.f0 then d.f6 % c else d.f6) ∧ (if PlaceOp d.f0 then d.f6 % c else d.f6) ≤ 18446744073709551615
    split
    · have := Int.emod_nonneg d.f6 (b := c) (by omega)
      have := Int.emod_lt_of_pos d.f6 (b := c) (by omega)
      omega
    · exact ⟨h0, h1⟩
  have hg0 := Int.emod_nonneg d.f7 (b := n + 1) (by omega)
  have hg1 := Int.emod_lt_of_pos d.f7 (b := n + 1) (by omega)
  have hg : (fixX c n d).f7 = d.f7 % (n + 1) := rfl
  obtain ⟨m0, m1, m2, mb, m3, m4, m5, m6⟩ := h.may
  have hbare : IsBare d.f0 d.f1 d.f2 d.f3 d.f4 d.f5 (fixX c n d).f6 (fixX c n d).f7 := by
    obtain ⟨b1, b2, b3, b4_, b5, b6, b7⟩ := mb
    simp only [bareS] at b1 b2 b3 b4_ b5 b6 b7
    refine ⟨b1, b2, b3, b4_, b5, ?_, ?_⟩
    · show (if d.f0 = 0 ∨ d.f0 = 4 ∨ d.f0 = 5 ∨ d.f0 = 8 ∨ d.f0 = 9 ∨ d.f0 = 10 then (fixX c n d).f6 else 0) = (fixX c n d).f6
      by_cases hp : d.f0 = 0 ∨ d.f0 = 4 ∨ d.f0 = 5 ∨ d.f0 = 8 ∨ d.f0 = 9 ∨ d.f0 = 10
      · rw [if_pos hp]
      · rw [if_neg hp] at b6 ⊢
        show 0 = (if PlaceOp d.f0 then d.f6 % c else d.f6)
        rw [if_neg (show ¬ PlaceOp d.f0 from fun hq => hp (.inr hq))]; exact b6
    · show (if d.f0 = 6 ∨ d.f0 = 7 then (fixX c n d).f7 else 0) = (fixX c n d).f7
      by_cases hp : d.f0 = 6 ∨ d.f0 = 7
      · rw [if_pos hp]
      · rw [if_neg hp] at b7 ⊢
        rw [hg, ← b7]; simp
  have hmay : MayS d.f0 d.f1 d.f2 d.f3 d.f4 d.f5 (fixX c n d).f6 (fixX c n d).f7 := ⟨m0, m1, m2, hbare, by rw [hg]; omega, by rw [hg]; omega, m5, m6⟩
  refine ⟨⟨h.o0, h.o1, h.d0, h.d1, h.t0, h.t1, h.a0, h.a1, h.b0, h.b1, h.c0, h.c1, hv.1, hv.2, by show 0 ≤ d.f7 % (n + 1); omega, by show d.f7 % (n + 1) ≤ 65535; omega, hmay⟩, ?_, ?_⟩
  · intro hp
    show (if PlaceOp d.f0 then d.f6 % c else d.f6) < c
    rw [if_pos (show PlaceOp d.f0 from hp)]
    exact Int.emod_lt_of_pos _ (by omega)
  · intro m hm
    refine ⟨m0, m1, m2, fun _ => ⟨by rw [hg]; omega, by rw [hg]; omega⟩, fun hp => ?_, ?_⟩
    · have hp' : d.f0 = 0 ∨ d.f0 = 1 ∨ d.f0 = 2 ∨ d.f0 = 3 ∨ d.f0 = 4 := hp
      have := m5 (by omega)
      exact ⟨this.1, by show d.f2 ≤ 65535; omega⟩
    · show U16 (usesS d.f0 d.f3 d.f4 d.f5) = true
      rw [U16, List.all_eq_true]
      intro u hu
      have := m6 u hu
      exact decide_eq_true ⟨this.1, by omega⟩
theorem halt_ok : Ok28 haltX := ⟨by decide, by decide, by decide, by decide, by decide, by decide, by decide, by decide, by decide, by decide, by decide, by decide, by decide, by decide, by decide, by decide, by decide⟩
theorem last_app (l : List S28) (x : S28) : lastS (l ++ [x]) = x.f0 := by
  have e : (((l ++ [x]).length : Int) - 1).toNat = l.length := by rw [List.length_append]; simp
  unfold lastS rd_T28
  rw [e]; simp
theorem thM_ok {c : Int} (hc0 : 1 ≤ c) (hc1 : c ≤ 1048576) {t : List S28} (hu : ∀ x ∈ t, U64 x) : thS c (thM c t) ∧ ∀ x ∈ thM c t, Ok28 x := by
  have hlen : (thM c t).length = (t.take 30).length + 1 := by rw [thM, List.length_append, List.length_map]; rfl
  have hn30 : (t.take 30).length ≤ 30 := by rw [List.length_take]; omega
  have each : ∀ x ∈ thM c t, Ok28 x ∧ inS c x ∧ gcX (thM c t).length x := by
    intro x hx
    rcases List.mem_append.mp hx with hx | hx
    · obtain ⟨y, hy, rfl⟩ := List.mem_map.mp hx
      have := fix_ok (c := c) (n := ((t.take 30).length : Int)) (mk_ok y (hu y (List.mem_of_mem_take hy))) hc0 hc1 (by omega) (by omega)
      exact ⟨this.1, this.2.1, this.2.2 _ (by rw [hlen]; omega)⟩
    · rw [List.mem_singleton.mp hx]
      refine ⟨halt_ok, fun h => ?_, ⟨by decide, by decide, by decide, fun h => ?_, fun h => ?_, by decide⟩⟩
      · rcases h with h | h | h | h | h <;> cases h
      · rcases h with h | h <;> cases h
      · rcases h with h | h | h | h | h <;> cases h
  refine ⟨⟨⟨by omega, by omega, .inl (by rw [thM, last_app]; rfl), fun x hx => (each x hx).2.2⟩, fun x hx => ⟨(each x hx).1.may, (each x hx).2.1⟩⟩, fun x hx => (each x hx).1⟩
theorem mkI_ok (R : List (List S28)) (a1 a2 : Int) (h1 : 0 ≤ a1 ∧ a1 ≤ 255) (h2 : 0 ≤ a2 ∧ a2 ≤ 255) (hu : ∀ t ∈ R, ∀ x ∈ t, U64 x) :
    imS (a1 % (a2 + 2)) (a2 + 1) ((R.take 16).map (thM (a2 + 1))) ∧ ∀ t ∈ (R.take 16).map (thM (a2 + 1)), ∀ x ∈ t, Ok28 x := by
  have hm0 := Int.emod_nonneg a1 (b := a2 + 2) (by omega)
  have hm1 := Int.emod_lt_of_pos a1 (b := a2 + 2) (by omega)
  have each : ∀ t ∈ (R.take 16).map (thM (a2 + 1)), thS (a2 + 1) t ∧ ∀ x ∈ t, Ok28 x := by
    intro t ht
    obtain ⟨y, hy, rfl⟩ := List.mem_map.mp ht
    exact thM_ok (by omega) (by omega) (hu y (List.mem_of_mem_take hy))
  exact ⟨⟨hm0, by omega, by omega, by rw [List.length_map, List.length_take]; omega, fun t ht => (each t ht).1⟩, fun t ht => (each t ht).2⟩
theorem alloc_sz (w : World) (o : Obj) : (w.alloc o).heap.size = w.heap.size + 1 := Array.size_push _
theorem make_some (x : S28) : ∃ k, tautochronelaw20_Make.f k x.f0 x.f1 x.f2 x.f3 x.f4 x.f5 x.f6 x.f7 = some ((mkX x).f0, (mkX x).f1, (mkX x).f2, (mkX x).f3, (mkX x).f4, (mkX x).f5, (mkX x).f6, (mkX x).f7) := Ev.rounds (make_ev ..)
theorem halt_some : ∃ k, encode_Bare.f k 13 0 0 0 0 0 0 0 = some (13, 0, -1, -1, -1, -1, 0, 0) := Ev.rounds (Bare_ev ..)
def mkI.T18 : Bool × List (List Nat × List Nat) := (true, [([], []), ([0], [0]), ([], []), ([], []), ([3], [3]), ([4], [4]), ([2, 5, 4], [2, 5]), ([6], [6]), ([1, 7, 6], [1, 7]), ([0, 1, 2, 3, 4, 5, 6, 7, 8], []), ([9, 8, 8, 0, 1, 2, 3, 4, 5, 6, 7, 8], [8, 9])])
def mkI.B18 : List Nat := [0, 1, 0, 0, 8, 24, 60, 124, 255, 511, 1023]
theorem mkI.tab18 : rtab .any (opsOf Try.f22 18) = mkI.T18 := by kernel_rfl
theorem mkI.bits18 : waitsOk mkI.T18.2 mkI.B18 = true := by kernel_rfl
set_option maxHeartbeats 4000000 in
set_option maxRecDepth 100000 in
theorem mkI.calls (A0 : Option Addr) (c0 : Nat) (R : List (List S28)) (sh ce : Int) (w : World) (hr0 : Kd.C (Kd.slice 28 k28) w A0 R.length R) (hc0 : R.length ≤ c0)
    (hR : R.length ≤ 9223372036854775806) (h1 : 0 ≤ sh ∧ sh ≤ 255) (h2 : 0 ≤ ce ∧ ce ≤ 255) (hu : ∀ t ∈ R, ∀ x ∈ t, U64 x) :
    Calls Try.prog 22 #[.slice A0 R.length c0, .int .u8 sh, .int .u8 ce] w fun e w' => ∃ v, e = .returned (.agg #[.int .i64 (sh % (ce + 2)), .int .i64 (ce + 1), v]) ∧ Kd.S (Kd.slice 28 k28) 29 w' w.heap.size (fun _ => True) v ((R.take 16).map (thM (ce + 1))) ∧ Below w.heap.size w w' := by
  obtain ⟨kh, hkh⟩ := halt_some
  have e1 : wrap64 ce = ce := wrap_in (by omega) (by omega)
  have e2 : wrap64 (ce + 1) = ce + 1 := wrap_in (by omega) (by omega)
  have e3 : wrap64 (ce + 1 + 1) = ce + 2 := by rw [wrap_in (by omega) (by omega)]; omega
  have e4 : wrap64 sh = sh := wrap_in (by omega) (by omega)
  have e5 : Int.tmod sh (ce + 2) = sh % (ce + 2) := Int.tmod_eq_emod_of_nonneg h1.1
  have e6 : ce + 1 + 1 = ce + 2 := by omega
  replace hu := Aside0.mk hu
  replace e1 := Aside0.mk e1
  replace e2 := Aside0.mk e2
  replace e3 := Aside0.mk e3
  replace e4 := Aside0.mk e4
  replace e5 := Aside0.mk e5
  go_enter Try.func22, Try.ntmps22
  go_upto_region 3 with go_in
  have BK6 := (blk_alloc (heap_alloc_new w (Obj.cells #[.int .i64 0, .int .i64 0, .slice none 0 0] 36 (0, 0))) (Obj.cells #[.int .i64 (sh % (ce + 2)), .int .i64 (ce + 1), .slice none 0 0] 36 (0, 0)))
  have BK7 := heap_alloc_new (w.alloc (Obj.cells #[.int .i64 0, .int .i64 0, .slice none 0 0] 36 (0, 0))) (Obj.cells #[.int .i64 (sh % (ce + 2)), .int .i64 (ce + 1), .slice none 0 0] 36 (0, 0))
  have HB : Below w.heap.size w ((w.alloc (Obj.cells #[.int .i64 0, .int .i64 0, .slice none 0 0] 36 (0, 0))).alloc (Obj.cells #[.int .i64 (sh % (ce + 2)), .int .i64 (ce + 1), .slice none 0 0] 36 (0, 0))) := ((Below.refl _ _).alloc (Nat.le_refl _) _).alloc (by rw [alloc_sz]; omega) _
  generalize ((w.alloc (Obj.cells #[.int .i64 0, .int .i64 0, .slice none 0 0] 36 (0, 0))).alloc (Obj.cells #[.int .i64 (sh % (ce + 2)), .int .i64 (ce + 1), .slice none 0 0] 36 (0, 0))) = w2 at BK6 BK7 HB ⊢
  rw [show (w.alloc (Obj.cells #[.int .i64 0, .int .i64 0, .slice none 0 0] 36 (0, 0))).heap.size = w.heap.size + 1 from alloc_sz _ _] at BK7
  obtain ⟨B6, hB6⟩ : ∃ B, B = w.heap.size := ⟨_, rfl⟩
  obtain ⟨B7, hB7⟩ : ∃ B, B = w.heap.size + 1 := ⟨_, rfl⟩
  rw [← hB7] at BK7
  rw [← hB7]
  have hG6 : w.heap.size ≤ B6 := by omega
  have hG7 : w.heap.size ≤ B7 := by omega
  have hN67 : B6 ≠ B7 := by omega
  replace hG6 := Aside0.mk hG6
  replace hG7 := Aside0.mk hG7
  replace BK6 : w2.heap[B6]? = some (Obj.cells #[.int .i64 0, .int .i64 0, .slice none 0 0] 36 (0, 0)) := by rw [hB6]; exact BK6
  rw [← hB6]
  replace hB6 := Aside0.mk hB6
  replace hB7 := Aside0.mk hB7
  replace e6 := Aside0.mk e6
  go_upto_region 4 with go_in
  go_loopw [28] (fun v28 wr => ∃ (i : Nat) (u : Value), v28 = .int .i64 i ∧ i ≤ 16 ∧ i ≤ R.length ∧ Kd.S (Kd.slice 28 k28) 29 wr w.heap.size (fun _ => True) u ((R.take i).map (thM (ce + 1))) ∧ wr.heap[B6]? = some (Obj.cells #[.int .i64 0, .int .i64 0, .slice none 0 0] 36 (0, 0)) ∧ wr.heap[B7]? = some (Obj.cells #[.int .i64 (sh % (ce + 2)), .int .i64 (ce + 1), u] 36 (0, 0)) ∧ Below w.heap.size w wr)
    (fun v28 _ => R.length - (intOf v28).toNat)
  case atStart => exact ⟨0, _, rfl, by omega, by omega, Kd.S_nil _ _ _ _ _, BK6, BK7, HB⟩
  case round =>
    clear BK6 BK7 HB
    obtain ⟨q, u, rfl, hq16, hq, HS, BK6, BK7, HB⟩ := hrel
    by_cases hqn : q < R.length
    · by_cases hq6 : q = 16
      · subst hq6
        replace hq := Aside0.mk hq
        have hi16 : (16 : Int) < (R.length : Int) := by omega
        obtain ⟨ad, AT, cT, eT, hxT, hlT, hCT⟩ := at_L3 hr0 16 (by omega) (by omega)
        cases eT
        have HXT := (HB.cell (World.block_lt_of_cell? w _ hxT)).trans hxT
        replace HXT : wr.cell? ⟨ad.block, ad.off + 16, none⟩ = some (.slice AT (rd_L3 R 16).length cT) := HXT
        have x70 := blk_cell BK7 0
        have x71 := blk_cell BK7 1
        have x72 := blk_cell BK7 2
        have x60 := blk_cell BK6 0
        have x61 := blk_cell BK6 1
        have x62 := blk_cell BK6 2
        have f70 := blk_frozen BK7 0
        have f71 := blk_frozen BK7 1
        have f72 := blk_frozen BK7 2
        have f60 := blk_frozen BK6 0
        have f61 := blk_frozen BK6 1
        have f62 := blk_frozen BK6 2
        have hN76 := hN67.symm
        have HF : (R.take 16).map (thM (ce + 1)) = (R.take 16).map (thM (ce + 1)) := by
          first | rfl | rw [List.take_of_length_le (show R.length ≤ 16 by omega), List.take_of_length_le (show R.length ≤ 16 by omega)]
        rw [HF] at HS
        clear HF
        generalize hLF : (R.take 16).map (thM (ce + 1)) = LF at HS
        replace hLF := Aside0.mk hLF
        obtain ⟨Ao, co, eo⟩ := Kd.S_slice HS
        subst eo
        go_wp2
        refine bodyPost_ret (results_cell_row rfl _ _ B6 36 #[.int .i64 (sh % (ce + 2)), .int .i64 (ce + 1), .slice Ao LF.length co] (0, 0) _ rfl (by (with_reducible repeat (first | refine blk_drewN ?_ _ | refine blk_drew ?_ | refine blk_alloc ?_ _)); refine blk_put (cs := #[.int .i64 (sh % (ce + 2)), .int .i64 (ce + 1), .slice none 0 0]) ?_ 2 _ rfl; (with_reducible repeat (first | refine blk_drewN ?_ _ | refine blk_drew ?_ | refine blk_alloc ?_ _)); refine blk_put (cs := #[.int .i64 (sh % (ce + 2)), .int .i64 0, .slice none 0 0]) ?_ 1 _ rfl; (with_reducible repeat (first | refine blk_drewN ?_ _ | refine blk_drew ?_ | refine blk_alloc ?_ _)); refine blk_put (cs := #[.int .i64 0, .int .i64 0, .slice none 0 0]) ?_ 0 _ rfl; (with_reducible repeat (first | refine blk_drewN ?_ _ | refine blk_drew ?_ | refine blk_alloc ?_ _)); exact BK6) Try.underlying36 rfl (by kernel_rfl)) rfl ?_
        refine ⟨_, rfl, ?_, ?_⟩
        · rw [hLF.out]; (with_reducible repeat (first | apply Kd.S_alloc | apply Kd.S_drewN | apply Kd.S_drew)); exact Kd.S_mono (Kd.S_far (p := ⟨B6, 2, none⟩) (Kd.S_far (p := ⟨B6, 1, none⟩) (Kd.S_far (p := ⟨B6, 0, none⟩) (Kd.S_types HS BK6 (by decide)) (fun _ hk => hk.2) (.int .i64 (sh % (ce + 2)))) (fun _ hk => hk.2) (.int .i64 (ce + 1))) (fun _ hk => hk.2) (.slice Ao LF.length co)) (fun _ hk => trivial)
        · repeat (first | (with_reducible first | exact HB | apply below_alloc | apply pw_below_drewN | apply below_drew1 | refine below_set ?_ hG6.out | refine below_set ?_ hG7.out) | exact HB)
      · obtain ⟨ad, AT, cT, eT, hxT, hlT, hCT⟩ := at_L3 hr0 q (by omega) (by omega)
        cases eT
        have HXT := (HB.cell (World.block_lt_of_cell? w _ hxT)).trans hxT
        rw [Int.toNat_natCast] at HXT
        rw [rdL_at R q hqn] at HXT hlT hCT
        obtain ⟨t, ht⟩ : ∃ t, t = R[q] := ⟨_, rfl⟩
        rw [← ht] at HXT hlT hCT
        have htk : R.take (q + 1) = R.take q ++ [t] := by rw [List.take_add_one, List.getElem?_eq_getElem hqn, ht]; rfl
        have hut : ∀ x ∈ t, U64 x := fun x hx => hu.out t (by rw [ht]; exact List.getElem_mem hqn) x hx
        replace hut := Aside0.mk hut
        replace htk := Aside0.mk htk
        replace ht := Aside0.mk ht
        have hq6i : ¬ ((q : Int) = 16) := by omega
        have hqni : (q : Int) < (R.length : Int) := by omega
        obtain ⟨T, hT⟩ : ∃ T, T = t.take 30 := ⟨_, rfl⟩
        have hmn : (if (30 : Int) < (t.length : Int) then 30 else (t.length : Int)) = (T.length : Int) := by rw [hT, List.length_take]; split <;> omega
        have hT30 : T.length ≤ 30 := by rw [hT, List.length_take]; omega
        have hTt : T.length ≤ t.length := by rw [hT, List.length_take]; omega
        have hTi0 : (0 : Int) ≤ (T.length : Int) := by omega
        have hTi1 : (T.length : Int) ≤ (t.length : Int) := by omega
        obtain ⟨i020, hi020, _, hsz20, _⟩ := info_parts info28
        have hcut := cut_to (P := Try.prog) 29 28 .i64 Try.underlying29 hi020 AT t.length cT (T.length : Int) hTi0 hTi1 hlT
        rw [Int.toNat_natCast] at hcut
        have hCT' : k28.C w AT T.length T := by
          have := Kd.C_take (m := T.length) hCT (by omega)
          have e : t.take T.length = T := by
            rw [hT, List.length_take]
            by_cases h : t.length ≤ 30
            · rw [Nat.min_eq_right h, List.take_of_length_le (Nat.le_refl _), List.take_of_length_le h]
            · rw [Nat.min_eq_left (by omega)]
          rw [e] at this
          exact this
        have hlT' : T.length ≤ cT := by omega
        replace hT := Aside0.mk hT
        clear hsz20 hi020
        have hq6b : (((q : Int)) == 16) = false := by simp [hq6i]
        go_upto_region 10 with go_in
        obtain ⟨LH, hLH⟩ : ∃ L, L = (R.take q).map (thM (ce + 1)) := ⟨_, rfl⟩
        rw [← hLH] at HS
        have hLH16 : LH.length ≤ 16 := by rw [hLH, List.length_map, List.length_take]; omega
        replace hLH := Aside0.mk hLH
        obtain ⟨FX, hFX⟩ : ∃ F : S28 → S28, F = fun x => fixX (ce + 1) (T.length : Int) (mkX x) := ⟨_, rfl⟩
        replace hFX := Aside0.mk hFX
        replace hmn := Aside0.mk hmn
        replace hcut := Aside0.mk hcut
        replace hq6b := Aside0.mk hq6b
        replace hq6i := Aside0.mk hq6i
        clear HXT hxT
        go_loopw [10, 42] (fun v10 v42 wr' => ∃ j : Nat, v42 = .int .i64 j ∧ j ≤ T.length ∧ Kd.R k28 28 wr' w.heap.size (fun _ => True) v10 ((T.take j).map FX) ∧ Kd.S (Kd.slice 28 k28) 29 wr' w.heap.size (fun k => some k ≠ v10.ownBlock) u LH ∧ wr'.heap[B6]? = some (Obj.cells #[.int .i64 0, .int .i64 0, .slice none 0 0] 36 (0, 0)) ∧ wr'.heap[B7]? = some (Obj.cells #[.int .i64 (sh % (ce + 2)), .int .i64 (ce + 1), u] 36 (0, 0)) ∧ Below w.heap.size w wr')
          (fun _ v42 _ => T.length - (intOf v42).toNat)
        case atStart => exact ⟨0, rfl, by omega, Kd.R_nil _ _ _ _ _, Kd.S_mono HS (fun _ _ => by simp [Value.ownBlock]), BK6, BK7, HB⟩
        case round =>
          clear BK6 BK7 HB HS
          obtain ⟨j, rfl, hjT, HRw, HS, BK6, BK7, HB⟩ := hrel
          by_cases hj : j < T.length
          · obtain ⟨ad2, eA2, x0, x1, x2, x3, x4, x5, x6, x7⟩ := at_T28 hCT' j (by omega) (by omega)
            subst eA2
            rw [rdT_at T j hj, Int.toNat_natCast] at x0 x1 x2 x3 x4 x5 x6 x7
            obtain ⟨x, hx⟩ : ∃ x, x = T[j] := ⟨_, rfl⟩
            rw [← hx] at x0 x1 x2 x3 x4 x5 x6 x7
            have hxu : U64 x := by
              have : x ∈ T := by rw [hx]; exact List.getElem_mem hj
              exact hut.out x (by rw [hT.out] at this; exact List.mem_of_mem_take this)
            have X0 := (HB.cell (World.block_lt_of_cell? w _ x0)).trans x0
            have X1 := (HB.cell (World.block_lt_of_cell? w _ x1)).trans x1
            have X2 := (HB.cell (World.block_lt_of_cell? w _ x2)).trans x2
            have X3 := (HB.cell (World.block_lt_of_cell? w _ x3)).trans x3
            have X4 := (HB.cell (World.block_lt_of_cell? w _ x4)).trans x4
            have X5 := (HB.cell (World.block_lt_of_cell? w _ x5)).trans x5
            have X6 := (HB.cell (World.block_lt_of_cell? w _ x6)).trans x6
            have X7 := (HB.cell (World.block_lt_of_cell? w _ x7)).trans x7
            have htj : T.take (j + 1) = T.take j ++ [x] := by rw [List.take_add_one, List.getElem?_eq_getElem hj, hx]; rfl
            replace htj := Aside0.mk htj
            replace hx := Aside0.mk hx
            obtain ⟨km, hkm⟩ := make_some x
            have hok := mk_ok x hxu
            obtain ⟨d, hd⟩ : ∃ d, d = mkX x := ⟨_, rfl⟩
            rw [← hd] at hkm hok
            replace hd := Aside0.mk hd
            go_upto_region 12 with go_in
            have e13 := heap_alloc_new wr (Obj.cells #[.int .i64 x.f0, .int .i64 x.f1, .int .i64 x.f2, .int .i64 x.f3, .int .i64 x.f4, .int .i64 x.f5, .int .u64 x.f6, .int .i64 x.f7] 28 (0, 0))
            have hb7 : Below wr.heap.size wr (wr.alloc (Obj.cells #[.int .i64 x.f0, .int .i64 x.f1, .int .i64 x.f2, .int .i64 x.f3, .int .i64 x.f4, .int .i64 x.f5, .int .u64 x.f6, .int .i64 x.f7] 28 (0, 0))) := (Below.refl _ _).alloc (Nat.le_refl _) _
            generalize wr.alloc (Obj.cells #[.int .i64 x.f0, .int .i64 x.f1, .int .i64 x.f2, .int .i64 x.f3, .int .i64 x.f4, .int .i64 x.f5, .int .u64 x.f6, .int .i64 x.f7] 28 (0, 0)) = w7 at e13 hb7 ⊢
            have HRw := Kd.R_below HRw hb7
            have HS := Kd.S_below HS hb7
            have BK6 := blk_below BK6 hb7
            have BK7 := blk_below BK7 hb7
            have HB := HB.trans (hb7.mono HB.size)
            generalize wr.heap.size = B13 at e13 ⊢
            clear X0 X1 X2 X3 X4 X5 X6 X7 hb7
            have y0 := blk_cell e13 0
            have y1 := blk_cell e13 1
            have y2 := blk_cell e13 2
            have y3 := blk_cell e13 3
            have y4 := blk_cell e13 4
            have y5 := blk_cell e13 5
            have y6 := blk_cell e13 6
            have y7 := blk_cell e13 7
            go_upto_region 13 with (first
              | (go_at_call 36; refine (tautochronelaw20_Make.calls km x.f0 x.f1 x.f2 x.f3 x.f4 x.f5 x.f6 x.f7 d.f0 d.f1 d.f2 d.f3 d.f4 d.f5 d.f6 d.f7 _ hkm).mono ?_; rintro e w8 ⟨rfl, hb8⟩; have HRw := Kd.R_below HRw hb8; have HS := Kd.S_below HS hb8; have BK6 := blk_below BK6 hb8; have BK7 := blk_below BK7 hb8; have HB := HB.trans (hb8.mono HB.size))
              | go_in)
            have hTn : (0 : Int) ≤ (T.length : Int) + 1 := by omega
            have hg0 := hok.g0
            have hv0 := hok.v0
            have e14 := heap_alloc_new w8 (Obj.cells #[.int .i64 d.f0, .int .i64 d.f1, .int .i64 d.f2, .int .i64 d.f3, .int .i64 d.f4, .int .i64 d.f5, .int .u64 d.f6, .int .i64 d.f7] 28 (0, 0))
            have hb9 : Below w8.heap.size w8 (w8.alloc (Obj.cells #[.int .i64 d.f0, .int .i64 d.f1, .int .i64 d.f2, .int .i64 d.f3, .int .i64 d.f4, .int .i64 d.f5, .int .u64 d.f6, .int .i64 d.f7] 28 (0, 0))) := (Below.refl _ _).alloc (Nat.le_refl _) _
            obtain ⟨B14, hB14⟩ : ∃ B, B = w8.heap.size := ⟨_, rfl⟩
            rw [← hB14] at e14 ⊢
            have hB14' : w8.heap.size ≤ B14 := by omega
            generalize w8.alloc (Obj.cells #[.int .i64 d.f0, .int .i64 d.f1, .int .i64 d.f2, .int .i64 d.f3, .int .i64 d.f4, .int .i64 d.f5, .int .u64 d.f6, .int .i64 d.f7] 28 (0, 0)) = w9 at e14 hb9 ⊢
            clear y0 y1 y2 y3 y4 y5 y6 y7 e13
            have y0 := blk_cell e14 0
            have y1 := blk_cell e14 1
            have y2 := blk_cell e14 2
            have y3 := blk_cell e14 3
            have y4 := blk_cell e14 4
            have y5 := blk_cell e14 5
            have y6 := blk_cell e14 6
            have y7 := blk_cell e14 7
            have f7 := blk_frozen e14 7
            replace hB14 := Aside0.mk hB14
            replace hB14' := Aside0.mk hB14'
            go_upto_region 14 with go_in
            obtain ⟨g', hg'⟩ : ∃ g, g = d.f7 % ((T.length : Int) + 1) := ⟨_, rfl⟩
            rw [← hg']
            have e14 := blk_put (cs' := #[.int .i64 d.f0, .int .i64 d.f1, .int .i64 d.f2, .int .i64 d.f3, .int .i64 d.f4, .int .i64 d.f5, .int .u64 d.f6, .int .i64 g']) e14 7 (.int .i64 g') rfl
            have hb10 : Below w8.heap.size w8 (w9.setCell ⟨B14, 7, none⟩ (.int .i64 g')) := hb9.setCell hB14'.out _
            generalize w9.setCell ⟨B14, 7, none⟩ (.int .i64 g') = w10 at e14 hb10 ⊢
            clear y0 y1 y2 y3 y4 y5 y6 y7 f7 hb9
            replace hg' := Aside0.mk hg'
            have y0 := blk_cell e14 0
            have y6 := blk_cell e14 6
            have f6 := blk_frozen e14 6
            have y71 := blk_cell (blk_below BK7 hb10) 1
            have hc1 : (0 : Int) < ce + 1 := by omega
            by_cases c4 : d.f0 = 4
            · have c4i : (d.f0 == 4) = true := by simp [c4]
              have hP : PlaceOp d.f0 := by unfold PlaceOp; omega
              replace hP := Aside0.mk hP
              clear c4
              go_upto_region 16 with go_in
              clear c4i
              have hnw : (w10.setCell ⟨B14, 6, none⟩ (.int .u64 (d.f6 % (ce + 1)))).heap[B14]? = _ := blk_put (cs' := #[.int .i64 d.f0, .int .i64 d.f1, .int .i64 d.f2, .int .i64 d.f3, .int .i64 d.f4, .int .i64 d.f5, .int .u64 (d.f6 % (ce + 1)), .int .i64 g']) e14 6 (.int .u64 (d.f6 % (ce + 1))) rfl
              have hbw : Below w8.heap.size w8 (w10.setCell ⟨B14, 6, none⟩ (.int .u64 (d.f6 % (ce + 1)))) := hb10.setCell hB14'.out _
              generalize w10.setCell ⟨B14, 6, none⟩ (.int .u64 (d.f6 % (ce + 1))) = w11 at hnw hbw ⊢
              have HRw := Kd.R_below HRw hbw
              have HS := Kd.S_below HS hbw
              have BK6 := blk_below BK6 hbw
              have BK7 := blk_below BK7 hbw
              have HB := HB.trans (hbw.mono HB.size)
              clear y0 y6 f6 y71 hbw e14 hb10
              have z0 := blk_cell hnw 0
              have z1 := blk_cell hnw 1
              have z2 := blk_cell hnw 2
              have z3 := blk_cell hnw 3
              have z4 := blk_cell hnw 4
              have z5 := blk_cell hnw 5
              have z6 := blk_cell hnw 6
              have z7 := blk_cell hnw 7
              have hlj : ((T.take j).map FX).length ≤ 30 := by rw [List.length_map, List.length_take]; omega
              have hfx : FX x = (⟨d.f0, d.f1, d.f2, d.f3, d.f4, d.f5, d.f6 % (ce + 1), g'⟩ : S28) := by
                rw [hFX.out, hg'.out]
                show fixX (ce + 1) (T.length : Int) (mkX x) = _
                rw [← hd.out]
                unfold fixX
                rw [if_pos hP.out]
              go_upto_region 17 with (first
                | (at_builtin; go_loud (refine Kd.R_append k28 (w0 := w) w.heap.size rfl (.tmp 84) (.tmp 86) 29 28 (.agg #[(.int .i64 0), (.int .i64 0), (.int .i64 0), (.int .i64 0), (.int .i64 0), (.int .i64 0), (.int .u64 0), (.int .i64 0)]) 64 rfl Try.underlying29 info28 rfl (by decide) (by omega) u10 ((T.take j).map FX) (⟨d.f0, d.f1, d.f2, d.f3, d.f4, d.f5, d.f6 % (ce + 1), g'⟩ : S28) [.int .i64 d.f0, .int .i64 d.f1, .int .i64 d.f2, .int .i64 d.f3, .int .i64 d.f4, .int .i64 d.f5, .int .u64 (d.f6 % (ce + 1)), .int .i64 g'] (fun _ => True) (fun _ => False) rfl (by first | (go_simp; done) | (go_simp; rfl)) ?aP (fun _ hk => hk.elim) ?aF ?aO ?aB ?aS ?aL ?_; (case aP => exact k28_mkM _ _ _ (⟨d.f0, d.f1, d.f2, d.f3, d.f4, d.f5, d.f6 % (ce + 1), g'⟩ : S28)); (case aB => exact HB); (case aF => exact (fun _ _ => trivial)); (case aO => exact HRw); (case aS => exact HB.size); (case aL => omega); intro v10 w12 ho hb hg hat; rw [← hfx] at ho; have HS := Kd.S_after (ok := (fun _ => True)) (Kd.S_mono HS (fun _ hk => ⟨trivial, hk⟩)) hg hat; have BK6 := blk_grown BK6 hg (Kd.R_ne HRw BK6 (by decide)); have BK7 := blk_grown BK7 hg (Kd.R_ne HRw BK7 (by decide)); have HB := hb))
                | go_in)
              go_wp2
              go_roundw
              case rel => exact ⟨j + 1, by first | rfl | go_num, by omega, by rw [htj.out, List.map_append]; exact ho, Kd.S_mono HS (fun _ hk => hk.2), BK6, BK7, HB⟩
              case measure => simp [intOf]; omega
            by_cases c5 : d.f0 = 5
            · have c4i : (d.f0 == 4) = false := by simp [c4]
              have c5i : (d.f0 == 5) = true := by simp [c5]
              have hP : PlaceOp d.f0 := by unfold PlaceOp; omega
              replace hP := Aside0.mk hP
              clear c4 c5
              go_upto_region 16 with go_in
              clear c4i c5i
              have hnw : (w10.setCell ⟨B14, 6, none⟩ (.int .u64 (d.f6 % (ce + 1)))).heap[B14]? = _ := blk_put (cs' := #[.int .i64 d.f0, .int .i64 d.f1, .int .i64 d.f2, .int .i64 d.f3, .int .i64 d.f4, .int .i64 d.f5, .int .u64 (d.f6 % (ce + 1)), .int .i64 g']) e14 6 (.int .u64 (d.f6 % (ce + 1))) rfl
              have hbw : Below w8.heap.size w8 (w10.setCell ⟨B14, 6, none⟩ (.int .u64 (d.f6 % (ce + 1)))) := hb10.setCell hB14'.out _
              generalize w10.setCell ⟨B14, 6, none⟩ (.int .u64 (d.f6 % (ce + 1))) = w11 at hnw hbw ⊢
              have HRw := Kd.R_below HRw hbw
              have HS := Kd.S_below HS hbw
              have BK6 := blk_below BK6 hbw
              have BK7 := blk_below BK7 hbw
              have HB := HB.trans (hbw.mono HB.size)
              clear y0 y6 f6 y71 hbw e14 hb10
              have z0 := blk_cell hnw 0
              have z1 := blk_cell hnw 1
              have z2 := blk_cell hnw 2
              have z3 := blk_cell hnw 3
              have z4 := blk_cell hnw 4
              have z5 := blk_cell hnw 5
              have z6 := blk_cell hnw 6
              have z7 := blk_cell hnw 7
              have hlj : ((T.take j).map FX).length ≤ 30 := by rw [List.length_map, List.length_take]; omega
              have hfx : FX x = (⟨d.f0, d.f1, d.f2, d.f3, d.f4, d.f5, d.f6 % (ce + 1), g'⟩ : S28) := by
                rw [hFX.out, hg'.out]
                show fixX (ce + 1) (T.length : Int) (mkX x) = _
                rw [← hd.out]
                unfold fixX
                rw [if_pos hP.out]
              go_upto_region 17 with (first
                | (at_builtin; go_loud (refine Kd.R_append k28 (w0 := w) w.heap.size rfl (.tmp 84) (.tmp 86) 29 28 (.agg #[(.int .i64 0), (.int .i64 0), (.int .i64 0), (.int .i64 0), (.int .i64 0), (.int .i64 0), (.int .u64 0), (.int .i64 0)]) 64 rfl Try.underlying29 info28 rfl (by decide) (by omega) u10 ((T.take j).map FX) (⟨d.f0, d.f1, d.f2, d.f3, d.f4, d.f5, d.f6 % (ce + 1), g'⟩ : S28) [.int .i64 d.f0, .int .i64 d.f1, .int .i64 d.f2, .int .i64 d.f3, .int .i64 d.f4, .int .i64 d.f5, .int .u64 (d.f6 % (ce + 1)), .int .i64 g'] (fun _ => True) (fun _ => False) rfl (by first | (go_simp; done) | (go_simp; rfl)) ?aP (fun _ hk => hk.elim) ?aF ?aO ?aB ?aS ?aL ?_; (case aP => exact k28_mkM _ _ _ (⟨d.f0, d.f1, d.f2, d.f3, d.f4, d.f5, d.f6 % (ce + 1), g'⟩ : S28)); (case aB => exact HB); (case aF => exact (fun _ _ => trivial)); (case aO => exact HRw); (case aS => exact HB.size); (case aL => omega); intro v10 w12 ho hb hg hat; rw [← hfx] at ho; have HS := Kd.S_after (ok := (fun _ => True)) (Kd.S_mono HS (fun _ hk => ⟨trivial, hk⟩)) hg hat; have BK6 := blk_grown BK6 hg (Kd.R_ne HRw BK6 (by decide)); have BK7 := blk_grown BK7 hg (Kd.R_ne HRw BK7 (by decide)); have HB := hb))
                | go_in)
              go_wp2
              go_roundw
              case rel => exact ⟨j + 1, by first | rfl | go_num, by omega, by rw [htj.out, List.map_append]; exact ho, Kd.S_mono HS (fun _ hk => hk.2), BK6, BK7, HB⟩
              case measure => simp [intOf]; omega
            by_cases c8 : d.f0 = 8
            · have c4i : (d.f0 == 4) = false := by simp [c4]
              have c5i : (d.f0 == 5) = false := by simp [c5]
              have c8i : (d.f0 == 8) = true := by simp [c8]
              have hP : PlaceOp d.f0 := by unfold PlaceOp; omega
              replace hP := Aside0.mk hP
              clear c4 c5 c8
              go_upto_region 16 with go_in
              clear c4i c5i c8i
              have hnw : (w10.setCell ⟨B14, 6, none⟩ (.int .u64 (d.f6 % (ce + 1)))).heap[B14]? = _ := blk_put (cs' := #[.int .i64 d.f0, .int .i64 d.f1, .int .i64 d.f2, .int .i64 d.f3, .int .i64 d.f4, .int .i64 d.f5, .int .u64 (d.f6 % (ce + 1)), .int .i64 g']) e14 6 (.int .u64 (d.f6 % (ce + 1))) rfl
              have hbw : Below w8.heap.size w8 (w10.setCell ⟨B14, 6, none⟩ (.int .u64 (d.f6 % (ce + 1)))) := hb10.setCell hB14'.out _
              generalize w10.setCell ⟨B14, 6, none⟩ (.int .u64 (d.f6 % (ce + 1))) = w11 at hnw hbw ⊢
              have HRw := Kd.R_below HRw hbw
              have HS := Kd.S_below HS hbw
              have BK6 := blk_below BK6 hbw
              have BK7 := blk_below BK7 hbw
              have HB := HB.trans (hbw.mono HB.size)
              clear y0 y6 f6 y71 hbw e14 hb10
              have z0 := blk_cell hnw 0
              have z1 := blk_cell hnw 1
              have z2 := blk_cell hnw 2
              have z3 := blk_cell hnw 3
              have z4 := blk_cell hnw 4
              have z5 := blk_cell hnw 5
              have z6 := blk_cell hnw 6
              have z7 := blk_cell hnw 7
              have hlj : ((T.take j).map FX).length ≤ 30 := by rw [List.length_map, List.length_take]; omega
              have hfx : FX x = (⟨d.f0, d.f1, d.f2, d.f3, d.f4, d.f5, d.f6 % (ce + 1), g'⟩ : S28) := by
                rw [hFX.out, hg'.out]
                show fixX (ce + 1) (T.length : Int) (mkX x) = _
                rw [← hd.out]
                unfold fixX
                rw [if_pos hP.out]
              go_upto_region 17 with (first
                | (at_builtin; go_loud (refine Kd.R_append k28 (w0 := w) w.heap.size rfl (.tmp 84) (.tmp 86) 29 28 (.agg #[(.int .i64 0), (.int .i64 0), (.int .i64 0), (.int .i64 0), (.int .i64 0), (.int .i64 0), (.int .u64 0), (.int .i64 0)]) 64 rfl Try.underlying29 info28 rfl (by decide) (by omega) u10 ((T.take j).map FX) (⟨d.f0, d.f1, d.f2, d.f3, d.f4, d.f5, d.f6 % (ce + 1), g'⟩ : S28) [.int .i64 d.f0, .int .i64 d.f1, .int .i64 d.f2, .int .i64 d.f3, .int .i64 d.f4, .int .i64 d.f5, .int .u64 (d.f6 % (ce + 1)), .int .i64 g'] (fun _ => True) (fun _ => False) rfl (by first | (go_simp; done) | (go_simp; rfl)) ?aP (fun _ hk => hk.elim) ?aF ?aO ?aB ?aS ?aL ?_; (case aP => exact k28_mkM _ _ _ (⟨d.f0, d.f1, d.f2, d.f3, d.f4, d.f5, d.f6 % (ce + 1), g'⟩ : S28)); (case aB => exact HB); (case aF => exact (fun _ _ => trivial)); (case aO => exact HRw); (case aS => exact HB.size); (case aL => omega); intro v10 w12 ho hb hg hat; rw [← hfx] at ho; have HS := Kd.S_after (ok := (fun _ => True)) (Kd.S_mono HS (fun _ hk => ⟨trivial, hk⟩)) hg hat; have BK6 := blk_grown BK6 hg (Kd.R_ne HRw BK6 (by decide)); have BK7 := blk_grown BK7 hg (Kd.R_ne HRw BK7 (by decide)); have HB := hb))
                | go_in)
              go_wp2
              go_roundw
              case rel => exact ⟨j + 1, by first | rfl | go_num, by omega, by rw [htj.out, List.map_append]; exact ho, Kd.S_mono HS (fun _ hk => hk.2), BK6, BK7, HB⟩
              case measure => simp [intOf]; omega
            by_cases c9 : d.f0 = 9
            · have c4i : (d.f0 == 4) = false := by simp [c4]
              have c5i : (d.f0 == 5) = false := by simp [c5]
              have c8i : (d.f0 == 8) = false := by simp [c8]
              have c9i : (d.f0 == 9) = true := by simp [c9]
              have hP : PlaceOp d.f0 := by unfold PlaceOp; omega
              replace hP := Aside0.mk hP
              clear c4 c5 c8 c9
              go_upto_region 16 with go_in
              clear c4i c5i c8i c9i
              have hnw : (w10.setCell ⟨B14, 6, none⟩ (.int .u64 (d.f6 % (ce + 1)))).heap[B14]? = _ := blk_put (cs' := #[.int .i64 d.f0, .int .i64 d.f1, .int .i64 d.f2, .int .i64 d.f3, .int .i64 d.f4, .int .i64 d.f5, .int .u64 (d.f6 % (ce + 1)), .int .i64 g']) e14 6 (.int .u64 (d.f6 % (ce + 1))) rfl
              have hbw : Below w8.heap.size w8 (w10.setCell ⟨B14, 6, none⟩ (.int .u64 (d.f6 % (ce + 1)))) := hb10.setCell hB14'.out _
              generalize w10.setCell ⟨B14, 6, none⟩ (.int .u64 (d.f6 % (ce + 1))) = w11 at hnw hbw ⊢
              have HRw := Kd.R_below HRw hbw
              have HS := Kd.S_below HS hbw
              have BK6 := blk_below BK6 hbw
              have BK7 := blk_below BK7 hbw
              have HB := HB.trans (hbw.mono HB.size)
              clear y0 y6 f6 y71 hbw e14 hb10
              have z0 := blk_cell hnw 0
              have z1 := blk_cell hnw 1
              have z2 := blk_cell hnw 2
              have z3 := blk_cell hnw 3
              have z4 := blk_cell hnw 4
              have z5 := blk_cell hnw 5
              have z6 := blk_cell hnw 6
              have z7 := blk_cell hnw 7
              have hlj : ((T.take j).map FX).length ≤ 30 := by rw [List.length_map, List.length_take]; omega
              have hfx : FX x = (⟨d.f0, d.f1, d.f2, d.f3, d.f4, d.f5, d.f6 % (ce + 1), g'⟩ : S28) := by
                rw [hFX.out, hg'.out]
                show fixX (ce + 1) (T.length : Int) (mkX x) = _
                rw [← hd.out]
                unfold fixX
                rw [if_pos hP.out]
              go_upto_region 17 with (first
                | (at_builtin; go_loud (refine Kd.R_append k28 (w0 := w) w.heap.size rfl (.tmp 84) (.tmp 86) 29 28 (.agg #[(.int .i64 0), (.int .i64 0), (.int .i64 0), (.int .i64 0), (.int .i64 0), (.int .i64 0), (.int .u64 0), (.int .i64 0)]) 64 rfl Try.underlying29 info28 rfl (by decide) (by omega) u10 ((T.take j).map FX) (⟨d.f0, d.f1, d.f2, d.f3, d.f4, d.f5, d.f6 % (ce + 1), g'⟩ : S28) [.int .i64 d.f0, .int .i64 d.f1, .int .i64 d.f2, .int .i64 d.f3, .int .i64 d.f4, .int .i64 d.f5, .int .u64 (d.f6 % (ce + 1)), .int .i64 g'] (fun _ => True) (fun _ => False) rfl (by first | (go_simp; done) | (go_simp; rfl)) ?aP (fun _ hk => hk.elim) ?aF ?aO ?aB ?aS ?aL ?_; (case aP => exact k28_mkM _ _ _ (⟨d.f0, d.f1, d.f2, d.f3, d.f4, d.f5, d.f6 % (ce + 1), g'⟩ : S28)); (case aB => exact HB); (case aF => exact (fun _ _ => trivial)); (case aO => exact HRw); (case aS => exact HB.size); (case aL => omega); intro v10 w12 ho hb hg hat; rw [← hfx] at ho; have HS := Kd.S_after (ok := (fun _ => True)) (Kd.S_mono HS (fun _ hk => ⟨trivial, hk⟩)) hg hat; have BK6 := blk_grown BK6 hg (Kd.R_ne HRw BK6 (by decide)); have BK7 := blk_grown BK7 hg (Kd.R_ne HRw BK7 (by decide)); have HB := hb))
                | go_in)
              go_wp2
              go_roundw
              case rel => exact ⟨j + 1, by first | rfl | go_num, by omega, by rw [htj.out, List.map_append]; exact ho, Kd.S_mono HS (fun _ hk => hk.2), BK6, BK7, HB⟩
              case measure => simp [intOf]; omega
            by_cases c10 : d.f0 = 10
            · have c4i : (d.f0 == 4) = false := by simp [c4]
              have c5i : (d.f0 == 5) = false := by simp [c5]
              have c8i : (d.f0 == 8) = false := by simp [c8]
              have c9i : (d.f0 == 9) = false := by simp [c9]
              have c10i : (d.f0 == 10) = true := by simp [c10]
              have hP : PlaceOp d.f0 := by unfold PlaceOp; omega
              replace hP := Aside0.mk hP
              clear c4 c5 c8 c9 c10
              go_upto_region 16 with go_in
              clear c4i c5i c8i c9i c10i
              have hnw : (w10.setCell ⟨B14, 6, none⟩ (.int .u64 (d.f6 % (ce + 1)))).heap[B14]? = _ := blk_put (cs' := #[.int .i64 d.f0, .int .i64 d.f1, .int .i64 d.f2, .int .i64 d.f3, .int .i64 d.f4, .int .i64 d.f5, .int .u64 (d.f6 % (ce + 1)), .int .i64 g']) e14 6 (.int .u64 (d.f6 % (ce + 1))) rfl
              have hbw : Below w8.heap.size w8 (w10.setCell ⟨B14, 6, none⟩ (.int .u64 (d.f6 % (ce + 1)))) := hb10.setCell hB14'.out _
              generalize w10.setCell ⟨B14, 6, none⟩ (.int .u64 (d.f6 % (ce + 1))) = w11 at hnw hbw ⊢
              have HRw := Kd.R_below HRw hbw
              have HS := Kd.S_below HS hbw
              have BK6 := blk_below BK6 hbw
              have BK7 := blk_below BK7 hbw
              have HB := HB.trans (hbw.mono HB.size)
              clear y0 y6 f6 y71 hbw e14 hb10
              have z0 := blk_cell hnw 0
              have z1 := blk_cell hnw 1
              have z2 := blk_cell hnw 2
              have z3 := blk_cell hnw 3
              have z4 := blk_cell hnw 4
              have z5 := blk_cell hnw 5
              have z6 := blk_cell hnw 6
              have z7 := blk_cell hnw 7
              have hlj : ((T.take j).map FX).length ≤ 30 := by rw [List.length_map, List.length_take]; omega
              have hfx : FX x = (⟨d.f0, d.f1, d.f2, d.f3, d.f4, d.f5, d.f6 % (ce + 1), g'⟩ : S28) := by
                rw [hFX.out, hg'.out]
                show fixX (ce + 1) (T.length : Int) (mkX x) = _
                rw [← hd.out]
                unfold fixX
                rw [if_pos hP.out]
              go_upto_region 17 with (first
                | (at_builtin; go_loud (refine Kd.R_append k28 (w0 := w) w.heap.size rfl (.tmp 84) (.tmp 86) 29 28 (.agg #[(.int .i64 0), (.int .i64 0), (.int .i64 0), (.int .i64 0), (.int .i64 0), (.int .i64 0), (.int .u64 0), (.int .i64 0)]) 64 rfl Try.underlying29 info28 rfl (by decide) (by omega) u10 ((T.take j).map FX) (⟨d.f0, d.f1, d.f2, d.f3, d.f4, d.f5, d.f6 % (ce + 1), g'⟩ : S28) [.int .i64 d.f0, .int .i64 d.f1, .int .i64 d.f2, .int .i64 d.f3, .int .i64 d.f4, .int .i64 d.f5, .int .u64 (d.f6 % (ce + 1)), .int .i64 g'] (fun _ => True) (fun _ => False) rfl (by first | (go_simp; done) | (go_simp; rfl)) ?aP (fun _ hk => hk.elim) ?aF ?aO ?aB ?aS ?aL ?_; (case aP => exact k28_mkM _ _ _ (⟨d.f0, d.f1, d.f2, d.f3, d.f4, d.f5, d.f6 % (ce + 1), g'⟩ : S28)); (case aB => exact HB); (case aF => exact (fun _ _ => trivial)); (case aO => exact HRw); (case aS => exact HB.size); (case aL => omega); intro v10 w12 ho hb hg hat; rw [← hfx] at ho; have HS := Kd.S_after (ok := (fun _ => True)) (Kd.S_mono HS (fun _ hk => ⟨trivial, hk⟩)) hg hat; have BK6 := blk_grown BK6 hg (Kd.R_ne HRw BK6 (by decide)); have BK7 := blk_grown BK7 hg (Kd.R_ne HRw BK7 (by decide)); have HB := hb))
                | go_in)
              go_wp2
              go_roundw
              case rel => exact ⟨j + 1, by first | rfl | go_num, by omega, by rw [htj.out, List.map_append]; exact ho, Kd.S_mono HS (fun _ hk => hk.2), BK6, BK7, HB⟩
              case measure => simp [intOf]; omega
            · have c4i : (d.f0 == 4) = false := by simp [c4]
              have c5i : (d.f0 == 5) = false := by simp [c5]
              have c8i : (d.f0 == 8) = false := by simp [c8]
              have c9i : (d.f0 == 9) = false := by simp [c9]
              have c10i : (d.f0 == 10) = false := by simp [c10]
              have hP : ¬ PlaceOp d.f0 := by unfold PlaceOp; omega
              replace hP := Aside0.mk hP
              clear c4 c5 c8 c9 c10
              go_upto_region 16 with go_in
              clear c4i c5i c8i c9i c10i y0 y6 f6 y71
              have hnw := e14
              have hbw := hb10
              generalize w10 = w11 at hnw hbw ⊢
              have HRw := Kd.R_below HRw hbw
              have HS := Kd.S_below HS hbw
              have BK6 := blk_below BK6 hbw
              have BK7 := blk_below BK7 hbw
              have HB := HB.trans (hbw.mono HB.size)
              clear hbw
              have z0 := blk_cell hnw 0
              have z1 := blk_cell hnw 1
              have z2 := blk_cell hnw 2
              have z3 := blk_cell hnw 3
              have z4 := blk_cell hnw 4
              have z5 := blk_cell hnw 5
              have z6 := blk_cell hnw 6
              have z7 := blk_cell hnw 7
              have hlj : ((T.take j).map FX).length ≤ 30 := by rw [List.length_map, List.length_take]; omega
              have hfx : FX x = (⟨d.f0, d.f1, d.f2, d.f3, d.f4, d.f5, d.f6, g'⟩ : S28) := by
                rw [hFX.out, hg'.out]
                show fixX (ce + 1) (T.length : Int) (mkX x) = _
                rw [← hd.out]
                unfold fixX
                rw [if_neg hP.out]
              go_upto_region 17 with (first
                | (at_builtin; go_loud (refine Kd.R_append k28 (w0 := w) w.heap.size rfl (.tmp 84) (.tmp 86) 29 28 (.agg #[(.int .i64 0), (.int .i64 0), (.int .i64 0), (.int .i64 0), (.int .i64 0), (.int .i64 0), (.int .u64 0), (.int .i64 0)]) 64 rfl Try.underlying29 info28 rfl (by decide) (by omega) u10 ((T.take j).map FX) (⟨d.f0, d.f1, d.f2, d.f3, d.f4, d.f5, d.f6, g'⟩ : S28) [.int .i64 d.f0, .int .i64 d.f1, .int .i64 d.f2, .int .i64 d.f3, .int .i64 d.f4, .int .i64 d.f5, .int .u64 d.f6, .int .i64 g'] (fun _ => True) (fun _ => False) rfl (by first | (go_simp; done) | (go_simp; rfl)) ?aP (fun _ hk => hk.elim) ?aF ?aO ?aB ?aS ?aL ?_; (case aP => exact k28_mkM _ _ _ (⟨d.f0, d.f1, d.f2, d.f3, d.f4, d.f5, d.f6, g'⟩ : S28)); (case aB => exact HB); (case aF => exact (fun _ _ => trivial)); (case aO => exact HRw); (case aS => exact HB.size); (case aL => omega); intro v10 w12 ho hb hg hat; rw [← hfx] at ho; have HS := Kd.S_after (ok := (fun _ => True)) (Kd.S_mono HS (fun _ hk => ⟨trivial, hk⟩)) hg hat; have BK6 := blk_grown BK6 hg (Kd.R_ne HRw BK6 (by decide)); have BK7 := blk_grown BK7 hg (Kd.R_ne HRw BK7 (by decide)); have HB := hb))
                | go_in)
              go_wp2
              go_roundw
              case rel => exact ⟨j + 1, by first | rfl | go_num, by omega, by rw [htj.out, List.map_append]; exact ho, Kd.S_mono HS (fun _ hk => hk.2), BK6, BK7, HB⟩
              case measure => simp [intOf]; omega
          · have hjT' : j = T.length := by omega
            subst hjT'
            rw [List.take_of_length_le (Nat.le_refl _)] at HRw
            obtain ⟨RL, hRL⟩ : ∃ L, L = T.map FX := ⟨_, rfl⟩
            rw [← hRL] at HRw
            have hRLl : RL.length ≤ 30 := by rw [hRL, List.length_map]; exact hT30
            obtain ⟨RN, hRN⟩ : ∃ L, L = RL ++ [(⟨13, 0, (-1), (-1), (-1), (-1), 0, 0⟩ : S28)] := ⟨_, rfl⟩
            obtain ⟨LN, hLN⟩ : ∃ L, L = LH ++ [RN] := ⟨_, rfl⟩
            have hRNt : RN = thM (ce + 1) t := by
              rw [hRN, hRL, hFX.out, thM, hT.out]; rfl
            have hLNt : LN = (R.take (q + 1)).map (thM (ce + 1)) := by
              rw [hLN, htk.out, List.map_append, ← hLH.out, hRNt]; rfl
            replace hRNt := Aside0.mk hRNt
            replace hLNt := Aside0.mk hLNt
            replace hRL := Aside0.mk hRL
            have Ny_R := Aside0.mk hRN
            have Ny_L := Aside0.mk hLN
            clear hRN hLN
            have LMc119 : Aside0 (RL.length < 2199023255552) := Aside0.mk (by omega)
            have LMc120 : Aside0 (LH.length < 5864062014805) := Aside0.mk (by omega)
            have NB67 := Aside0.mk hN67
            have NB76 := Aside0.mk hN67.symm
            have GE264 := hG6
            have GE265 := hG7
            go_upto_region 18 with go_in
            have HO_10 := Aside0.mk (Kd.R_drew HRw)
            have HO_S := Aside0.mk (Kd.S_drew HS)
            have BK264 := Aside0.mk (blk_drew BK6)
            have BK265 := Aside0.mk (blk_drew BK7)
            have HB := Aside0.mk (below_drew1 HB)
            clear HRw HS BK6 BK7
            refine start_ (n := 11) (S := fun w' => w'.cell? ⟨B7, 0, none⟩ = some (.int .i64 (sh % (ce + 2))) ∧ w'.cell? ⟨B7, 1, none⟩ = some (.int .i64 (ce + 1)) ∧ w'.cell? ⟨B7, 2, none⟩ = some (u)) (ds := [10]) #[false, false, false, false, false, false, false, false, false, false, false] (by kernel_rfl) rfl rfl ⟨(blk_cell BK265.out 0).trans rfl, (blk_cell BK265.out 1).trans rfl, (blk_cell BK265.out 2).trans rfl⟩ (fun hHeld => ?_); refine with_tabW mkI.tab18 mkI.bits18 (fun HT_ HW_ => ?_)
            generalize wr.drew = w121 at HO_10 HO_S BK264 BK265 HB hHeld ⊢
            refine pure_ (i := 0) (N := some 89) (v := ?_) (a' := ?_) #[true, false, false, false, false, false, false, false, false, false, false] rfl rfl (any_of HT_.out (by kernel_rfl)) (fun _ _ _ h => h) (Or.inl ⟨by rfl, ?_⟩) ?_ ?_
            rotate_left
            · intro w'
              go_simp
              with_reducible rfl
            rotate_left
            · simp only [Act.put, q1_, q2_, q3_, i64_w, i32_w]
              rfl
            refine pure_ (i := 2) (N := some 91) (v := ?_) (a' := ?_) #[true, false, true, false, false, false, false, false, false, false, false] rfl rfl (any_of HT_.out (by kernel_rfl)) (fun _ _ _ h => h) (Or.inl ⟨by rfl, ?_⟩) ?_ ?_
            rotate_left
            · intro w'
              go_simp
              with_reducible rfl
            rotate_left
            · simp only [Act.put, q1_, q2_, q3_, i64_w, i32_w]
              rfl
            refine pure_ (i := 3) (N := some 92) (v := ?_) (a' := ?_) #[true, false, true, true, false, false, false, false, false, false, false] rfl rfl (any_of HT_.out (by kernel_rfl)) (fun _ _ _ h => h) (Or.inl ⟨by rfl, ?_⟩) ?_ ?_
            rotate_left
            · intro w'
              go_simp
              with_reducible rfl
            rotate_left
            · simp only [Act.put, q1_, q2_, q3_, i64_w, i32_w]
              rfl
            refine take_ (i := 1) (N := some 90) (v := ?_) (a' := ?_) #[true, true, true, true, false, false, false, false, false, false, false] rfl rfl (take_ofW HT_.out HW_.out (by kernel_rfl)) (fun _ _ _ h => h) (Or.inl ⟨by rfl, ?_⟩) hHeld ?_ ?_
            rotate_left
            · rintro w' ⟨s0, s1, s2⟩
              go_simp
              with_reducible rfl
            rotate_left
            · simp only [Act.put, q1_, q2_, q3_, i64_w, i32_w]
              rfl
            refine one_ (i := 4) (N := some 93) #[true, true, true, true, true, false, false, false, false, false, false] rfl rfl (one_of HT_.out (by kernel_rfl)) (by decide) (fun K hK => ?_)
            refine goes_ Try.func10 (by kernel_rfl) rfl #[.agg #[.int .i64 13, .int .i64 0, .int .i64 0, .int .i64 0, .int .i64 0, .int .i64 0, .int .u64 0, .int .i64 0]] (by rfl) rfl rfl (by (try simp only [List.map_toArray, List.map_cons, List.map_nil]); first | done | rfl | (simp only [List.length_drop, List.length_take]; rfl)) ?_
            with_reducible refine (encode_Bare.calls kh 13 0 0 0 0 0 0 0 13 0 (-1) (-1) (-1) (-1) 0 0 _ hkh).mono ?_
            rintro e w122 ⟨rfl, hb⟩
            refine ⟨_, rfl, ?_⟩
            have n0_ := Aside0.mk (Kd.R_below (by (with_reducible repeat (first | apply Kd.R_alloc | apply Kd.R_drewN | apply Kd.R_drew)); exact HO_10.out) hb)
            have n1_ := Aside0.mk (Kd.S_below (by (with_reducible repeat (first | apply Kd.S_alloc | apply Kd.S_drewN | apply Kd.S_drew)); exact HO_S.out) hb)
            have n2_ := Aside0.mk (blk_below (g := B6) (o := .cells #[.int .i64 0, .int .i64 0, .slice none 0 0] 36 (0, 0)) (by (with_reducible repeat (first | refine blk_drewN ?_ _ | refine blk_drew ?_ | refine blk_alloc ?_ _)); exact BK264.out) hb)
            have n3_ := Aside0.mk (blk_below (g := B7) (o := .cells #[.int .i64 (sh % (ce + 2)), .int .i64 (ce + 1), u] 36 (0, 0)) (by (with_reducible repeat (first | refine blk_drewN ?_ _ | refine blk_drew ?_ | refine blk_alloc ?_ _)); exact BK265.out) hb)
            have n4_ := Aside0.mk (below_step (by repeat (first | (with_reducible first | exact HB.out | apply below_alloc | apply pw_below_drewN | apply below_drew1 | refine below_set ?_ GE264.out | refine below_set ?_ GE265.out) | exact HB.out)) hb)
            clear HO_10
            clear HO_S
            clear BK264
            clear BK265
            clear HB
            have HO_10 := n0_
            have HO_S := n1_
            have BK264 := n2_
            have BK265 := n3_
            have HB := n4_
            clear n0_ n1_ n2_ n3_ n4_
            (try clear hb)
            (try clear hb2)
            (try clear hk)
            (try clear hi)
            refine hK.out _ _ ⟨(blk_cell BK265.out 0).trans rfl, (blk_cell BK265.out 1).trans rfl, (blk_cell BK265.out 2).trans rfl⟩ (fun hHeld => ?_)
            clear hK K
            refine norm_ (a' := ?_) ?_ ?_
            rotate_left
            · show Act.put _ (some 93) _ = _
              simp only [Act.put, q1_, q2_, q3_, i64_w, i32_w]
              rfl
            refine one_ (i := 5) (N := some 94) #[true, true, true, true, true, true, false, false, false, false, false] rfl rfl (one_of HT_.out (by kernel_rfl)) (by decide) (fun K hK => ?_)
            refine value_ (w1 := ?_) (v := ?_) (by rfl) rfl ?_ ?_
            rotate_left 2
            · go_simp
              constructor
              · rfl
              · rfl
            refine hK.out _ _ ⟨(blk_cell (blk_alloc BK265.out _) 0).trans rfl, (blk_cell (blk_alloc BK265.out _) 1).trans rfl, (blk_cell (blk_alloc BK265.out _) 2).trans rfl⟩ (fun hHeld => ?_)
            clear hK K
            refine norm_ (a' := ?_) ?_ ?_
            rotate_left
            · show Act.put _ (some 94) _ = _
              simp only [Act.put, q1_, q2_, q3_, i64_w, i32_w]
              rfl
            refine one_ (i := 6) (N := some 95) #[true, true, true, true, true, true, true, false, false, false, false] rfl rfl (one_of HT_.out (by kernel_rfl)) (by decide) (fun K hK => ?_)
            refine Kd.R_append_step k28 (w0 := w) w.heap.size (by rfl) (.tmp 91) (.tmp 94) 29 28 (.agg #[(.int .i64 0), (.int .i64 0), (.int .i64 0), (.int .i64 0), (.int .i64 0), (.int .i64 0), (.int .u64 0), (.int .i64 0)]) 64 rfl Try.underlying29 info28 rfl (by decide) (by omega) u10 RL (⟨13, 0, (-1), (-1), (-1), (-1), 0, 0⟩ : S28) [.int .i64 13, .int .i64 0, .int .i64 (-1), .int .i64 (-1), .int .i64 (-1), .int .i64 (-1), .int .u64 0, .int .i64 0] (fun _ => True) (fun _ => False) rfl rfl ?aP (fun _ hk => hk.elim) ?aF ?aO ?aB ?aS ?aL ?_
            (case aP => exact k28_mkM _ _ _ (⟨13, 0, (-1), (-1), (-1), (-1), 0, 0⟩ : S28))
            (case aB => exact (by repeat (first | (with_reducible first | exact HB.out | apply below_alloc | apply pw_below_drewN | apply below_drew1 | refine below_set ?_ GE264.out | refine below_set ?_ GE265.out) | exact HB.out)))
            (case aF => exact (fun _ _ => trivial))
            (case aO => exact (by (with_reducible repeat (first | apply Kd.R_alloc | apply Kd.R_drewN | apply Kd.R_drew)); exact HO_10.out))
            (case aS => exact (below_size (by repeat (first | (with_reducible first | exact HB.out | apply below_alloc | apply pw_below_drewN | apply below_drew1 | refine below_set ?_ GE264.out | refine below_set ?_ GE265.out) | exact HB.out))))
            (case aL => have := LMc119.out; omega)
            intro v309 w123 ho hb hg hat
            rw [← Ny_R.out] at ho
            have n0_ := Aside0.mk (Kd.S_after (ok := (fun _ => True)) (by (with_reducible repeat (first | apply Kd.S_alloc | apply Kd.S_drewN | apply Kd.S_drew)); exact Kd.S_mono HO_S.out (fun _ hk => ⟨trivial, hk⟩)) hg hat)
            have n1_ := Aside0.mk (blk_grown (g := B6) (o := .cells #[.int .i64 0, .int .i64 0, .slice none 0 0] 36 (0, 0)) (by (with_reducible repeat (first | refine blk_drewN ?_ _ | refine blk_drew ?_ | refine blk_alloc ?_ _)); exact BK264.out) hg (Kd.R_ne HO_10.out BK264.out (by decide)))
            have n2_ := Aside0.mk (blk_grown (g := B7) (o := .cells #[.int .i64 (sh % (ce + 2)), .int .i64 (ce + 1), u] 36 (0, 0)) (by (with_reducible repeat (first | refine blk_drewN ?_ _ | refine blk_drew ?_ | refine blk_alloc ?_ _)); exact BK265.out) hg (Kd.R_ne HO_10.out BK265.out (by decide)))
            have n3_ := Aside0.mk (hb)
            have n4_ := Aside0.mk (ho)
            clear HO_S
            clear BK264
            clear BK265
            clear HB
            clear HO_10
            have HO_S := n0_
            have BK264 := n1_
            have BK265 := n2_
            have HB := n3_
            have HO310 := n4_
            clear n0_ n1_ n2_ n3_ n4_
            clear ho hb hg hat
            obtain ⟨Ao125, co125, eo125⟩ := Kd.R_slice HO310.out
            (first | subst eo125 | (injection eo125 with f1_ f2_ f3_; have f4_ := f1_.symm; have f5_ := f3_.symm; clear f1_ f2_ f3_; subst f4_; subst f5_))
            refine hK.out _ _ ⟨(blk_cell BK265.out 0).trans rfl, (blk_cell BK265.out 1).trans rfl, (blk_cell BK265.out 2).trans rfl⟩ (fun hHeld => ?_)
            clear hK K
            refine norm_ (a' := ?_) ?_ ?_
            rotate_left
            · show Act.put _ (some 95) _ = _
              simp only [Act.put, q1_, q2_, q3_, i64_w, i32_w]
              rfl
            refine one_ (i := 7) (N := some 96) #[true, true, true, true, true, true, true, true, false, false, false] rfl rfl (one_of HT_.out (by kernel_rfl)) (by decide) (fun K hK => ?_)
            refine value_ (w1 := ?_) (v := ?_) (by rfl) rfl ?_ ?_
            rotate_left 2
            · go_simp
              constructor
              · rfl
              · rfl
            refine hK.out _ _ ⟨(blk_cell (blk_alloc BK265.out _) 0).trans rfl, (blk_cell (blk_alloc BK265.out _) 1).trans rfl, (blk_cell (blk_alloc BK265.out _) 2).trans rfl⟩ (fun hHeld => ?_)
            clear hK K
            refine norm_ (a' := ?_) ?_ ?_
            rotate_left
            · show Act.put _ (some 96) _ = _
              simp only [Act.put, q1_, q2_, q3_, i64_w, i32_w]
              rfl
            refine one_ (i := 8) (N := some 97) #[true, true, true, true, true, true, true, true, true, false, false] rfl rfl (one_of HT_.out (by kernel_rfl)) (by decide) (fun K hK => ?_)
            refine Kd.S_append_step (Kd.slice 28 k28) (w0 := w) w.heap.size (by rfl) (.tmp 90) (.tmp 96) 34 29 (.slice none 0 0) 24 rfl Try.underlying34 info29 rfl (by decide) (by omega) u LH RN [.slice Ao125 RN.length co125] (fun _ => True) (fun k_ => some k_ = (.slice Ao125 RN.length co125 : Value).ownBlock) rfl rfl ?aP (fun k_ hk_ => ((Kd.R_mono (ok' := fun k_ => ((fun _ => True)) k_ ∧ some k_ ≠ (u : Value).ownBlock) (Kd.R_apart' (HO310.out) (Kd.S_typed HO_S.out) (by decide)) (fun k_ hk => ⟨trivial, hk.2⟩))).1 k_ hk_.symm) ?aF ?aO ?aB ?aS ?aL ?_
            (case aP => exact Kd.M_row (Kd.R_mono (Kd.R_tight rfl (Kd.R_mono (ok' := fun k_ => ((fun _ => True)) k_ ∧ some k_ ≠ (u : Value).ownBlock) (Kd.R_apart' (HO310.out) (Kd.S_typed HO_S.out) (by decide)) (fun k_ hk => ⟨trivial, hk.2⟩))) (fun _ h_ => h_)))
            (case aB => exact (by repeat (first | (with_reducible first | exact HB.out | apply below_alloc | apply pw_below_drewN | apply below_drew1 | refine below_set ?_ GE264.out | refine below_set ?_ GE265.out) | exact HB.out)))
            (case aF => exact (fun _ _ => trivial))
            (case aO => exact (by (with_reducible repeat (first | apply Kd.S_alloc | apply Kd.S_drewN | apply Kd.S_drew)); exact Kd.S_mono HO_S.out (fun k_ hk => ⟨trivial, fun e_ => hk.2 e_⟩)))
            (case aS => exact (below_size (by repeat (first | (with_reducible first | exact HB.out | apply below_alloc | apply pw_below_drewN | apply below_drew1 | refine below_set ?_ GE264.out | refine below_set ?_ GE265.out) | exact HB.out))))
            (case aL => have := LMc120.out; omega)
            intro v312 w124 ho hb hg hat
            rw [← Ny_L.out] at ho
            have n0_ := Aside0.mk (blk_grown (g := B6) (o := .cells #[.int .i64 0, .int .i64 0, .slice none 0 0] 36 (0, 0)) (by (with_reducible repeat (first | refine blk_drewN ?_ _ | refine blk_drew ?_ | refine blk_alloc ?_ _)); exact BK264.out) hg (Kd.S_ne HO_S.out BK264.out (by decide)))
            have n1_ := Aside0.mk (blk_grown (g := B7) (o := .cells #[.int .i64 (sh % (ce + 2)), .int .i64 (ce + 1), u] 36 (0, 0)) (by (with_reducible repeat (first | refine blk_drewN ?_ _ | refine blk_drew ?_ | refine blk_alloc ?_ _)); exact BK265.out) hg (Kd.S_ne HO_S.out BK265.out (by decide)))
            have n2_ := Aside0.mk (hb)
            have n3_ := Aside0.mk (ho)
            clear BK264
            clear BK265
            clear HB
            clear HO_S
            clear HO310
            have BK264 := n0_
            have BK265 := n1_
            have HB := n2_
            have HO313 := n3_
            clear n0_ n1_ n2_ n3_
            clear ho hb hg hat
            obtain ⟨Ao126, co126, eo126⟩ := Kd.S_slice HO313.out
            (first | subst eo126 | (injection eo126 with f1_ f2_ f3_; have f4_ := f1_.symm; have f5_ := f3_.symm; clear f1_ f2_ f3_; subst f4_; subst f5_))
            refine hK.out _ _ ⟨(blk_cell BK265.out 0).trans rfl, (blk_cell BK265.out 1).trans rfl, (blk_cell BK265.out 2).trans rfl⟩ (fun hHeld => ?_)
            clear hK K
            refine norm_ (a' := ?_) ?_ ?_
            rotate_left
            · show Act.put _ (some 97) _ = _
              simp only [Act.put, q1_, q2_, q3_, i64_w, i32_w]
              rfl
            refine pure_ (i := 9) (N := some 98) (v := ?_) (a' := ?_) #[true, true, true, true, true, true, true, true, true, true, false] rfl rfl (any_of HT_.out (by kernel_rfl)) (fun _ _ _ h => h) (Or.inl ⟨by rfl, ?_⟩) ?_ ?_
            rotate_left
            · intro w'
              go_simp
              with_reducible rfl
            rotate_left
            · simp only [Act.put, q1_, q2_, q3_, i64_w, i32_w]
              rfl
            refine last_ (i := 10) (N := none) #[true, true, true, true, true, true, true, true, true, true, true] rfl rfl (one_of HT_.out (by kernel_rfl)) (by decide) (fun K hK => ?_)
            have hs127 : w124.cell? ⟨B7, 2, none⟩ = some (u) := (blk_cell BK265.out 2).trans rfl
            have hfs127 := blk_frozen BK265.out 2
            have hns127_0 := NB67.out
            have hms127_0 := NB76.out
            refine skip_ (w1 := ?_) (by rfl) rfl ?_ ?_
            rotate_left
            · go_simp
              rfl
            refine hK.out _ _ ?_
            clear hK K
            refine done_ (done_of HT_.out (by kernel_rfl)) ?_
            try go_wp2
            go_roundw
            case rel => exact ⟨q + 1, _, by first | rfl | go_num, by omega, by omega, by rw [← hLNt.out]; (with_reducible repeat (first | apply Kd.S_alloc | apply Kd.S_drewN | apply Kd.S_drew)); exact Kd.S_mono (Kd.S_far (p := ⟨B7, 2, none⟩) (Kd.S_types HO313.out BK265.out (by decide)) (fun _ hk => hk.2) (.slice Ao126 LN.length co126)) (fun _ hk => trivial), by (with_reducible repeat (first | refine blk_drewN ?_ _ | refine blk_drew ?_ | refine blk_alloc ?_ _)); refine blk_far ?_ NB67.out _; (with_reducible repeat (first | refine blk_drewN ?_ _ | refine blk_drew ?_ | refine blk_alloc ?_ _)); exact BK264.out, by (with_reducible repeat (first | refine blk_drewN ?_ _ | refine blk_drew ?_ | refine blk_alloc ?_ _)); refine blk_put (cs := #[.int .i64 (sh % (ce + 2)), .int .i64 (ce + 1), u]) ?_ 2 _ rfl; (with_reducible repeat (first | refine blk_drewN ?_ _ | refine blk_drew ?_ | refine blk_alloc ?_ _)); exact BK265.out, by repeat (first | (with_reducible first | exact HB.out | apply below_alloc | apply pw_below_drewN | apply below_drew1 | refine below_set ?_ GE264.out | refine below_set ?_ GE265.out) | exact HB.out)⟩
            case measure => simp [intOf]; omega
    · have x70 := blk_cell BK7 0
      have x71 := blk_cell BK7 1
      have x72 := blk_cell BK7 2
      have x60 := blk_cell BK6 0
      have x61 := blk_cell BK6 1
      have x62 := blk_cell BK6 2
      have f70 := blk_frozen BK7 0
      have f71 := blk_frozen BK7 1
      have f72 := blk_frozen BK7 2
      have f60 := blk_frozen BK6 0
      have f61 := blk_frozen BK6 1
      have f62 := blk_frozen BK6 2
      have hN76 := hN67.symm
      have HF : (R.take q).map (thM (ce + 1)) = (R.take 16).map (thM (ce + 1)) := by
        first | rfl | rw [List.take_of_length_le (show R.length ≤ q by omega), List.take_of_length_le (show R.length ≤ 16 by omega)]
      rw [HF] at HS
      clear HF
      generalize hLF : (R.take 16).map (thM (ce + 1)) = LF at HS
      replace hLF := Aside0.mk hLF
      obtain ⟨Ao, co, eo⟩ := Kd.S_slice HS
      subst eo
      go_wp2
      refine bodyPost_ret (results_cell_row rfl _ _ B6 36 #[.int .i64 (sh % (ce + 2)), .int .i64 (ce + 1), .slice Ao LF.length co] (0, 0) _ rfl (by (with_reducible repeat (first | refine blk_drewN ?_ _ | refine blk_drew ?_ | refine blk_alloc ?_ _)); refine blk_put (cs := #[.int .i64 (sh % (ce + 2)), .int .i64 (ce + 1), .slice none 0 0]) ?_ 2 _ rfl; (with_reducible repeat (first | refine blk_drewN ?_ _ | refine blk_drew ?_ | refine blk_alloc ?_ _)); refine blk_put (cs := #[.int .i64 (sh % (ce + 2)), .int .i64 0, .slice none 0 0]) ?_ 1 _ rfl; (with_reducible repeat (first | refine blk_drewN ?_ _ | refine blk_drew ?_ | refine blk_alloc ?_ _)); refine blk_put (cs := #[.int .i64 0, .int .i64 0, .slice none 0 0]) ?_ 0 _ rfl; (with_reducible repeat (first | refine blk_drewN ?_ _ | refine blk_drew ?_ | refine blk_alloc ?_ _)); exact BK6) Try.underlying36 rfl (by kernel_rfl)) rfl ?_
      refine ⟨_, rfl, ?_, ?_⟩
      · rw [hLF.out]; (with_reducible repeat (first | apply Kd.S_alloc | apply Kd.S_drewN | apply Kd.S_drew)); exact Kd.S_mono (Kd.S_far (p := ⟨B6, 2, none⟩) (Kd.S_far (p := ⟨B6, 1, none⟩) (Kd.S_far (p := ⟨B6, 0, none⟩) (Kd.S_types HS BK6 (by decide)) (fun _ hk => hk.2) (.int .i64 (sh % (ce + 2)))) (fun _ hk => hk.2) (.int .i64 (ce + 1))) (fun _ hk => hk.2) (.slice Ao LF.length co)) (fun _ hk => trivial)
      · repeat (first | (with_reducible first | exact HB | apply below_alloc | apply pw_below_drewN | apply below_drew1 | refine below_set ?_ hG6.out | refine below_set ?_ hG7.out) | exact HB)

end Go.Proofs.Ytaenjbhhpdmhgaa.Pure
