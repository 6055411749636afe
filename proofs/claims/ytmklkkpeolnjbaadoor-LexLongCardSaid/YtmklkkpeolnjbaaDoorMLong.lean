/-
LexLong: a text that is too long has no tokens. Conditions: as each theorem states them.
-/
import Derived.Test.YtmklkkpeolnjbaaDoorMAwake
set_option linter.unusedVariables false
set_option linter.unusedSimpArgs false
namespace Go.Proofs.YtmklkkpeolnjbaaDoor.Lex
open Go.RowKit Go.Proofs.YtmklkkpeolnjbaaDoorW.PrintWords Go.Proofs.YtmklkkpeolnjbaaDoorW.PrintLast Go.Proofs.YtmklkkpeolnjbaaDoorW.PrintMore
open Go.Proofs.YtmklkkpeolnjbaaDoor.Kit Go.ChangeMaps Go.MapKept
open Go.Proofs.YtmklkkpeolnjbaaDoor.PLexCut
theorem made_cell (n : Nat) (j : Nat) (hj : j < n) : (madeCells (Value.int .u8 0).cells n)[j]? = some (.int .u8 0) := by
  simp [madeCells, hj, Value.cells, Nat.mod_one]
theorem info8m : (Tryd.prog.info? 5).map (fun i => (i.zero, i.size, i.bytes)) = some (some (.int .u8 0), 1, 1) := by kernel_rfl
theorem info8 : ∃ i, Tryd.prog.info? 5 = some i ∧ i.zero = some (.int .u8 0) ∧ i.size = 1 ∧ i.bytes = 1 := by
  have h := info8m
  cases hi : Tryd.prog.info? 5 with
  | none => rw [hi] at h; cases h
  | some i =>
    rw [hi] at h
    have h2 : (i.zero, i.size, i.bytes) = (some (Value.int .u8 0), 1, 1) := Option.some.inj h
    exact ⟨i, rfl, congrArg (·.1) h2, congrArg (·.2.1) h2, congrArg (·.2.2) h2⟩
/-- string(make([]byte, n)) -/
theorem make_bytes (w : World) (n : Nat) (hn : n ≤ 1000000) : ∃ w', (Instr.makeSlice 41 (.int .i64 (n : Int)) (.int .i64 (n : Int))).run Tryd.prog w = .ok (.slice (some ⟨w.heap.size, 0, none⟩) n n) w' ∧ Below w.heap.size w w' ∧
    ∃ s : ByteArray, s.size = n ∧ (convert 41 9 (.slice (some ⟨w.heap.size, 0, none⟩) n n)).run Tryd.prog w' = .ok (.string s) w' := by
  obtain ⟨i, hi, hz, hs, hb⟩ := info8
  have h := run_make (P := Tryd.prog) w 41 5 i _ Tryd.underlying41 hi hz .i64 .i64 n n (by omega) (by omega) (by rw [hb]; omega) (by omega)
  rw [hs, Nat.mul_one] at h
  simp only [Int.toNat_natCast] at h
  refine ⟨_, h, below_alloc (Below.refl _ _) _, ⟨(List.replicate n 0).toArray⟩, by simp [ByteArray.size], ?_⟩
  have hb := run_convert_bytes_back (P := Tryd.prog) (w.alloc (.cells (madeCells (Value.int .u8 0).cells n) 5)) 41 9 5 ⟨w.heap.size, 0, none⟩ n (List.replicate n 0) Tryd.underlying41 Tryd.underlying5 Tryd.underlying9 (by
    intro j hj
    have hj' : j < n := by simpa using hj
    have hm := made_cell n j hj'
    rw [show Addr.add ⟨w.heap.size, 0, none⟩ j = ⟨w.heap.size, j, none⟩ by cases j <;> simp [Addr.add]]
    simp [hm, hj'])
  rw [List.length_replicate] at hb
  exact hb
set_option maxRecDepth 20000 in
theorem lexLong.calls (more : Int) (w : World) (hg : As.Handle w) (h0 : 0 ≤ more) (h1 : more < 256) : Calls Tryd.prog 6 #[.int .u8 more] w fun e w' => e = .returned (.bool true) ∧ Below w.heap.size w w' := by
  have CA := awake.calls w hg
  go_enter Tryd.func6, Tryd.ntmps6
  go_upto_region 3 with (first
    | (go_at_call 9; refine CA.mono ?_; rintro e w1 ⟨rfl, hb1⟩)
    | go_in)
  have hm1 : IntKind.i64.wrap more = more := by rw [IntKind.wrap_i64]; omega
  have hm2 : wrap64 (65537 + more) = 65537 + more := wrap_in (by omega) (by omega)
  obtain ⟨n, hn⟩ := Int.eq_ofNat_of_zero_le (show 0 ≤ 65537 + more by omega)
  obtain ⟨w2, hmk, hb2, s, hs, hcv⟩ := make_bytes w1 n (by omega)
  have TC := cut_long s w2 (by omega) (by omega)
  rw [← hn] at hmk
  replace hn := Aside0.mk hn
  replace hs := Aside0.mk hs
  go_upto_region 4 with (first
    | (go_at_call 10; refine TC.mono ?_; rintro e w3 ⟨hb3, v, rfl, hF⟩)
    | go_in)
  have b12 := hb1.trans (hb2.mono hb1.size)
  have b13 := b12.trans (hb3.mono b12.size)
  have hg3 := hg.below b13
  have N1 := As.number.calls v 6 0 w3 hg3 hF
  clear hmk hcv TC
  go_wp2_with (first
    | (go_at_call 13; refine N1.mono ?_; rintro e w4 ⟨rfl, hb4⟩; have P1 := As.place.calls v 6 0 w4 (hg3.below hb4) (hF.below hb4))
    | (go_at_call 14; refine P1.mono ?_; rintro e w5 ⟨rfl, hb5⟩))
  go_ret
  have b14 := b13.trans (hb4.mono b13.size)
  exact ⟨rfl, b14.trans (hb5.mono b14.size)⟩
end Go.Proofs.YtmklkkpeolnjbaaDoor.Lex
