/-
For ScopeOf: what the Go functions that it reaches compute, as plain Lean functions, and the walks that show it; conditions as each theorem states them. (Written by a program of this session on the kit's print.)
-/
-- PRINTED by print.py (a twelfth state) out of the translation. Not trusted: Lean checks it.
import Derived.Test.YtchgmfdojhbgaaaDoorProg
import Derived.Below
import Derived.Deep.Draws
import Derived.Deep.AppendLies
import Derived.Maps.AppendAt
import Derived.OwnWalk
import Derived.Laws.BytesArg
import Derived.Laws.MakeOwn
import Derived.Laws.OwnMore
import Derived.Deep.OwnRows
import Derived.Tactics
import Derived.Lib.ConvBytes
import Derived.Laws.Slices
import Derived.WalkKit
import Derived.KernelRfl
import Derived.RowKit3
import Derived.Deep.LoopGhost
import Derived.Deep.QuietTactic
import Derived.BigQuiet
import Derived.WideLaws
import Derived.Deep.DeepCutAuto
import Derived.Deep.CutBlock
import Derived.Deep.RegionHeld3
import Derived.Laws.Rows
import Derived.Lib.AppendStr
import Derived.ArgAppend
import Derived.Laws.IdiomCopy
import Derived.OrdersHeld
import Derived.Laws.BitsLemmas
import Derived.RowKit
import Derived.Test.YtchgmfdojhbgaaaDoorWWords
import Derived.Test.YtchgmfdojhbgaaaDoorWLast
import Derived.Test.YtchgmfdojhbgaaaDoorWTab
import Derived.Test.YtchgmfdojhbgaaaDoorWFour
import Derived.Test.YtchgmfdojhbgaaaDoorWQPut
import Derived.Test.YtchgmfdojhbgaaaDoorWApart
import Derived.Test.YtchgmfdojhbgaaaDoorWArr
import Derived.Test.YtchgmfdojhbgaaaDoorWZeros
import Derived.Test.YtchgmfdojhbgaaaDoorWFoot
import Derived.Test.YtchgmfdojhbgaaaDoorWKept
import Derived.Test.YtchgmfdojhbgaaaDoorWShare
import Derived.Test.YtchgmfdojhbgaaaDoorWN
import Derived.Test.YtchgmfdojhbgaaaDoorWFootNe
import Derived.Test.YtchgmfdojhbgaaaDoorWAt
import Derived.Test.YtchgmfdojhbgaaaDoorWEqStruct
import Derived.Test.YtchgmfdojhbgaaaDoorWRepsOne
import Derived.Test.YtchgmfdojhbgaaaDoorWInv
import Derived.Test.YtchgmfdojhbgaaaDoorWInvWords
import Derived.Test.YtchgmfdojhbgaaaDoorWGuard
import Derived.Test.YtchgmfdojhbgaaaDoorWNEv
import Derived.Test.YtchgmfdojhbgaaaDoorWMore
import Derived.Test.YtchgmfdojhbgaaaDoorWords2
import Derived.RegionTactic
import Derived.ChangeAlike
import Derived.BigRegion
namespace Go.Proofs.YtchgmfdojhbgaaaDoor.PScopeOf
open Go.RowKit Go.Proofs.YtchgmfdojhbgaaaDoorW.PrintWords Go.Proofs.YtchgmfdojhbgaaaDoorW.PrintLast Go.Proofs.YtchgmfdojhbgaaaDoorW.PrintMore
attribute [local go_sem] max2_int min2_int max_two min_two max_three min_three max_four min_four   -- for this text's walks alone
set_option linter.unusedVariables false
set_option linter.unusedSimpArgs false



def errW : Option Int → Value
  | none => .nilIface
  | some c => .iface 0 (.int .i64 c)
theorem errW_none : errW none = .nilIface := rfl
theorem errW_some (c : Int) : errW (some c) = .iface 0 (.int .i64 c) := rfl

theorem info9 : (Tryd.prog.info? 9).map (fun i => (i.zero, i.size, i.bytes)) = some (some (.string ⟨#[]⟩), 1, 16) := by kernel_rfl
-- the values' own types
/-! #### struct type 49 -/
structure S49 where
  f0 : ByteArray
  f1 : Int
  f2 : Int
def z49 : S49 := ⟨(⟨#[]⟩ : ByteArray), (0 : Int), (0 : Int)⟩
def k49 : Kd S49 := Kd.iso (Kd.pair Kd.string (Kd.pair (Kd.int .i64) (Kd.int .i64))) (fun x : S49 => (x.f0, x.f1, x.f2))
theorem k49_open {w : World} {x : S49} {cs : List Value} (h : k49.K w x cs) : cs = [.string x.f0, .int .i64 x.f1, .int .i64 x.f2] := by
  obtain ⟨_, _, rfl, rfl, ⟨_, _, rfl, rfl, rfl⟩⟩ := h
  exact rfl
theorem k49_openM {w : World} {base : Nat} {ok : Nat → Prop} {x : S49} {cs : List Value} (h : k49.M w base ok x cs) : cs = [.string x.f0, .int .i64 x.f1, .int .i64 x.f2] := by
  obtain ⟨_, _, rfl, rfl, ⟨_, _, rfl, rfl, rfl⟩⟩ := h
  exact rfl
theorem k49_mk (w : World) (x : S49)  : k49.K w x [.string x.f0, .int .i64 x.f1, .int .i64 x.f2] := ⟨[.string x.f0], [.int .i64 x.f1, .int .i64 x.f2], rfl, rfl, ⟨[.int .i64 x.f1], [.int .i64 x.f2], rfl, rfl, rfl⟩⟩
theorem k49_mkM (w : World) (base : Nat) (ok : Nat → Prop) (x : S49)  : k49.M w base ok x [.string x.f0, .int .i64 x.f1, .int .i64 x.f2] := ⟨[.string x.f0], [.int .i64 x.f1, .int .i64 x.f2], rfl, rfl, ⟨[.int .i64 x.f1], [.int .i64 x.f2], rfl, rfl, rfl⟩⟩
def rd_T49 (xs : List S49) (i : Int) : S49 := xs.getD i.toNat z49
theorem at_T49 {w : World} {A : Option Addr} {n : Nat} {xs : List S49} (h : Kd.C k49 w A n xs) (i : Int) (h0 : 0 ≤ i) (h1 : i < n) : ∃ ad , A = some ad ∧ w.cell? (ad.add (i.toNat * 3)) = some (.string (rd_T49 xs i).f0) ∧ w.cell? ⟨(ad.add (i.toNat * 3)).block, (ad.add (i.toNat * 3)).off + 1, none⟩ = some (.int .i64 (rd_T49 xs i).f1) ∧ w.cell? ⟨(ad.add (i.toNat * 3)).block, (ad.add (i.toNat * 3)).off + 2, none⟩ = some (.int .i64 (rd_T49 xs i).f2) := by
  obtain ⟨ad, c, e, _, hK, hc0⟩ := Kd.C_get h z49 i h0 h1
  have hc : ∀ j u, c[j]? = some u → w.cell? (ad.add (i.toNat * 3 + j)) = some u := hc0
  obtain rfl := k49_open hK
  exact ⟨ad, e, hc 0 _ rfl, by rw [← add_field _ _ 1 (by omega)]; exact hc 1 _ rfl, by rw [← add_field _ _ 2 (by omega)]; exact hc 2 _ rfl⟩

/-! #### struct type 29 -/
structure S29 where
  f0 : Bool
  f1 : Int
  f2 : ByteArray
  f3 : Int
  f4 : ByteArray
  f5 : Int
def z29 : S29 := ⟨false, (0 : Int), (⟨#[]⟩ : ByteArray), (0 : Int), (⟨#[]⟩ : ByteArray), (0 : Int)⟩
def k29 : Kd S29 := Kd.iso (Kd.pair Kd.bool (Kd.pair (Kd.int .i64) (Kd.pair Kd.string (Kd.pair (Kd.int .i64) (Kd.pair Kd.string (Kd.int .i64)))))) (fun x : S29 => (x.f0, x.f1, x.f2, x.f3, x.f4, x.f5))
theorem k29_open {w : World} {x : S29} {cs : List Value} (h : k29.K w x cs) : cs = [.bool x.f0, .int .i64 x.f1, .string x.f2, .int .i64 x.f3, .string x.f4, .int .i64 x.f5] := by
  obtain ⟨_, _, rfl, rfl, ⟨_, _, rfl, rfl, ⟨_, _, rfl, rfl, ⟨_, _, rfl, rfl, ⟨_, _, rfl, rfl, rfl⟩⟩⟩⟩⟩ := h
  exact rfl
theorem k29_openM {w : World} {base : Nat} {ok : Nat → Prop} {x : S29} {cs : List Value} (h : k29.M w base ok x cs) : cs = [.bool x.f0, .int .i64 x.f1, .string x.f2, .int .i64 x.f3, .string x.f4, .int .i64 x.f5] := by
  obtain ⟨_, _, rfl, rfl, ⟨_, _, rfl, rfl, ⟨_, _, rfl, rfl, ⟨_, _, rfl, rfl, ⟨_, _, rfl, rfl, rfl⟩⟩⟩⟩⟩ := h
  exact rfl
theorem k29_mk (w : World) (x : S29)  : k29.K w x [.bool x.f0, .int .i64 x.f1, .string x.f2, .int .i64 x.f3, .string x.f4, .int .i64 x.f5] := ⟨[.bool x.f0], [.int .i64 x.f1, .string x.f2, .int .i64 x.f3, .string x.f4, .int .i64 x.f5], rfl, rfl, ⟨[.int .i64 x.f1], [.string x.f2, .int .i64 x.f3, .string x.f4, .int .i64 x.f5], rfl, rfl, ⟨[.string x.f2], [.int .i64 x.f3, .string x.f4, .int .i64 x.f5], rfl, rfl, ⟨[.int .i64 x.f3], [.string x.f4, .int .i64 x.f5], rfl, rfl, ⟨[.string x.f4], [.int .i64 x.f5], rfl, rfl, rfl⟩⟩⟩⟩⟩
theorem k29_mkM (w : World) (base : Nat) (ok : Nat → Prop) (x : S29)  : k29.M w base ok x [.bool x.f0, .int .i64 x.f1, .string x.f2, .int .i64 x.f3, .string x.f4, .int .i64 x.f5] := ⟨[.bool x.f0], [.int .i64 x.f1, .string x.f2, .int .i64 x.f3, .string x.f4, .int .i64 x.f5], rfl, rfl, ⟨[.int .i64 x.f1], [.string x.f2, .int .i64 x.f3, .string x.f4, .int .i64 x.f5], rfl, rfl, ⟨[.string x.f2], [.int .i64 x.f3, .string x.f4, .int .i64 x.f5], rfl, rfl, ⟨[.int .i64 x.f3], [.string x.f4, .int .i64 x.f5], rfl, rfl, ⟨[.string x.f4], [.int .i64 x.f5], rfl, rfl, rfl⟩⟩⟩⟩⟩
def rd_T29 (xs : List S29) (i : Int) : S29 := xs.getD i.toNat z29
theorem at_T29 {w : World} {A : Option Addr} {n : Nat} {xs : List S29} (h : Kd.C k29 w A n xs) (i : Int) (h0 : 0 ≤ i) (h1 : i < n) : ∃ ad , A = some ad ∧ w.cell? (ad.add (i.toNat * 6)) = some (.bool (rd_T29 xs i).f0) ∧ w.cell? ⟨(ad.add (i.toNat * 6)).block, (ad.add (i.toNat * 6)).off + 1, none⟩ = some (.int .i64 (rd_T29 xs i).f1) ∧ w.cell? ⟨(ad.add (i.toNat * 6)).block, (ad.add (i.toNat * 6)).off + 2, none⟩ = some (.string (rd_T29 xs i).f2) ∧ w.cell? ⟨(ad.add (i.toNat * 6)).block, (ad.add (i.toNat * 6)).off + 3, none⟩ = some (.int .i64 (rd_T29 xs i).f3) ∧ w.cell? ⟨(ad.add (i.toNat * 6)).block, (ad.add (i.toNat * 6)).off + 4, none⟩ = some (.string (rd_T29 xs i).f4) ∧ w.cell? ⟨(ad.add (i.toNat * 6)).block, (ad.add (i.toNat * 6)).off + 5, none⟩ = some (.int .i64 (rd_T29 xs i).f5) := by
  obtain ⟨ad, c, e, _, hK, hc0⟩ := Kd.C_get h z29 i h0 h1
  have hc : ∀ j u, c[j]? = some u → w.cell? (ad.add (i.toNat * 6 + j)) = some u := hc0
  obtain rfl := k29_open hK
  exact ⟨ad, e, hc 0 _ rfl, by rw [← add_field _ _ 1 (by omega)]; exact hc 1 _ rfl, by rw [← add_field _ _ 2 (by omega)]; exact hc 2 _ rfl, by rw [← add_field _ _ 3 (by omega)]; exact hc 3 _ rfl, by rw [← add_field _ _ 4 (by omega)]; exact hc 4 _ rfl, by rw [← add_field _ _ 5 (by omega)]; exact hc 5 _ rfl⟩

end Go.Proofs.YtchgmfdojhbgaaaDoor.PScopeOf
