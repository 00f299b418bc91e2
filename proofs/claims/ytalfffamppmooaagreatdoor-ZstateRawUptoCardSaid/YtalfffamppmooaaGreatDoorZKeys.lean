/- A part of the proof. -/
import Derived.Test.YtalfffamppmooaaGreatDoorZRange
namespace Go.Proofs.YtalfffamppmooaaGreatDoor
open Go.RowKit Go.MapKept
def intK (k : Int) : Value := .int .i64 k
def strK (s : ByteArray) : Value := .string s
theorem int_keyOk {P : Program} {kt : TypeId} (h : P.underlying kt = some (.int .i64)) : KeyOk P kt intK where
 chk e a w := by
  show (Instr.checkKey e (9999 + 1) kt (intK a)).run P w = _
  rw [Instr.checkKey]
  simp [intK, run_underlying h]
 same := ⟨_, h, fun a b => by simp only [intK, Instr.sameNow, if_true, Option.some.injEq]; rw [Bool.eq_iff_iff]; simp only [beq_iff_eq, decide_eq_true_eq]⟩
 bits a := by simp [intK, Instr.sameBits]
theorem beqB (a b : ByteArray) : (a == b) = decide (a = b) := by
 obtain ⟨⟨x⟩⟩ := a
 obtain ⟨⟨y⟩⟩ := b
 show ((⟨x⟩ : Array UInt8) == ⟨y⟩) = _
 rw [Bool.eq_iff_iff, beq_iff_eq, decide_eq_true_eq]
 simp
theorem str_keyOk {P : Program} {kt : TypeId} (h : P.underlying kt = some .string) : KeyOk P kt strK where
 chk e a w := by
  show (Instr.checkKey e (9999 + 1) kt (strK a)).run P w = _
  rw [Instr.checkKey]
  simp [strK, run_underlying h]
 same := ⟨_, h, fun a b => by simp only [strK, Instr.sameNow, Option.some.injEq]; exact beqB a b⟩
 bits a := by simp [strK, Instr.sameBits, beqB]
end Go.Proofs.YtalfffamppmooaaGreatDoor
