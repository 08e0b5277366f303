/- The plain law of the rules, fifth part: the chapter's examples, and lines that are none. No program is in sight; no condition. -/
import Derived.Test.YtnchipahdfbliaaGreatDoorRuC
import Derived.Lib.Hide
namespace Go.Proofs.YtnchipahdfbliaaGreatDoor.Ru
open Go Go.Proofs.YtnchipahdfbliaaGreatDoor
open Go.RowKit

def qC : Rule := ⟨[99, 49], 1, 1, 10, cAny, cAny⟩
def qE (a : Cond) : Rule := ⟨[101], 0, 3, 5, a, cAny⟩
def kindC (n : Int) : Cond := .mk 4 [] n .none []
def netG : Cond := .mk 2 [71, 78, 68] 0 .none []
def notL : Cond := .mk 8 [] 0 .none [.mk 5 [] 2 .none []]
def qW : Rule := ⟨[119], 2, 2, 8, .mk 9 [] 0 .none [netG, notL], cAny⟩
def clsP : Cond := .mk 3 [112] 0 .none []
def a3 : Cond := .mk 10 [] 0 .none [kindC 1, .mk 9 [] 0 .none [kindC 2, clsP]]
def a4 : Cond := .mk 9 [] 0 .none [.mk 10 [] 0 .none [kindC 1, kindC 2], clsP]
def s1 : Bytes := [114, 117, 108, 101, 32, 99, 49, 32, 49, 32, 99, 108, 101, 97, 114, 32, 49, 48, 32, 119, 104, 101, 110, 32, 97, 110, 121, 32, 116, 111, 32, 97, 110, 121]
def s2 : Bytes := [114, 117, 108, 101, 32, 101, 32, 48, 32, 101, 100, 103, 101, 32, 53, 32, 119, 104, 101, 110, 32, 40, 32, 97, 110, 121, 32, 41]
def s3 : Bytes := [114, 117, 108, 101, 32, 119, 32, 50, 32, 119, 105, 100, 116, 104, 32, 56, 32, 119, 104, 101, 110, 32, 110, 101, 116, 32, 71, 78, 68, 32, 97, 110, 100, 32, 110, 111, 116, 32, 108, 97, 121, 101, 114, 32, 50]
def s4 : Bytes := [114, 117, 108, 101, 32, 101, 32, 48, 32, 101, 100, 103, 101, 32, 53, 32, 119, 104, 101, 110, 32, 107, 105, 110, 100, 32, 49, 32, 111, 114, 32, 107, 105, 110, 100, 32, 50, 32, 97, 110, 100, 32, 99, 108, 97, 115, 115, 32, 112]
def s5 : Bytes := [114, 117, 108, 101, 32, 101, 32, 48, 32, 101, 100, 103, 101, 32, 53, 32, 119, 104, 101, 110, 32, 40, 32, 107, 105, 110, 100, 32, 49, 32, 111, 114, 32, 107, 105, 110, 100, 32, 50, 32, 41, 32, 97, 110, 100, 32, 99, 108, 97, 115, 115, 32, 112]
def s6 : Bytes := [114, 117, 108, 101, 32, 101, 32, 48, 32, 101, 100, 103, 101, 32, 53, 32, 119, 104, 101, 110, 32, 97, 110, 121, 32, 116, 111, 32, 97, 110, 121]
def s7 : Bytes := [114, 117, 108, 101, 32, 101, 32, 48, 32, 101, 100, 103, 101, 32, 48, 53, 32, 119, 104, 101, 110, 32, 97, 110, 121]
def s8 : Bytes := [114, 117, 108, 101, 32, 101, 32, 48, 32, 101, 100, 103, 101, 32, 53, 32, 119, 104, 101, 110, 32, 107, 105, 110, 100, 32, 54]
def s9 : Bytes := [114, 117, 108, 101, 32, 57, 32, 48, 32, 101, 100, 103, 101, 32, 53, 32, 119, 104, 101, 110, 32, 97, 110, 121]
def z0 : Bytes := [114, 117, 108, 101]
def z1 : Bytes := []
def z2 : Bytes := [114, 117, 108, 101, 32, 97, 32, 49, 32, 99, 108, 101, 97, 114, 32, 53, 32, 119, 104, 101, 110, 32, 97, 110, 121]
def z3 : Bytes := [114, 117, 108, 101, 115, 32, 97, 32, 49, 32, 101, 100, 103, 101, 32, 53, 32, 119, 104, 101, 110, 32, 97, 110, 121]
theorem p_s1 : parse (s1 ++ [10]) = ([qC], 0, 0) := by kernel_rfl
theorem p_s2 : parse (s2 ++ [10]) = ([qE cAny], 0, 0) := by kernel_rfl
theorem p_s3 : parse (s3 ++ [10]) = ([qW], 0, 0) := by kernel_rfl
theorem p_s4 : parse (s4 ++ [10]) = ([qE a3], 0, 0) := by kernel_rfl
theorem p_s5 : parse (s5 ++ [10]) = ([qE a4], 0, 0) := by kernel_rfl
theorem p_s6 : parse (s6 ++ [10]) = ([], 1, 4) := by kernel_rfl
theorem p_s7 : parse (s7 ++ [10]) = ([], 1, 4) := by kernel_rfl
theorem p_s8 : parse (s8 ++ [10]) = ([], 0, 40) := by kernel_rfl
theorem p_s9 : parse (s9 ++ [10]) = ([], 0, 20) := by kernel_rfl
theorem n_z0 : line z0 = none := by kernel_rfl
theorem n_z1 : line z1 = none := by kernel_rfl
theorem n_z2 : line z2 = none := by kernel_rfl
theorem n_z3 : line z3 = none := by kernel_rfl
theorem t_s5 : textOf [qE a4] = s5 ++ [10] := by kernel_rfl
theorem c_s5 : check [qE a4] = 0 := by kernel_rfl
end Go.Proofs.YtnchipahdfbliaaGreatDoor.Ru
