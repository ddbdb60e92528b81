/-
  One text of the proof (own work): contracts of functions of the program, by the abstract machine.
-/
import Derived.Test.YtmcgfohokniepaaK4
set_option linter.unusedVariables false
set_option linter.unusedSimpArgs false
namespace Go.Ab
open Go Go.RowKit Go.Proofs
set_option maxRecDepth 100000
/-! ### Two digests -/
def inD : List UInt8 := [49, 59, 49, 58, 100, 44]
def inE : List UInt8 := [49, 59, 49, 58, 101, 44]
def outD : List UInt8 := [43, 49, 60, 136, 211, 172, 214, 232, 74, 104, 31, 154, 178, 86, 58, 63, 137, 194, 157, 63, 115, 255, 11, 211, 215, 8, 179, 154, 57, 28, 189, 234]
def outE : List UInt8 := [177, 233, 201, 209, 36, 158, 235, 154, 170, 224, 167, 113, 182, 130, 240, 222, 253, 207, 109, 137, 206, 164, 5, 172, 84, 169, 36, 142, 94, 98, 147, 192]
theorem sum_d : sum3 inD = outD := by decide +kernel
theorem sum_e : sum3 inE = outE := by decide +kernel
end Go.Ab
