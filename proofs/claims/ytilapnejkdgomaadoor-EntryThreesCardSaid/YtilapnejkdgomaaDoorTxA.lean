/- Contracts of strconv.Itoa, FormatInt and FormatUint at every number, out of the kit's shelf; the walk of word.Text. Conditions: the numbers are of their kinds; the table of powers of ten is laid. -/
import Derived.Laws.Concat
import Derived.Lib.AppendIntMem
import Derived.Lib.ItoaLen
import Derived.Lib.ItoaMem
import Derived.Lib.SmallJoins
import Derived.Shelf.Strconv.Itoa1
import Derived.Shelf.Strconv.Itoa2
import Derived.Shelf.Strconv.Itoa3
import Derived.Shelf.Strconv.Itoa4
import Derived.Test.YtilapnejkdgomaaDoorEntA
set_option linter.unusedVariables false
set_option linter.unusedSimpArgs false
namespace Go.Proofs
open Go.Shelf
def Tryd.lays283_ren : Go.Shelf.Ren := ⟨fun | 283 => 63 | n => n, fun | 3 => 3 | 9 => 9 | 4 => 4 | n => n, fun | n => n⟩
theorem Tryd.lays283 : Go.Proofs.Lays.n283 Tryd.prog Tryd.lays283_ren := {
  mixed := by kernel_rfl
  f283 := Tryd.func63.trans (congrArg some (by kernel_rfl))
  t3 := Tryd.underlying3
  a3 := Tryd.isAgg3
  z3 := Tryd.sizeOf3
  v3 := Tryd.zeroValue3
  t4 := Tryd.underlying4
  a4 := Tryd.isAgg4
  z4 := Tryd.sizeOf4
  v4 := Tryd.zeroValue4
  t9 := Tryd.underlying9
  a9 := Tryd.isAgg9
  z9 := Tryd.sizeOf9
  v9 := Tryd.zeroValue9 }
def Tryd.lays171_ren : Go.Shelf.Ren := ⟨fun | 171 => 29 | 243 => 46 | 246 => 50 | 283 => 63 | 284 => 64 | 285 => 65 | 286 => 66 | 129 => 74 | 317 => 73 | 318 => 75 | 319 => 76 | 320 => 77 | 337 => 82 | 338 => 83 | n => n, fun | 3 => 3 | 9 => 9 | 2 => 2 | 4 => 4 | 171 => 97 | 0 => 0 | 53 => 77 | 37 => 81 | 5 => 5 | 173 => 100 | 212 => 108 | 51 => 35 | 20 => 20 | 213 => 109 | 46 => 91 | 232 => 117 | 233 => 118 | n => n, fun | 17 => 0 | 18 => 2 | 19 => 3 | n => n⟩
theorem Tryd.lays171 : Go.Proofs.Lays.n171 Tryd.prog Tryd.lays171_ren := {
  mixed := by kernel_rfl
  f129 := Tryd.func74.trans (congrArg some (by kernel_rfl))
  f171 := Tryd.func29.trans (congrArg some (by kernel_rfl))
  f243 := Tryd.func46.trans (congrArg some (by kernel_rfl))
  f246 := Tryd.func50.trans (congrArg some (by kernel_rfl))
  f283 := Tryd.func63.trans (congrArg some (by kernel_rfl))
  f284 := Tryd.func64.trans (congrArg some (by kernel_rfl))
  f285 := Tryd.func65.trans (congrArg some (by kernel_rfl))
  f286 := Tryd.func66.trans (congrArg some (by kernel_rfl))
  f317 := Tryd.func73.trans (congrArg some (by kernel_rfl))
  f318 := Tryd.func75.trans (congrArg some (by kernel_rfl))
  f319 := Tryd.func76.trans (congrArg some (by kernel_rfl))
  f320 := Tryd.func77.trans (congrArg some (by kernel_rfl))
  f337 := Tryd.func82.trans (congrArg some (by kernel_rfl))
  f338 := Tryd.func83.trans (congrArg some (by kernel_rfl))
  t0 := Tryd.underlying0
  a0 := Tryd.isAgg0
  z0 := Tryd.sizeOf0
  v0 := Tryd.zeroValue0
  t2 := Tryd.underlying2
  a2 := Tryd.isAgg2
  z2 := Tryd.sizeOf2
  v2 := Tryd.zeroValue2
  t3 := Tryd.underlying3
  a3 := Tryd.isAgg3
  z3 := Tryd.sizeOf3
  v3 := Tryd.zeroValue3
  t4 := Tryd.underlying4
  a4 := Tryd.isAgg4
  z4 := Tryd.sizeOf4
  v4 := Tryd.zeroValue4
  t5 := Tryd.underlying5
  a5 := Tryd.isAgg5
  z5 := Tryd.sizeOf5
  v5 := Tryd.zeroValue5
  t9 := Tryd.underlying9
  a9 := Tryd.isAgg9
  z9 := Tryd.sizeOf9
  v9 := Tryd.zeroValue9
  t20 := Tryd.underlying20
  a20 := Tryd.isAgg20
  z20 := Tryd.sizeOf20
  v20 := Tryd.zeroValue20
  t37 := Tryd.underlying81
  a37 := Tryd.isAgg81
  z37 := Tryd.sizeOf81
  v37 := Tryd.zeroValue81
  t46 := Tryd.underlying91
  a46 := Tryd.isAgg91
  z46 := Tryd.sizeOf91
  v46 := Tryd.zeroValue91
  t51 := Tryd.underlying35
  a51 := Tryd.isAgg35
  z51 := Tryd.sizeOf35
  v51 := Tryd.zeroValue35
  t53 := Tryd.underlying77
  a53 := Tryd.isAgg77
  z53 := Tryd.sizeOf77
  v53 := Tryd.zeroValue77
  t171 := Tryd.underlying97
  a171 := Tryd.isAgg97
  z171 := Tryd.sizeOf97
  v171 := Tryd.zeroValue97
  t173 := Tryd.underlying100
  a173 := Tryd.isAgg100
  z173 := Tryd.sizeOf100
  v173 := Tryd.zeroValue100
  t212 := Tryd.underlying108
  a212 := Tryd.isAgg108
  z212 := Tryd.sizeOf108
  v212 := Tryd.zeroValue108
  t213 := Tryd.underlying109
  a213 := Tryd.isAgg109
  z213 := Tryd.sizeOf109
  t232 := Tryd.underlying117
  a232 := Tryd.isAgg117
  z232 := Tryd.sizeOf117
  v232 := Tryd.zeroValue117
  t233 := Tryd.underlying118
  a233 := Tryd.isAgg118
  z233 := Tryd.sizeOf118
  v233 := Tryd.zeroValue118
  g17 := by kernel_rfl
  g18 := by kernel_rfl
  g19 := by kernel_rfl }
def Tryd.lays173_ren : Go.Shelf.Ren := ⟨fun | 173 => 31 | 246 => 50 | 283 => 63 | 284 => 64 | 285 => 65 | 286 => 66 | 129 => 74 | 317 => 73 | 318 => 75 | 319 => 76 | 320 => 77 | 337 => 82 | 338 => 83 | n => n, fun | 2 => 2 | 3 => 3 | 9 => 9 | 4 => 4 | 171 => 97 | 0 => 0 | 53 => 77 | 37 => 81 | 5 => 5 | 173 => 100 | 212 => 108 | 51 => 35 | 20 => 20 | 213 => 109 | 46 => 91 | 232 => 117 | 233 => 118 | n => n, fun | 17 => 0 | 18 => 2 | 19 => 3 | n => n⟩
theorem Tryd.lays173 : Go.Proofs.Lays.n173 Tryd.prog Tryd.lays173_ren := {
  mixed := by kernel_rfl
  f129 := Tryd.func74.trans (congrArg some (by kernel_rfl))
  f173 := Tryd.func31.trans (congrArg some (by kernel_rfl))
  f246 := Tryd.func50.trans (congrArg some (by kernel_rfl))
  f283 := Tryd.func63.trans (congrArg some (by kernel_rfl))
  f284 := Tryd.func64.trans (congrArg some (by kernel_rfl))
  f285 := Tryd.func65.trans (congrArg some (by kernel_rfl))
  f286 := Tryd.func66.trans (congrArg some (by kernel_rfl))
  f317 := Tryd.func73.trans (congrArg some (by kernel_rfl))
  f318 := Tryd.func75.trans (congrArg some (by kernel_rfl))
  f319 := Tryd.func76.trans (congrArg some (by kernel_rfl))
  f320 := Tryd.func77.trans (congrArg some (by kernel_rfl))
  f337 := Tryd.func82.trans (congrArg some (by kernel_rfl))
  f338 := Tryd.func83.trans (congrArg some (by kernel_rfl))
  t0 := Tryd.underlying0
  a0 := Tryd.isAgg0
  z0 := Tryd.sizeOf0
  v0 := Tryd.zeroValue0
  t2 := Tryd.underlying2
  a2 := Tryd.isAgg2
  z2 := Tryd.sizeOf2
  v2 := Tryd.zeroValue2
  t3 := Tryd.underlying3
  a3 := Tryd.isAgg3
  z3 := Tryd.sizeOf3
  v3 := Tryd.zeroValue3
  t4 := Tryd.underlying4
  a4 := Tryd.isAgg4
  z4 := Tryd.sizeOf4
  v4 := Tryd.zeroValue4
  t5 := Tryd.underlying5
  a5 := Tryd.isAgg5
  z5 := Tryd.sizeOf5
  v5 := Tryd.zeroValue5
  t9 := Tryd.underlying9
  a9 := Tryd.isAgg9
  z9 := Tryd.sizeOf9
  v9 := Tryd.zeroValue9
  t20 := Tryd.underlying20
  a20 := Tryd.isAgg20
  z20 := Tryd.sizeOf20
  v20 := Tryd.zeroValue20
  t37 := Tryd.underlying81
  a37 := Tryd.isAgg81
  z37 := Tryd.sizeOf81
  v37 := Tryd.zeroValue81
  t46 := Tryd.underlying91
  a46 := Tryd.isAgg91
  z46 := Tryd.sizeOf91
  v46 := Tryd.zeroValue91
  t51 := Tryd.underlying35
  a51 := Tryd.isAgg35
  z51 := Tryd.sizeOf35
  v51 := Tryd.zeroValue35
  t53 := Tryd.underlying77
  a53 := Tryd.isAgg77
  z53 := Tryd.sizeOf77
  v53 := Tryd.zeroValue77
  t171 := Tryd.underlying97
  a171 := Tryd.isAgg97
  z171 := Tryd.sizeOf97
  v171 := Tryd.zeroValue97
  t173 := Tryd.underlying100
  a173 := Tryd.isAgg100
  z173 := Tryd.sizeOf100
  v173 := Tryd.zeroValue100
  t212 := Tryd.underlying108
  a212 := Tryd.isAgg108
  z212 := Tryd.sizeOf108
  v212 := Tryd.zeroValue108
  t213 := Tryd.underlying109
  a213 := Tryd.isAgg109
  z213 := Tryd.sizeOf109
  t232 := Tryd.underlying117
  a232 := Tryd.isAgg117
  z232 := Tryd.sizeOf117
  v232 := Tryd.zeroValue117
  t233 := Tryd.underlying118
  a233 := Tryd.isAgg118
  z233 := Tryd.sizeOf118
  v233 := Tryd.zeroValue118
  g17 := by kernel_rfl
  g18 := by kernel_rfl
  g19 := by kernel_rfl }
def Tryd.laysM284_ren : Go.Shelf.Ren := ⟨fun | 284 => 64 | 129 => 74 | 317 => 73 | 318 => 75 | n => n, fun | 53 => 77 | 3 => 3 | 212 => 108 | 0 => 0 | 4 => 4 | 46 => 91 | 5 => 5 | 9 => 9 | n => n, fun | 17 => 0 | n => n⟩
theorem Tryd.laysM284 : Go.Proofs.LaysM.n284 Tryd.prog Tryd.laysM284_ren := {
  mixed := by kernel_rfl
  f129 := Tryd.func74.trans (congrArg some (by kernel_rfl))
  f284 := Tryd.func64.trans (congrArg some (by kernel_rfl))
  f317 := Tryd.func73.trans (congrArg some (by kernel_rfl))
  f318 := Tryd.func75.trans (congrArg some (by kernel_rfl))
  t0 := Tryd.underlying0
  a0 := Tryd.isAgg0
  z0 := Tryd.sizeOf0
  v0 := Tryd.zeroValue0
  t3 := Tryd.underlying3
  a3 := Tryd.isAgg3
  z3 := Tryd.sizeOf3
  v3 := Tryd.zeroValue3
  t4 := Tryd.underlying4
  a4 := Tryd.isAgg4
  z4 := Tryd.sizeOf4
  v4 := Tryd.zeroValue4
  t5 := Tryd.underlying5
  a5 := Tryd.isAgg5
  z5 := Tryd.sizeOf5
  v5 := Tryd.zeroValue5
  t9 := Tryd.underlying9
  a9 := Tryd.isAgg9
  z9 := Tryd.sizeOf9
  v9 := Tryd.zeroValue9
  t46 := Tryd.underlying91
  a46 := Tryd.isAgg91
  z46 := Tryd.sizeOf91
  v46 := Tryd.zeroValue91
  t53 := Tryd.underlying77
  a53 := Tryd.isAgg77
  z53 := Tryd.sizeOf77
  v53 := Tryd.zeroValue77
  t212 := Tryd.underlying108
  a212 := Tryd.isAgg108
  z212 := Tryd.sizeOf108
  v212 := Tryd.zeroValue108
  g17 := by kernel_rfl
  i0 := by kernel_rfl
  i3 := by kernel_rfl
  i4 := by kernel_rfl
  i5 := by kernel_rfl
  i9 := by kernel_rfl
  i46 := by kernel_rfl
  i53 := by kernel_rfl
  i212 := by kernel_rfl
  m17 := by kernel_rfl }
def Tryd.lays285_ren : Go.Shelf.Ren := ⟨fun | 285 => 65 | n => n, fun | 37 => 81 | 53 => 77 | 3 => 3 | 4 => 4 | 51 => 35 | 9 => 9 | 5 => 5 | 0 => 0 | n => n, fun | n => n⟩
theorem Tryd.lays285 : Go.Proofs.Lays.n285 Tryd.prog Tryd.lays285_ren := {
  mixed := by kernel_rfl
  f285 := Tryd.func65.trans (congrArg some (by kernel_rfl))
  t0 := Tryd.underlying0
  a0 := Tryd.isAgg0
  z0 := Tryd.sizeOf0
  v0 := Tryd.zeroValue0
  t3 := Tryd.underlying3
  a3 := Tryd.isAgg3
  z3 := Tryd.sizeOf3
  v3 := Tryd.zeroValue3
  t4 := Tryd.underlying4
  a4 := Tryd.isAgg4
  z4 := Tryd.sizeOf4
  v4 := Tryd.zeroValue4
  t5 := Tryd.underlying5
  a5 := Tryd.isAgg5
  z5 := Tryd.sizeOf5
  v5 := Tryd.zeroValue5
  t9 := Tryd.underlying9
  a9 := Tryd.isAgg9
  z9 := Tryd.sizeOf9
  v9 := Tryd.zeroValue9
  t37 := Tryd.underlying81
  a37 := Tryd.isAgg81
  z37 := Tryd.sizeOf81
  v37 := Tryd.zeroValue81
  t51 := Tryd.underlying35
  a51 := Tryd.isAgg35
  z51 := Tryd.sizeOf35
  v51 := Tryd.zeroValue35
  t53 := Tryd.underlying77
  a53 := Tryd.isAgg77
  z53 := Tryd.sizeOf77
  v53 := Tryd.zeroValue77 }
def Tryd.laysM171_ren : Go.Shelf.Ren := ⟨fun | 171 => 29 | 243 => 46 | 246 => 50 | 283 => 63 | 284 => 64 | 285 => 65 | 286 => 66 | 129 => 74 | 317 => 73 | 318 => 75 | 319 => 76 | 320 => 77 | 337 => 82 | 338 => 83 | n => n, fun | 3 => 3 | 9 => 9 | 2 => 2 | 4 => 4 | 171 => 97 | 0 => 0 | 53 => 77 | 37 => 81 | 5 => 5 | 173 => 100 | 212 => 108 | 51 => 35 | 20 => 20 | 213 => 109 | 46 => 91 | 232 => 117 | 233 => 118 | n => n, fun | 17 => 0 | 18 => 2 | 19 => 3 | n => n⟩
theorem Tryd.laysM171 : Go.Proofs.LaysM.n171 Tryd.prog Tryd.laysM171_ren := {
  mixed := by kernel_rfl
  f129 := Tryd.func74.trans (congrArg some (by kernel_rfl))
  f171 := Tryd.func29.trans (congrArg some (by kernel_rfl))
  f243 := Tryd.func46.trans (congrArg some (by kernel_rfl))
  f246 := Tryd.func50.trans (congrArg some (by kernel_rfl))
  f283 := Tryd.func63.trans (congrArg some (by kernel_rfl))
  f284 := Tryd.func64.trans (congrArg some (by kernel_rfl))
  f285 := Tryd.func65.trans (congrArg some (by kernel_rfl))
  f286 := Tryd.func66.trans (congrArg some (by kernel_rfl))
  f317 := Tryd.func73.trans (congrArg some (by kernel_rfl))
  f318 := Tryd.func75.trans (congrArg some (by kernel_rfl))
  f319 := Tryd.func76.trans (congrArg some (by kernel_rfl))
  f320 := Tryd.func77.trans (congrArg some (by kernel_rfl))
  f337 := Tryd.func82.trans (congrArg some (by kernel_rfl))
  f338 := Tryd.func83.trans (congrArg some (by kernel_rfl))
  t0 := Tryd.underlying0
  a0 := Tryd.isAgg0
  z0 := Tryd.sizeOf0
  v0 := Tryd.zeroValue0
  t2 := Tryd.underlying2
  a2 := Tryd.isAgg2
  z2 := Tryd.sizeOf2
  v2 := Tryd.zeroValue2
  t3 := Tryd.underlying3
  a3 := Tryd.isAgg3
  z3 := Tryd.sizeOf3
  v3 := Tryd.zeroValue3
  t4 := Tryd.underlying4
  a4 := Tryd.isAgg4
  z4 := Tryd.sizeOf4
  v4 := Tryd.zeroValue4
  t5 := Tryd.underlying5
  a5 := Tryd.isAgg5
  z5 := Tryd.sizeOf5
  v5 := Tryd.zeroValue5
  t9 := Tryd.underlying9
  a9 := Tryd.isAgg9
  z9 := Tryd.sizeOf9
  v9 := Tryd.zeroValue9
  t20 := Tryd.underlying20
  a20 := Tryd.isAgg20
  z20 := Tryd.sizeOf20
  v20 := Tryd.zeroValue20
  t37 := Tryd.underlying81
  a37 := Tryd.isAgg81
  z37 := Tryd.sizeOf81
  v37 := Tryd.zeroValue81
  t46 := Tryd.underlying91
  a46 := Tryd.isAgg91
  z46 := Tryd.sizeOf91
  v46 := Tryd.zeroValue91
  t51 := Tryd.underlying35
  a51 := Tryd.isAgg35
  z51 := Tryd.sizeOf35
  v51 := Tryd.zeroValue35
  t53 := Tryd.underlying77
  a53 := Tryd.isAgg77
  z53 := Tryd.sizeOf77
  v53 := Tryd.zeroValue77
  t171 := Tryd.underlying97
  a171 := Tryd.isAgg97
  z171 := Tryd.sizeOf97
  v171 := Tryd.zeroValue97
  t173 := Tryd.underlying100
  a173 := Tryd.isAgg100
  z173 := Tryd.sizeOf100
  v173 := Tryd.zeroValue100
  t212 := Tryd.underlying108
  a212 := Tryd.isAgg108
  z212 := Tryd.sizeOf108
  v212 := Tryd.zeroValue108
  t213 := Tryd.underlying109
  a213 := Tryd.isAgg109
  z213 := Tryd.sizeOf109
  t232 := Tryd.underlying117
  a232 := Tryd.isAgg117
  z232 := Tryd.sizeOf117
  v232 := Tryd.zeroValue117
  t233 := Tryd.underlying118
  a233 := Tryd.isAgg118
  z233 := Tryd.sizeOf118
  v233 := Tryd.zeroValue118
  g17 := by kernel_rfl
  g18 := by kernel_rfl
  g19 := by kernel_rfl
  i0 := by kernel_rfl
  i2 := by kernel_rfl
  i3 := by kernel_rfl
  i4 := by kernel_rfl
  i5 := by kernel_rfl
  i9 := by kernel_rfl
  i20 := by kernel_rfl
  i37 := by kernel_rfl
  i46 := by kernel_rfl
  i51 := by kernel_rfl
  i53 := by kernel_rfl
  i171 := by kernel_rfl
  i173 := by kernel_rfl
  i212 := by kernel_rfl
  i232 := by kernel_rfl
  i233 := by kernel_rfl
  m17 := by kernel_rfl
  m18 := by kernel_rfl
  m19 := by kernel_rfl }
def Tryd.laysM173_ren : Go.Shelf.Ren := ⟨fun | 173 => 31 | 246 => 50 | 283 => 63 | 284 => 64 | 285 => 65 | 286 => 66 | 129 => 74 | 317 => 73 | 318 => 75 | 319 => 76 | 320 => 77 | 337 => 82 | 338 => 83 | n => n, fun | 2 => 2 | 3 => 3 | 9 => 9 | 4 => 4 | 171 => 97 | 0 => 0 | 53 => 77 | 37 => 81 | 5 => 5 | 173 => 100 | 212 => 108 | 51 => 35 | 20 => 20 | 213 => 109 | 46 => 91 | 232 => 117 | 233 => 118 | n => n, fun | 17 => 0 | 18 => 2 | 19 => 3 | n => n⟩
theorem Tryd.laysM173 : Go.Proofs.LaysM.n173 Tryd.prog Tryd.laysM173_ren := {
  mixed := by kernel_rfl
  f129 := Tryd.func74.trans (congrArg some (by kernel_rfl))
  f173 := Tryd.func31.trans (congrArg some (by kernel_rfl))
  f246 := Tryd.func50.trans (congrArg some (by kernel_rfl))
  f283 := Tryd.func63.trans (congrArg some (by kernel_rfl))
  f284 := Tryd.func64.trans (congrArg some (by kernel_rfl))
  f285 := Tryd.func65.trans (congrArg some (by kernel_rfl))
  f286 := Tryd.func66.trans (congrArg some (by kernel_rfl))
  f317 := Tryd.func73.trans (congrArg some (by kernel_rfl))
  f318 := Tryd.func75.trans (congrArg some (by kernel_rfl))
  f319 := Tryd.func76.trans (congrArg some (by kernel_rfl))
  f320 := Tryd.func77.trans (congrArg some (by kernel_rfl))
  f337 := Tryd.func82.trans (congrArg some (by kernel_rfl))
  f338 := Tryd.func83.trans (congrArg some (by kernel_rfl))
  t0 := Tryd.underlying0
  a0 := Tryd.isAgg0
  z0 := Tryd.sizeOf0
  v0 := Tryd.zeroValue0
  t2 := Tryd.underlying2
  a2 := Tryd.isAgg2
  z2 := Tryd.sizeOf2
  v2 := Tryd.zeroValue2
  t3 := Tryd.underlying3
  a3 := Tryd.isAgg3
  z3 := Tryd.sizeOf3
  v3 := Tryd.zeroValue3
  t4 := Tryd.underlying4
  a4 := Tryd.isAgg4
  z4 := Tryd.sizeOf4
  v4 := Tryd.zeroValue4
  t5 := Tryd.underlying5
  a5 := Tryd.isAgg5
  z5 := Tryd.sizeOf5
  v5 := Tryd.zeroValue5
  t9 := Tryd.underlying9
  a9 := Tryd.isAgg9
  z9 := Tryd.sizeOf9
  v9 := Tryd.zeroValue9
  t20 := Tryd.underlying20
  a20 := Tryd.isAgg20
  z20 := Tryd.sizeOf20
  v20 := Tryd.zeroValue20
  t37 := Tryd.underlying81
  a37 := Tryd.isAgg81
  z37 := Tryd.sizeOf81
  v37 := Tryd.zeroValue81
  t46 := Tryd.underlying91
  a46 := Tryd.isAgg91
  z46 := Tryd.sizeOf91
  v46 := Tryd.zeroValue91
  t51 := Tryd.underlying35
  a51 := Tryd.isAgg35
  z51 := Tryd.sizeOf35
  v51 := Tryd.zeroValue35
  t53 := Tryd.underlying77
  a53 := Tryd.isAgg77
  z53 := Tryd.sizeOf77
  v53 := Tryd.zeroValue77
  t171 := Tryd.underlying97
  a171 := Tryd.isAgg97
  z171 := Tryd.sizeOf97
  v171 := Tryd.zeroValue97
  t173 := Tryd.underlying100
  a173 := Tryd.isAgg100
  z173 := Tryd.sizeOf100
  v173 := Tryd.zeroValue100
  t212 := Tryd.underlying108
  a212 := Tryd.isAgg108
  z212 := Tryd.sizeOf108
  v212 := Tryd.zeroValue108
  t213 := Tryd.underlying109
  a213 := Tryd.isAgg109
  z213 := Tryd.sizeOf109
  t232 := Tryd.underlying117
  a232 := Tryd.isAgg117
  z232 := Tryd.sizeOf117
  v232 := Tryd.zeroValue117
  t233 := Tryd.underlying118
  a233 := Tryd.isAgg118
  z233 := Tryd.sizeOf118
  v233 := Tryd.zeroValue118
  g17 := by kernel_rfl
  g18 := by kernel_rfl
  g19 := by kernel_rfl
  i0 := by kernel_rfl
  i2 := by kernel_rfl
  i3 := by kernel_rfl
  i4 := by kernel_rfl
  i5 := by kernel_rfl
  i9 := by kernel_rfl
  i20 := by kernel_rfl
  i37 := by kernel_rfl
  i46 := by kernel_rfl
  i51 := by kernel_rfl
  i53 := by kernel_rfl
  i171 := by kernel_rfl
  i173 := by kernel_rfl
  i212 := by kernel_rfl
  i232 := by kernel_rfl
  i233 := by kernel_rfl
  m17 := by kernel_rfl
  m18 := by kernel_rfl
  m19 := by kernel_rfl }
end Go.Proofs
namespace Go.Proofs.YtilapnejkdgomaaDoor
open Go.RowKit

theorem small_any (i : Nat) (h : i < 100) (w : World) :
    Calls Tryd.prog 63 #[.int .i64 i] w fun e w' => e = .returned (.string ⟨(Lib.decDigits i).toArray⟩) ∧ w' = w := Go.Proofs.Any.internal_strconv_small Tryd.lays283 i h w
theorem itoa_small (i : Nat) (h : i < 100) (w : World) :
    Calls Tryd.prog 29 #[.int .i64 i] w fun e w' => e = .returned (.string ⟨(Lib.decDigits i).toArray⟩) ∧ w' = w := Go.Proofs.Any.strconv_Itoa_small Tryd.lays171 i h w
theorem fmtI_small (i : Nat) (h : i < 100) (w : World) :
    Calls Tryd.prog 31 #[.int .i64 i, .int .i64 10] w fun e w' => e = .returned (.string ⟨(Lib.decDigits i).toArray⟩) ∧ w' = w := Go.Proofs.Any.strconv_FormatInt_10_small Tryd.lays173 i h w
set_option maxRecDepth 100000 in
set_option maxHeartbeats 1600000 in
theorem fmtU_inner (i : Nat) (h : i < 100) (w : World) :
    Calls Tryd.prog 61 #[.int .u64 i, .int .i64 10] w fun e w' => e = .returned (.string ⟨(Lib.decDigits i).toArray⟩) ∧ w' = w := by
  have H := Lib.hid (small_any i h)
  generalize Lib.decDigits i = L at *
  obtain ⟨a, ha⟩ : ∃ a : Int, a = (i : Int) := ⟨_, rfl⟩
  rw [← ha] at H ⊢
  have h1 : 0 ≤ a := by omega
  have h2 : a < 100 := by omega
  clear ha h
  go_enter Tryd.func61, Tryd.ntmps61
  go_wp2_with fail
  refine (H.out _).mono ?_
  rintro e w1 ⟨rfl, rfl⟩
  go_wp2
  go_ret
  exact ⟨rfl, rfl⟩
set_option maxRecDepth 100000 in
set_option maxHeartbeats 1600000 in
theorem fmtU_small (i : Nat) (h : i < 100) (w : World) :
    Calls Tryd.prog 48 #[.int .u64 i, .int .i64 10] w fun e w' => e = .returned (.string ⟨(Lib.decDigits i).toArray⟩) ∧ w' = w := by
  have H := Lib.hid (fmtU_inner i h)
  generalize Lib.decDigits i = L at *
  go_enter Tryd.func48, Tryd.ntmps48
  go_wp2_with fail
  refine (H.out _).mono ?_
  rintro e w1 ⟨rfl, rfl⟩
  go_wp2
  go_ret
  exact ⟨rfl, rfl⟩

section
open Go.Sort Go.Lib
/-- The table of powers of ten lies there. -/
def Pow (w : World) : Prop := Lib.TabIs Tryd.prog w "internal/strconv.uint64pow10" .u64 Lib.pow10Tab
theorem gPow : Tryd.prog.globalNamed "internal/strconv.uint64pow10" = some 0 := by kernel_rfl
theorem Pow.below {w w' : World} (h : Pow w) (hb : Below w.heap.size w w') : Pow w' := Go.Joins.tab_stays gPow h hb (Nat.le_refl _)

theorem itoa_any (n : Int) (h0 : -9223372036854775808 ≤ n) (h1 : n ≤ 9223372036854775807) (w : World) (hp : Pow w) :
    Calls Tryd.prog 29 #[.int .i64 n] w fun e w' => e = .returned (.string ⟨(Lib.itoa n).toArray⟩) ∧ Below w.heap.size w w' :=
  (Go.Proofs.Any.strconv_Itoa Tryd.laysM171 n h0 h1 w hp).mono fun e w' ⟨he, k, os, hw⟩ => ⟨he, hw ▸ Lib.below_grow _ w (Nat.le_refl _) k os⟩
theorem fmtI_any (n : Int) (h0 : -9223372036854775808 ≤ n) (h1 : n ≤ 9223372036854775807) (w : World) (hp : Pow w) :
    Calls Tryd.prog 31 #[.int .i64 n, .int .i64 10] w fun e w' => e = .returned (.string ⟨(Lib.itoa n).toArray⟩) ∧ Below w.heap.size w w' :=
  (Go.Proofs.Any.strconv_FormatInt_10 Tryd.laysM173 n h0 h1 w hp).mono fun e w' ⟨he, k, os, hw⟩ => ⟨he, hw ▸ Lib.below_grow _ w (Nat.le_refl _) k os⟩

theorem fin_zero (w : World) (o : Obj) (dk : Array UInt8) (k : Nat) : ∃ os, (putRow (fun (b : UInt8) => Value.int .u8 (b.toNat : Int)) (w.alloc o) w.heap.size 0 dk).drewN k = grow (w.drewN k) os := by
  rw [alloc_eq_grow]
  obtain ⟨os', _, e⟩ := putRow_grow_new (fun (b : UInt8) => Value.int .u8 (b.toNat : Int)) w #[o] w.heap.size 0 dk (Nat.le_refl _)
  exact ⟨os', by rw [e]; rfl⟩
theorem holds_zero0 (w : World) (T : TypeId) (nd : Nat) (hs : nd ≤ 24) : Holds (fun (b : UInt8) => Value.int .u8 (b.toNat : Int)) (w.alloc (.cells zeros24 T)) w.heap.size 0 (Array.replicate nd (0 : UInt8)) := fun j hj => by
  have hj' : j < nd := by simpa using hj
  refine ⟨?_, World.frozen?_alloc_new _ _ _ _⟩
  rw [World.cell?_alloc_new, zeros24_at _ (by omega), getElem!_pos _ j hj]
  simp

set_option maxRecDepth 100000 in
set_option maxHeartbeats 6400000 in
theorem fmtU_big (u : Nat) (hu : 100 ≤ u) (hu64 : u < 18446744073709551616) (w : World) (htab : Pow w) :
    Calls Tryd.prog 61 #[.int .u64 u, .int .i64 10] w fun e w' => e = .returned (.string ⟨(Lib.decDigits u).toArray⟩) ∧ ∃ k os, w' = grow (w.drewN k) os := by
  have hu1 : 1 ≤ u := by omega
  have hnd20 : Lib.nDigits u ≤ 20 := by have := Lib.numDigits_eq u hu1 hu64; split at this <;> omega
  have hal : Tryd.prog.arrayLen 97 = 24 := by simp [Program.arrayLen, Tryd.underlying97]
  have hsl1 : ∀ W, (Instr.sliceAt 97 (.pointer (some ⟨w.heap.size, 0, none⟩)) none (some (.int .i64 (Lib.nDigits u : Int))) none).run Tryd.prog W = .ok (.slice (some ⟨w.heap.size, 0, none⟩) (Lib.nDigits u) 24) W := fun W => by
    rw [run_sliceAt_array_h W 97 ⟨w.heap.size, 0, none⟩ (by simp [Program.arrayLen, Program.elem, Tryd.underlying97]) .i64 (Lib.nDigits u : Int) (by omega) (by rw [hal]; omega)]
    go_simp
  have hH0 := holds_zero0 w 97 (Lib.nDigits u) (by omega)
  have hfmt := Go.Proofs.Any.internal_strconv_formatBase10 Tryd.lays285 w.heap.size 0 24 u (Array.replicate (Lib.nDigits u) 0) (w.alloc (.cells Lib.zeros24 97)) hH0 (by rw [Array.size_replicate]; exact Lib.lt_pow_nDigits u) hu64 (by rw [Array.size_replicate]; omega)
  rw [Array.size_replicate] at hfmt
  have HH0 := Lib.hid hH0
  have hu100 : ¬ ((u : Int) < 100) := by omega
  clear hH0 hal
  go_enter Tryd.func61, Tryd.ntmps61
  go_wp2_with (first
    | (go_at_call 64; refine (Go.Proofs.Any.internal_strconv_numDigits Tryd.laysM284 u hu1 hu64 _ (Lib.tabIs_alloc htab _)).mono ?_; rintro e w' ⟨rfl, rfl⟩))
  go_at_call 65
  refine hfmt.mono ?_
  rintro e w' ⟨rfl, k, v', dk, rfl, hF⟩
  have hcv : (convert 81 9 (.slice (some ⟨w.heap.size, 0, none⟩) (Lib.nDigits u) 24)).run Tryd.prog ((putRow (fun (b : UInt8) => Value.int .u8 (b.toNat : Int)) (w.alloc (.cells Lib.zeros24 97)) w.heap.size 0 dk).drewN k) = .ok (.string ⟨(Lib.decDigits u).toArray⟩) ((putRow (fun (b : UInt8) => Value.int .u8 (b.toNat : Int)) (w.alloc (.cells Lib.zeros24 97)) w.heap.size 0 dk).drewN k) := by
    have h := run_convert_bytes_back (P := Tryd.prog) ((putRow (fun (b : UInt8) => Value.int .u8 (b.toNat : Int)) (w.alloc (.cells Lib.zeros24 97)) w.heap.size 0 dk).drewN k) 81 9 5 ⟨w.heap.size, 0, none⟩ 24 (Lib.decDigits u) Tryd.underlying81 Tryd.underlying5 Tryd.underlying9 (fun j hj => by
      rw [Lib.row_is_numeral hF j hj, Lib.add_plain, World.cell?_drewN]
      exact cell?_putRow (fun (b : UInt8) => Value.int .u8 (b.toNat : Int)) _ w.heap.size 0 _ dk HH0.out (by rw [hF.size, Array.size_replicate]) j (by rw [hF.size]; rw [Lib.decDigits_length] at hj; exact hj))
    rw [Lib.decDigits_length] at h
    exact h
  go_wp2
  go_ret
  obtain ⟨os, eo⟩ := fin_zero w (.cells Lib.zeros24 97) dk k
  exact ⟨rfl, k, os, eo⟩

set_option maxRecDepth 100000 in
set_option maxHeartbeats 1600000 in
theorem fmtU_any (i : Nat) (h : i < 18446744073709551616) (w : World) (hp : Pow w) :
    Calls Tryd.prog 48 #[.int .u64 i, .int .i64 10] w fun e w' => e = .returned (.string ⟨(Lib.decDigits i).toArray⟩) ∧ Below w.heap.size w w' := by
  have c : ∀ w, Pow w → Calls Tryd.prog 61 #[.int .u64 i, .int .i64 10] w fun e w' => e = .returned (.string ⟨(Lib.decDigits i).toArray⟩) ∧ Below w.heap.size w w' := fun w hp => by
    by_cases hi : i < 100
    · exact (fmtU_inner i hi w).mono fun e w' ⟨he, hw⟩ => ⟨he, hw ▸ Below.refl _ _⟩
    · exact (fmtU_big i (by omega) h w hp).mono fun e w' ⟨he, k, os, hw⟩ => ⟨he, hw ▸ Lib.below_grow _ w (Nat.le_refl _) k os⟩
  have H := Lib.hid (c w hp)
  clear c hp
  generalize Lib.decDigits i = L at *
  go_enter Tryd.func48, Tryd.ntmps48
  go_wp2_with fail
  refine H.out.mono ?_
  rintro e w1 ⟨rfl, hb⟩
  go_wp2
  go_ret
  exact ⟨rfl, hb⟩

/-- A string's bytes. -/
def sv (l : List UInt8) : Value := .string ⟨l.toArray⟩
/-- word.Text's answer. -/
def txt (v n s : Int) : List UInt8 :=
  if kindV s = 2 then [] else
    Lib.itoa v ++ (if n ≠ 0 ∨ kindV s = 1 then 46 :: Lib.decDigits n.toNat else []) ++ (if kindV s = 1 then 35 :: (Lib.decDigits (whoA s).toNat ++ 58 :: Lib.decDigits (whoB s).toNat) else [])
theorem ba_app (a b : List UInt8) : (ByteArray.mk a.toArray ++ ByteArray.mk b.toArray) = ByteArray.mk (a ++ b).toArray := ByteArray.mk_append_mk a b


end
theorem word_cells {w : World} {b : Nat} {v n r : Int} (h : w.heap[b]? = some (wdO v n r)) :
    w.cell? ⟨b, 0, none⟩ = some (.int .i64 v) ∧ w.cell? ⟨b, 1, none⟩ = some (.int .u32 n) ∧ w.cell? ⟨b, 2, none⟩ = some (.int .u32 r) := by
  refine ⟨?_, ?_, ?_⟩ <;> (unfold World.cell?; simp [h, wdO])
/-- Block b holds a word. -/
def WBox (w : World) (b : Nat) (v n r : Int) : Prop := w.heap[b]? = some (wdO v n r)
section
variable {w w' : World} {b : Nat} {v n r : Int}
theorem WBox.lt (h : WBox w b v n r) : b < w.heap.size := by
  unfold WBox at h
  exact (Array.getElem?_eq_some_iff.1 h).1
theorem WBox.below (h : WBox w b v n r) (hb : Below w.heap.size w w') : WBox w' b v n r := (hb.block _ h.lt).trans h
theorem WBox.alloc (h : WBox w b v n r) (o : Obj) : WBox (w.alloc o) b v n r := by
  have := h.lt
  unfold WBox at *
  unfold World.alloc
  rw [Array.getElem?_push_lt this, ← h, Array.getElem?_eq_getElem this]
theorem WBox.new : WBox (w.alloc (wdO v n r)) w.heap.size v n r := heap_alloc_new _ _
theorem WBox.c0 (h : WBox w b v n r) : w.cell? ⟨b, 0, none⟩ = some (.int .i64 v) := (word_cells h).1
theorem WBox.c1 (h : WBox w b v n r) : w.cell? ⟨b, 1, none⟩ = some (.int .u32 n) := (word_cells h).2.1
theorem WBox.c2 (h : WBox w b v n r) : w.cell? ⟨b, 2, none⟩ = some (.int .u32 r) := (word_cells h).2.2
theorem WBox.fz (h : WBox w b v n r) (o : Nat) : w.frozen? ⟨b, o, none⟩ = false := by simp [World.frozen?, show w.heap[b]? = _ from h, wdO]
theorem WBox.at (h : w.heap[b]? = some (.cells #[.int .i64 v, .int .u32 n, .int .u32 r] 37)) : WBox w b v n r := h
end
theorem add_lists (x y : List UInt8) (h : x.length + y.length ≤ 1000) (w : World) : (Op.stringOp .add ⟨x.toArray⟩ ⟨y.toArray⟩).run Tryd.prog w = .ok (.string ⟨(x ++ y).toArray⟩) w := by
  rw [run_string_add_sum w _ _ (by simp [ByteArray.size]; omega), ByteArray.mk_append_mk]
theorem cat2 (a b : List UInt8) : (ByteArray.mk a.toArray ++ (ByteArray.mk #[46] ++ ByteArray.mk b.toArray)) = ByteArray.mk (a ++ 46 :: b).toArray := by
  rw [show ByteArray.mk #[46] = ByteArray.mk [46].toArray from rfl, ba_app, ba_app]; rfl
theorem cat4 (a b c d : List UInt8) : ((ByteArray.mk a.toArray ++ (ByteArray.mk #[46] ++ ByteArray.mk b.toArray)) ++ (((ByteArray.mk #[35] ++ ByteArray.mk c.toArray) ++ ByteArray.mk #[58]) ++ ByteArray.mk d.toArray)) = ByteArray.mk (a ++ 46 :: b ++ 35 :: (c ++ 58 :: d)).toArray := by
  rw [cat2, show ByteArray.mk #[35] = ByteArray.mk [35].toArray from rfl, show ByteArray.mk #[58] = ByteArray.mk [58].toArray from rfl, ba_app, ba_app, ba_app, ba_app]
  congr 2
  simp

set_option maxRecDepth 100000 in
set_option maxHeartbeats 6400000 in
theorem text_2 (v n s : Int) (w : World) (hv0 : -9223372036854775808 ≤ v) (hv1 : v ≤ 9223372036854775807) (h0 : 0 ≤ s) (h1 : s < 4294967296) (h4 : 0 ≤ n) (h5 : n < 4294967296) (hp : Pow w) (hk : kindV s = 2) :
    Calls Tryd.prog 30 #[wd v n s] w fun e w' => e = .returned (.string ⟨(txt v n s).toArray⟩) ∧ Below w.heap.size w w' := by
  have HK := Lib.hid fun w => kind_any v n s w h0 h1
  rw [hk] at HK
  have HP := Lib.hid hp
  have CI := Lib.hid (fmtI_any v hv0 hv1)
  have CU := Lib.hid fun w (hp : Pow w) => (show Calls Tryd.prog _ _ w _ from by have := fmtU_any n.toNat (by omega) w hp; rwa [show ((n.toNat : Nat) : Int) = n by omega] at this)
  have CW := Lib.hid fun w => who_any s w h0 h1
  rw [show txt v n s = [] by simp [txt, hk]]
  clear hk h0 h1 hv0 hv1 h5 hp
  clear h4
  unfold wd at *
  go_enter Tryd.func30, Tryd.ntmps30
  go_wp2_with fail
  refine (HK.out _).mono ?_
  rintro e w1 ⟨rfl, hx⟩
  have hb : Below (w.alloc (wdO v n s)).heap.size (w.alloc (wdO v n s)) w1 := by rw [hx]; exact (Below.refl _ _).alloc (Nat.le_refl _) _
  have BX := Lib.hid (WBox.new.below hb)
  have HW := Lib.hid (below_new hb)
  clear hb hx HK
  have f0 := BX.out.c0
  have f1 := BX.out.c1
  have f2 := BX.out.c2
  go_wp2
  go_ret
  exact ⟨rfl, HW.out⟩

set_option maxRecDepth 100000 in
set_option maxHeartbeats 6400000 in
theorem text_0 (v n s : Int) (w : World) (hv0 : -9223372036854775808 ≤ v) (hv1 : v ≤ 9223372036854775807) (h0 : 0 ≤ s) (h1 : s < 4294967296) (h4 : 0 ≤ n) (h5 : n < 4294967296) (hp : Pow w) (hk : kindV s = 0) (hn : n = 0) :
    Calls Tryd.prog 30 #[wd v n s] w fun e w' => e = .returned (.string ⟨(txt v n s).toArray⟩) ∧ Below w.heap.size w w' := by
  have HK := Lib.hid fun w => kind_any v n s w h0 h1
  rw [hk] at HK
  have HP := Lib.hid hp
  have CI := Lib.hid (fmtI_any v hv0 hv1)
  have CU := Lib.hid fun w (hp : Pow w) => (show Calls Tryd.prog _ _ w _ from by have := fmtU_any n.toNat (by omega) w hp; rwa [show ((n.toNat : Nat) : Int) = n by omega] at this)
  have CW := Lib.hid fun w => who_any s w h0 h1
  rw [show txt v n s = Lib.itoa v by simp [txt, hk, hn]]
  clear hk h0 h1 hv0 hv1 h5 hp
  subst hn
  clear h4
  generalize Lib.itoa v = L1 at *
  unfold wd at *
  go_enter Tryd.func30, Tryd.ntmps30
  go_wp2_with fail
  refine (HK.out _).mono ?_
  rintro e w1 ⟨rfl, hx⟩
  have hb : Below (w.alloc (wdO v 0 s)).heap.size (w.alloc (wdO v 0 s)) w1 := by rw [hx]; exact (Below.refl _ _).alloc (Nat.le_refl _) _
  have BX := Lib.hid (WBox.new.below hb)
  have HW := Lib.hid (below_new hb)
  clear hb hx HK
  have f0 := BX.out.c0
  have f1 := BX.out.c1
  have f2 := BX.out.c2
  go_wp2_with fail
  refine (CI.out _ (HP.out.below HW.out)).mono ?_
  rintro e w2 ⟨rfl, hb⟩
  have BX2 := Lib.hid (BX.out.below hb)
  have HW2 := Lib.hid (HW.out.trans (hb.mono HW.out.size))
  clear hb f0 f1 f2 BX HW
  have BX := BX2
  have HW := HW2
  clear BX2 HW2
  have f0 := BX.out.c0
  have f1 := BX.out.c1
  have f2 := BX.out.c2
  go_wp2
  go_ret
  exact ⟨rfl, HW.out⟩

set_option maxRecDepth 100000 in
set_option maxHeartbeats 6400000 in
theorem text_1 (v n s : Int) (w : World) (hv0 : -9223372036854775808 ≤ v) (hv1 : v ≤ 9223372036854775807) (h0 : 0 ≤ s) (h1 : s < 4294967296) (h4 : 0 ≤ n) (h5 : n < 4294967296) (hp : Pow w) (hk : kindV s = 0) (hn : n ≠ 0) :
    Calls Tryd.prog 30 #[wd v n s] w fun e w' => e = .returned (.string ⟨(txt v n s).toArray⟩) ∧ Below w.heap.size w w' := by
  have HK := Lib.hid fun w => kind_any v n s w h0 h1
  rw [hk] at HK
  have HP := Lib.hid hp
  have CI := Lib.hid (fmtI_any v hv0 hv1)
  have CU := Lib.hid fun w (hp : Pow w) => (show Calls Tryd.prog _ _ w _ from by have := fmtU_any n.toNat (by omega) w hp; rwa [show ((n.toNat : Nat) : Int) = n by omega] at this)
  have CW := Lib.hid fun w => who_any s w h0 h1
  have l1 : (Lib.itoa v).length ≤ 21 := Lib.itoa_length_le v hv0 hv1
  have l2 : (Lib.decDigits n.toNat).length ≤ 20 := by rw [Lib.decDigits_length]; exact Lib.nDigits_le20 _ (by omega)
  rw [show txt v n s = Lib.itoa v ++ 46 :: Lib.decDigits n.toNat by simp [txt, hk, hn]]
  clear hk h0 h1 hv0 hv1 hp
  have hnb : (n == 0) = false := beq_eq_false_iff_ne.2 hn
  have hnc : (n != 0) = true := by rw [bne, hnb]; rfl
  have hnw : IntKind.u64.wrap n = n := by simp [IntKind.wrap, IntKind.bits, IntKind.signed]; omega
  clear hn h4 h5
  generalize Lib.itoa v = L1 at *
  generalize Lib.decDigits n.toNat = L2 at *
  have c1 := fun w => add_lists [46] L2 (by simp; omega) w
  have c2 := fun w => add_lists L1 ([46] ++ L2) (by simp; omega) w
  have hF : L1 ++ 46 :: L2 = L1 ++ ([46] ++ L2) := rfl
  rw [hF]
  clear hF l1 l2
  generalize L1 ++ ([46] ++ L2) = M2 at *
  generalize [46] ++ L2 = M1 at *
  unfold wd at *
  go_enter Tryd.func30, Tryd.ntmps30
  go_wp2_with fail
  refine (HK.out _).mono ?_
  rintro e w1 ⟨rfl, hx⟩
  have hb : Below (w.alloc (wdO v n s)).heap.size (w.alloc (wdO v n s)) w1 := by rw [hx]; exact (Below.refl _ _).alloc (Nat.le_refl _) _
  have BX := Lib.hid (WBox.new.below hb)
  have HW := Lib.hid (below_new hb)
  clear hb hx HK
  have f0 := BX.out.c0
  have f1 := BX.out.c1
  have f2 := BX.out.c2
  go_wp2_with fail
  refine (CI.out _ (HP.out.below HW.out)).mono ?_
  rintro e w2 ⟨rfl, hb⟩
  have BX2 := Lib.hid (BX.out.below hb)
  have HW2 := Lib.hid (HW.out.trans (hb.mono HW.out.size))
  clear hb f0 f1 f2 BX HW
  have BX := BX2
  have HW := HW2
  clear BX2 HW2
  have f0 := BX.out.c0
  have f1 := BX.out.c1
  have f2 := BX.out.c2
  go_wp2_with fail
  refine (CU.out _ (HP.out.below HW.out)).mono ?_
  rintro e w3 ⟨rfl, hb⟩
  have BX2 := Lib.hid (BX.out.below hb)
  have HW2 := Lib.hid (HW.out.trans (hb.mono HW.out.size))
  clear hb f0 f1 f2 BX HW
  have BX := BX2
  have HW := HW2
  clear BX2 HW2
  have f0 := BX.out.c0
  have f1 := BX.out.c1
  have f2 := BX.out.c2
  go_wp2
  go_ret
  exact ⟨rfl, HW.out⟩

set_option maxRecDepth 100000 in
set_option maxHeartbeats 6400000 in
theorem text_4 (v n s : Int) (w : World) (hv0 : -9223372036854775808 ≤ v) (hv1 : v ≤ 9223372036854775807) (h0 : 0 ≤ s) (h1 : s < 4294967296) (h4 : 0 ≤ n) (h5 : n < 4294967296) (hp : Pow w) (hk : kindV s = 1) (hn : n ≠ 0) :
    Calls Tryd.prog 30 #[wd v n s] w fun e w' => e = .returned (.string ⟨(txt v n s).toArray⟩) ∧ Below w.heap.size w w' := by
  have HK := Lib.hid fun w => kind_any v n s w h0 h1
  rw [hk] at HK
  have HP := Lib.hid hp
  have CI := Lib.hid (fmtI_any v hv0 hv1)
  have CU := Lib.hid fun w (hp : Pow w) => (show Calls Tryd.prog _ _ w _ from by have := fmtU_any n.toNat (by omega) w hp; rwa [show ((n.toNat : Nat) : Int) = n by omega] at this)
  have CW := Lib.hid fun w => who_any s w h0 h1
  have hb2 : 1 ≤ whoA s ∧ whoA s ≤ 72 ∧ 1 ≤ whoB s ∧ whoB s ≤ 16777215 := by
    by_cases h : wOk (s / 16777216) (s % 16777216)
    · rw [whoA_ok h, whoB_ok h]; exact h
    · exfalso
      unfold kindV at hk
      rw [whoA_no h] at hk
      split at hk <;> simp at hk
  have C3 := Lib.hid fun w (hp : Pow w) => (show Calls Tryd.prog _ _ w _ from by have := itoa_any (whoA s) (by omega) (by omega) w hp; rwa [show Lib.itoa (whoA s) = Lib.decDigits (whoA s).toNat by unfold Lib.itoa; rw [if_neg (by omega)]] at this)
  have C4 := Lib.hid fun w (hp : Pow w) => (show Calls Tryd.prog _ _ w _ from by have := itoa_any (whoB s) (by omega) (by omega) w hp; rwa [show Lib.itoa (whoB s) = Lib.decDigits (whoB s).toNat by unfold Lib.itoa; rw [if_neg (by omega)]] at this)
  have l5 := hb2
  have l1 : (Lib.itoa v).length ≤ 21 := Lib.itoa_length_le v hv0 hv1
  have l2 : (Lib.decDigits n.toNat).length ≤ 20 := by rw [Lib.decDigits_length]; exact Lib.nDigits_le20 _ (by omega)
  have l3 : (Lib.decDigits (whoA s).toNat).length ≤ 20 := by rw [Lib.decDigits_length]; exact Lib.nDigits_le20 _ (by omega)
  have l4 : (Lib.decDigits (whoB s).toNat).length ≤ 20 := by rw [Lib.decDigits_length]; exact Lib.nDigits_le20 _ (by omega)
  rw [show txt v n s = Lib.itoa v ++ 46 :: Lib.decDigits n.toNat ++ 35 :: (Lib.decDigits (whoA s).toNat ++ 58 :: Lib.decDigits (whoB s).toNat) by simp [txt, hk]]
  clear hk h0 h1 hv0 hv1 hp
  have hnb : (n == 0) = false := beq_eq_false_iff_ne.2 hn
  have hnc : (n != 0) = true := by rw [bne, hnb]; rfl
  have hnw : IntKind.u64.wrap n = n := by simp [IntKind.wrap, IntKind.bits, IntKind.signed]; omega
  clear hn h4 h5
  generalize Lib.itoa v = L1 at *
  generalize Lib.decDigits n.toNat = L2 at *
  generalize Lib.decDigits (whoA s).toNat = L3 at *
  generalize Lib.decDigits (whoB s).toNat = L4 at *
  generalize whoA s = A at *
  generalize whoB s = B at *
  have c1 := fun w => add_lists [46] L2 (by simp; omega) w
  have c2 := fun w => add_lists L1 ([46] ++ L2) (by simp; omega) w
  have c3 := fun w => add_lists [35] L3 (by simp; omega) w
  have c4 := fun w => add_lists ([35] ++ L3) [58] (by simp; omega) w
  have c5 := fun w => add_lists ([35] ++ L3 ++ [58]) L4 (by simp; omega) w
  have c6 := fun w => add_lists (L1 ++ ([46] ++ L2)) ([35] ++ L3 ++ [58] ++ L4) (by simp; omega) w
  have hF : L1 ++ 46 :: L2 ++ 35 :: (L3 ++ 58 :: L4) = L1 ++ ([46] ++ L2) ++ ([35] ++ L3 ++ [58] ++ L4) := by simp
  rw [hF]
  clear hF l1 l2 l3 l4 l5
  generalize L1 ++ ([46] ++ L2) ++ ([35] ++ L3 ++ [58] ++ L4) = M6 at *
  generalize L1 ++ ([46] ++ L2) = M2 at *
  generalize [35] ++ L3 ++ [58] ++ L4 = M5 at *
  generalize [35] ++ L3 ++ [58] = M4 at *
  generalize [35] ++ L3 = M3 at *
  generalize [46] ++ L2 = M1 at *
  unfold wd at *
  go_enter Tryd.func30, Tryd.ntmps30
  go_wp2_with fail
  refine (HK.out _).mono ?_
  rintro e w1 ⟨rfl, hx⟩
  have hb : Below (w.alloc (wdO v n s)).heap.size (w.alloc (wdO v n s)) w1 := by rw [hx]; exact (Below.refl _ _).alloc (Nat.le_refl _) _
  have BX := Lib.hid (WBox.new.below hb)
  have HW := Lib.hid (below_new hb)
  clear hb hx HK
  have f0 := BX.out.c0
  have f1 := BX.out.c1
  have f2 := BX.out.c2
  go_wp2_with fail
  refine (CI.out _ (HP.out.below HW.out)).mono ?_
  rintro e w2 ⟨rfl, hb⟩
  have BX2 := Lib.hid (BX.out.below hb)
  have HW2 := Lib.hid (HW.out.trans (hb.mono HW.out.size))
  clear hb f0 f1 f2 BX HW
  have BX := BX2
  have HW := HW2
  clear BX2 HW2
  have f0 := BX.out.c0
  have f1 := BX.out.c1
  have f2 := BX.out.c2
  go_wp2_with fail
  refine (CU.out _ (HP.out.below HW.out)).mono ?_
  rintro e w3 ⟨rfl, hb⟩
  have BX2 := Lib.hid (BX.out.below hb)
  have HW2 := Lib.hid (HW.out.trans (hb.mono HW.out.size))
  clear hb f0 f1 f2 BX HW
  have BX := BX2
  have HW := HW2
  clear BX2 HW2
  have f0 := BX.out.c0
  have f1 := BX.out.c1
  have f2 := BX.out.c2
  go_wp2_with fail
  refine (CW.out _).mono ?_
  rintro e w9 ⟨rfl, hx⟩
  subst w9
  go_wp2_with fail
  refine (C3.out _ (HP.out.below HW.out)).mono ?_
  rintro e w4 ⟨rfl, hb⟩
  have BX2 := Lib.hid (BX.out.below hb)
  have HW2 := Lib.hid (HW.out.trans (hb.mono HW.out.size))
  clear hb f0 f1 f2 BX HW
  have BX := BX2
  have HW := HW2
  clear BX2 HW2
  have f0 := BX.out.c0
  have f1 := BX.out.c1
  have f2 := BX.out.c2
  go_wp2_with fail
  refine (C4.out _ (HP.out.below HW.out)).mono ?_
  rintro e w5 ⟨rfl, hb⟩
  have BX2 := Lib.hid (BX.out.below hb)
  have HW2 := Lib.hid (HW.out.trans (hb.mono HW.out.size))
  clear hb f0 f1 f2 BX HW
  have BX := BX2
  have HW := HW2
  clear BX2 HW2
  have f0 := BX.out.c0
  have f1 := BX.out.c1
  have f2 := BX.out.c2
  go_wp2
  go_ret
  exact ⟨rfl, HW.out⟩

set_option maxRecDepth 100000 in
set_option maxHeartbeats 6400000 in
theorem text_3 (v n s : Int) (w : World) (hv0 : -9223372036854775808 ≤ v) (hv1 : v ≤ 9223372036854775807) (h0 : 0 ≤ s) (h1 : s < 4294967296) (h4 : 0 ≤ n) (h5 : n < 4294967296) (hp : Pow w) (hk : kindV s = 1) (hn : n = 0) :
    Calls Tryd.prog 30 #[wd v n s] w fun e w' => e = .returned (.string ⟨(txt v n s).toArray⟩) ∧ Below w.heap.size w w' := by
  have HK := Lib.hid fun w => kind_any v n s w h0 h1
  rw [hk] at HK
  have HP := Lib.hid hp
  have CI := Lib.hid (fmtI_any v hv0 hv1)
  have CU := Lib.hid fun w (hp : Pow w) => (show Calls Tryd.prog _ _ w _ from by have := fmtU_any n.toNat (by omega) w hp; rwa [show ((n.toNat : Nat) : Int) = n by omega] at this)
  have CW := Lib.hid fun w => who_any s w h0 h1
  have hb2 : 1 ≤ whoA s ∧ whoA s ≤ 72 ∧ 1 ≤ whoB s ∧ whoB s ≤ 16777215 := by
    by_cases h : wOk (s / 16777216) (s % 16777216)
    · rw [whoA_ok h, whoB_ok h]; exact h
    · exfalso
      unfold kindV at hk
      rw [whoA_no h] at hk
      split at hk <;> simp at hk
  have C3 := Lib.hid fun w (hp : Pow w) => (show Calls Tryd.prog _ _ w _ from by have := itoa_any (whoA s) (by omega) (by omega) w hp; rwa [show Lib.itoa (whoA s) = Lib.decDigits (whoA s).toNat by unfold Lib.itoa; rw [if_neg (by omega)]] at this)
  have C4 := Lib.hid fun w (hp : Pow w) => (show Calls Tryd.prog _ _ w _ from by have := itoa_any (whoB s) (by omega) (by omega) w hp; rwa [show Lib.itoa (whoB s) = Lib.decDigits (whoB s).toNat by unfold Lib.itoa; rw [if_neg (by omega)]] at this)
  have l5 := hb2
  have l1 : (Lib.itoa v).length ≤ 21 := Lib.itoa_length_le v hv0 hv1
  have l2 : (Lib.decDigits n.toNat).length ≤ 20 := by rw [Lib.decDigits_length]; exact Lib.nDigits_le20 _ (by omega)
  have l3 : (Lib.decDigits (whoA s).toNat).length ≤ 20 := by rw [Lib.decDigits_length]; exact Lib.nDigits_le20 _ (by omega)
  have l4 : (Lib.decDigits (whoB s).toNat).length ≤ 20 := by rw [Lib.decDigits_length]; exact Lib.nDigits_le20 _ (by omega)
  rw [show txt v n s = Lib.itoa v ++ 46 :: Lib.decDigits n.toNat ++ 35 :: (Lib.decDigits (whoA s).toNat ++ 58 :: Lib.decDigits (whoB s).toNat) by simp [txt, hk]]
  clear hk h0 h1 hv0 hv1 h5 hp
  subst hn
  clear h4
  generalize Lib.itoa v = L1 at *
  generalize Lib.decDigits (0 : Int).toNat = L2 at *
  generalize Lib.decDigits (whoA s).toNat = L3 at *
  generalize Lib.decDigits (whoB s).toNat = L4 at *
  generalize whoA s = A at *
  generalize whoB s = B at *
  have c1 := fun w => add_lists [46] L2 (by simp; omega) w
  have c2 := fun w => add_lists L1 ([46] ++ L2) (by simp; omega) w
  have c3 := fun w => add_lists [35] L3 (by simp; omega) w
  have c4 := fun w => add_lists ([35] ++ L3) [58] (by simp; omega) w
  have c5 := fun w => add_lists ([35] ++ L3 ++ [58]) L4 (by simp; omega) w
  have c6 := fun w => add_lists (L1 ++ ([46] ++ L2)) ([35] ++ L3 ++ [58] ++ L4) (by simp; omega) w
  have hF : L1 ++ 46 :: L2 ++ 35 :: (L3 ++ 58 :: L4) = L1 ++ ([46] ++ L2) ++ ([35] ++ L3 ++ [58] ++ L4) := by simp
  rw [hF]
  clear hF l1 l2 l3 l4 l5
  generalize L1 ++ ([46] ++ L2) ++ ([35] ++ L3 ++ [58] ++ L4) = M6 at *
  generalize L1 ++ ([46] ++ L2) = M2 at *
  generalize [35] ++ L3 ++ [58] ++ L4 = M5 at *
  generalize [35] ++ L3 ++ [58] = M4 at *
  generalize [35] ++ L3 = M3 at *
  generalize [46] ++ L2 = M1 at *
  unfold wd at *
  go_enter Tryd.func30, Tryd.ntmps30
  go_wp2_with fail
  refine (HK.out _).mono ?_
  rintro e w1 ⟨rfl, hx⟩
  have hb : Below (w.alloc (wdO v 0 s)).heap.size (w.alloc (wdO v 0 s)) w1 := by rw [hx]; exact (Below.refl _ _).alloc (Nat.le_refl _) _
  have BX := Lib.hid (WBox.new.below hb)
  have HW := Lib.hid (below_new hb)
  clear hb hx HK
  have f0 := BX.out.c0
  have f1 := BX.out.c1
  have f2 := BX.out.c2
  go_wp2_with fail
  refine (CI.out _ (HP.out.below HW.out)).mono ?_
  rintro e w2 ⟨rfl, hb⟩
  have BX2 := Lib.hid (BX.out.below hb)
  have HW2 := Lib.hid (HW.out.trans (hb.mono HW.out.size))
  clear hb f0 f1 f2 BX HW
  have BX := BX2
  have HW := HW2
  clear BX2 HW2
  have f0 := BX.out.c0
  have f1 := BX.out.c1
  have f2 := BX.out.c2
  go_wp2_with fail
  refine (CU.out _ (HP.out.below HW.out)).mono ?_
  rintro e w3 ⟨rfl, hb⟩
  have BX2 := Lib.hid (BX.out.below hb)
  have HW2 := Lib.hid (HW.out.trans (hb.mono HW.out.size))
  clear hb f0 f1 f2 BX HW
  have BX := BX2
  have HW := HW2
  clear BX2 HW2
  have f0 := BX.out.c0
  have f1 := BX.out.c1
  have f2 := BX.out.c2
  go_wp2_with fail
  refine (CW.out _).mono ?_
  rintro e w9 ⟨rfl, hx⟩
  subst w9
  go_wp2_with fail
  refine (C3.out _ (HP.out.below HW.out)).mono ?_
  rintro e w4 ⟨rfl, hb⟩
  have BX2 := Lib.hid (BX.out.below hb)
  have HW2 := Lib.hid (HW.out.trans (hb.mono HW.out.size))
  clear hb f0 f1 f2 BX HW
  have BX := BX2
  have HW := HW2
  clear BX2 HW2
  have f0 := BX.out.c0
  have f1 := BX.out.c1
  have f2 := BX.out.c2
  go_wp2_with fail
  refine (C4.out _ (HP.out.below HW.out)).mono ?_
  rintro e w5 ⟨rfl, hb⟩
  have BX2 := Lib.hid (BX.out.below hb)
  have HW2 := Lib.hid (HW.out.trans (hb.mono HW.out.size))
  clear hb f0 f1 f2 BX HW
  have BX := BX2
  have HW := HW2
  clear BX2 HW2
  have f0 := BX.out.c0
  have f1 := BX.out.c1
  have f2 := BX.out.c2
  go_wp2
  go_ret
  exact ⟨rfl, HW.out⟩

theorem text_any (v n s : Int) (w : World) (hv0 : -9223372036854775808 ≤ v) (hv1 : v ≤ 9223372036854775807) (h0 : 0 ≤ s) (h1 : s < 4294967296) (h4 : 0 ≤ n) (h5 : n < 4294967296) (hp : Pow w) :
    Calls Tryd.prog 30 #[wd v n s] w fun e w' => e = .returned (.string ⟨(txt v n s).toArray⟩) ∧ Below w.heap.size w w' := by
  have h : kindV s = 0 ∨ kindV s = 1 ∨ kindV s = 2 := by
    unfold kindV
    split
    · exact .inl rfl
    · split
      · exact .inr (.inl rfl)
      · exact .inr (.inr rfl)
  rcases h with hk | hk | hk
  · by_cases hn : n = 0
    · exact text_0 v n s w hv0 hv1 h0 h1 h4 h5 hp hk hn
    · exact text_1 v n s w hv0 hv1 h0 h1 h4 h5 hp hk hn
  · by_cases hn : n = 0
    · exact text_3 v n s w hv0 hv1 h0 h1 h4 h5 hp hk hn
    · exact text_4 v n s w hv0 hv1 h0 h1 h4 h5 hp hk hn
  · exact text_2 v n s w hv0 hv1 h0 h1 h4 h5 hp hk
end Go.Proofs.YtilapnejkdgomaaDoor
