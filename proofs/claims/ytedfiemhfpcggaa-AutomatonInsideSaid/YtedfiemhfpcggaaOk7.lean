/- Every function does what is said of it. -/
import Derived.Test.YtedfiemhfpcggaaPA
import Derived.Test.YtedfiemhfpcggaaPB
import Derived.Test.YtedfiemhfpcggaaPC
import Derived.Test.YtedfiemhfpcggaaPD
import Derived.Test.YtedfiemhfpcggaaPE
import Derived.Test.YtedfiemhfpcggaaPF
import Derived.Test.YtedfiemhfpcggaaVc22
namespace Go.Proofs.Ytedfiemhfpcggaa
open Go.Vc Go.Gw
theorem ok12 : Meets Try.prog 12 s12 := m12 (spOk_nil) vc12_ok
theorem ok9 : Meets Try.prog 9 s9 := m9 (spOk_cons ok12 (spOk_nil)) vc9_ok
theorem ok17 : Meets Try.prog 17 s17 := m17 (spOk_cons ok9 (spOk_cons ok12 (spOk_nil))) vc17_ok
theorem ok19 : Meets Try.prog 19 s19 := m19 (spOk_cons ok9 (spOk_cons ok12 (spOk_nil))) vc19_ok
theorem ok21 : Meets Try.prog 21 s21 := m21 (spOk_cons ok9 (spOk_cons ok19 (spOk_nil))) vc21_ok
theorem ok32 : Meets Try.prog 32 s32 := m32 (spOk_nil) vc32_ok
theorem ok37 : Meets Try.prog 37 s37 := m37 (spOk_nil) vc37_ok
theorem ok33 : Meets Try.prog 33 s33 := m33 (spOk_cons ok37 (spOk_nil)) vc33_ok
theorem ok23 : Meets Try.prog 23 s23 := m23 (spOk_cons ok21 (spOk_cons ok32 (spOk_cons ok33 (spOk_nil)))) vc23_ok
theorem ok14 : Meets Try.prog 14 s14 := m14 (spOk_cons ok9 (spOk_cons ok12 (spOk_nil))) vc14_ok
theorem ok36 : Meets Try.prog 36 s36 := m36 (spOk_nil) vc36_ok
theorem ok38 : Meets Try.prog 38 s38 := m38 (spOk_nil) vc38_ok
theorem ok26 : Meets Try.prog 26 s26 := m26 (spOk_cons ok12 (spOk_cons ok14 (spOk_cons ok21 (spOk_cons ok36 (spOk_cons ok37 (spOk_cons ok38 (spOk_nil))))))) vc26_ok
theorem ok30 : Meets Try.prog 30 s30 := m30 (spOk_nil) vc30_ok
theorem ok11 : Meets Try.prog 11 s11 := m11 (spOk_cons ok9 (spOk_cons ok17 (spOk_cons ok21 (spOk_cons ok23 (spOk_cons ok26 (spOk_cons ok30 (spOk_nil))))))) vc11_ok
theorem ok35 : Meets Try.prog 35 s35 := m35 (spOk_nil) vc35_ok
theorem ok25 : Meets Try.prog 25 s25 := m25 (spOk_cons ok35 (spOk_nil)) vc25_ok
theorem ok13 : Meets Try.prog 13 s13 := m13 (spOk_nil) vc13_ok
theorem ok10 : Meets Try.prog 10 s10 := m10 (spOk_cons ok13 (spOk_nil)) vc10_ok
theorem ok15 : Meets Try.prog 15 s15 := m15 (spOk_cons ok10 (spOk_cons ok13 (spOk_nil))) vc15_ok
theorem ok18 : Meets Try.prog 18 s18 := m18 (spOk_cons ok10 (spOk_cons ok13 (spOk_nil))) vc18_ok
theorem ok20 : Meets Try.prog 20 s20 := m20 (spOk_cons ok18 (spOk_nil)) vc20_ok
theorem ok31 : Meets Try.prog 31 s31 := m31 (spOk_cons ok20 (spOk_nil)) vc31_ok
theorem ok22 : Meets Try.prog 22 s22 := m22 (spOk_cons ok10 (spOk_cons ok31 (spOk_nil))) vc22_ok
theorem ok41 : Meets Try.prog 41 s41 := m41 (spOk_nil) vc41_ok
theorem ok39 : Meets Try.prog 39 s39 := m39 (spOk_cons ok41 (spOk_nil)) vc39_ok
theorem ok27 : Meets Try.prog 27 s27 := m27 (spOk_cons ok13 (spOk_cons ok15 (spOk_cons ok22 (spOk_cons ok39 (spOk_nil))))) vc27_ok
theorem ok40 : Meets Try.prog 40 s40 := m40 (spOk_cons ok17 (spOk_cons ok21 (spOk_nil))) vc40_ok
theorem ok28 : Meets Try.prog 28 s28 := m28 (spOk_cons ok12 (spOk_cons ok14 (spOk_cons ok36 (spOk_cons ok40 (spOk_nil))))) vc28_ok
theorem ok29 : Meets Try.prog 29 s29 := m29 (spOk_cons ok12 (spOk_cons ok14 (spOk_cons ok36 (spOk_cons ok40 (spOk_nil))))) vc29_ok
theorem ok7 : Meets Try.prog 7 s7 := m7 (spOk_cons ok11 (spOk_cons ok25 (spOk_cons ok26 (spOk_cons ok27 (spOk_cons ok28 (spOk_cons ok29 (spOk_nil))))))) vc7_ok
end Go.Proofs.Ytedfiemhfpcggaa
