/-
  2^255 - 19 and the order of the base point are prime: Lucas' test, from small ones up (printed by mkprimes.py).
-/
import Derived.Test.YtechbdggjfahhaaDoorFermat
namespace Go.Proofs.YtechbdggjfahhaaDoor.Sx
set_option maxRecDepth 100000

theorem pr_2 : Pr 2 := pr_of_small (k := 3) (by decide +kernel)
theorem pr_3 : Pr 3 := pr_of_small (k := 3) (by decide +kernel)
theorem pr_65147 : Pr 65147 := pr_of_small (k := 257) (by decide +kernel)
theorem pr_353 : Pr 353 := pr_of_small (k := 20) (by decide +kernel)
theorem pr_57467 : Pr 57467 := pr_of_small (k := 241) (by decide +kernel)
theorem pr_132049 : Pr 132049 := pr_of_small (k := 365) (by decide +kernel)
theorem pr_1923133 : Pr 1923133 := pr_of_small (k := 1388) (by decide +kernel)
theorem pr_31 : Pr 31 := pr_of_small (k := 7) (by decide +kernel)
theorem pr_107 : Pr 107 := pr_of_small (k := 12) (by decide +kernel)
theorem pr_223 : Pr 223 := pr_of_small (k := 16) (by decide +kernel)
theorem pr_4153 : Pr 4153 := pr_of_small (k := 66) (by decide +kernel)
theorem pr_430751 : Pr 430751 := pr_of_small (k := 658) (by decide +kernel)
theorem full_31757755568855353 : Full 31757755568855353 := full_of_test (a := 10) (l := [2, 2, 2, 3, 31, 107, 223, 4153, 430751]) (by simp only [List.mem_cons, List.not_mem_nil, or_false, forall_eq_or_imp, forall_eq]; exact ⟨pr_2, pr_2, pr_2, pr_3, pr_31, pr_107, pr_223, pr_4153, pr_430751⟩) (by decide +kernel)
theorem pr_31757755568855353 : Pr 31757755568855353 := full_31757755568855353.pr
theorem pr_5 : Pr 5 := pr_of_small (k := 4) (by decide +kernel)
theorem pr_75707 : Pr 75707 := pr_of_small (k := 277) (by decide +kernel)
theorem pr_13 : Pr 13 := pr_of_small (k := 5) (by decide +kernel)
theorem pr_2437 : Pr 2437 := pr_of_small (k := 51) (by decide +kernel)
theorem pr_569003 : Pr 569003 := pr_of_small (k := 756) (by decide +kernel)
theorem full_2773320623 : Full 2773320623 := full_of_test (a := 5) (l := [2, 2437, 569003]) (by simp only [List.mem_cons, List.not_mem_nil, or_false, forall_eq_or_imp, forall_eq]; exact ⟨pr_2, pr_2437, pr_569003⟩) (by decide +kernel)
theorem pr_2773320623 : Pr 2773320623 := full_2773320623.pr
theorem full_72106336199 : Full 72106336199 := full_of_test (a := 7) (l := [2, 13, 2773320623]) (by simp only [List.mem_cons, List.not_mem_nil, or_false, forall_eq_or_imp, forall_eq]; exact ⟨pr_2, pr_13, pr_2773320623⟩) (by decide +kernel)
theorem pr_72106336199 : Pr 72106336199 := full_72106336199.pr
theorem pr_7 : Pr 7 := pr_of_small (k := 4) (by decide +kernel)
theorem pr_19 : Pr 19 := pr_of_small (k := 6) (by decide +kernel)
theorem pr_47 : Pr 47 := pr_of_small (k := 8) (by decide +kernel)
theorem pr_127 : Pr 127 := pr_of_small (k := 13) (by decide +kernel)
theorem pr_8574133 : Pr 8574133 := pr_of_small (k := 2930) (by decide +kernel)
theorem full_1919519569386763 : Full 1919519569386763 := full_of_test (a := 2) (l := [2, 3, 7, 19, 47, 47, 127, 8574133]) (by simp only [List.mem_cons, List.not_mem_nil, or_false, forall_eq_or_imp, forall_eq]; exact ⟨pr_2, pr_3, pr_7, pr_19, pr_47, pr_47, pr_127, pr_8574133⟩) (by decide +kernel)
theorem pr_1919519569386763 : Pr 1919519569386763 := full_1919519569386763.pr
theorem full_75445702479781427272750846543864801 : Full 75445702479781427272750846543864801 := full_of_test (a := 7) (l := [2, 2, 2, 2, 2, 3, 3, 5, 5, 75707, 72106336199, 1919519569386763]) (by simp only [List.mem_cons, List.not_mem_nil, or_false, forall_eq_or_imp, forall_eq]; exact ⟨pr_2, pr_2, pr_2, pr_2, pr_2, pr_3, pr_3, pr_5, pr_5, pr_75707, pr_72106336199, pr_1919519569386763⟩) (by decide +kernel)
theorem pr_75445702479781427272750846543864801 : Pr 75445702479781427272750846543864801 := full_75445702479781427272750846543864801.pr
theorem full_74058212732561358302231226437062788676166966415465897661863160754340907 : Full 74058212732561358302231226437062788676166966415465897661863160754340907 := full_of_test (a := 2) (l := [2, 3, 353, 57467, 132049, 1923133, 31757755568855353, 75445702479781427272750846543864801]) (by simp only [List.mem_cons, List.not_mem_nil, or_false, forall_eq_or_imp, forall_eq]; exact ⟨pr_2, pr_3, pr_353, pr_57467, pr_132049, pr_1923133, pr_31757755568855353, pr_75445702479781427272750846543864801⟩) (by decide +kernel)
theorem pr_74058212732561358302231226437062788676166966415465897661863160754340907 : Pr 74058212732561358302231226437062788676166966415465897661863160754340907 := full_74058212732561358302231226437062788676166966415465897661863160754340907.pr
theorem full_57896044618658097711785492504343953926634992332820282019728792003956564819949 : Full 57896044618658097711785492504343953926634992332820282019728792003956564819949 := full_of_test (a := 2) (l := [2, 2, 3, 65147, 74058212732561358302231226437062788676166966415465897661863160754340907]) (by simp only [List.mem_cons, List.not_mem_nil, or_false, forall_eq_or_imp, forall_eq]; exact ⟨pr_2, pr_2, pr_3, pr_65147, pr_74058212732561358302231226437062788676166966415465897661863160754340907⟩) (by decide +kernel)
theorem pr_57896044618658097711785492504343953926634992332820282019728792003956564819949 : Pr 57896044618658097711785492504343953926634992332820282019728792003956564819949 := full_57896044618658097711785492504343953926634992332820282019728792003956564819949.pr
theorem pr_11 : Pr 11 := pr_of_small (k := 5) (by decide +kernel)
theorem pr_23 : Pr 23 := pr_of_small (k := 6) (by decide +kernel)
theorem pr_14741173 : Pr 14741173 := pr_of_small (k := 3841) (by decide +kernel)
theorem full_58964693 : Full 58964693 := full_of_test (a := 2) (l := [2, 2, 14741173]) (by simp only [List.mem_cons, List.not_mem_nil, or_false, forall_eq_or_imp, forall_eq]; exact ⟨pr_2, pr_2, pr_14741173⟩) (by decide +kernel)
theorem pr_58964693 : Pr 58964693 := full_58964693.pr
theorem pr_30703 : Pr 30703 := pr_of_small (k := 177) (by decide +kernel)
theorem pr_82163 : Pr 82163 := pr_of_small (k := 288) (by decide +kernel)
theorem pr_132667 : Pr 132667 := pr_of_small (k := 366) (by decide +kernel)
theorem pr_137849 : Pr 137849 := pr_of_small (k := 373) (by decide +kernel)
theorem full_3044861653679985063343 : Full 3044861653679985063343 := full_of_test (a := 5) (l := [2, 3, 11, 30703, 82163, 132667, 137849]) (by simp only [List.mem_cons, List.not_mem_nil, or_false, forall_eq_or_imp, forall_eq]; exact ⟨pr_2, pr_3, pr_11, pr_30703, pr_82163, pr_132667, pr_137849⟩) (by decide +kernel)
theorem pr_3044861653679985063343 : Pr 3044861653679985063343 := full_3044861653679985063343.pr
theorem full_198211423230930754013084525763697 : Full 198211423230930754013084525763697 := full_of_test (a := 5) (l := [2, 2, 2, 2, 3, 23, 58964693, 3044861653679985063343]) (by simp only [List.mem_cons, List.not_mem_nil, or_false, forall_eq_or_imp, forall_eq]; exact ⟨pr_2, pr_2, pr_2, pr_2, pr_3, pr_23, pr_58964693, pr_3044861653679985063343⟩) (by decide +kernel)
theorem pr_198211423230930754013084525763697 : Pr 198211423230930754013084525763697 := full_198211423230930754013084525763697.pr
theorem pr_269 : Pr 269 := pr_of_small (k := 18) (by decide +kernel)
theorem pr_73 : Pr 73 := pr_of_small (k := 10) (by decide +kernel)
theorem pr_307 : Pr 307 := pr_of_small (k := 19) (by decide +kernel)
theorem pr_5879 : Pr 5879 := pr_of_small (k := 78) (by decide +kernel)
theorem full_292386187 : Full 292386187 := full_of_test (a := 2) (l := [2, 3, 3, 3, 3, 307, 5879]) (by simp only [List.mem_cons, List.not_mem_nil, or_false, forall_eq_or_imp, forall_eq]; exact ⟨pr_2, pr_3, pr_3, pr_3, pr_3, pr_307, pr_5879⟩) (by decide +kernel)
theorem pr_292386187 : Pr 292386187 := full_292386187.pr
theorem full_213441916511 : Full 213441916511 := full_of_test (a := 13) (l := [2, 5, 73, 292386187]) (by simp only [List.mem_cons, List.not_mem_nil, or_false, forall_eq_or_imp, forall_eq]; exact ⟨pr_2, pr_5, pr_73, pr_292386187⟩) (by decide +kernel)
theorem pr_213441916511 : Pr 213441916511 := full_213441916511.pr
theorem pr_1361 : Pr 1361 := pr_of_small (k := 38) (by decide +kernel)
theorem pr_2851 : Pr 2851 := pr_of_small (k := 55) (by decide +kernel)
theorem pr_41 : Pr 41 := pr_of_small (k := 8) (by decide +kernel)
theorem pr_43 : Pr 43 := pr_of_small (k := 8) (by decide +kernel)
theorem pr_531581 : Pr 531581 := pr_of_small (k := 731) (by decide +kernel)
theorem pr_1224481 : Pr 1224481 := pr_of_small (k := 1108) (by decide +kernel)
theorem full_1257559732178653 : Full 1257559732178653 := full_of_test (a := 2) (l := [2, 2, 3, 7, 23, 531581, 1224481]) (by simp only [List.mem_cons, List.not_mem_nil, or_false, forall_eq_or_imp, forall_eq]; exact ⟨pr_2, pr_2, pr_3, pr_7, pr_23, pr_531581, pr_1224481⟩) (by decide +kernel)
theorem pr_1257559732178653 : Pr 1257559732178653 := full_1257559732178653.pr
theorem full_4434155615661930479 : Full 4434155615661930479 := full_of_test (a := 17) (l := [2, 41, 43, 1257559732178653]) (by simp only [List.mem_cons, List.not_mem_nil, or_false, forall_eq_or_imp, forall_eq]; exact ⟨pr_2, pr_41, pr_43, pr_1257559732178653⟩) (by decide +kernel)
theorem pr_4434155615661930479 : Pr 4434155615661930479 := full_4434155615661930479.pr
theorem full_172054593956031949258510691 : Full 172054593956031949258510691 := full_of_test (a := 2) (l := [2, 5, 1361, 2851, 4434155615661930479]) (by simp only [List.mem_cons, List.not_mem_nil, or_false, forall_eq_or_imp, forall_eq]; exact ⟨pr_2, pr_5, pr_1361, pr_2851, pr_4434155615661930479⟩) (by decide +kernel)
theorem pr_172054593956031949258510691 : Pr 172054593956031949258510691 := full_172054593956031949258510691.pr
theorem full_19757330305831588566944191468367130476339 : Full 19757330305831588566944191468367130476339 := full_of_test (a := 2) (l := [2, 269, 213441916511, 172054593956031949258510691]) (by simp only [List.mem_cons, List.not_mem_nil, or_false, forall_eq_or_imp, forall_eq]; exact ⟨pr_2, pr_269, pr_213441916511, pr_172054593956031949258510691⟩) (by decide +kernel)
theorem pr_19757330305831588566944191468367130476339 : Pr 19757330305831588566944191468367130476339 := full_19757330305831588566944191468367130476339.pr
theorem full_276602624281642239937218680557139826668747 : Full 276602624281642239937218680557139826668747 := full_of_test (a := 2) (l := [2, 7, 19757330305831588566944191468367130476339]) (by simp only [List.mem_cons, List.not_mem_nil, or_false, forall_eq_or_imp, forall_eq]; exact ⟨pr_2, pr_7, pr_19757330305831588566944191468367130476339⟩) (by decide +kernel)
theorem pr_276602624281642239937218680557139826668747 : Pr 276602624281642239937218680557139826668747 := full_276602624281642239937218680557139826668747.pr
theorem full_7237005577332262213973186563042994240857116359379907606001950938285454250989 : Full 7237005577332262213973186563042994240857116359379907606001950938285454250989 := full_of_test (a := 2) (l := [2, 2, 3, 11, 198211423230930754013084525763697, 276602624281642239937218680557139826668747]) (by simp only [List.mem_cons, List.not_mem_nil, or_false, forall_eq_or_imp, forall_eq]; exact ⟨pr_2, pr_2, pr_3, pr_11, pr_198211423230930754013084525763697, pr_276602624281642239937218680557139826668747⟩) (by decide +kernel)
theorem pr_7237005577332262213973186563042994240857116359379907606001950938285454250989 : Pr 7237005577332262213973186563042994240857116359379907606001950938285454250989 := full_7237005577332262213973186563042994240857116359379907606001950938285454250989.pr

end Go.Proofs.YtechbdggjfahhaaDoor.Sx
