/-
  The table of the seat's types for the engine of rules, made by a program of this repo (mktab.py). No condition.
-/
import Derived.Test.YtdoclecibanaoaaChecked
import Derived.Test.YtdoclecibanaoaaEngG
namespace Go.Proofs.Ytdoclecibanaoaa
open Go
set_option linter.unusedVariables false
noncomputable def tab : Tab := [(2, ⟨Try.t2.desc, Try.t2.size, Try.t2.bytes, Try.t2.zero.getD undef⟩),
  (3, ⟨Try.t3.desc, Try.t3.size, Try.t3.bytes, Try.t3.zero.getD undef⟩),
  (4, ⟨Try.t4.desc, Try.t4.size, Try.t4.bytes, Try.t4.zero.getD undef⟩),
  (5, ⟨Try.t5.desc, Try.t5.size, Try.t5.bytes, Try.t5.zero.getD undef⟩),
  (6, ⟨Try.t5.desc, Try.t6.size, Try.t6.bytes, Try.t6.zero.getD undef⟩),
  (7, ⟨Try.t7.desc, Try.t7.size, Try.t7.bytes, Try.t7.zero.getD undef⟩),
  (8, ⟨Try.t7.desc, Try.t8.size, Try.t8.bytes, Try.t8.zero.getD undef⟩),
  (9, ⟨Try.t9.desc, Try.t9.size, Try.t9.bytes, Try.t9.zero.getD undef⟩),
  (10, ⟨Try.t9.desc, Try.t10.size, Try.t10.bytes, Try.t10.zero.getD undef⟩),
  (11, ⟨Try.t9.desc, Try.t11.size, Try.t11.bytes, Try.t11.zero.getD undef⟩),
  (12, ⟨Try.t12.desc, Try.t12.size, Try.t12.bytes, Try.t12.zero.getD undef⟩),
  (13, ⟨Try.t13.desc, Try.t13.size, Try.t13.bytes, Try.t13.zero.getD undef⟩),
  (14, ⟨Try.t13.desc, Try.t14.size, Try.t14.bytes, Try.t14.zero.getD undef⟩),
  (15, ⟨Try.t15.desc, Try.t15.size, Try.t15.bytes, Try.t15.zero.getD undef⟩),
  (16, ⟨Try.t16.desc, Try.t16.size, Try.t16.bytes, Try.t16.zero.getD undef⟩),
  (17, ⟨Try.t17.desc, Try.t17.size, Try.t17.bytes, Try.t17.zero.getD undef⟩),
  (18, ⟨Try.t18.desc, Try.t18.size, Try.t18.bytes, Try.t18.zero.getD undef⟩),
  (19, ⟨Try.t18.desc, Try.t19.size, Try.t19.bytes, Try.t19.zero.getD undef⟩),
  (20, ⟨Try.t20.desc, Try.t20.size, Try.t20.bytes, Try.t20.zero.getD undef⟩),
  (21, ⟨Try.t21.desc, Try.t21.size, Try.t21.bytes, Try.t21.zero.getD undef⟩),
  (22, ⟨Try.t22.desc, Try.t22.size, Try.t22.bytes, Try.t22.zero.getD undef⟩),
  (23, ⟨Try.t23.desc, Try.t23.size, Try.t23.bytes, Try.t23.zero.getD undef⟩),
  (27, ⟨Try.t27.desc, Try.t27.size, Try.t27.bytes, Try.t27.zero.getD undef⟩),
  (32, ⟨Try.t32.desc, Try.t32.size, Try.t32.bytes, Try.t32.zero.getD undef⟩),
  (34, ⟨Try.t34.desc, Try.t34.size, Try.t34.bytes, Try.t34.zero.getD undef⟩),
  (35, ⟨Try.t34.desc, Try.t35.size, Try.t35.bytes, Try.t35.zero.getD undef⟩),
  (44, ⟨Try.t3.desc, Try.t44.size, Try.t44.bytes, Try.t44.zero.getD undef⟩),
  (50, ⟨Try.t50.desc, Try.t50.size, Try.t50.bytes, Try.t50.zero.getD undef⟩),
  (52, ⟨Try.t52.desc, Try.t52.size, Try.t52.bytes, Try.t52.zero.getD undef⟩),
  (54, ⟨Try.t54.desc, Try.t54.size, Try.t54.bytes, Try.t54.zero.getD undef⟩),
  (56, ⟨Try.t56.desc, Try.t56.size, Try.t56.bytes, Try.t56.zero.getD undef⟩),
  (59, ⟨Try.t59.desc, Try.t59.size, Try.t59.bytes, Try.t59.zero.getD undef⟩),
  (60, ⟨Try.t59.desc, Try.t60.size, Try.t60.bytes, Try.t60.zero.getD undef⟩),
  (61, ⟨Try.t61.desc, Try.t61.size, Try.t61.bytes, Try.t61.zero.getD undef⟩),
  (62, ⟨Try.t62.desc, Try.t62.size, Try.t62.bytes, Try.t62.zero.getD undef⟩),
  (63, ⟨Try.t62.desc, Try.t63.size, Try.t63.bytes, Try.t63.zero.getD undef⟩),
  (65, ⟨Try.t5.desc, Try.t65.size, Try.t65.bytes, Try.t65.zero.getD undef⟩),
  (66, ⟨Try.t5.desc, Try.t66.size, Try.t66.bytes, Try.t66.zero.getD undef⟩),
  (68, ⟨Try.t68.desc, Try.t68.size, Try.t68.bytes, Try.t68.zero.getD undef⟩),
  (69, ⟨Try.t21.desc, Try.t69.size, Try.t69.bytes, Try.t69.zero.getD undef⟩),
  (70, ⟨Try.t21.desc, Try.t70.size, Try.t70.bytes, Try.t70.zero.getD undef⟩),
  (71, ⟨Try.t71.desc, Try.t71.size, Try.t71.bytes, Try.t71.zero.getD undef⟩),
  (72, ⟨Try.t71.desc, Try.t72.size, Try.t72.bytes, Try.t72.zero.getD undef⟩),
  (73, ⟨Try.t73.desc, Try.t73.size, Try.t73.bytes, Try.t73.zero.getD undef⟩)]
theorem good2 : Good Try.prog 2 ⟨Try.t2.desc, Try.t2.size, Try.t2.bytes, Try.t2.zero.getD undef⟩ := ⟨Try.underlying2, Try.t2, by kernel_rfl, rfl, rfl, rfl⟩
theorem good3 : Good Try.prog 3 ⟨Try.t3.desc, Try.t3.size, Try.t3.bytes, Try.t3.zero.getD undef⟩ := ⟨Try.underlying3, Try.t3, by kernel_rfl, rfl, rfl, rfl⟩
theorem good4 : Good Try.prog 4 ⟨Try.t4.desc, Try.t4.size, Try.t4.bytes, Try.t4.zero.getD undef⟩ := ⟨Try.underlying4, Try.t4, by kernel_rfl, rfl, rfl, rfl⟩
theorem good5 : Good Try.prog 5 ⟨Try.t5.desc, Try.t5.size, Try.t5.bytes, Try.t5.zero.getD undef⟩ := ⟨Try.underlying5, Try.t5, by kernel_rfl, rfl, rfl, rfl⟩
theorem good6 : Good Try.prog 6 ⟨Try.t5.desc, Try.t6.size, Try.t6.bytes, Try.t6.zero.getD undef⟩ := ⟨Try.underlying6, Try.t6, by kernel_rfl, rfl, rfl, rfl⟩
theorem good7 : Good Try.prog 7 ⟨Try.t7.desc, Try.t7.size, Try.t7.bytes, Try.t7.zero.getD undef⟩ := ⟨Try.underlying7, Try.t7, by kernel_rfl, rfl, rfl, rfl⟩
theorem good8 : Good Try.prog 8 ⟨Try.t7.desc, Try.t8.size, Try.t8.bytes, Try.t8.zero.getD undef⟩ := ⟨Try.underlying8, Try.t8, by kernel_rfl, rfl, rfl, rfl⟩
theorem good9 : Good Try.prog 9 ⟨Try.t9.desc, Try.t9.size, Try.t9.bytes, Try.t9.zero.getD undef⟩ := ⟨Try.underlying9, Try.t9, by kernel_rfl, rfl, rfl, rfl⟩
theorem good10 : Good Try.prog 10 ⟨Try.t9.desc, Try.t10.size, Try.t10.bytes, Try.t10.zero.getD undef⟩ := ⟨Try.underlying10, Try.t10, by kernel_rfl, rfl, rfl, rfl⟩
theorem good11 : Good Try.prog 11 ⟨Try.t9.desc, Try.t11.size, Try.t11.bytes, Try.t11.zero.getD undef⟩ := ⟨Try.underlying11, Try.t11, by kernel_rfl, rfl, rfl, rfl⟩
theorem good12 : Good Try.prog 12 ⟨Try.t12.desc, Try.t12.size, Try.t12.bytes, Try.t12.zero.getD undef⟩ := ⟨Try.underlying12, Try.t12, by kernel_rfl, rfl, rfl, rfl⟩
theorem good13 : Good Try.prog 13 ⟨Try.t13.desc, Try.t13.size, Try.t13.bytes, Try.t13.zero.getD undef⟩ := ⟨Try.underlying13, Try.t13, by kernel_rfl, rfl, rfl, rfl⟩
theorem good14 : Good Try.prog 14 ⟨Try.t13.desc, Try.t14.size, Try.t14.bytes, Try.t14.zero.getD undef⟩ := ⟨Try.underlying14, Try.t14, by kernel_rfl, rfl, rfl, rfl⟩
theorem good15 : Good Try.prog 15 ⟨Try.t15.desc, Try.t15.size, Try.t15.bytes, Try.t15.zero.getD undef⟩ := ⟨Try.underlying15, Try.t15, by kernel_rfl, rfl, rfl, rfl⟩
theorem good16 : Good Try.prog 16 ⟨Try.t16.desc, Try.t16.size, Try.t16.bytes, Try.t16.zero.getD undef⟩ := ⟨Try.underlying16, Try.t16, by kernel_rfl, rfl, rfl, rfl⟩
theorem good17 : Good Try.prog 17 ⟨Try.t17.desc, Try.t17.size, Try.t17.bytes, Try.t17.zero.getD undef⟩ := ⟨Try.underlying17, Try.t17, by kernel_rfl, rfl, rfl, rfl⟩
theorem good18 : Good Try.prog 18 ⟨Try.t18.desc, Try.t18.size, Try.t18.bytes, Try.t18.zero.getD undef⟩ := ⟨Try.underlying18, Try.t18, by kernel_rfl, rfl, rfl, rfl⟩
theorem good19 : Good Try.prog 19 ⟨Try.t18.desc, Try.t19.size, Try.t19.bytes, Try.t19.zero.getD undef⟩ := ⟨Try.underlying19, Try.t19, by kernel_rfl, rfl, rfl, rfl⟩
theorem good20 : Good Try.prog 20 ⟨Try.t20.desc, Try.t20.size, Try.t20.bytes, Try.t20.zero.getD undef⟩ := ⟨Try.underlying20, Try.t20, by kernel_rfl, rfl, rfl, rfl⟩
theorem good21 : Good Try.prog 21 ⟨Try.t21.desc, Try.t21.size, Try.t21.bytes, Try.t21.zero.getD undef⟩ := ⟨Try.underlying21, Try.t21, by kernel_rfl, rfl, rfl, rfl⟩
theorem good22 : Good Try.prog 22 ⟨Try.t22.desc, Try.t22.size, Try.t22.bytes, Try.t22.zero.getD undef⟩ := ⟨Try.underlying22, Try.t22, by kernel_rfl, rfl, rfl, rfl⟩
theorem good23 : Good Try.prog 23 ⟨Try.t23.desc, Try.t23.size, Try.t23.bytes, Try.t23.zero.getD undef⟩ := ⟨Try.underlying23, Try.t23, by kernel_rfl, rfl, rfl, rfl⟩
theorem good27 : Good Try.prog 27 ⟨Try.t27.desc, Try.t27.size, Try.t27.bytes, Try.t27.zero.getD undef⟩ := ⟨Try.underlying27, Try.t27, by kernel_rfl, rfl, rfl, rfl⟩
theorem good32 : Good Try.prog 32 ⟨Try.t32.desc, Try.t32.size, Try.t32.bytes, Try.t32.zero.getD undef⟩ := ⟨Try.underlying32, Try.t32, by kernel_rfl, rfl, rfl, rfl⟩
theorem good34 : Good Try.prog 34 ⟨Try.t34.desc, Try.t34.size, Try.t34.bytes, Try.t34.zero.getD undef⟩ := ⟨Try.underlying34, Try.t34, by kernel_rfl, rfl, rfl, rfl⟩
theorem good35 : Good Try.prog 35 ⟨Try.t34.desc, Try.t35.size, Try.t35.bytes, Try.t35.zero.getD undef⟩ := ⟨Try.underlying35, Try.t35, by kernel_rfl, rfl, rfl, rfl⟩
theorem good44 : Good Try.prog 44 ⟨Try.t3.desc, Try.t44.size, Try.t44.bytes, Try.t44.zero.getD undef⟩ := ⟨Try.underlying44, Try.t44, by kernel_rfl, rfl, rfl, rfl⟩
theorem good50 : Good Try.prog 50 ⟨Try.t50.desc, Try.t50.size, Try.t50.bytes, Try.t50.zero.getD undef⟩ := ⟨Try.underlying50, Try.t50, by kernel_rfl, rfl, rfl, rfl⟩
theorem good52 : Good Try.prog 52 ⟨Try.t52.desc, Try.t52.size, Try.t52.bytes, Try.t52.zero.getD undef⟩ := ⟨Try.underlying52, Try.t52, by kernel_rfl, rfl, rfl, rfl⟩
theorem good54 : Good Try.prog 54 ⟨Try.t54.desc, Try.t54.size, Try.t54.bytes, Try.t54.zero.getD undef⟩ := ⟨Try.underlying54, Try.t54, by kernel_rfl, rfl, rfl, rfl⟩
theorem good56 : Good Try.prog 56 ⟨Try.t56.desc, Try.t56.size, Try.t56.bytes, Try.t56.zero.getD undef⟩ := ⟨Try.underlying56, Try.t56, by kernel_rfl, rfl, rfl, rfl⟩
theorem good59 : Good Try.prog 59 ⟨Try.t59.desc, Try.t59.size, Try.t59.bytes, Try.t59.zero.getD undef⟩ := ⟨Try.underlying59, Try.t59, by kernel_rfl, rfl, rfl, rfl⟩
theorem good60 : Good Try.prog 60 ⟨Try.t59.desc, Try.t60.size, Try.t60.bytes, Try.t60.zero.getD undef⟩ := ⟨Try.underlying60, Try.t60, by kernel_rfl, rfl, rfl, rfl⟩
theorem good61 : Good Try.prog 61 ⟨Try.t61.desc, Try.t61.size, Try.t61.bytes, Try.t61.zero.getD undef⟩ := ⟨Try.underlying61, Try.t61, by kernel_rfl, rfl, rfl, rfl⟩
theorem good62 : Good Try.prog 62 ⟨Try.t62.desc, Try.t62.size, Try.t62.bytes, Try.t62.zero.getD undef⟩ := ⟨Try.underlying62, Try.t62, by kernel_rfl, rfl, rfl, rfl⟩
theorem good63 : Good Try.prog 63 ⟨Try.t62.desc, Try.t63.size, Try.t63.bytes, Try.t63.zero.getD undef⟩ := ⟨Try.underlying63, Try.t63, by kernel_rfl, rfl, rfl, rfl⟩
theorem good65 : Good Try.prog 65 ⟨Try.t5.desc, Try.t65.size, Try.t65.bytes, Try.t65.zero.getD undef⟩ := ⟨Try.underlying65, Try.t65, by kernel_rfl, rfl, rfl, rfl⟩
theorem good66 : Good Try.prog 66 ⟨Try.t5.desc, Try.t66.size, Try.t66.bytes, Try.t66.zero.getD undef⟩ := ⟨Try.underlying66, Try.t66, by kernel_rfl, rfl, rfl, rfl⟩
theorem good68 : Good Try.prog 68 ⟨Try.t68.desc, Try.t68.size, Try.t68.bytes, Try.t68.zero.getD undef⟩ := ⟨Try.underlying68, Try.t68, by kernel_rfl, rfl, rfl, rfl⟩
theorem good69 : Good Try.prog 69 ⟨Try.t21.desc, Try.t69.size, Try.t69.bytes, Try.t69.zero.getD undef⟩ := ⟨Try.underlying69, Try.t69, by kernel_rfl, rfl, rfl, rfl⟩
theorem good70 : Good Try.prog 70 ⟨Try.t21.desc, Try.t70.size, Try.t70.bytes, Try.t70.zero.getD undef⟩ := ⟨Try.underlying70, Try.t70, by kernel_rfl, rfl, rfl, rfl⟩
theorem good71 : Good Try.prog 71 ⟨Try.t71.desc, Try.t71.size, Try.t71.bytes, Try.t71.zero.getD undef⟩ := ⟨Try.underlying71, Try.t71, by kernel_rfl, rfl, rfl, rfl⟩
theorem good72 : Good Try.prog 72 ⟨Try.t71.desc, Try.t72.size, Try.t72.bytes, Try.t72.zero.getD undef⟩ := ⟨Try.underlying72, Try.t72, by kernel_rfl, rfl, rfl, rfl⟩
theorem good73 : Good Try.prog 73 ⟨Try.t73.desc, Try.t73.size, Try.t73.bytes, Try.t73.zero.getD undef⟩ := ⟨Try.underlying73, Try.t73, by kernel_rfl, rfl, rfl, rfl⟩
theorem tabOk : TabOk Try.prog tab := .cons good2 <| .cons good3 <| .cons good4 <| .cons good5 <| .cons good6 <| .cons good7 <| .cons good8 <| .cons good9 <| .cons good10 <| .cons good11 <| .cons good12 <| .cons good13 <| .cons good14 <| .cons good15 <| .cons good16 <| .cons good17 <| .cons good18 <| .cons good19 <| .cons good20 <| .cons good21 <| .cons good22 <| .cons good23 <| .cons good27 <| .cons good32 <| .cons good34 <| .cons good35 <| .cons good44 <| .cons good50 <| .cons good52 <| .cons good54 <| .cons good56 <| .cons good59 <| .cons good60 <| .cons good61 <| .cons good62 <| .cons good63 <| .cons good65 <| .cons good66 <| .cons good68 <| .cons good69 <| .cons good70 <| .cons good71 <| .cons good72 <| .cons good73 <| TabOk.nil _
end Go.Proofs.Ytdoclecibanaoaa
