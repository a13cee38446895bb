/-
  The table of the seat's types for the engine of rules, made by a program of this repo (mktab.py). No condition.
-/
import Derived.Test.YtgjibkocpmajdaaChecked
import Derived.Test.YtgjibkocpmajdaaEngG
namespace Go.Proofs.Ytgjibkocpmajdaa
open Go
set_option linter.unusedVariables false
noncomputable def tab : Tab := [(2, ⟨Try.t2.desc, Try.t2.size, Try.t2.bytes, Try.t2.zero.getD undef⟩),
  (3, ⟨Try.t3.desc, Try.t3.size, Try.t3.bytes, Try.t3.zero.getD undef⟩),
  (4, ⟨Try.t4.desc, Try.t4.size, Try.t4.bytes, Try.t4.zero.getD undef⟩),
  (5, ⟨Try.t5.desc, Try.t5.size, Try.t5.bytes, Try.t5.zero.getD undef⟩),
  (6, ⟨Try.t5.desc, Try.t6.size, Try.t6.bytes, Try.t6.zero.getD undef⟩),
  (7, ⟨Try.t7.desc, Try.t7.size, Try.t7.bytes, Try.t7.zero.getD undef⟩),
  (8, ⟨Try.t7.desc, Try.t8.size, Try.t8.bytes, Try.t8.zero.getD undef⟩),
  (9, ⟨Try.t9.desc, Try.t9.size, Try.t9.bytes, Try.t9.zero.getD undef⟩),
  (10, ⟨Try.t9.desc, Try.t10.size, Try.t10.bytes, Try.t10.zero.getD undef⟩),
  (11, ⟨Try.t9.desc, Try.t11.size, Try.t11.bytes, Try.t11.zero.getD undef⟩),
  (12, ⟨Try.t12.desc, Try.t12.size, Try.t12.bytes, Try.t12.zero.getD undef⟩),
  (13, ⟨Try.t13.desc, Try.t13.size, Try.t13.bytes, Try.t13.zero.getD undef⟩),
  (14, ⟨Try.t13.desc, Try.t14.size, Try.t14.bytes, Try.t14.zero.getD undef⟩),
  (15, ⟨Try.t15.desc, Try.t15.size, Try.t15.bytes, Try.t15.zero.getD undef⟩),
  (16, ⟨Try.t16.desc, Try.t16.size, Try.t16.bytes, Try.t16.zero.getD undef⟩),
  (17, ⟨Try.t17.desc, Try.t17.size, Try.t17.bytes, Try.t17.zero.getD undef⟩),
  (18, ⟨Try.t18.desc, Try.t18.size, Try.t18.bytes, Try.t18.zero.getD undef⟩),
  (19, ⟨Try.t18.desc, Try.t19.size, Try.t19.bytes, Try.t19.zero.getD undef⟩),
  (20, ⟨Try.t20.desc, Try.t20.size, Try.t20.bytes, Try.t20.zero.getD undef⟩),
  (21, ⟨Try.t21.desc, Try.t21.size, Try.t21.bytes, Try.t21.zero.getD undef⟩),
  (22, ⟨Try.t22.desc, Try.t22.size, Try.t22.bytes, Try.t22.zero.getD undef⟩),
  (25, ⟨Try.t25.desc, Try.t25.size, Try.t25.bytes, Try.t25.zero.getD undef⟩),
  (26, ⟨Try.t25.desc, Try.t26.size, Try.t26.bytes, Try.t26.zero.getD undef⟩),
  (30, ⟨Try.t30.desc, Try.t30.size, Try.t30.bytes, Try.t30.zero.getD undef⟩),
  (36, ⟨Try.t36.desc, Try.t36.size, Try.t36.bytes, Try.t36.zero.getD undef⟩),
  (48, ⟨Try.t48.desc, Try.t48.size, Try.t48.bytes, Try.t48.zero.getD undef⟩),
  (49, ⟨Try.t48.desc, Try.t49.size, Try.t49.bytes, Try.t49.zero.getD undef⟩),
  (53, ⟨Try.t48.desc, Try.t53.size, Try.t53.bytes, Try.t53.zero.getD undef⟩),
  (55, ⟨Try.t55.desc, Try.t55.size, Try.t55.bytes, Try.t55.zero.getD undef⟩),
  (56, ⟨Try.t56.desc, Try.t56.size, Try.t56.bytes, Try.t56.zero.getD undef⟩),
  (57, ⟨Try.t57.desc, Try.t57.size, Try.t57.bytes, Try.t57.zero.getD undef⟩),
  (58, ⟨Try.t57.desc, Try.t58.size, Try.t58.bytes, Try.t58.zero.getD undef⟩),
  (60, ⟨Try.t60.desc, Try.t60.size, Try.t60.bytes, Try.t60.zero.getD undef⟩),
  (61, ⟨Try.t60.desc, Try.t61.size, Try.t61.bytes, Try.t61.zero.getD undef⟩),
  (66, ⟨Try.t66.desc, Try.t66.size, Try.t66.bytes, Try.t66.zero.getD undef⟩),
  (68, ⟨Try.t68.desc, Try.t68.size, Try.t68.bytes, Try.t68.zero.getD undef⟩),
  (69, ⟨Try.t68.desc, Try.t69.size, Try.t69.bytes, Try.t69.zero.getD undef⟩),
  (75, ⟨Try.t75.desc, Try.t75.size, Try.t75.bytes, Try.t75.zero.getD undef⟩),
  (96, ⟨Try.t96.desc, Try.t96.size, Try.t96.bytes, Try.t96.zero.getD undef⟩),
  (100, ⟨Try.t100.desc, Try.t100.size, Try.t100.bytes, Try.t100.zero.getD undef⟩),
  (103, ⟨Try.t3.desc, Try.t103.size, Try.t103.bytes, Try.t103.zero.getD undef⟩),
  (112, ⟨Try.t112.desc, Try.t112.size, Try.t112.bytes, Try.t112.zero.getD undef⟩),
  (113, ⟨Try.t36.desc, Try.t113.size, Try.t113.bytes, Try.t113.zero.getD undef⟩),
  (116, ⟨Try.t116.desc, Try.t116.size, Try.t116.bytes, Try.t116.zero.getD undef⟩),
  (118, ⟨Try.t118.desc, Try.t118.size, Try.t118.bytes, Try.t118.zero.getD undef⟩),
  (122, ⟨Try.t122.desc, Try.t122.size, Try.t122.bytes, Try.t122.zero.getD undef⟩),
  (123, ⟨Try.t122.desc, Try.t123.size, Try.t123.bytes, Try.t123.zero.getD undef⟩),
  (124, ⟨Try.t124.desc, Try.t124.size, Try.t124.bytes, Try.t124.zero.getD undef⟩),
  (125, ⟨Try.t125.desc, Try.t125.size, Try.t125.bytes, Try.t125.zero.getD undef⟩),
  (126, ⟨Try.t125.desc, Try.t126.size, Try.t126.bytes, Try.t126.zero.getD undef⟩),
  (128, ⟨Try.t5.desc, Try.t128.size, Try.t128.bytes, Try.t128.zero.getD undef⟩),
  (129, ⟨Try.t5.desc, Try.t129.size, Try.t129.bytes, Try.t129.zero.getD undef⟩),
  (131, ⟨Try.t131.desc, Try.t131.size, Try.t131.bytes, Try.t131.zero.getD undef⟩),
  (132, ⟨Try.t21.desc, Try.t132.size, Try.t132.bytes, Try.t132.zero.getD undef⟩),
  (133, ⟨Try.t21.desc, Try.t133.size, Try.t133.bytes, Try.t133.zero.getD undef⟩),
  (134, ⟨Try.t134.desc, Try.t134.size, Try.t134.bytes, Try.t134.zero.getD undef⟩),
  (135, ⟨Try.t134.desc, Try.t135.size, Try.t135.bytes, Try.t135.zero.getD undef⟩),
  (136, ⟨Try.t136.desc, Try.t136.size, Try.t136.bytes, Try.t136.zero.getD undef⟩)]
theorem good2 : Good Try.prog 2 ⟨Try.t2.desc, Try.t2.size, Try.t2.bytes, Try.t2.zero.getD undef⟩ := ⟨Try.underlying2, Try.t2, by kernel_rfl, rfl, rfl, rfl⟩
theorem good3 : Good Try.prog 3 ⟨Try.t3.desc, Try.t3.size, Try.t3.bytes, Try.t3.zero.getD undef⟩ := ⟨Try.underlying3, Try.t3, by kernel_rfl, rfl, rfl, rfl⟩
theorem good4 : Good Try.prog 4 ⟨Try.t4.desc, Try.t4.size, Try.t4.bytes, Try.t4.zero.getD undef⟩ := ⟨Try.underlying4, Try.t4, by kernel_rfl, rfl, rfl, rfl⟩
theorem good5 : Good Try.prog 5 ⟨Try.t5.desc, Try.t5.size, Try.t5.bytes, Try.t5.zero.getD undef⟩ := ⟨Try.underlying5, Try.t5, by kernel_rfl, rfl, rfl, rfl⟩
theorem good6 : Good Try.prog 6 ⟨Try.t5.desc, Try.t6.size, Try.t6.bytes, Try.t6.zero.getD undef⟩ := ⟨Try.underlying6, Try.t6, by kernel_rfl, rfl, rfl, rfl⟩
theorem good7 : Good Try.prog 7 ⟨Try.t7.desc, Try.t7.size, Try.t7.bytes, Try.t7.zero.getD undef⟩ := ⟨Try.underlying7, Try.t7, by kernel_rfl, rfl, rfl, rfl⟩
theorem good8 : Good Try.prog 8 ⟨Try.t7.desc, Try.t8.size, Try.t8.bytes, Try.t8.zero.getD undef⟩ := ⟨Try.underlying8, Try.t8, by kernel_rfl, rfl, rfl, rfl⟩
theorem good9 : Good Try.prog 9 ⟨Try.t9.desc, Try.t9.size, Try.t9.bytes, Try.t9.zero.getD undef⟩ := ⟨Try.underlying9, Try.t9, by kernel_rfl, rfl, rfl, rfl⟩
theorem good10 : Good Try.prog 10 ⟨Try.t9.desc, Try.t10.size, Try.t10.bytes, Try.t10.zero.getD undef⟩ := ⟨Try.underlying10, Try.t10, by kernel_rfl, rfl, rfl, rfl⟩
theorem good11 : Good Try.prog 11 ⟨Try.t9.desc, Try.t11.size, Try.t11.bytes, Try.t11.zero.getD undef⟩ := ⟨Try.underlying11, Try.t11, by kernel_rfl, rfl, rfl, rfl⟩
theorem good12 : Good Try.prog 12 ⟨Try.t12.desc, Try.t12.size, Try.t12.bytes, Try.t12.zero.getD undef⟩ := ⟨Try.underlying12, Try.t12, by kernel_rfl, rfl, rfl, rfl⟩
theorem good13 : Good Try.prog 13 ⟨Try.t13.desc, Try.t13.size, Try.t13.bytes, Try.t13.zero.getD undef⟩ := ⟨Try.underlying13, Try.t13, by kernel_rfl, rfl, rfl, rfl⟩
theorem good14 : Good Try.prog 14 ⟨Try.t13.desc, Try.t14.size, Try.t14.bytes, Try.t14.zero.getD undef⟩ := ⟨Try.underlying14, Try.t14, by kernel_rfl, rfl, rfl, rfl⟩
theorem good15 : Good Try.prog 15 ⟨Try.t15.desc, Try.t15.size, Try.t15.bytes, Try.t15.zero.getD undef⟩ := ⟨Try.underlying15, Try.t15, by kernel_rfl, rfl, rfl, rfl⟩
theorem good16 : Good Try.prog 16 ⟨Try.t16.desc, Try.t16.size, Try.t16.bytes, Try.t16.zero.getD undef⟩ := ⟨Try.underlying16, Try.t16, by kernel_rfl, rfl, rfl, rfl⟩
theorem good17 : Good Try.prog 17 ⟨Try.t17.desc, Try.t17.size, Try.t17.bytes, Try.t17.zero.getD undef⟩ := ⟨Try.underlying17, Try.t17, by kernel_rfl, rfl, rfl, rfl⟩
theorem good18 : Good Try.prog 18 ⟨Try.t18.desc, Try.t18.size, Try.t18.bytes, Try.t18.zero.getD undef⟩ := ⟨Try.underlying18, Try.t18, by kernel_rfl, rfl, rfl, rfl⟩
theorem good19 : Good Try.prog 19 ⟨Try.t18.desc, Try.t19.size, Try.t19.bytes, Try.t19.zero.getD undef⟩ := ⟨Try.underlying19, Try.t19, by kernel_rfl, rfl, rfl, rfl⟩
theorem good20 : Good Try.prog 20 ⟨Try.t20.desc, Try.t20.size, Try.t20.bytes, Try.t20.zero.getD undef⟩ := ⟨Try.underlying20, Try.t20, by kernel_rfl, rfl, rfl, rfl⟩
theorem good21 : Good Try.prog 21 ⟨Try.t21.desc, Try.t21.size, Try.t21.bytes, Try.t21.zero.getD undef⟩ := ⟨Try.underlying21, Try.t21, by kernel_rfl, rfl, rfl, rfl⟩
theorem good22 : Good Try.prog 22 ⟨Try.t22.desc, Try.t22.size, Try.t22.bytes, Try.t22.zero.getD undef⟩ := ⟨Try.underlying22, Try.t22, by kernel_rfl, rfl, rfl, rfl⟩
theorem good25 : Good Try.prog 25 ⟨Try.t25.desc, Try.t25.size, Try.t25.bytes, Try.t25.zero.getD undef⟩ := ⟨Try.underlying25, Try.t25, by kernel_rfl, rfl, rfl, rfl⟩
theorem good26 : Good Try.prog 26 ⟨Try.t25.desc, Try.t26.size, Try.t26.bytes, Try.t26.zero.getD undef⟩ := ⟨Try.underlying26, Try.t26, by kernel_rfl, rfl, rfl, rfl⟩
theorem good30 : Good Try.prog 30 ⟨Try.t30.desc, Try.t30.size, Try.t30.bytes, Try.t30.zero.getD undef⟩ := ⟨Try.underlying30, Try.t30, by kernel_rfl, rfl, rfl, rfl⟩
theorem good36 : Good Try.prog 36 ⟨Try.t36.desc, Try.t36.size, Try.t36.bytes, Try.t36.zero.getD undef⟩ := ⟨Try.underlying36, Try.t36, by kernel_rfl, rfl, rfl, rfl⟩
theorem good48 : Good Try.prog 48 ⟨Try.t48.desc, Try.t48.size, Try.t48.bytes, Try.t48.zero.getD undef⟩ := ⟨Try.underlying48, Try.t48, by kernel_rfl, rfl, rfl, rfl⟩
theorem good49 : Good Try.prog 49 ⟨Try.t48.desc, Try.t49.size, Try.t49.bytes, Try.t49.zero.getD undef⟩ := ⟨Try.underlying49, Try.t49, by kernel_rfl, rfl, rfl, rfl⟩
theorem good53 : Good Try.prog 53 ⟨Try.t48.desc, Try.t53.size, Try.t53.bytes, Try.t53.zero.getD undef⟩ := ⟨Try.underlying53, Try.t53, by kernel_rfl, rfl, rfl, rfl⟩
theorem good55 : Good Try.prog 55 ⟨Try.t55.desc, Try.t55.size, Try.t55.bytes, Try.t55.zero.getD undef⟩ := ⟨Try.underlying55, Try.t55, by kernel_rfl, rfl, rfl, rfl⟩
theorem good56 : Good Try.prog 56 ⟨Try.t56.desc, Try.t56.size, Try.t56.bytes, Try.t56.zero.getD undef⟩ := ⟨Try.underlying56, Try.t56, by kernel_rfl, rfl, rfl, rfl⟩
theorem good57 : Good Try.prog 57 ⟨Try.t57.desc, Try.t57.size, Try.t57.bytes, Try.t57.zero.getD undef⟩ := ⟨Try.underlying57, Try.t57, by kernel_rfl, rfl, rfl, rfl⟩
theorem good58 : Good Try.prog 58 ⟨Try.t57.desc, Try.t58.size, Try.t58.bytes, Try.t58.zero.getD undef⟩ := ⟨Try.underlying58, Try.t58, by kernel_rfl, rfl, rfl, rfl⟩
theorem good60 : Good Try.prog 60 ⟨Try.t60.desc, Try.t60.size, Try.t60.bytes, Try.t60.zero.getD undef⟩ := ⟨Try.underlying60, Try.t60, by kernel_rfl, rfl, rfl, rfl⟩
theorem good61 : Good Try.prog 61 ⟨Try.t60.desc, Try.t61.size, Try.t61.bytes, Try.t61.zero.getD undef⟩ := ⟨Try.underlying61, Try.t61, by kernel_rfl, rfl, rfl, rfl⟩
theorem good66 : Good Try.prog 66 ⟨Try.t66.desc, Try.t66.size, Try.t66.bytes, Try.t66.zero.getD undef⟩ := ⟨Try.underlying66, Try.t66, by kernel_rfl, rfl, rfl, rfl⟩
theorem good68 : Good Try.prog 68 ⟨Try.t68.desc, Try.t68.size, Try.t68.bytes, Try.t68.zero.getD undef⟩ := ⟨Try.underlying68, Try.t68, by kernel_rfl, rfl, rfl, rfl⟩
theorem good69 : Good Try.prog 69 ⟨Try.t68.desc, Try.t69.size, Try.t69.bytes, Try.t69.zero.getD undef⟩ := ⟨Try.underlying69, Try.t69, by kernel_rfl, rfl, rfl, rfl⟩
theorem good75 : Good Try.prog 75 ⟨Try.t75.desc, Try.t75.size, Try.t75.bytes, Try.t75.zero.getD undef⟩ := ⟨Try.underlying75, Try.t75, by kernel_rfl, rfl, rfl, rfl⟩
theorem good96 : Good Try.prog 96 ⟨Try.t96.desc, Try.t96.size, Try.t96.bytes, Try.t96.zero.getD undef⟩ := ⟨Try.underlying96, Try.t96, by kernel_rfl, rfl, rfl, rfl⟩
theorem good100 : Good Try.prog 100 ⟨Try.t100.desc, Try.t100.size, Try.t100.bytes, Try.t100.zero.getD undef⟩ := ⟨Try.underlying100, Try.t100, by kernel_rfl, rfl, rfl, rfl⟩
theorem good103 : Good Try.prog 103 ⟨Try.t3.desc, Try.t103.size, Try.t103.bytes, Try.t103.zero.getD undef⟩ := ⟨Try.underlying103, Try.t103, by kernel_rfl, rfl, rfl, rfl⟩
theorem good112 : Good Try.prog 112 ⟨Try.t112.desc, Try.t112.size, Try.t112.bytes, Try.t112.zero.getD undef⟩ := ⟨Try.underlying112, Try.t112, by kernel_rfl, rfl, rfl, rfl⟩
theorem good113 : Good Try.prog 113 ⟨Try.t36.desc, Try.t113.size, Try.t113.bytes, Try.t113.zero.getD undef⟩ := ⟨Try.underlying113, Try.t113, by kernel_rfl, rfl, rfl, rfl⟩
theorem good116 : Good Try.prog 116 ⟨Try.t116.desc, Try.t116.size, Try.t116.bytes, Try.t116.zero.getD undef⟩ := ⟨Try.underlying116, Try.t116, by kernel_rfl, rfl, rfl, rfl⟩
theorem good118 : Good Try.prog 118 ⟨Try.t118.desc, Try.t118.size, Try.t118.bytes, Try.t118.zero.getD undef⟩ := ⟨Try.underlying118, Try.t118, by kernel_rfl, rfl, rfl, rfl⟩
theorem good122 : Good Try.prog 122 ⟨Try.t122.desc, Try.t122.size, Try.t122.bytes, Try.t122.zero.getD undef⟩ := ⟨Try.underlying122, Try.t122, by kernel_rfl, rfl, rfl, rfl⟩
theorem good123 : Good Try.prog 123 ⟨Try.t122.desc, Try.t123.size, Try.t123.bytes, Try.t123.zero.getD undef⟩ := ⟨Try.underlying123, Try.t123, by kernel_rfl, rfl, rfl, rfl⟩
theorem good124 : Good Try.prog 124 ⟨Try.t124.desc, Try.t124.size, Try.t124.bytes, Try.t124.zero.getD undef⟩ := ⟨Try.underlying124, Try.t124, by kernel_rfl, rfl, rfl, rfl⟩
theorem good125 : Good Try.prog 125 ⟨Try.t125.desc, Try.t125.size, Try.t125.bytes, Try.t125.zero.getD undef⟩ := ⟨Try.underlying125, Try.t125, by kernel_rfl, rfl, rfl, rfl⟩
theorem good126 : Good Try.prog 126 ⟨Try.t125.desc, Try.t126.size, Try.t126.bytes, Try.t126.zero.getD undef⟩ := ⟨Try.underlying126, Try.t126, by kernel_rfl, rfl, rfl, rfl⟩
theorem good128 : Good Try.prog 128 ⟨Try.t5.desc, Try.t128.size, Try.t128.bytes, Try.t128.zero.getD undef⟩ := ⟨Try.underlying128, Try.t128, by kernel_rfl, rfl, rfl, rfl⟩
theorem good129 : Good Try.prog 129 ⟨Try.t5.desc, Try.t129.size, Try.t129.bytes, Try.t129.zero.getD undef⟩ := ⟨Try.underlying129, Try.t129, by kernel_rfl, rfl, rfl, rfl⟩
theorem good131 : Good Try.prog 131 ⟨Try.t131.desc, Try.t131.size, Try.t131.bytes, Try.t131.zero.getD undef⟩ := ⟨Try.underlying131, Try.t131, by kernel_rfl, rfl, rfl, rfl⟩
theorem good132 : Good Try.prog 132 ⟨Try.t21.desc, Try.t132.size, Try.t132.bytes, Try.t132.zero.getD undef⟩ := ⟨Try.underlying132, Try.t132, by kernel_rfl, rfl, rfl, rfl⟩
theorem good133 : Good Try.prog 133 ⟨Try.t21.desc, Try.t133.size, Try.t133.bytes, Try.t133.zero.getD undef⟩ := ⟨Try.underlying133, Try.t133, by kernel_rfl, rfl, rfl, rfl⟩
theorem good134 : Good Try.prog 134 ⟨Try.t134.desc, Try.t134.size, Try.t134.bytes, Try.t134.zero.getD undef⟩ := ⟨Try.underlying134, Try.t134, by kernel_rfl, rfl, rfl, rfl⟩
theorem good135 : Good Try.prog 135 ⟨Try.t134.desc, Try.t135.size, Try.t135.bytes, Try.t135.zero.getD undef⟩ := ⟨Try.underlying135, Try.t135, by kernel_rfl, rfl, rfl, rfl⟩
theorem good136 : Good Try.prog 136 ⟨Try.t136.desc, Try.t136.size, Try.t136.bytes, Try.t136.zero.getD undef⟩ := ⟨Try.underlying136, Try.t136, by kernel_rfl, rfl, rfl, rfl⟩
theorem tabOk : TabOk Try.prog tab := .cons good2 <| .cons good3 <| .cons good4 <| .cons good5 <| .cons good6 <| .cons good7 <| .cons good8 <| .cons good9 <| .cons good10 <| .cons good11 <| .cons good12 <| .cons good13 <| .cons good14 <| .cons good15 <| .cons good16 <| .cons good17 <| .cons good18 <| .cons good19 <| .cons good20 <| .cons good21 <| .cons good22 <| .cons good25 <| .cons good26 <| .cons good30 <| .cons good36 <| .cons good48 <| .cons good49 <| .cons good53 <| .cons good55 <| .cons good56 <| .cons good57 <| .cons good58 <| .cons good60 <| .cons good61 <| .cons good66 <| .cons good68 <| .cons good69 <| .cons good75 <| .cons good96 <| .cons good100 <| .cons good103 <| .cons good112 <| .cons good113 <| .cons good116 <| .cons good118 <| .cons good122 <| .cons good123 <| .cons good124 <| .cons good125 <| .cons good126 <| .cons good128 <| .cons good129 <| .cons good131 <| .cons good132 <| .cons good133 <| .cons good134 <| .cons good135 <| .cons good136 <| TabOk.nil _
end Go.Proofs.Ytgjibkocpmajdaa
