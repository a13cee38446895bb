/-
  The table of the seat's types for the engine of rules, made by a program of this repo (mktab.py). No condition.
-/
import Derived.Test.YtcnpfempfgljfaaChecked
import Derived.Test.YtcnpfempfgljfaaEngG
namespace Go.Proofs.Ytcnpfempfgljfaa
open Go
set_option linter.unusedVariables false
noncomputable def tab : Tab := [(2, ⟨Try.t2.desc, Try.t2.size, Try.t2.bytes, Try.t2.zero.getD undef⟩),
  (3, ⟨Try.t3.desc, Try.t3.size, Try.t3.bytes, Try.t3.zero.getD undef⟩),
  (4, ⟨Try.t4.desc, Try.t4.size, Try.t4.bytes, Try.t4.zero.getD undef⟩),
  (5, ⟨Try.t5.desc, Try.t5.size, Try.t5.bytes, Try.t5.zero.getD undef⟩),
  (6, ⟨Try.t5.desc, Try.t6.size, Try.t6.bytes, Try.t6.zero.getD undef⟩),
  (7, ⟨Try.t7.desc, Try.t7.size, Try.t7.bytes, Try.t7.zero.getD undef⟩),
  (8, ⟨Try.t7.desc, Try.t8.size, Try.t8.bytes, Try.t8.zero.getD undef⟩),
  (9, ⟨Try.t9.desc, Try.t9.size, Try.t9.bytes, Try.t9.zero.getD undef⟩),
  (10, ⟨Try.t9.desc, Try.t10.size, Try.t10.bytes, Try.t10.zero.getD undef⟩),
  (11, ⟨Try.t9.desc, Try.t11.size, Try.t11.bytes, Try.t11.zero.getD undef⟩),
  (12, ⟨Try.t12.desc, Try.t12.size, Try.t12.bytes, Try.t12.zero.getD undef⟩),
  (13, ⟨Try.t13.desc, Try.t13.size, Try.t13.bytes, Try.t13.zero.getD undef⟩),
  (14, ⟨Try.t13.desc, Try.t14.size, Try.t14.bytes, Try.t14.zero.getD undef⟩),
  (15, ⟨Try.t15.desc, Try.t15.size, Try.t15.bytes, Try.t15.zero.getD undef⟩),
  (16, ⟨Try.t16.desc, Try.t16.size, Try.t16.bytes, Try.t16.zero.getD undef⟩),
  (17, ⟨Try.t17.desc, Try.t17.size, Try.t17.bytes, Try.t17.zero.getD undef⟩),
  (18, ⟨Try.t18.desc, Try.t18.size, Try.t18.bytes, Try.t18.zero.getD undef⟩),
  (19, ⟨Try.t18.desc, Try.t19.size, Try.t19.bytes, Try.t19.zero.getD undef⟩),
  (20, ⟨Try.t20.desc, Try.t20.size, Try.t20.bytes, Try.t20.zero.getD undef⟩),
  (21, ⟨Try.t21.desc, Try.t21.size, Try.t21.bytes, Try.t21.zero.getD undef⟩),
  (22, ⟨Try.t22.desc, Try.t22.size, Try.t22.bytes, Try.t22.zero.getD undef⟩),
  (23, ⟨Try.t23.desc, Try.t23.size, Try.t23.bytes, Try.t23.zero.getD undef⟩),
  (30, ⟨Try.t30.desc, Try.t30.size, Try.t30.bytes, Try.t30.zero.getD undef⟩),
  (33, ⟨Try.t3.desc, Try.t33.size, Try.t33.bytes, Try.t33.zero.getD undef⟩),
  (37, ⟨Try.t37.desc, Try.t37.size, Try.t37.bytes, Try.t37.zero.getD undef⟩),
  (38, ⟨Try.t37.desc, Try.t38.size, Try.t38.bytes, Try.t38.zero.getD undef⟩),
  (39, ⟨Try.t39.desc, Try.t39.size, Try.t39.bytes, Try.t39.zero.getD undef⟩),
  (40, ⟨Try.t39.desc, Try.t40.size, Try.t40.bytes, Try.t40.zero.getD undef⟩),
  (41, ⟨Try.t41.desc, Try.t41.size, Try.t41.bytes, Try.t41.zero.getD undef⟩),
  (43, ⟨Try.t37.desc, Try.t43.size, Try.t43.bytes, Try.t43.zero.getD undef⟩),
  (54, ⟨Try.t54.desc, Try.t54.size, Try.t54.bytes, Try.t54.zero.getD undef⟩),
  (55, ⟨Try.t55.desc, Try.t55.size, Try.t55.bytes, Try.t55.zero.getD undef⟩),
  (57, ⟨Try.t57.desc, Try.t57.size, Try.t57.bytes, Try.t57.zero.getD undef⟩),
  (58, ⟨Try.t58.desc, Try.t58.size, Try.t58.bytes, Try.t58.zero.getD undef⟩),
  (59, ⟨Try.t59.desc, Try.t59.size, Try.t59.bytes, Try.t59.zero.getD undef⟩),
  (60, ⟨Try.t59.desc, Try.t60.size, Try.t60.bytes, Try.t60.zero.getD undef⟩),
  (61, ⟨Try.t61.desc, Try.t61.size, Try.t61.bytes, Try.t61.zero.getD undef⟩),
  (62, ⟨Try.t61.desc, Try.t62.size, Try.t62.bytes, Try.t62.zero.getD undef⟩),
  (67, ⟨Try.t67.desc, Try.t67.size, Try.t67.bytes, Try.t67.zero.getD undef⟩),
  (75, ⟨Try.t75.desc, Try.t75.size, Try.t75.bytes, Try.t75.zero.getD undef⟩),
  (76, ⟨Try.t75.desc, Try.t76.size, Try.t76.bytes, Try.t76.zero.getD undef⟩),
  (78, ⟨Try.t78.desc, Try.t78.size, Try.t78.bytes, Try.t78.zero.getD undef⟩),
  (79, ⟨Try.t78.desc, Try.t79.size, Try.t79.bytes, Try.t79.zero.getD undef⟩),
  (84, ⟨Try.t84.desc, Try.t84.size, Try.t84.bytes, Try.t84.zero.getD undef⟩),
  (85, ⟨Try.t85.desc, Try.t85.size, Try.t85.bytes, Try.t85.zero.getD undef⟩),
  (87, ⟨Try.t87.desc, Try.t87.size, Try.t87.bytes, Try.t87.zero.getD undef⟩),
  (88, ⟨Try.t87.desc, Try.t88.size, Try.t88.bytes, Try.t88.zero.getD undef⟩),
  (97, ⟨Try.t97.desc, Try.t97.size, Try.t97.bytes, Try.t97.zero.getD undef⟩),
  (98, ⟨Try.t97.desc, Try.t98.size, Try.t98.bytes, Try.t98.zero.getD undef⟩),
  (99, ⟨Try.t99.desc, Try.t99.size, Try.t99.bytes, Try.t99.zero.getD undef⟩),
  (100, ⟨Try.t100.desc, Try.t100.size, Try.t100.bytes, Try.t100.zero.getD undef⟩),
  (101, ⟨Try.t100.desc, Try.t101.size, Try.t101.bytes, Try.t101.zero.getD undef⟩),
  (102, ⟨Try.t102.desc, Try.t102.size, Try.t102.bytes, Try.t102.zero.getD undef⟩),
  (103, ⟨Try.t5.desc, Try.t103.size, Try.t103.bytes, Try.t103.zero.getD undef⟩),
  (104, ⟨Try.t5.desc, Try.t104.size, Try.t104.bytes, Try.t104.zero.getD undef⟩),
  (106, ⟨Try.t106.desc, Try.t106.size, Try.t106.bytes, Try.t106.zero.getD undef⟩),
  (107, ⟨Try.t21.desc, Try.t107.size, Try.t107.bytes, Try.t107.zero.getD undef⟩),
  (108, ⟨Try.t21.desc, Try.t108.size, Try.t108.bytes, Try.t108.zero.getD undef⟩),
  (109, ⟨Try.t109.desc, Try.t109.size, Try.t109.bytes, Try.t109.zero.getD undef⟩),
  (110, ⟨Try.t109.desc, Try.t110.size, Try.t110.bytes, Try.t110.zero.getD undef⟩),
  (111, ⟨Try.t111.desc, Try.t111.size, Try.t111.bytes, Try.t111.zero.getD undef⟩)]
theorem good2 : Good Try.prog 2 ⟨Try.t2.desc, Try.t2.size, Try.t2.bytes, Try.t2.zero.getD undef⟩ := ⟨Try.underlying2, Try.t2, by kernel_rfl, rfl, rfl, rfl⟩
theorem good3 : Good Try.prog 3 ⟨Try.t3.desc, Try.t3.size, Try.t3.bytes, Try.t3.zero.getD undef⟩ := ⟨Try.underlying3, Try.t3, by kernel_rfl, rfl, rfl, rfl⟩
theorem good4 : Good Try.prog 4 ⟨Try.t4.desc, Try.t4.size, Try.t4.bytes, Try.t4.zero.getD undef⟩ := ⟨Try.underlying4, Try.t4, by kernel_rfl, rfl, rfl, rfl⟩
theorem good5 : Good Try.prog 5 ⟨Try.t5.desc, Try.t5.size, Try.t5.bytes, Try.t5.zero.getD undef⟩ := ⟨Try.underlying5, Try.t5, by kernel_rfl, rfl, rfl, rfl⟩
theorem good6 : Good Try.prog 6 ⟨Try.t5.desc, Try.t6.size, Try.t6.bytes, Try.t6.zero.getD undef⟩ := ⟨Try.underlying6, Try.t6, by kernel_rfl, rfl, rfl, rfl⟩
theorem good7 : Good Try.prog 7 ⟨Try.t7.desc, Try.t7.size, Try.t7.bytes, Try.t7.zero.getD undef⟩ := ⟨Try.underlying7, Try.t7, by kernel_rfl, rfl, rfl, rfl⟩
theorem good8 : Good Try.prog 8 ⟨Try.t7.desc, Try.t8.size, Try.t8.bytes, Try.t8.zero.getD undef⟩ := ⟨Try.underlying8, Try.t8, by kernel_rfl, rfl, rfl, rfl⟩
theorem good9 : Good Try.prog 9 ⟨Try.t9.desc, Try.t9.size, Try.t9.bytes, Try.t9.zero.getD undef⟩ := ⟨Try.underlying9, Try.t9, by kernel_rfl, rfl, rfl, rfl⟩
theorem good10 : Good Try.prog 10 ⟨Try.t9.desc, Try.t10.size, Try.t10.bytes, Try.t10.zero.getD undef⟩ := ⟨Try.underlying10, Try.t10, by kernel_rfl, rfl, rfl, rfl⟩
theorem good11 : Good Try.prog 11 ⟨Try.t9.desc, Try.t11.size, Try.t11.bytes, Try.t11.zero.getD undef⟩ := ⟨Try.underlying11, Try.t11, by kernel_rfl, rfl, rfl, rfl⟩
theorem good12 : Good Try.prog 12 ⟨Try.t12.desc, Try.t12.size, Try.t12.bytes, Try.t12.zero.getD undef⟩ := ⟨Try.underlying12, Try.t12, by kernel_rfl, rfl, rfl, rfl⟩
theorem good13 : Good Try.prog 13 ⟨Try.t13.desc, Try.t13.size, Try.t13.bytes, Try.t13.zero.getD undef⟩ := ⟨Try.underlying13, Try.t13, by kernel_rfl, rfl, rfl, rfl⟩
theorem good14 : Good Try.prog 14 ⟨Try.t13.desc, Try.t14.size, Try.t14.bytes, Try.t14.zero.getD undef⟩ := ⟨Try.underlying14, Try.t14, by kernel_rfl, rfl, rfl, rfl⟩
theorem good15 : Good Try.prog 15 ⟨Try.t15.desc, Try.t15.size, Try.t15.bytes, Try.t15.zero.getD undef⟩ := ⟨Try.underlying15, Try.t15, by kernel_rfl, rfl, rfl, rfl⟩
theorem good16 : Good Try.prog 16 ⟨Try.t16.desc, Try.t16.size, Try.t16.bytes, Try.t16.zero.getD undef⟩ := ⟨Try.underlying16, Try.t16, by kernel_rfl, rfl, rfl, rfl⟩
theorem good17 : Good Try.prog 17 ⟨Try.t17.desc, Try.t17.size, Try.t17.bytes, Try.t17.zero.getD undef⟩ := ⟨Try.underlying17, Try.t17, by kernel_rfl, rfl, rfl, rfl⟩
theorem good18 : Good Try.prog 18 ⟨Try.t18.desc, Try.t18.size, Try.t18.bytes, Try.t18.zero.getD undef⟩ := ⟨Try.underlying18, Try.t18, by kernel_rfl, rfl, rfl, rfl⟩
theorem good19 : Good Try.prog 19 ⟨Try.t18.desc, Try.t19.size, Try.t19.bytes, Try.t19.zero.getD undef⟩ := ⟨Try.underlying19, Try.t19, by kernel_rfl, rfl, rfl, rfl⟩
theorem good20 : Good Try.prog 20 ⟨Try.t20.desc, Try.t20.size, Try.t20.bytes, Try.t20.zero.getD undef⟩ := ⟨Try.underlying20, Try.t20, by kernel_rfl, rfl, rfl, rfl⟩
theorem good21 : Good Try.prog 21 ⟨Try.t21.desc, Try.t21.size, Try.t21.bytes, Try.t21.zero.getD undef⟩ := ⟨Try.underlying21, Try.t21, by kernel_rfl, rfl, rfl, rfl⟩
theorem good22 : Good Try.prog 22 ⟨Try.t22.desc, Try.t22.size, Try.t22.bytes, Try.t22.zero.getD undef⟩ := ⟨Try.underlying22, Try.t22, by kernel_rfl, rfl, rfl, rfl⟩
theorem good23 : Good Try.prog 23 ⟨Try.t23.desc, Try.t23.size, Try.t23.bytes, Try.t23.zero.getD undef⟩ := ⟨Try.underlying23, Try.t23, by kernel_rfl, rfl, rfl, rfl⟩
theorem good30 : Good Try.prog 30 ⟨Try.t30.desc, Try.t30.size, Try.t30.bytes, Try.t30.zero.getD undef⟩ := ⟨Try.underlying30, Try.t30, by kernel_rfl, rfl, rfl, rfl⟩
theorem good33 : Good Try.prog 33 ⟨Try.t3.desc, Try.t33.size, Try.t33.bytes, Try.t33.zero.getD undef⟩ := ⟨Try.underlying33, Try.t33, by kernel_rfl, rfl, rfl, rfl⟩
theorem good37 : Good Try.prog 37 ⟨Try.t37.desc, Try.t37.size, Try.t37.bytes, Try.t37.zero.getD undef⟩ := ⟨Try.underlying37, Try.t37, by kernel_rfl, rfl, rfl, rfl⟩
theorem good38 : Good Try.prog 38 ⟨Try.t37.desc, Try.t38.size, Try.t38.bytes, Try.t38.zero.getD undef⟩ := ⟨Try.underlying38, Try.t38, by kernel_rfl, rfl, rfl, rfl⟩
theorem good39 : Good Try.prog 39 ⟨Try.t39.desc, Try.t39.size, Try.t39.bytes, Try.t39.zero.getD undef⟩ := ⟨Try.underlying39, Try.t39, by kernel_rfl, rfl, rfl, rfl⟩
theorem good40 : Good Try.prog 40 ⟨Try.t39.desc, Try.t40.size, Try.t40.bytes, Try.t40.zero.getD undef⟩ := ⟨Try.underlying40, Try.t40, by kernel_rfl, rfl, rfl, rfl⟩
theorem good41 : Good Try.prog 41 ⟨Try.t41.desc, Try.t41.size, Try.t41.bytes, Try.t41.zero.getD undef⟩ := ⟨Try.underlying41, Try.t41, by kernel_rfl, rfl, rfl, rfl⟩
theorem good43 : Good Try.prog 43 ⟨Try.t37.desc, Try.t43.size, Try.t43.bytes, Try.t43.zero.getD undef⟩ := ⟨Try.underlying43, Try.t43, by kernel_rfl, rfl, rfl, rfl⟩
theorem good54 : Good Try.prog 54 ⟨Try.t54.desc, Try.t54.size, Try.t54.bytes, Try.t54.zero.getD undef⟩ := ⟨Try.underlying54, Try.t54, by kernel_rfl, rfl, rfl, rfl⟩
theorem good55 : Good Try.prog 55 ⟨Try.t55.desc, Try.t55.size, Try.t55.bytes, Try.t55.zero.getD undef⟩ := ⟨Try.underlying55, Try.t55, by kernel_rfl, rfl, rfl, rfl⟩
theorem good57 : Good Try.prog 57 ⟨Try.t57.desc, Try.t57.size, Try.t57.bytes, Try.t57.zero.getD undef⟩ := ⟨Try.underlying57, Try.t57, by kernel_rfl, rfl, rfl, rfl⟩
theorem good58 : Good Try.prog 58 ⟨Try.t58.desc, Try.t58.size, Try.t58.bytes, Try.t58.zero.getD undef⟩ := ⟨Try.underlying58, Try.t58, by kernel_rfl, rfl, rfl, rfl⟩
theorem good59 : Good Try.prog 59 ⟨Try.t59.desc, Try.t59.size, Try.t59.bytes, Try.t59.zero.getD undef⟩ := ⟨Try.underlying59, Try.t59, by kernel_rfl, rfl, rfl, rfl⟩
theorem good60 : Good Try.prog 60 ⟨Try.t59.desc, Try.t60.size, Try.t60.bytes, Try.t60.zero.getD undef⟩ := ⟨Try.underlying60, Try.t60, by kernel_rfl, rfl, rfl, rfl⟩
theorem good61 : Good Try.prog 61 ⟨Try.t61.desc, Try.t61.size, Try.t61.bytes, Try.t61.zero.getD undef⟩ := ⟨Try.underlying61, Try.t61, by kernel_rfl, rfl, rfl, rfl⟩
theorem good62 : Good Try.prog 62 ⟨Try.t61.desc, Try.t62.size, Try.t62.bytes, Try.t62.zero.getD undef⟩ := ⟨Try.underlying62, Try.t62, by kernel_rfl, rfl, rfl, rfl⟩
theorem good67 : Good Try.prog 67 ⟨Try.t67.desc, Try.t67.size, Try.t67.bytes, Try.t67.zero.getD undef⟩ := ⟨Try.underlying67, Try.t67, by kernel_rfl, rfl, rfl, rfl⟩
theorem good75 : Good Try.prog 75 ⟨Try.t75.desc, Try.t75.size, Try.t75.bytes, Try.t75.zero.getD undef⟩ := ⟨Try.underlying75, Try.t75, by kernel_rfl, rfl, rfl, rfl⟩
theorem good76 : Good Try.prog 76 ⟨Try.t75.desc, Try.t76.size, Try.t76.bytes, Try.t76.zero.getD undef⟩ := ⟨Try.underlying76, Try.t76, by kernel_rfl, rfl, rfl, rfl⟩
theorem good78 : Good Try.prog 78 ⟨Try.t78.desc, Try.t78.size, Try.t78.bytes, Try.t78.zero.getD undef⟩ := ⟨Try.underlying78, Try.t78, by kernel_rfl, rfl, rfl, rfl⟩
theorem good79 : Good Try.prog 79 ⟨Try.t78.desc, Try.t79.size, Try.t79.bytes, Try.t79.zero.getD undef⟩ := ⟨Try.underlying79, Try.t79, by kernel_rfl, rfl, rfl, rfl⟩
theorem good84 : Good Try.prog 84 ⟨Try.t84.desc, Try.t84.size, Try.t84.bytes, Try.t84.zero.getD undef⟩ := ⟨Try.underlying84, Try.t84, by kernel_rfl, rfl, rfl, rfl⟩
theorem good85 : Good Try.prog 85 ⟨Try.t85.desc, Try.t85.size, Try.t85.bytes, Try.t85.zero.getD undef⟩ := ⟨Try.underlying85, Try.t85, by kernel_rfl, rfl, rfl, rfl⟩
theorem good87 : Good Try.prog 87 ⟨Try.t87.desc, Try.t87.size, Try.t87.bytes, Try.t87.zero.getD undef⟩ := ⟨Try.underlying87, Try.t87, by kernel_rfl, rfl, rfl, rfl⟩
theorem good88 : Good Try.prog 88 ⟨Try.t87.desc, Try.t88.size, Try.t88.bytes, Try.t88.zero.getD undef⟩ := ⟨Try.underlying88, Try.t88, by kernel_rfl, rfl, rfl, rfl⟩
theorem good97 : Good Try.prog 97 ⟨Try.t97.desc, Try.t97.size, Try.t97.bytes, Try.t97.zero.getD undef⟩ := ⟨Try.underlying97, Try.t97, by kernel_rfl, rfl, rfl, rfl⟩
theorem good98 : Good Try.prog 98 ⟨Try.t97.desc, Try.t98.size, Try.t98.bytes, Try.t98.zero.getD undef⟩ := ⟨Try.underlying98, Try.t98, by kernel_rfl, rfl, rfl, rfl⟩
theorem good99 : Good Try.prog 99 ⟨Try.t99.desc, Try.t99.size, Try.t99.bytes, Try.t99.zero.getD undef⟩ := ⟨Try.underlying99, Try.t99, by kernel_rfl, rfl, rfl, rfl⟩
theorem good100 : Good Try.prog 100 ⟨Try.t100.desc, Try.t100.size, Try.t100.bytes, Try.t100.zero.getD undef⟩ := ⟨Try.underlying100, Try.t100, by kernel_rfl, rfl, rfl, rfl⟩
theorem good101 : Good Try.prog 101 ⟨Try.t100.desc, Try.t101.size, Try.t101.bytes, Try.t101.zero.getD undef⟩ := ⟨Try.underlying101, Try.t101, by kernel_rfl, rfl, rfl, rfl⟩
theorem good102 : Good Try.prog 102 ⟨Try.t102.desc, Try.t102.size, Try.t102.bytes, Try.t102.zero.getD undef⟩ := ⟨Try.underlying102, Try.t102, by kernel_rfl, rfl, rfl, rfl⟩
theorem good103 : Good Try.prog 103 ⟨Try.t5.desc, Try.t103.size, Try.t103.bytes, Try.t103.zero.getD undef⟩ := ⟨Try.underlying103, Try.t103, by kernel_rfl, rfl, rfl, rfl⟩
theorem good104 : Good Try.prog 104 ⟨Try.t5.desc, Try.t104.size, Try.t104.bytes, Try.t104.zero.getD undef⟩ := ⟨Try.underlying104, Try.t104, by kernel_rfl, rfl, rfl, rfl⟩
theorem good106 : Good Try.prog 106 ⟨Try.t106.desc, Try.t106.size, Try.t106.bytes, Try.t106.zero.getD undef⟩ := ⟨Try.underlying106, Try.t106, by kernel_rfl, rfl, rfl, rfl⟩
theorem good107 : Good Try.prog 107 ⟨Try.t21.desc, Try.t107.size, Try.t107.bytes, Try.t107.zero.getD undef⟩ := ⟨Try.underlying107, Try.t107, by kernel_rfl, rfl, rfl, rfl⟩
theorem good108 : Good Try.prog 108 ⟨Try.t21.desc, Try.t108.size, Try.t108.bytes, Try.t108.zero.getD undef⟩ := ⟨Try.underlying108, Try.t108, by kernel_rfl, rfl, rfl, rfl⟩
theorem good109 : Good Try.prog 109 ⟨Try.t109.desc, Try.t109.size, Try.t109.bytes, Try.t109.zero.getD undef⟩ := ⟨Try.underlying109, Try.t109, by kernel_rfl, rfl, rfl, rfl⟩
theorem good110 : Good Try.prog 110 ⟨Try.t109.desc, Try.t110.size, Try.t110.bytes, Try.t110.zero.getD undef⟩ := ⟨Try.underlying110, Try.t110, by kernel_rfl, rfl, rfl, rfl⟩
theorem good111 : Good Try.prog 111 ⟨Try.t111.desc, Try.t111.size, Try.t111.bytes, Try.t111.zero.getD undef⟩ := ⟨Try.underlying111, Try.t111, by kernel_rfl, rfl, rfl, rfl⟩
theorem tabOk : TabOk Try.prog tab := .cons good2 <| .cons good3 <| .cons good4 <| .cons good5 <| .cons good6 <| .cons good7 <| .cons good8 <| .cons good9 <| .cons good10 <| .cons good11 <| .cons good12 <| .cons good13 <| .cons good14 <| .cons good15 <| .cons good16 <| .cons good17 <| .cons good18 <| .cons good19 <| .cons good20 <| .cons good21 <| .cons good22 <| .cons good23 <| .cons good30 <| .cons good33 <| .cons good37 <| .cons good38 <| .cons good39 <| .cons good40 <| .cons good41 <| .cons good43 <| .cons good54 <| .cons good55 <| .cons good57 <| .cons good58 <| .cons good59 <| .cons good60 <| .cons good61 <| .cons good62 <| .cons good67 <| .cons good75 <| .cons good76 <| .cons good78 <| .cons good79 <| .cons good84 <| .cons good85 <| .cons good87 <| .cons good88 <| .cons good97 <| .cons good98 <| .cons good99 <| .cons good100 <| .cons good101 <| .cons good102 <| .cons good103 <| .cons good104 <| .cons good106 <| .cons good107 <| .cons good108 <| .cons good109 <| .cons good110 <| .cons good111 <| TabOk.nil _
end Go.Proofs.Ytcnpfempfgljfaa
