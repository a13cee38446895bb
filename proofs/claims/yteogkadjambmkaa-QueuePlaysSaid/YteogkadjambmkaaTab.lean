/-
  The table of the seat's types for the engine of rules, made by a program of this repo (mktab.py). No condition.
-/
import Derived.Test.YteogkadjambmkaaChecked
import Derived.Test.YteogkadjambmkaaEa
namespace Go.Proofs.Yteogkadjambmkaa
open Go
set_option linter.unusedVariables false
noncomputable def tab : Tab := [(2, ⟨Try.t2.desc, Try.t2.size, Try.t2.bytes, Try.t2.zero.getD undef⟩),
  (3, ⟨Try.t3.desc, Try.t3.size, Try.t3.bytes, Try.t3.zero.getD undef⟩),
  (4, ⟨Try.t4.desc, Try.t4.size, Try.t4.bytes, Try.t4.zero.getD undef⟩),
  (5, ⟨Try.t5.desc, Try.t5.size, Try.t5.bytes, Try.t5.zero.getD undef⟩),
  (6, ⟨Try.t5.desc, Try.t6.size, Try.t6.bytes, Try.t6.zero.getD undef⟩),
  (7, ⟨Try.t7.desc, Try.t7.size, Try.t7.bytes, Try.t7.zero.getD undef⟩),
  (8, ⟨Try.t7.desc, Try.t8.size, Try.t8.bytes, Try.t8.zero.getD undef⟩),
  (9, ⟨Try.t9.desc, Try.t9.size, Try.t9.bytes, Try.t9.zero.getD undef⟩),
  (10, ⟨Try.t9.desc, Try.t10.size, Try.t10.bytes, Try.t10.zero.getD undef⟩),
  (11, ⟨Try.t9.desc, Try.t11.size, Try.t11.bytes, Try.t11.zero.getD undef⟩),
  (12, ⟨Try.t12.desc, Try.t12.size, Try.t12.bytes, Try.t12.zero.getD undef⟩),
  (13, ⟨Try.t13.desc, Try.t13.size, Try.t13.bytes, Try.t13.zero.getD undef⟩),
  (14, ⟨Try.t13.desc, Try.t14.size, Try.t14.bytes, Try.t14.zero.getD undef⟩),
  (15, ⟨Try.t15.desc, Try.t15.size, Try.t15.bytes, Try.t15.zero.getD undef⟩),
  (16, ⟨Try.t16.desc, Try.t16.size, Try.t16.bytes, Try.t16.zero.getD undef⟩),
  (17, ⟨Try.t17.desc, Try.t17.size, Try.t17.bytes, Try.t17.zero.getD undef⟩),
  (18, ⟨Try.t18.desc, Try.t18.size, Try.t18.bytes, Try.t18.zero.getD undef⟩),
  (19, ⟨Try.t18.desc, Try.t19.size, Try.t19.bytes, Try.t19.zero.getD undef⟩),
  (20, ⟨Try.t20.desc, Try.t20.size, Try.t20.bytes, Try.t20.zero.getD undef⟩),
  (21, ⟨Try.t21.desc, Try.t21.size, Try.t21.bytes, Try.t21.zero.getD undef⟩),
  (22, ⟨Try.t22.desc, Try.t22.size, Try.t22.bytes, Try.t22.zero.getD undef⟩),
  (23, ⟨Try.t23.desc, Try.t23.size, Try.t23.bytes, Try.t23.zero.getD undef⟩),
  (26, ⟨Try.t26.desc, Try.t26.size, Try.t26.bytes, Try.t26.zero.getD undef⟩),
  (29, ⟨Try.t29.desc, Try.t29.size, Try.t29.bytes, Try.t29.zero.getD undef⟩),
  (32, ⟨Try.t32.desc, Try.t32.size, Try.t32.bytes, Try.t32.zero.getD undef⟩),
  (33, ⟨Try.t32.desc, Try.t33.size, Try.t33.bytes, Try.t33.zero.getD undef⟩),
  (34, ⟨Try.t32.desc, Try.t34.size, Try.t34.bytes, Try.t34.zero.getD undef⟩),
  (37, ⟨Try.t37.desc, Try.t37.size, Try.t37.bytes, Try.t37.zero.getD undef⟩),
  (38, ⟨Try.t38.desc, Try.t38.size, Try.t38.bytes, Try.t38.zero.getD undef⟩),
  (39, ⟨Try.t39.desc, Try.t39.size, Try.t39.bytes, Try.t39.zero.getD undef⟩),
  (46, ⟨Try.t46.desc, Try.t46.size, Try.t46.bytes, Try.t46.zero.getD undef⟩),
  (47, ⟨Try.t47.desc, Try.t47.size, Try.t47.bytes, Try.t47.zero.getD undef⟩),
  (49, ⟨Try.t49.desc, Try.t49.size, Try.t49.bytes, Try.t49.zero.getD undef⟩),
  (50, ⟨Try.t50.desc, Try.t50.size, Try.t50.bytes, Try.t50.zero.getD undef⟩),
  (51, ⟨Try.t51.desc, Try.t51.size, Try.t51.bytes, Try.t51.zero.getD undef⟩),
  (52, ⟨Try.t51.desc, Try.t52.size, Try.t52.bytes, Try.t52.zero.getD undef⟩),
  (53, ⟨Try.t53.desc, Try.t53.size, Try.t53.bytes, Try.t53.zero.getD undef⟩),
  (54, ⟨Try.t3.desc, Try.t54.size, Try.t54.bytes, Try.t54.zero.getD undef⟩),
  (59, ⟨Try.t59.desc, Try.t59.size, Try.t59.bytes, Try.t59.zero.getD undef⟩),
  (61, ⟨Try.t61.desc, Try.t61.size, Try.t61.bytes, Try.t61.zero.getD undef⟩),
  (64, ⟨Try.t64.desc, Try.t64.size, Try.t64.bytes, Try.t64.zero.getD undef⟩),
  (76, ⟨Try.t76.desc, Try.t76.size, Try.t76.bytes, Try.t76.zero.getD undef⟩),
  (77, ⟨Try.t77.desc, Try.t77.size, Try.t77.bytes, Try.t77.zero.getD undef⟩),
  (78, ⟨Try.t78.desc, Try.t78.size, Try.t78.bytes, Try.t78.zero.getD undef⟩),
  (79, ⟨Try.t79.desc, Try.t79.size, Try.t79.bytes, Try.t79.zero.getD undef⟩),
  (80, ⟨Try.t79.desc, Try.t80.size, Try.t80.bytes, Try.t80.zero.getD undef⟩),
  (81, ⟨Try.t81.desc, Try.t81.size, Try.t81.bytes, Try.t81.zero.getD undef⟩),
  (82, ⟨Try.t81.desc, Try.t82.size, Try.t82.bytes, Try.t82.zero.getD undef⟩),
  (91, ⟨Try.t91.desc, Try.t91.size, Try.t91.bytes, Try.t91.zero.getD undef⟩),
  (92, ⟨Try.t91.desc, Try.t92.size, Try.t92.bytes, Try.t92.zero.getD undef⟩),
  (93, ⟨Try.t93.desc, Try.t93.size, Try.t93.bytes, Try.t93.zero.getD undef⟩),
  (94, ⟨Try.t94.desc, Try.t94.size, Try.t94.bytes, Try.t94.zero.getD undef⟩),
  (95, ⟨Try.t94.desc, Try.t95.size, Try.t95.bytes, Try.t95.zero.getD undef⟩),
  (97, ⟨Try.t97.desc, Try.t97.size, Try.t97.bytes, Try.t97.zero.getD undef⟩),
  (102, ⟨Try.t102.desc, Try.t102.size, Try.t102.bytes, Try.t102.zero.getD undef⟩),
  (103, ⟨Try.t61.desc, Try.t103.size, Try.t103.bytes, Try.t103.zero.getD undef⟩),
  (104, ⟨Try.t104.desc, Try.t104.size, Try.t104.bytes, Try.t104.zero.getD undef⟩),
  (105, ⟨Try.t104.desc, Try.t105.size, Try.t105.bytes, Try.t105.zero.getD undef⟩),
  (107, ⟨Try.t107.desc, Try.t107.size, Try.t107.bytes, Try.t107.zero.getD undef⟩),
  (109, ⟨Try.t109.desc, Try.t109.size, Try.t109.bytes, Try.t109.zero.getD undef⟩),
  (115, ⟨Try.t51.desc, Try.t115.size, Try.t115.bytes, Try.t115.zero.getD undef⟩),
  (124, ⟨Try.t124.desc, Try.t124.size, Try.t124.bytes, Try.t124.zero.getD undef⟩),
  (125, ⟨Try.t124.desc, Try.t125.size, Try.t125.bytes, Try.t125.zero.getD undef⟩),
  (126, ⟨Try.t126.desc, Try.t126.size, Try.t126.bytes, Try.t126.zero.getD undef⟩),
  (127, ⟨Try.t126.desc, Try.t127.size, Try.t127.bytes, Try.t127.zero.getD undef⟩),
  (140, ⟨Try.t140.desc, Try.t140.size, Try.t140.bytes, Try.t140.zero.getD undef⟩),
  (144, ⟨Try.t144.desc, Try.t144.size, Try.t144.bytes, Try.t144.zero.getD undef⟩),
  (146, ⟨Try.t3.desc, Try.t146.size, Try.t146.bytes, Try.t146.zero.getD undef⟩),
  (156, ⟨Try.t59.desc, Try.t156.size, Try.t156.bytes, Try.t156.zero.getD undef⟩),
  (160, ⟨Try.t160.desc, Try.t160.size, Try.t160.bytes, Try.t160.zero.getD undef⟩),
  (162, ⟨Try.t162.desc, Try.t162.size, Try.t162.bytes, Try.t162.zero.getD undef⟩),
  (166, ⟨Try.t166.desc, Try.t166.size, Try.t166.bytes, Try.t166.zero.getD undef⟩),
  (167, ⟨Try.t166.desc, Try.t167.size, Try.t167.bytes, Try.t167.zero.getD undef⟩),
  (168, ⟨Try.t168.desc, Try.t168.size, Try.t168.bytes, Try.t168.zero.getD undef⟩),
  (169, ⟨Try.t169.desc, Try.t169.size, Try.t169.bytes, Try.t169.zero.getD undef⟩),
  (170, ⟨Try.t169.desc, Try.t170.size, Try.t170.bytes, Try.t170.zero.getD undef⟩),
  (171, ⟨Try.t5.desc, Try.t171.size, Try.t171.bytes, Try.t171.zero.getD undef⟩),
  (172, ⟨Try.t5.desc, Try.t172.size, Try.t172.bytes, Try.t172.zero.getD undef⟩),
  (173, ⟨Try.t173.desc, Try.t173.size, Try.t173.bytes, Try.t173.zero.getD undef⟩),
  (174, ⟨Try.t174.desc, Try.t174.size, Try.t174.bytes, Try.t174.zero.getD undef⟩),
  (175, ⟨Try.t21.desc, Try.t175.size, Try.t175.bytes, Try.t175.zero.getD undef⟩),
  (176, ⟨Try.t21.desc, Try.t176.size, Try.t176.bytes, Try.t176.zero.getD undef⟩),
  (177, ⟨Try.t177.desc, Try.t177.size, Try.t177.bytes, Try.t177.zero.getD undef⟩),
  (178, ⟨Try.t177.desc, Try.t178.size, Try.t178.bytes, Try.t178.zero.getD undef⟩),
  (179, ⟨Try.t179.desc, Try.t179.size, Try.t179.bytes, Try.t179.zero.getD undef⟩)]
theorem good2 : Good Try.prog 2 ⟨Try.t2.desc, Try.t2.size, Try.t2.bytes, Try.t2.zero.getD undef⟩ := ⟨Try.underlying2, Try.t2, by kernel_rfl, rfl, rfl, rfl⟩
theorem good3 : Good Try.prog 3 ⟨Try.t3.desc, Try.t3.size, Try.t3.bytes, Try.t3.zero.getD undef⟩ := ⟨Try.underlying3, Try.t3, by kernel_rfl, rfl, rfl, rfl⟩
theorem good4 : Good Try.prog 4 ⟨Try.t4.desc, Try.t4.size, Try.t4.bytes, Try.t4.zero.getD undef⟩ := ⟨Try.underlying4, Try.t4, by kernel_rfl, rfl, rfl, rfl⟩
theorem good5 : Good Try.prog 5 ⟨Try.t5.desc, Try.t5.size, Try.t5.bytes, Try.t5.zero.getD undef⟩ := ⟨Try.underlying5, Try.t5, by kernel_rfl, rfl, rfl, rfl⟩
theorem good6 : Good Try.prog 6 ⟨Try.t5.desc, Try.t6.size, Try.t6.bytes, Try.t6.zero.getD undef⟩ := ⟨Try.underlying6, Try.t6, by kernel_rfl, rfl, rfl, rfl⟩
theorem good7 : Good Try.prog 7 ⟨Try.t7.desc, Try.t7.size, Try.t7.bytes, Try.t7.zero.getD undef⟩ := ⟨Try.underlying7, Try.t7, by kernel_rfl, rfl, rfl, rfl⟩
theorem good8 : Good Try.prog 8 ⟨Try.t7.desc, Try.t8.size, Try.t8.bytes, Try.t8.zero.getD undef⟩ := ⟨Try.underlying8, Try.t8, by kernel_rfl, rfl, rfl, rfl⟩
theorem good9 : Good Try.prog 9 ⟨Try.t9.desc, Try.t9.size, Try.t9.bytes, Try.t9.zero.getD undef⟩ := ⟨Try.underlying9, Try.t9, by kernel_rfl, rfl, rfl, rfl⟩
theorem good10 : Good Try.prog 10 ⟨Try.t9.desc, Try.t10.size, Try.t10.bytes, Try.t10.zero.getD undef⟩ := ⟨Try.underlying10, Try.t10, by kernel_rfl, rfl, rfl, rfl⟩
theorem good11 : Good Try.prog 11 ⟨Try.t9.desc, Try.t11.size, Try.t11.bytes, Try.t11.zero.getD undef⟩ := ⟨Try.underlying11, Try.t11, by kernel_rfl, rfl, rfl, rfl⟩
theorem good12 : Good Try.prog 12 ⟨Try.t12.desc, Try.t12.size, Try.t12.bytes, Try.t12.zero.getD undef⟩ := ⟨Try.underlying12, Try.t12, by kernel_rfl, rfl, rfl, rfl⟩
theorem good13 : Good Try.prog 13 ⟨Try.t13.desc, Try.t13.size, Try.t13.bytes, Try.t13.zero.getD undef⟩ := ⟨Try.underlying13, Try.t13, by kernel_rfl, rfl, rfl, rfl⟩
theorem good14 : Good Try.prog 14 ⟨Try.t13.desc, Try.t14.size, Try.t14.bytes, Try.t14.zero.getD undef⟩ := ⟨Try.underlying14, Try.t14, by kernel_rfl, rfl, rfl, rfl⟩
theorem good15 : Good Try.prog 15 ⟨Try.t15.desc, Try.t15.size, Try.t15.bytes, Try.t15.zero.getD undef⟩ := ⟨Try.underlying15, Try.t15, by kernel_rfl, rfl, rfl, rfl⟩
theorem good16 : Good Try.prog 16 ⟨Try.t16.desc, Try.t16.size, Try.t16.bytes, Try.t16.zero.getD undef⟩ := ⟨Try.underlying16, Try.t16, by kernel_rfl, rfl, rfl, rfl⟩
theorem good17 : Good Try.prog 17 ⟨Try.t17.desc, Try.t17.size, Try.t17.bytes, Try.t17.zero.getD undef⟩ := ⟨Try.underlying17, Try.t17, by kernel_rfl, rfl, rfl, rfl⟩
theorem good18 : Good Try.prog 18 ⟨Try.t18.desc, Try.t18.size, Try.t18.bytes, Try.t18.zero.getD undef⟩ := ⟨Try.underlying18, Try.t18, by kernel_rfl, rfl, rfl, rfl⟩
theorem good19 : Good Try.prog 19 ⟨Try.t18.desc, Try.t19.size, Try.t19.bytes, Try.t19.zero.getD undef⟩ := ⟨Try.underlying19, Try.t19, by kernel_rfl, rfl, rfl, rfl⟩
theorem good20 : Good Try.prog 20 ⟨Try.t20.desc, Try.t20.size, Try.t20.bytes, Try.t20.zero.getD undef⟩ := ⟨Try.underlying20, Try.t20, by kernel_rfl, rfl, rfl, rfl⟩
theorem good21 : Good Try.prog 21 ⟨Try.t21.desc, Try.t21.size, Try.t21.bytes, Try.t21.zero.getD undef⟩ := ⟨Try.underlying21, Try.t21, by kernel_rfl, rfl, rfl, rfl⟩
theorem good22 : Good Try.prog 22 ⟨Try.t22.desc, Try.t22.size, Try.t22.bytes, Try.t22.zero.getD undef⟩ := ⟨Try.underlying22, Try.t22, by kernel_rfl, rfl, rfl, rfl⟩
theorem good23 : Good Try.prog 23 ⟨Try.t23.desc, Try.t23.size, Try.t23.bytes, Try.t23.zero.getD undef⟩ := ⟨Try.underlying23, Try.t23, by kernel_rfl, rfl, rfl, rfl⟩
theorem good26 : Good Try.prog 26 ⟨Try.t26.desc, Try.t26.size, Try.t26.bytes, Try.t26.zero.getD undef⟩ := ⟨Try.underlying26, Try.t26, by kernel_rfl, rfl, rfl, rfl⟩
theorem good29 : Good Try.prog 29 ⟨Try.t29.desc, Try.t29.size, Try.t29.bytes, Try.t29.zero.getD undef⟩ := ⟨Try.underlying29, Try.t29, by kernel_rfl, rfl, rfl, rfl⟩
theorem good32 : Good Try.prog 32 ⟨Try.t32.desc, Try.t32.size, Try.t32.bytes, Try.t32.zero.getD undef⟩ := ⟨Try.underlying32, Try.t32, by kernel_rfl, rfl, rfl, rfl⟩
theorem good33 : Good Try.prog 33 ⟨Try.t32.desc, Try.t33.size, Try.t33.bytes, Try.t33.zero.getD undef⟩ := ⟨Try.underlying33, Try.t33, by kernel_rfl, rfl, rfl, rfl⟩
theorem good34 : Good Try.prog 34 ⟨Try.t32.desc, Try.t34.size, Try.t34.bytes, Try.t34.zero.getD undef⟩ := ⟨Try.underlying34, Try.t34, by kernel_rfl, rfl, rfl, rfl⟩
theorem good37 : Good Try.prog 37 ⟨Try.t37.desc, Try.t37.size, Try.t37.bytes, Try.t37.zero.getD undef⟩ := ⟨Try.underlying37, Try.t37, by kernel_rfl, rfl, rfl, rfl⟩
theorem good38 : Good Try.prog 38 ⟨Try.t38.desc, Try.t38.size, Try.t38.bytes, Try.t38.zero.getD undef⟩ := ⟨Try.underlying38, Try.t38, by kernel_rfl, rfl, rfl, rfl⟩
theorem good39 : Good Try.prog 39 ⟨Try.t39.desc, Try.t39.size, Try.t39.bytes, Try.t39.zero.getD undef⟩ := ⟨Try.underlying39, Try.t39, by kernel_rfl, rfl, rfl, rfl⟩
theorem good46 : Good Try.prog 46 ⟨Try.t46.desc, Try.t46.size, Try.t46.bytes, Try.t46.zero.getD undef⟩ := ⟨Try.underlying46, Try.t46, by kernel_rfl, rfl, rfl, rfl⟩
theorem good47 : Good Try.prog 47 ⟨Try.t47.desc, Try.t47.size, Try.t47.bytes, Try.t47.zero.getD undef⟩ := ⟨Try.underlying47, Try.t47, by kernel_rfl, rfl, rfl, rfl⟩
theorem good49 : Good Try.prog 49 ⟨Try.t49.desc, Try.t49.size, Try.t49.bytes, Try.t49.zero.getD undef⟩ := ⟨Try.underlying49, Try.t49, by kernel_rfl, rfl, rfl, rfl⟩
theorem good50 : Good Try.prog 50 ⟨Try.t50.desc, Try.t50.size, Try.t50.bytes, Try.t50.zero.getD undef⟩ := ⟨Try.underlying50, Try.t50, by kernel_rfl, rfl, rfl, rfl⟩
theorem good51 : Good Try.prog 51 ⟨Try.t51.desc, Try.t51.size, Try.t51.bytes, Try.t51.zero.getD undef⟩ := ⟨Try.underlying51, Try.t51, by kernel_rfl, rfl, rfl, rfl⟩
theorem good52 : Good Try.prog 52 ⟨Try.t51.desc, Try.t52.size, Try.t52.bytes, Try.t52.zero.getD undef⟩ := ⟨Try.underlying52, Try.t52, by kernel_rfl, rfl, rfl, rfl⟩
theorem good53 : Good Try.prog 53 ⟨Try.t53.desc, Try.t53.size, Try.t53.bytes, Try.t53.zero.getD undef⟩ := ⟨Try.underlying53, Try.t53, by kernel_rfl, rfl, rfl, rfl⟩
theorem good54 : Good Try.prog 54 ⟨Try.t3.desc, Try.t54.size, Try.t54.bytes, Try.t54.zero.getD undef⟩ := ⟨Try.underlying54, Try.t54, by kernel_rfl, rfl, rfl, rfl⟩
theorem good59 : Good Try.prog 59 ⟨Try.t59.desc, Try.t59.size, Try.t59.bytes, Try.t59.zero.getD undef⟩ := ⟨Try.underlying59, Try.t59, by kernel_rfl, rfl, rfl, rfl⟩
theorem good61 : Good Try.prog 61 ⟨Try.t61.desc, Try.t61.size, Try.t61.bytes, Try.t61.zero.getD undef⟩ := ⟨Try.underlying61, Try.t61, by kernel_rfl, rfl, rfl, rfl⟩
theorem good64 : Good Try.prog 64 ⟨Try.t64.desc, Try.t64.size, Try.t64.bytes, Try.t64.zero.getD undef⟩ := ⟨Try.underlying64, Try.t64, by kernel_rfl, rfl, rfl, rfl⟩
theorem good76 : Good Try.prog 76 ⟨Try.t76.desc, Try.t76.size, Try.t76.bytes, Try.t76.zero.getD undef⟩ := ⟨Try.underlying76, Try.t76, by kernel_rfl, rfl, rfl, rfl⟩
theorem good77 : Good Try.prog 77 ⟨Try.t77.desc, Try.t77.size, Try.t77.bytes, Try.t77.zero.getD undef⟩ := ⟨Try.underlying77, Try.t77, by kernel_rfl, rfl, rfl, rfl⟩
theorem good78 : Good Try.prog 78 ⟨Try.t78.desc, Try.t78.size, Try.t78.bytes, Try.t78.zero.getD undef⟩ := ⟨Try.underlying78, Try.t78, by kernel_rfl, rfl, rfl, rfl⟩
theorem good79 : Good Try.prog 79 ⟨Try.t79.desc, Try.t79.size, Try.t79.bytes, Try.t79.zero.getD undef⟩ := ⟨Try.underlying79, Try.t79, by kernel_rfl, rfl, rfl, rfl⟩
theorem good80 : Good Try.prog 80 ⟨Try.t79.desc, Try.t80.size, Try.t80.bytes, Try.t80.zero.getD undef⟩ := ⟨Try.underlying80, Try.t80, by kernel_rfl, rfl, rfl, rfl⟩
theorem good81 : Good Try.prog 81 ⟨Try.t81.desc, Try.t81.size, Try.t81.bytes, Try.t81.zero.getD undef⟩ := ⟨Try.underlying81, Try.t81, by kernel_rfl, rfl, rfl, rfl⟩
theorem good82 : Good Try.prog 82 ⟨Try.t81.desc, Try.t82.size, Try.t82.bytes, Try.t82.zero.getD undef⟩ := ⟨Try.underlying82, Try.t82, by kernel_rfl, rfl, rfl, rfl⟩
theorem good91 : Good Try.prog 91 ⟨Try.t91.desc, Try.t91.size, Try.t91.bytes, Try.t91.zero.getD undef⟩ := ⟨Try.underlying91, Try.t91, by kernel_rfl, rfl, rfl, rfl⟩
theorem good92 : Good Try.prog 92 ⟨Try.t91.desc, Try.t92.size, Try.t92.bytes, Try.t92.zero.getD undef⟩ := ⟨Try.underlying92, Try.t92, by kernel_rfl, rfl, rfl, rfl⟩
theorem good93 : Good Try.prog 93 ⟨Try.t93.desc, Try.t93.size, Try.t93.bytes, Try.t93.zero.getD undef⟩ := ⟨Try.underlying93, Try.t93, by kernel_rfl, rfl, rfl, rfl⟩
theorem good94 : Good Try.prog 94 ⟨Try.t94.desc, Try.t94.size, Try.t94.bytes, Try.t94.zero.getD undef⟩ := ⟨Try.underlying94, Try.t94, by kernel_rfl, rfl, rfl, rfl⟩
theorem good95 : Good Try.prog 95 ⟨Try.t94.desc, Try.t95.size, Try.t95.bytes, Try.t95.zero.getD undef⟩ := ⟨Try.underlying95, Try.t95, by kernel_rfl, rfl, rfl, rfl⟩
theorem good97 : Good Try.prog 97 ⟨Try.t97.desc, Try.t97.size, Try.t97.bytes, Try.t97.zero.getD undef⟩ := ⟨Try.underlying97, Try.t97, by kernel_rfl, rfl, rfl, rfl⟩
theorem good102 : Good Try.prog 102 ⟨Try.t102.desc, Try.t102.size, Try.t102.bytes, Try.t102.zero.getD undef⟩ := ⟨Try.underlying102, Try.t102, by kernel_rfl, rfl, rfl, rfl⟩
theorem good103 : Good Try.prog 103 ⟨Try.t61.desc, Try.t103.size, Try.t103.bytes, Try.t103.zero.getD undef⟩ := ⟨Try.underlying103, Try.t103, by kernel_rfl, rfl, rfl, rfl⟩
theorem good104 : Good Try.prog 104 ⟨Try.t104.desc, Try.t104.size, Try.t104.bytes, Try.t104.zero.getD undef⟩ := ⟨Try.underlying104, Try.t104, by kernel_rfl, rfl, rfl, rfl⟩
theorem good105 : Good Try.prog 105 ⟨Try.t104.desc, Try.t105.size, Try.t105.bytes, Try.t105.zero.getD undef⟩ := ⟨Try.underlying105, Try.t105, by kernel_rfl, rfl, rfl, rfl⟩
theorem good107 : Good Try.prog 107 ⟨Try.t107.desc, Try.t107.size, Try.t107.bytes, Try.t107.zero.getD undef⟩ := ⟨Try.underlying107, Try.t107, by kernel_rfl, rfl, rfl, rfl⟩
theorem good109 : Good Try.prog 109 ⟨Try.t109.desc, Try.t109.size, Try.t109.bytes, Try.t109.zero.getD undef⟩ := ⟨Try.underlying109, Try.t109, by kernel_rfl, rfl, rfl, rfl⟩
theorem good115 : Good Try.prog 115 ⟨Try.t51.desc, Try.t115.size, Try.t115.bytes, Try.t115.zero.getD undef⟩ := ⟨Try.underlying115, Try.t115, by kernel_rfl, rfl, rfl, rfl⟩
theorem good124 : Good Try.prog 124 ⟨Try.t124.desc, Try.t124.size, Try.t124.bytes, Try.t124.zero.getD undef⟩ := ⟨Try.underlying124, Try.t124, by kernel_rfl, rfl, rfl, rfl⟩
theorem good125 : Good Try.prog 125 ⟨Try.t124.desc, Try.t125.size, Try.t125.bytes, Try.t125.zero.getD undef⟩ := ⟨Try.underlying125, Try.t125, by kernel_rfl, rfl, rfl, rfl⟩
theorem good126 : Good Try.prog 126 ⟨Try.t126.desc, Try.t126.size, Try.t126.bytes, Try.t126.zero.getD undef⟩ := ⟨Try.underlying126, Try.t126, by kernel_rfl, rfl, rfl, rfl⟩
theorem good127 : Good Try.prog 127 ⟨Try.t126.desc, Try.t127.size, Try.t127.bytes, Try.t127.zero.getD undef⟩ := ⟨Try.underlying127, Try.t127, by kernel_rfl, rfl, rfl, rfl⟩
theorem good140 : Good Try.prog 140 ⟨Try.t140.desc, Try.t140.size, Try.t140.bytes, Try.t140.zero.getD undef⟩ := ⟨Try.underlying140, Try.t140, by kernel_rfl, rfl, rfl, rfl⟩
theorem good144 : Good Try.prog 144 ⟨Try.t144.desc, Try.t144.size, Try.t144.bytes, Try.t144.zero.getD undef⟩ := ⟨Try.underlying144, Try.t144, by kernel_rfl, rfl, rfl, rfl⟩
theorem good146 : Good Try.prog 146 ⟨Try.t3.desc, Try.t146.size, Try.t146.bytes, Try.t146.zero.getD undef⟩ := ⟨Try.underlying146, Try.t146, by kernel_rfl, rfl, rfl, rfl⟩
theorem good156 : Good Try.prog 156 ⟨Try.t59.desc, Try.t156.size, Try.t156.bytes, Try.t156.zero.getD undef⟩ := ⟨Try.underlying156, Try.t156, by kernel_rfl, rfl, rfl, rfl⟩
theorem good160 : Good Try.prog 160 ⟨Try.t160.desc, Try.t160.size, Try.t160.bytes, Try.t160.zero.getD undef⟩ := ⟨Try.underlying160, Try.t160, by kernel_rfl, rfl, rfl, rfl⟩
theorem good162 : Good Try.prog 162 ⟨Try.t162.desc, Try.t162.size, Try.t162.bytes, Try.t162.zero.getD undef⟩ := ⟨Try.underlying162, Try.t162, by kernel_rfl, rfl, rfl, rfl⟩
theorem good166 : Good Try.prog 166 ⟨Try.t166.desc, Try.t166.size, Try.t166.bytes, Try.t166.zero.getD undef⟩ := ⟨Try.underlying166, Try.t166, by kernel_rfl, rfl, rfl, rfl⟩
theorem good167 : Good Try.prog 167 ⟨Try.t166.desc, Try.t167.size, Try.t167.bytes, Try.t167.zero.getD undef⟩ := ⟨Try.underlying167, Try.t167, by kernel_rfl, rfl, rfl, rfl⟩
theorem good168 : Good Try.prog 168 ⟨Try.t168.desc, Try.t168.size, Try.t168.bytes, Try.t168.zero.getD undef⟩ := ⟨Try.underlying168, Try.t168, by kernel_rfl, rfl, rfl, rfl⟩
theorem good169 : Good Try.prog 169 ⟨Try.t169.desc, Try.t169.size, Try.t169.bytes, Try.t169.zero.getD undef⟩ := ⟨Try.underlying169, Try.t169, by kernel_rfl, rfl, rfl, rfl⟩
theorem good170 : Good Try.prog 170 ⟨Try.t169.desc, Try.t170.size, Try.t170.bytes, Try.t170.zero.getD undef⟩ := ⟨Try.underlying170, Try.t170, by kernel_rfl, rfl, rfl, rfl⟩
theorem good171 : Good Try.prog 171 ⟨Try.t5.desc, Try.t171.size, Try.t171.bytes, Try.t171.zero.getD undef⟩ := ⟨Try.underlying171, Try.t171, by kernel_rfl, rfl, rfl, rfl⟩
theorem good172 : Good Try.prog 172 ⟨Try.t5.desc, Try.t172.size, Try.t172.bytes, Try.t172.zero.getD undef⟩ := ⟨Try.underlying172, Try.t172, by kernel_rfl, rfl, rfl, rfl⟩
theorem good173 : Good Try.prog 173 ⟨Try.t173.desc, Try.t173.size, Try.t173.bytes, Try.t173.zero.getD undef⟩ := ⟨Try.underlying173, Try.t173, by kernel_rfl, rfl, rfl, rfl⟩
theorem good174 : Good Try.prog 174 ⟨Try.t174.desc, Try.t174.size, Try.t174.bytes, Try.t174.zero.getD undef⟩ := ⟨Try.underlying174, Try.t174, by kernel_rfl, rfl, rfl, rfl⟩
theorem good175 : Good Try.prog 175 ⟨Try.t21.desc, Try.t175.size, Try.t175.bytes, Try.t175.zero.getD undef⟩ := ⟨Try.underlying175, Try.t175, by kernel_rfl, rfl, rfl, rfl⟩
theorem good176 : Good Try.prog 176 ⟨Try.t21.desc, Try.t176.size, Try.t176.bytes, Try.t176.zero.getD undef⟩ := ⟨Try.underlying176, Try.t176, by kernel_rfl, rfl, rfl, rfl⟩
theorem good177 : Good Try.prog 177 ⟨Try.t177.desc, Try.t177.size, Try.t177.bytes, Try.t177.zero.getD undef⟩ := ⟨Try.underlying177, Try.t177, by kernel_rfl, rfl, rfl, rfl⟩
theorem good178 : Good Try.prog 178 ⟨Try.t177.desc, Try.t178.size, Try.t178.bytes, Try.t178.zero.getD undef⟩ := ⟨Try.underlying178, Try.t178, by kernel_rfl, rfl, rfl, rfl⟩
theorem good179 : Good Try.prog 179 ⟨Try.t179.desc, Try.t179.size, Try.t179.bytes, Try.t179.zero.getD undef⟩ := ⟨Try.underlying179, Try.t179, by kernel_rfl, rfl, rfl, rfl⟩
theorem tabOk : TabOk Try.prog tab := .cons good2 <| .cons good3 <| .cons good4 <| .cons good5 <| .cons good6 <| .cons good7 <| .cons good8 <| .cons good9 <| .cons good10 <| .cons good11 <| .cons good12 <| .cons good13 <| .cons good14 <| .cons good15 <| .cons good16 <| .cons good17 <| .cons good18 <| .cons good19 <| .cons good20 <| .cons good21 <| .cons good22 <| .cons good23 <| .cons good26 <| .cons good29 <| .cons good32 <| .cons good33 <| .cons good34 <| .cons good37 <| .cons good38 <| .cons good39 <| .cons good46 <| .cons good47 <| .cons good49 <| .cons good50 <| .cons good51 <| .cons good52 <| .cons good53 <| .cons good54 <| .cons good59 <| .cons good61 <| .cons good64 <| .cons good76 <| .cons good77 <| .cons good78 <| .cons good79 <| .cons good80 <| .cons good81 <| .cons good82 <| .cons good91 <| .cons good92 <| .cons good93 <| .cons good94 <| .cons good95 <| .cons good97 <| .cons good102 <| .cons good103 <| .cons good104 <| .cons good105 <| .cons good107 <| .cons good109 <| .cons good115 <| .cons good124 <| .cons good125 <| .cons good126 <| .cons good127 <| .cons good140 <| .cons good144 <| .cons good146 <| .cons good156 <| .cons good160 <| .cons good162 <| .cons good166 <| .cons good167 <| .cons good168 <| .cons good169 <| .cons good170 <| .cons good171 <| .cons good172 <| .cons good173 <| .cons good174 <| .cons good175 <| .cons good176 <| .cons good177 <| .cons good178 <| .cons good179 <| TabOk.nil _
end Go.Proofs.Yteogkadjambmkaa
