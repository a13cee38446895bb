/-
  The table of the seat's types for the engine of rules, made by a program of this repo (mktab.py). No condition.
-/
import Derived.Test.YtidhpofcofknhaaChecked
import Derived.Test.YtidhpofcofknhaaEa
namespace Go.Proofs.Ytidhpofcofknhaa
open Go
set_option linter.unusedVariables false
noncomputable def tab : Tab := [(2, ⟨Try.t2.desc, Try.t2.size, Try.t2.bytes, Try.t2.zero.getD undef⟩),
  (3, ⟨Try.t3.desc, Try.t3.size, Try.t3.bytes, Try.t3.zero.getD undef⟩),
  (4, ⟨Try.t4.desc, Try.t4.size, Try.t4.bytes, Try.t4.zero.getD undef⟩),
  (5, ⟨Try.t5.desc, Try.t5.size, Try.t5.bytes, Try.t5.zero.getD undef⟩),
  (6, ⟨Try.t5.desc, Try.t6.size, Try.t6.bytes, Try.t6.zero.getD undef⟩),
  (7, ⟨Try.t7.desc, Try.t7.size, Try.t7.bytes, Try.t7.zero.getD undef⟩),
  (8, ⟨Try.t7.desc, Try.t8.size, Try.t8.bytes, Try.t8.zero.getD undef⟩),
  (9, ⟨Try.t9.desc, Try.t9.size, Try.t9.bytes, Try.t9.zero.getD undef⟩),
  (10, ⟨Try.t9.desc, Try.t10.size, Try.t10.bytes, Try.t10.zero.getD undef⟩),
  (11, ⟨Try.t9.desc, Try.t11.size, Try.t11.bytes, Try.t11.zero.getD undef⟩),
  (12, ⟨Try.t12.desc, Try.t12.size, Try.t12.bytes, Try.t12.zero.getD undef⟩),
  (13, ⟨Try.t13.desc, Try.t13.size, Try.t13.bytes, Try.t13.zero.getD undef⟩),
  (14, ⟨Try.t13.desc, Try.t14.size, Try.t14.bytes, Try.t14.zero.getD undef⟩),
  (15, ⟨Try.t15.desc, Try.t15.size, Try.t15.bytes, Try.t15.zero.getD undef⟩),
  (16, ⟨Try.t16.desc, Try.t16.size, Try.t16.bytes, Try.t16.zero.getD undef⟩),
  (17, ⟨Try.t17.desc, Try.t17.size, Try.t17.bytes, Try.t17.zero.getD undef⟩),
  (18, ⟨Try.t18.desc, Try.t18.size, Try.t18.bytes, Try.t18.zero.getD undef⟩),
  (19, ⟨Try.t18.desc, Try.t19.size, Try.t19.bytes, Try.t19.zero.getD undef⟩),
  (20, ⟨Try.t20.desc, Try.t20.size, Try.t20.bytes, Try.t20.zero.getD undef⟩),
  (21, ⟨Try.t21.desc, Try.t21.size, Try.t21.bytes, Try.t21.zero.getD undef⟩),
  (22, ⟨Try.t22.desc, Try.t22.size, Try.t22.bytes, Try.t22.zero.getD undef⟩),
  (23, ⟨Try.t23.desc, Try.t23.size, Try.t23.bytes, Try.t23.zero.getD undef⟩),
  (25, ⟨Try.t25.desc, Try.t25.size, Try.t25.bytes, Try.t25.zero.getD undef⟩),
  (26, ⟨Try.t25.desc, Try.t26.size, Try.t26.bytes, Try.t26.zero.getD undef⟩),
  (28, ⟨Try.t28.desc, Try.t28.size, Try.t28.bytes, Try.t28.zero.getD undef⟩),
  (29, ⟨Try.t3.desc, Try.t29.size, Try.t29.bytes, Try.t29.zero.getD undef⟩),
  (32, ⟨Try.t32.desc, Try.t32.size, Try.t32.bytes, Try.t32.zero.getD undef⟩),
  (33, ⟨Try.t33.desc, Try.t33.size, Try.t33.bytes, Try.t33.zero.getD undef⟩),
  (34, ⟨Try.t34.desc, Try.t34.size, Try.t34.bytes, Try.t34.zero.getD undef⟩),
  (35, ⟨Try.t35.desc, Try.t35.size, Try.t35.bytes, Try.t35.zero.getD undef⟩),
  (36, ⟨Try.t35.desc, Try.t36.size, Try.t36.bytes, Try.t36.zero.getD undef⟩),
  (37, ⟨Try.t37.desc, Try.t37.size, Try.t37.bytes, Try.t37.zero.getD undef⟩),
  (38, ⟨Try.t38.desc, Try.t38.size, Try.t38.bytes, Try.t38.zero.getD undef⟩),
  (39, ⟨Try.t39.desc, Try.t39.size, Try.t39.bytes, Try.t39.zero.getD undef⟩),
  (40, ⟨Try.t39.desc, Try.t40.size, Try.t40.bytes, Try.t40.zero.getD undef⟩),
  (43, ⟨Try.t43.desc, Try.t43.size, Try.t43.bytes, Try.t43.zero.getD undef⟩),
  (44, ⟨Try.t43.desc, Try.t44.size, Try.t44.bytes, Try.t44.zero.getD undef⟩),
  (45, ⟨Try.t45.desc, Try.t45.size, Try.t45.bytes, Try.t45.zero.getD undef⟩),
  (46, ⟨Try.t46.desc, Try.t46.size, Try.t46.bytes, Try.t46.zero.getD undef⟩),
  (47, ⟨Try.t46.desc, Try.t47.size, Try.t47.bytes, Try.t47.zero.getD undef⟩),
  (49, ⟨Try.t46.desc, Try.t49.size, Try.t49.bytes, Try.t49.zero.getD undef⟩),
  (53, ⟨Try.t53.desc, Try.t53.size, Try.t53.bytes, Try.t53.zero.getD undef⟩),
  (60, ⟨Try.t60.desc, Try.t60.size, Try.t60.bytes, Try.t60.zero.getD undef⟩),
  (61, ⟨Try.t60.desc, Try.t61.size, Try.t61.bytes, Try.t61.zero.getD undef⟩),
  (63, ⟨Try.t63.desc, Try.t63.size, Try.t63.bytes, Try.t63.zero.getD undef⟩),
  (66, ⟨Try.t66.desc, Try.t66.size, Try.t66.bytes, Try.t66.zero.getD undef⟩),
  (67, ⟨Try.t66.desc, Try.t67.size, Try.t67.bytes, Try.t67.zero.getD undef⟩),
  (68, ⟨Try.t68.desc, Try.t68.size, Try.t68.bytes, Try.t68.zero.getD undef⟩),
  (71, ⟨Try.t71.desc, Try.t71.size, Try.t71.bytes, Try.t71.zero.getD undef⟩),
  (72, ⟨Try.t72.desc, Try.t72.size, Try.t72.bytes, Try.t72.zero.getD undef⟩),
  (73, ⟨Try.t72.desc, Try.t73.size, Try.t73.bytes, Try.t73.zero.getD undef⟩),
  (74, ⟨Try.t74.desc, Try.t74.size, Try.t74.bytes, Try.t74.zero.getD undef⟩),
  (76, ⟨Try.t76.desc, Try.t76.size, Try.t76.bytes, Try.t76.zero.getD undef⟩),
  (77, ⟨Try.t76.desc, Try.t77.size, Try.t77.bytes, Try.t77.zero.getD undef⟩),
  (86, ⟨Try.t86.desc, Try.t86.size, Try.t86.bytes, Try.t86.zero.getD undef⟩),
  (87, ⟨Try.t87.desc, Try.t87.size, Try.t87.bytes, Try.t87.zero.getD undef⟩),
  (88, ⟨Try.t88.desc, Try.t88.size, Try.t88.bytes, Try.t88.zero.getD undef⟩),
  (89, ⟨Try.t89.desc, Try.t89.size, Try.t89.bytes, Try.t89.zero.getD undef⟩),
  (90, ⟨Try.t89.desc, Try.t90.size, Try.t90.bytes, Try.t90.zero.getD undef⟩),
  (91, ⟨Try.t91.desc, Try.t91.size, Try.t91.bytes, Try.t91.zero.getD undef⟩),
  (92, ⟨Try.t92.desc, Try.t92.size, Try.t92.bytes, Try.t92.zero.getD undef⟩),
  (93, ⟨Try.t92.desc, Try.t93.size, Try.t93.bytes, Try.t93.zero.getD undef⟩),
  (98, ⟨Try.t98.desc, Try.t98.size, Try.t98.bytes, Try.t98.zero.getD undef⟩),
  (99, ⟨Try.t98.desc, Try.t99.size, Try.t99.bytes, Try.t99.zero.getD undef⟩),
  (110, ⟨Try.t110.desc, Try.t110.size, Try.t110.bytes, Try.t110.zero.getD undef⟩),
  (111, ⟨Try.t111.desc, Try.t111.size, Try.t111.bytes, Try.t111.zero.getD undef⟩),
  (117, ⟨Try.t117.desc, Try.t117.size, Try.t117.bytes, Try.t117.zero.getD undef⟩),
  (118, ⟨Try.t117.desc, Try.t118.size, Try.t118.bytes, Try.t118.zero.getD undef⟩),
  (126, ⟨Try.t126.desc, Try.t126.size, Try.t126.bytes, Try.t126.zero.getD undef⟩),
  (128, ⟨Try.t128.desc, Try.t128.size, Try.t128.bytes, Try.t128.zero.getD undef⟩),
  (129, ⟨Try.t128.desc, Try.t129.size, Try.t129.bytes, Try.t129.zero.getD undef⟩),
  (130, ⟨Try.t130.desc, Try.t130.size, Try.t130.bytes, Try.t130.zero.getD undef⟩),
  (131, ⟨Try.t131.desc, Try.t131.size, Try.t131.bytes, Try.t131.zero.getD undef⟩),
  (132, ⟨Try.t131.desc, Try.t132.size, Try.t132.bytes, Try.t132.zero.getD undef⟩),
  (133, ⟨Try.t133.desc, Try.t133.size, Try.t133.bytes, Try.t133.zero.getD undef⟩),
  (134, ⟨Try.t133.desc, Try.t134.size, Try.t134.bytes, Try.t134.zero.getD undef⟩),
  (136, ⟨Try.t136.desc, Try.t136.size, Try.t136.bytes, Try.t136.zero.getD undef⟩),
  (140, ⟨Try.t140.desc, Try.t140.size, Try.t140.bytes, Try.t140.zero.getD undef⟩),
  (148, ⟨Try.t148.desc, Try.t148.size, Try.t148.bytes, Try.t148.zero.getD undef⟩),
  (149, ⟨Try.t148.desc, Try.t149.size, Try.t149.bytes, Try.t149.zero.getD undef⟩),
  (152, ⟨Try.t152.desc, Try.t152.size, Try.t152.bytes, Try.t152.zero.getD undef⟩),
  (159, ⟨Try.t3.desc, Try.t159.size, Try.t159.bytes, Try.t159.zero.getD undef⟩),
  (168, ⟨Try.t168.desc, Try.t168.size, Try.t168.bytes, Try.t168.zero.getD undef⟩),
  (169, ⟨Try.t34.desc, Try.t169.size, Try.t169.bytes, Try.t169.zero.getD undef⟩),
  (172, ⟨Try.t172.desc, Try.t172.size, Try.t172.bytes, Try.t172.zero.getD undef⟩),
  (174, ⟨Try.t174.desc, Try.t174.size, Try.t174.bytes, Try.t174.zero.getD undef⟩),
  (178, ⟨Try.t178.desc, Try.t178.size, Try.t178.bytes, Try.t178.zero.getD undef⟩),
  (179, ⟨Try.t178.desc, Try.t179.size, Try.t179.bytes, Try.t179.zero.getD undef⟩),
  (180, ⟨Try.t180.desc, Try.t180.size, Try.t180.bytes, Try.t180.zero.getD undef⟩),
  (181, ⟨Try.t181.desc, Try.t181.size, Try.t181.bytes, Try.t181.zero.getD undef⟩),
  (182, ⟨Try.t181.desc, Try.t182.size, Try.t182.bytes, Try.t182.zero.getD undef⟩),
  (183, ⟨Try.t5.desc, Try.t183.size, Try.t183.bytes, Try.t183.zero.getD undef⟩),
  (184, ⟨Try.t5.desc, Try.t184.size, Try.t184.bytes, Try.t184.zero.getD undef⟩),
  (185, ⟨Try.t185.desc, Try.t185.size, Try.t185.bytes, Try.t185.zero.getD undef⟩),
  (186, ⟨Try.t186.desc, Try.t186.size, Try.t186.bytes, Try.t186.zero.getD undef⟩),
  (187, ⟨Try.t21.desc, Try.t187.size, Try.t187.bytes, Try.t187.zero.getD undef⟩),
  (188, ⟨Try.t21.desc, Try.t188.size, Try.t188.bytes, Try.t188.zero.getD undef⟩),
  (189, ⟨Try.t189.desc, Try.t189.size, Try.t189.bytes, Try.t189.zero.getD undef⟩),
  (190, ⟨Try.t189.desc, Try.t190.size, Try.t190.bytes, Try.t190.zero.getD undef⟩),
  (191, ⟨Try.t191.desc, Try.t191.size, Try.t191.bytes, Try.t191.zero.getD undef⟩),
  (192, ⟨Try.t192.desc, Try.t192.size, Try.t192.bytes, Try.t192.zero.getD undef⟩),
  (193, ⟨Try.t192.desc, Try.t193.size, Try.t193.bytes, Try.t193.zero.getD undef⟩),
  (194, ⟨Try.t194.desc, Try.t194.size, Try.t194.bytes, Try.t194.zero.getD undef⟩),
  (195, ⟨Try.t194.desc, Try.t195.size, Try.t195.bytes, Try.t195.zero.getD undef⟩),
  (196, ⟨Try.t196.desc, Try.t196.size, Try.t196.bytes, Try.t196.zero.getD undef⟩)]
theorem good2 : Good Try.prog 2 ⟨Try.t2.desc, Try.t2.size, Try.t2.bytes, Try.t2.zero.getD undef⟩ := ⟨Try.underlying2, Try.t2, by kernel_rfl, rfl, rfl, rfl⟩
theorem good3 : Good Try.prog 3 ⟨Try.t3.desc, Try.t3.size, Try.t3.bytes, Try.t3.zero.getD undef⟩ := ⟨Try.underlying3, Try.t3, by kernel_rfl, rfl, rfl, rfl⟩
theorem good4 : Good Try.prog 4 ⟨Try.t4.desc, Try.t4.size, Try.t4.bytes, Try.t4.zero.getD undef⟩ := ⟨Try.underlying4, Try.t4, by kernel_rfl, rfl, rfl, rfl⟩
theorem good5 : Good Try.prog 5 ⟨Try.t5.desc, Try.t5.size, Try.t5.bytes, Try.t5.zero.getD undef⟩ := ⟨Try.underlying5, Try.t5, by kernel_rfl, rfl, rfl, rfl⟩
theorem good6 : Good Try.prog 6 ⟨Try.t5.desc, Try.t6.size, Try.t6.bytes, Try.t6.zero.getD undef⟩ := ⟨Try.underlying6, Try.t6, by kernel_rfl, rfl, rfl, rfl⟩
theorem good7 : Good Try.prog 7 ⟨Try.t7.desc, Try.t7.size, Try.t7.bytes, Try.t7.zero.getD undef⟩ := ⟨Try.underlying7, Try.t7, by kernel_rfl, rfl, rfl, rfl⟩
theorem good8 : Good Try.prog 8 ⟨Try.t7.desc, Try.t8.size, Try.t8.bytes, Try.t8.zero.getD undef⟩ := ⟨Try.underlying8, Try.t8, by kernel_rfl, rfl, rfl, rfl⟩
theorem good9 : Good Try.prog 9 ⟨Try.t9.desc, Try.t9.size, Try.t9.bytes, Try.t9.zero.getD undef⟩ := ⟨Try.underlying9, Try.t9, by kernel_rfl, rfl, rfl, rfl⟩
theorem good10 : Good Try.prog 10 ⟨Try.t9.desc, Try.t10.size, Try.t10.bytes, Try.t10.zero.getD undef⟩ := ⟨Try.underlying10, Try.t10, by kernel_rfl, rfl, rfl, rfl⟩
theorem good11 : Good Try.prog 11 ⟨Try.t9.desc, Try.t11.size, Try.t11.bytes, Try.t11.zero.getD undef⟩ := ⟨Try.underlying11, Try.t11, by kernel_rfl, rfl, rfl, rfl⟩
theorem good12 : Good Try.prog 12 ⟨Try.t12.desc, Try.t12.size, Try.t12.bytes, Try.t12.zero.getD undef⟩ := ⟨Try.underlying12, Try.t12, by kernel_rfl, rfl, rfl, rfl⟩
theorem good13 : Good Try.prog 13 ⟨Try.t13.desc, Try.t13.size, Try.t13.bytes, Try.t13.zero.getD undef⟩ := ⟨Try.underlying13, Try.t13, by kernel_rfl, rfl, rfl, rfl⟩
theorem good14 : Good Try.prog 14 ⟨Try.t13.desc, Try.t14.size, Try.t14.bytes, Try.t14.zero.getD undef⟩ := ⟨Try.underlying14, Try.t14, by kernel_rfl, rfl, rfl, rfl⟩
theorem good15 : Good Try.prog 15 ⟨Try.t15.desc, Try.t15.size, Try.t15.bytes, Try.t15.zero.getD undef⟩ := ⟨Try.underlying15, Try.t15, by kernel_rfl, rfl, rfl, rfl⟩
theorem good16 : Good Try.prog 16 ⟨Try.t16.desc, Try.t16.size, Try.t16.bytes, Try.t16.zero.getD undef⟩ := ⟨Try.underlying16, Try.t16, by kernel_rfl, rfl, rfl, rfl⟩
theorem good17 : Good Try.prog 17 ⟨Try.t17.desc, Try.t17.size, Try.t17.bytes, Try.t17.zero.getD undef⟩ := ⟨Try.underlying17, Try.t17, by kernel_rfl, rfl, rfl, rfl⟩
theorem good18 : Good Try.prog 18 ⟨Try.t18.desc, Try.t18.size, Try.t18.bytes, Try.t18.zero.getD undef⟩ := ⟨Try.underlying18, Try.t18, by kernel_rfl, rfl, rfl, rfl⟩
theorem good19 : Good Try.prog 19 ⟨Try.t18.desc, Try.t19.size, Try.t19.bytes, Try.t19.zero.getD undef⟩ := ⟨Try.underlying19, Try.t19, by kernel_rfl, rfl, rfl, rfl⟩
theorem good20 : Good Try.prog 20 ⟨Try.t20.desc, Try.t20.size, Try.t20.bytes, Try.t20.zero.getD undef⟩ := ⟨Try.underlying20, Try.t20, by kernel_rfl, rfl, rfl, rfl⟩
theorem good21 : Good Try.prog 21 ⟨Try.t21.desc, Try.t21.size, Try.t21.bytes, Try.t21.zero.getD undef⟩ := ⟨Try.underlying21, Try.t21, by kernel_rfl, rfl, rfl, rfl⟩
theorem good22 : Good Try.prog 22 ⟨Try.t22.desc, Try.t22.size, Try.t22.bytes, Try.t22.zero.getD undef⟩ := ⟨Try.underlying22, Try.t22, by kernel_rfl, rfl, rfl, rfl⟩
theorem good23 : Good Try.prog 23 ⟨Try.t23.desc, Try.t23.size, Try.t23.bytes, Try.t23.zero.getD undef⟩ := ⟨Try.underlying23, Try.t23, by kernel_rfl, rfl, rfl, rfl⟩
theorem good25 : Good Try.prog 25 ⟨Try.t25.desc, Try.t25.size, Try.t25.bytes, Try.t25.zero.getD undef⟩ := ⟨Try.underlying25, Try.t25, by kernel_rfl, rfl, rfl, rfl⟩
theorem good26 : Good Try.prog 26 ⟨Try.t25.desc, Try.t26.size, Try.t26.bytes, Try.t26.zero.getD undef⟩ := ⟨Try.underlying26, Try.t26, by kernel_rfl, rfl, rfl, rfl⟩
theorem good28 : Good Try.prog 28 ⟨Try.t28.desc, Try.t28.size, Try.t28.bytes, Try.t28.zero.getD undef⟩ := ⟨Try.underlying28, Try.t28, by kernel_rfl, rfl, rfl, rfl⟩
theorem good29 : Good Try.prog 29 ⟨Try.t3.desc, Try.t29.size, Try.t29.bytes, Try.t29.zero.getD undef⟩ := ⟨Try.underlying29, Try.t29, by kernel_rfl, rfl, rfl, rfl⟩
theorem good32 : Good Try.prog 32 ⟨Try.t32.desc, Try.t32.size, Try.t32.bytes, Try.t32.zero.getD undef⟩ := ⟨Try.underlying32, Try.t32, by kernel_rfl, rfl, rfl, rfl⟩
theorem good33 : Good Try.prog 33 ⟨Try.t33.desc, Try.t33.size, Try.t33.bytes, Try.t33.zero.getD undef⟩ := ⟨Try.underlying33, Try.t33, by kernel_rfl, rfl, rfl, rfl⟩
theorem good34 : Good Try.prog 34 ⟨Try.t34.desc, Try.t34.size, Try.t34.bytes, Try.t34.zero.getD undef⟩ := ⟨Try.underlying34, Try.t34, by kernel_rfl, rfl, rfl, rfl⟩
theorem good35 : Good Try.prog 35 ⟨Try.t35.desc, Try.t35.size, Try.t35.bytes, Try.t35.zero.getD undef⟩ := ⟨Try.underlying35, Try.t35, by kernel_rfl, rfl, rfl, rfl⟩
theorem good36 : Good Try.prog 36 ⟨Try.t35.desc, Try.t36.size, Try.t36.bytes, Try.t36.zero.getD undef⟩ := ⟨Try.underlying36, Try.t36, by kernel_rfl, rfl, rfl, rfl⟩
theorem good37 : Good Try.prog 37 ⟨Try.t37.desc, Try.t37.size, Try.t37.bytes, Try.t37.zero.getD undef⟩ := ⟨Try.underlying37, Try.t37, by kernel_rfl, rfl, rfl, rfl⟩
theorem good38 : Good Try.prog 38 ⟨Try.t38.desc, Try.t38.size, Try.t38.bytes, Try.t38.zero.getD undef⟩ := ⟨Try.underlying38, Try.t38, by kernel_rfl, rfl, rfl, rfl⟩
theorem good39 : Good Try.prog 39 ⟨Try.t39.desc, Try.t39.size, Try.t39.bytes, Try.t39.zero.getD undef⟩ := ⟨Try.underlying39, Try.t39, by kernel_rfl, rfl, rfl, rfl⟩
theorem good40 : Good Try.prog 40 ⟨Try.t39.desc, Try.t40.size, Try.t40.bytes, Try.t40.zero.getD undef⟩ := ⟨Try.underlying40, Try.t40, by kernel_rfl, rfl, rfl, rfl⟩
theorem good43 : Good Try.prog 43 ⟨Try.t43.desc, Try.t43.size, Try.t43.bytes, Try.t43.zero.getD undef⟩ := ⟨Try.underlying43, Try.t43, by kernel_rfl, rfl, rfl, rfl⟩
theorem good44 : Good Try.prog 44 ⟨Try.t43.desc, Try.t44.size, Try.t44.bytes, Try.t44.zero.getD undef⟩ := ⟨Try.underlying44, Try.t44, by kernel_rfl, rfl, rfl, rfl⟩
theorem good45 : Good Try.prog 45 ⟨Try.t45.desc, Try.t45.size, Try.t45.bytes, Try.t45.zero.getD undef⟩ := ⟨Try.underlying45, Try.t45, by kernel_rfl, rfl, rfl, rfl⟩
theorem good46 : Good Try.prog 46 ⟨Try.t46.desc, Try.t46.size, Try.t46.bytes, Try.t46.zero.getD undef⟩ := ⟨Try.underlying46, Try.t46, by kernel_rfl, rfl, rfl, rfl⟩
theorem good47 : Good Try.prog 47 ⟨Try.t46.desc, Try.t47.size, Try.t47.bytes, Try.t47.zero.getD undef⟩ := ⟨Try.underlying47, Try.t47, by kernel_rfl, rfl, rfl, rfl⟩
theorem good49 : Good Try.prog 49 ⟨Try.t46.desc, Try.t49.size, Try.t49.bytes, Try.t49.zero.getD undef⟩ := ⟨Try.underlying49, Try.t49, by kernel_rfl, rfl, rfl, rfl⟩
theorem good53 : Good Try.prog 53 ⟨Try.t53.desc, Try.t53.size, Try.t53.bytes, Try.t53.zero.getD undef⟩ := ⟨Try.underlying53, Try.t53, by kernel_rfl, rfl, rfl, rfl⟩
theorem good60 : Good Try.prog 60 ⟨Try.t60.desc, Try.t60.size, Try.t60.bytes, Try.t60.zero.getD undef⟩ := ⟨Try.underlying60, Try.t60, by kernel_rfl, rfl, rfl, rfl⟩
theorem good61 : Good Try.prog 61 ⟨Try.t60.desc, Try.t61.size, Try.t61.bytes, Try.t61.zero.getD undef⟩ := ⟨Try.underlying61, Try.t61, by kernel_rfl, rfl, rfl, rfl⟩
theorem good63 : Good Try.prog 63 ⟨Try.t63.desc, Try.t63.size, Try.t63.bytes, Try.t63.zero.getD undef⟩ := ⟨Try.underlying63, Try.t63, by kernel_rfl, rfl, rfl, rfl⟩
theorem good66 : Good Try.prog 66 ⟨Try.t66.desc, Try.t66.size, Try.t66.bytes, Try.t66.zero.getD undef⟩ := ⟨Try.underlying66, Try.t66, by kernel_rfl, rfl, rfl, rfl⟩
theorem good67 : Good Try.prog 67 ⟨Try.t66.desc, Try.t67.size, Try.t67.bytes, Try.t67.zero.getD undef⟩ := ⟨Try.underlying67, Try.t67, by kernel_rfl, rfl, rfl, rfl⟩
theorem good68 : Good Try.prog 68 ⟨Try.t68.desc, Try.t68.size, Try.t68.bytes, Try.t68.zero.getD undef⟩ := ⟨Try.underlying68, Try.t68, by kernel_rfl, rfl, rfl, rfl⟩
theorem good71 : Good Try.prog 71 ⟨Try.t71.desc, Try.t71.size, Try.t71.bytes, Try.t71.zero.getD undef⟩ := ⟨Try.underlying71, Try.t71, by kernel_rfl, rfl, rfl, rfl⟩
theorem good72 : Good Try.prog 72 ⟨Try.t72.desc, Try.t72.size, Try.t72.bytes, Try.t72.zero.getD undef⟩ := ⟨Try.underlying72, Try.t72, by kernel_rfl, rfl, rfl, rfl⟩
theorem good73 : Good Try.prog 73 ⟨Try.t72.desc, Try.t73.size, Try.t73.bytes, Try.t73.zero.getD undef⟩ := ⟨Try.underlying73, Try.t73, by kernel_rfl, rfl, rfl, rfl⟩
theorem good74 : Good Try.prog 74 ⟨Try.t74.desc, Try.t74.size, Try.t74.bytes, Try.t74.zero.getD undef⟩ := ⟨Try.underlying74, Try.t74, by kernel_rfl, rfl, rfl, rfl⟩
theorem good76 : Good Try.prog 76 ⟨Try.t76.desc, Try.t76.size, Try.t76.bytes, Try.t76.zero.getD undef⟩ := ⟨Try.underlying76, Try.t76, by kernel_rfl, rfl, rfl, rfl⟩
theorem good77 : Good Try.prog 77 ⟨Try.t76.desc, Try.t77.size, Try.t77.bytes, Try.t77.zero.getD undef⟩ := ⟨Try.underlying77, Try.t77, by kernel_rfl, rfl, rfl, rfl⟩
theorem good86 : Good Try.prog 86 ⟨Try.t86.desc, Try.t86.size, Try.t86.bytes, Try.t86.zero.getD undef⟩ := ⟨Try.underlying86, Try.t86, by kernel_rfl, rfl, rfl, rfl⟩
theorem good87 : Good Try.prog 87 ⟨Try.t87.desc, Try.t87.size, Try.t87.bytes, Try.t87.zero.getD undef⟩ := ⟨Try.underlying87, Try.t87, by kernel_rfl, rfl, rfl, rfl⟩
theorem good88 : Good Try.prog 88 ⟨Try.t88.desc, Try.t88.size, Try.t88.bytes, Try.t88.zero.getD undef⟩ := ⟨Try.underlying88, Try.t88, by kernel_rfl, rfl, rfl, rfl⟩
theorem good89 : Good Try.prog 89 ⟨Try.t89.desc, Try.t89.size, Try.t89.bytes, Try.t89.zero.getD undef⟩ := ⟨Try.underlying89, Try.t89, by kernel_rfl, rfl, rfl, rfl⟩
theorem good90 : Good Try.prog 90 ⟨Try.t89.desc, Try.t90.size, Try.t90.bytes, Try.t90.zero.getD undef⟩ := ⟨Try.underlying90, Try.t90, by kernel_rfl, rfl, rfl, rfl⟩
theorem good91 : Good Try.prog 91 ⟨Try.t91.desc, Try.t91.size, Try.t91.bytes, Try.t91.zero.getD undef⟩ := ⟨Try.underlying91, Try.t91, by kernel_rfl, rfl, rfl, rfl⟩
theorem good92 : Good Try.prog 92 ⟨Try.t92.desc, Try.t92.size, Try.t92.bytes, Try.t92.zero.getD undef⟩ := ⟨Try.underlying92, Try.t92, by kernel_rfl, rfl, rfl, rfl⟩
theorem good93 : Good Try.prog 93 ⟨Try.t92.desc, Try.t93.size, Try.t93.bytes, Try.t93.zero.getD undef⟩ := ⟨Try.underlying93, Try.t93, by kernel_rfl, rfl, rfl, rfl⟩
theorem good98 : Good Try.prog 98 ⟨Try.t98.desc, Try.t98.size, Try.t98.bytes, Try.t98.zero.getD undef⟩ := ⟨Try.underlying98, Try.t98, by kernel_rfl, rfl, rfl, rfl⟩
theorem good99 : Good Try.prog 99 ⟨Try.t98.desc, Try.t99.size, Try.t99.bytes, Try.t99.zero.getD undef⟩ := ⟨Try.underlying99, Try.t99, by kernel_rfl, rfl, rfl, rfl⟩
theorem good110 : Good Try.prog 110 ⟨Try.t110.desc, Try.t110.size, Try.t110.bytes, Try.t110.zero.getD undef⟩ := ⟨Try.underlying110, Try.t110, by kernel_rfl, rfl, rfl, rfl⟩
theorem good111 : Good Try.prog 111 ⟨Try.t111.desc, Try.t111.size, Try.t111.bytes, Try.t111.zero.getD undef⟩ := ⟨Try.underlying111, Try.t111, by kernel_rfl, rfl, rfl, rfl⟩
theorem good117 : Good Try.prog 117 ⟨Try.t117.desc, Try.t117.size, Try.t117.bytes, Try.t117.zero.getD undef⟩ := ⟨Try.underlying117, Try.t117, by kernel_rfl, rfl, rfl, rfl⟩
theorem good118 : Good Try.prog 118 ⟨Try.t117.desc, Try.t118.size, Try.t118.bytes, Try.t118.zero.getD undef⟩ := ⟨Try.underlying118, Try.t118, by kernel_rfl, rfl, rfl, rfl⟩
theorem good126 : Good Try.prog 126 ⟨Try.t126.desc, Try.t126.size, Try.t126.bytes, Try.t126.zero.getD undef⟩ := ⟨Try.underlying126, Try.t126, by kernel_rfl, rfl, rfl, rfl⟩
theorem good128 : Good Try.prog 128 ⟨Try.t128.desc, Try.t128.size, Try.t128.bytes, Try.t128.zero.getD undef⟩ := ⟨Try.underlying128, Try.t128, by kernel_rfl, rfl, rfl, rfl⟩
theorem good129 : Good Try.prog 129 ⟨Try.t128.desc, Try.t129.size, Try.t129.bytes, Try.t129.zero.getD undef⟩ := ⟨Try.underlying129, Try.t129, by kernel_rfl, rfl, rfl, rfl⟩
theorem good130 : Good Try.prog 130 ⟨Try.t130.desc, Try.t130.size, Try.t130.bytes, Try.t130.zero.getD undef⟩ := ⟨Try.underlying130, Try.t130, by kernel_rfl, rfl, rfl, rfl⟩
theorem good131 : Good Try.prog 131 ⟨Try.t131.desc, Try.t131.size, Try.t131.bytes, Try.t131.zero.getD undef⟩ := ⟨Try.underlying131, Try.t131, by kernel_rfl, rfl, rfl, rfl⟩
theorem good132 : Good Try.prog 132 ⟨Try.t131.desc, Try.t132.size, Try.t132.bytes, Try.t132.zero.getD undef⟩ := ⟨Try.underlying132, Try.t132, by kernel_rfl, rfl, rfl, rfl⟩
theorem good133 : Good Try.prog 133 ⟨Try.t133.desc, Try.t133.size, Try.t133.bytes, Try.t133.zero.getD undef⟩ := ⟨Try.underlying133, Try.t133, by kernel_rfl, rfl, rfl, rfl⟩
theorem good134 : Good Try.prog 134 ⟨Try.t133.desc, Try.t134.size, Try.t134.bytes, Try.t134.zero.getD undef⟩ := ⟨Try.underlying134, Try.t134, by kernel_rfl, rfl, rfl, rfl⟩
theorem good136 : Good Try.prog 136 ⟨Try.t136.desc, Try.t136.size, Try.t136.bytes, Try.t136.zero.getD undef⟩ := ⟨Try.underlying136, Try.t136, by kernel_rfl, rfl, rfl, rfl⟩
theorem good140 : Good Try.prog 140 ⟨Try.t140.desc, Try.t140.size, Try.t140.bytes, Try.t140.zero.getD undef⟩ := ⟨Try.underlying140, Try.t140, by kernel_rfl, rfl, rfl, rfl⟩
theorem good148 : Good Try.prog 148 ⟨Try.t148.desc, Try.t148.size, Try.t148.bytes, Try.t148.zero.getD undef⟩ := ⟨Try.underlying148, Try.t148, by kernel_rfl, rfl, rfl, rfl⟩
theorem good149 : Good Try.prog 149 ⟨Try.t148.desc, Try.t149.size, Try.t149.bytes, Try.t149.zero.getD undef⟩ := ⟨Try.underlying149, Try.t149, by kernel_rfl, rfl, rfl, rfl⟩
theorem good152 : Good Try.prog 152 ⟨Try.t152.desc, Try.t152.size, Try.t152.bytes, Try.t152.zero.getD undef⟩ := ⟨Try.underlying152, Try.t152, by kernel_rfl, rfl, rfl, rfl⟩
theorem good159 : Good Try.prog 159 ⟨Try.t3.desc, Try.t159.size, Try.t159.bytes, Try.t159.zero.getD undef⟩ := ⟨Try.underlying159, Try.t159, by kernel_rfl, rfl, rfl, rfl⟩
theorem good168 : Good Try.prog 168 ⟨Try.t168.desc, Try.t168.size, Try.t168.bytes, Try.t168.zero.getD undef⟩ := ⟨Try.underlying168, Try.t168, by kernel_rfl, rfl, rfl, rfl⟩
theorem good169 : Good Try.prog 169 ⟨Try.t34.desc, Try.t169.size, Try.t169.bytes, Try.t169.zero.getD undef⟩ := ⟨Try.underlying169, Try.t169, by kernel_rfl, rfl, rfl, rfl⟩
theorem good172 : Good Try.prog 172 ⟨Try.t172.desc, Try.t172.size, Try.t172.bytes, Try.t172.zero.getD undef⟩ := ⟨Try.underlying172, Try.t172, by kernel_rfl, rfl, rfl, rfl⟩
theorem good174 : Good Try.prog 174 ⟨Try.t174.desc, Try.t174.size, Try.t174.bytes, Try.t174.zero.getD undef⟩ := ⟨Try.underlying174, Try.t174, by kernel_rfl, rfl, rfl, rfl⟩
theorem good178 : Good Try.prog 178 ⟨Try.t178.desc, Try.t178.size, Try.t178.bytes, Try.t178.zero.getD undef⟩ := ⟨Try.underlying178, Try.t178, by kernel_rfl, rfl, rfl, rfl⟩
theorem good179 : Good Try.prog 179 ⟨Try.t178.desc, Try.t179.size, Try.t179.bytes, Try.t179.zero.getD undef⟩ := ⟨Try.underlying179, Try.t179, by kernel_rfl, rfl, rfl, rfl⟩
theorem good180 : Good Try.prog 180 ⟨Try.t180.desc, Try.t180.size, Try.t180.bytes, Try.t180.zero.getD undef⟩ := ⟨Try.underlying180, Try.t180, by kernel_rfl, rfl, rfl, rfl⟩
theorem good181 : Good Try.prog 181 ⟨Try.t181.desc, Try.t181.size, Try.t181.bytes, Try.t181.zero.getD undef⟩ := ⟨Try.underlying181, Try.t181, by kernel_rfl, rfl, rfl, rfl⟩
theorem good182 : Good Try.prog 182 ⟨Try.t181.desc, Try.t182.size, Try.t182.bytes, Try.t182.zero.getD undef⟩ := ⟨Try.underlying182, Try.t182, by kernel_rfl, rfl, rfl, rfl⟩
theorem good183 : Good Try.prog 183 ⟨Try.t5.desc, Try.t183.size, Try.t183.bytes, Try.t183.zero.getD undef⟩ := ⟨Try.underlying183, Try.t183, by kernel_rfl, rfl, rfl, rfl⟩
theorem good184 : Good Try.prog 184 ⟨Try.t5.desc, Try.t184.size, Try.t184.bytes, Try.t184.zero.getD undef⟩ := ⟨Try.underlying184, Try.t184, by kernel_rfl, rfl, rfl, rfl⟩
theorem good185 : Good Try.prog 185 ⟨Try.t185.desc, Try.t185.size, Try.t185.bytes, Try.t185.zero.getD undef⟩ := ⟨Try.underlying185, Try.t185, by kernel_rfl, rfl, rfl, rfl⟩
theorem good186 : Good Try.prog 186 ⟨Try.t186.desc, Try.t186.size, Try.t186.bytes, Try.t186.zero.getD undef⟩ := ⟨Try.underlying186, Try.t186, by kernel_rfl, rfl, rfl, rfl⟩
theorem good187 : Good Try.prog 187 ⟨Try.t21.desc, Try.t187.size, Try.t187.bytes, Try.t187.zero.getD undef⟩ := ⟨Try.underlying187, Try.t187, by kernel_rfl, rfl, rfl, rfl⟩
theorem good188 : Good Try.prog 188 ⟨Try.t21.desc, Try.t188.size, Try.t188.bytes, Try.t188.zero.getD undef⟩ := ⟨Try.underlying188, Try.t188, by kernel_rfl, rfl, rfl, rfl⟩
theorem good189 : Good Try.prog 189 ⟨Try.t189.desc, Try.t189.size, Try.t189.bytes, Try.t189.zero.getD undef⟩ := ⟨Try.underlying189, Try.t189, by kernel_rfl, rfl, rfl, rfl⟩
theorem good190 : Good Try.prog 190 ⟨Try.t189.desc, Try.t190.size, Try.t190.bytes, Try.t190.zero.getD undef⟩ := ⟨Try.underlying190, Try.t190, by kernel_rfl, rfl, rfl, rfl⟩
theorem good191 : Good Try.prog 191 ⟨Try.t191.desc, Try.t191.size, Try.t191.bytes, Try.t191.zero.getD undef⟩ := ⟨Try.underlying191, Try.t191, by kernel_rfl, rfl, rfl, rfl⟩
theorem good192 : Good Try.prog 192 ⟨Try.t192.desc, Try.t192.size, Try.t192.bytes, Try.t192.zero.getD undef⟩ := ⟨Try.underlying192, Try.t192, by kernel_rfl, rfl, rfl, rfl⟩
theorem good193 : Good Try.prog 193 ⟨Try.t192.desc, Try.t193.size, Try.t193.bytes, Try.t193.zero.getD undef⟩ := ⟨Try.underlying193, Try.t193, by kernel_rfl, rfl, rfl, rfl⟩
theorem good194 : Good Try.prog 194 ⟨Try.t194.desc, Try.t194.size, Try.t194.bytes, Try.t194.zero.getD undef⟩ := ⟨Try.underlying194, Try.t194, by kernel_rfl, rfl, rfl, rfl⟩
theorem good195 : Good Try.prog 195 ⟨Try.t194.desc, Try.t195.size, Try.t195.bytes, Try.t195.zero.getD undef⟩ := ⟨Try.underlying195, Try.t195, by kernel_rfl, rfl, rfl, rfl⟩
theorem good196 : Good Try.prog 196 ⟨Try.t196.desc, Try.t196.size, Try.t196.bytes, Try.t196.zero.getD undef⟩ := ⟨Try.underlying196, Try.t196, by kernel_rfl, rfl, rfl, rfl⟩
theorem tabOk : TabOk Try.prog tab := .cons good2 <| .cons good3 <| .cons good4 <| .cons good5 <| .cons good6 <| .cons good7 <| .cons good8 <| .cons good9 <| .cons good10 <| .cons good11 <| .cons good12 <| .cons good13 <| .cons good14 <| .cons good15 <| .cons good16 <| .cons good17 <| .cons good18 <| .cons good19 <| .cons good20 <| .cons good21 <| .cons good22 <| .cons good23 <| .cons good25 <| .cons good26 <| .cons good28 <| .cons good29 <| .cons good32 <| .cons good33 <| .cons good34 <| .cons good35 <| .cons good36 <| .cons good37 <| .cons good38 <| .cons good39 <| .cons good40 <| .cons good43 <| .cons good44 <| .cons good45 <| .cons good46 <| .cons good47 <| .cons good49 <| .cons good53 <| .cons good60 <| .cons good61 <| .cons good63 <| .cons good66 <| .cons good67 <| .cons good68 <| .cons good71 <| .cons good72 <| .cons good73 <| .cons good74 <| .cons good76 <| .cons good77 <| .cons good86 <| .cons good87 <| .cons good88 <| .cons good89 <| .cons good90 <| .cons good91 <| .cons good92 <| .cons good93 <| .cons good98 <| .cons good99 <| .cons good110 <| .cons good111 <| .cons good117 <| .cons good118 <| .cons good126 <| .cons good128 <| .cons good129 <| .cons good130 <| .cons good131 <| .cons good132 <| .cons good133 <| .cons good134 <| .cons good136 <| .cons good140 <| .cons good148 <| .cons good149 <| .cons good152 <| .cons good159 <| .cons good168 <| .cons good169 <| .cons good172 <| .cons good174 <| .cons good178 <| .cons good179 <| .cons good180 <| .cons good181 <| .cons good182 <| .cons good183 <| .cons good184 <| .cons good185 <| .cons good186 <| .cons good187 <| .cons good188 <| .cons good189 <| .cons good190 <| .cons good191 <| .cons good192 <| .cons good193 <| .cons good194 <| .cons good195 <| .cons good196 <| TabOk.nil _
end Go.Proofs.Ytidhpofcofknhaa
