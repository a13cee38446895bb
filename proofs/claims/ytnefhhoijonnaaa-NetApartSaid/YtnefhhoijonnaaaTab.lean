/-
  The table of the seat's types for the engine of rules, made by a program of this repo (mktab.py). No condition.
-/
import Derived.Test.YtnefhhoijonnaaaChecked
import Derived.Test.YtnefhhoijonnaaaEa
namespace Go.Proofs.Ytnefhhoijonnaaa
open Go
set_option linter.unusedVariables false
noncomputable def tab : Tab := [(2, ⟨Try.t2.desc, Try.t2.size, Try.t2.bytes, Try.t2.zero.getD undef⟩),
  (3, ⟨Try.t3.desc, Try.t3.size, Try.t3.bytes, Try.t3.zero.getD undef⟩),
  (4, ⟨Try.t4.desc, Try.t4.size, Try.t4.bytes, Try.t4.zero.getD undef⟩),
  (5, ⟨Try.t5.desc, Try.t5.size, Try.t5.bytes, Try.t5.zero.getD undef⟩),
  (6, ⟨Try.t5.desc, Try.t6.size, Try.t6.bytes, Try.t6.zero.getD undef⟩),
  (7, ⟨Try.t7.desc, Try.t7.size, Try.t7.bytes, Try.t7.zero.getD undef⟩),
  (8, ⟨Try.t7.desc, Try.t8.size, Try.t8.bytes, Try.t8.zero.getD undef⟩),
  (9, ⟨Try.t9.desc, Try.t9.size, Try.t9.bytes, Try.t9.zero.getD undef⟩),
  (10, ⟨Try.t9.desc, Try.t10.size, Try.t10.bytes, Try.t10.zero.getD undef⟩),
  (11, ⟨Try.t9.desc, Try.t11.size, Try.t11.bytes, Try.t11.zero.getD undef⟩),
  (12, ⟨Try.t12.desc, Try.t12.size, Try.t12.bytes, Try.t12.zero.getD undef⟩),
  (13, ⟨Try.t13.desc, Try.t13.size, Try.t13.bytes, Try.t13.zero.getD undef⟩),
  (14, ⟨Try.t13.desc, Try.t14.size, Try.t14.bytes, Try.t14.zero.getD undef⟩),
  (15, ⟨Try.t15.desc, Try.t15.size, Try.t15.bytes, Try.t15.zero.getD undef⟩),
  (16, ⟨Try.t16.desc, Try.t16.size, Try.t16.bytes, Try.t16.zero.getD undef⟩),
  (17, ⟨Try.t17.desc, Try.t17.size, Try.t17.bytes, Try.t17.zero.getD undef⟩),
  (18, ⟨Try.t18.desc, Try.t18.size, Try.t18.bytes, Try.t18.zero.getD undef⟩),
  (19, ⟨Try.t18.desc, Try.t19.size, Try.t19.bytes, Try.t19.zero.getD undef⟩),
  (20, ⟨Try.t20.desc, Try.t20.size, Try.t20.bytes, Try.t20.zero.getD undef⟩),
  (21, ⟨Try.t21.desc, Try.t21.size, Try.t21.bytes, Try.t21.zero.getD undef⟩),
  (22, ⟨Try.t22.desc, Try.t22.size, Try.t22.bytes, Try.t22.zero.getD undef⟩),
  (23, ⟨Try.t23.desc, Try.t23.size, Try.t23.bytes, Try.t23.zero.getD undef⟩),
  (24, ⟨Try.t24.desc, Try.t24.size, Try.t24.bytes, Try.t24.zero.getD undef⟩),
  (25, ⟨Try.t25.desc, Try.t25.size, Try.t25.bytes, Try.t25.zero.getD undef⟩),
  (26, ⟨Try.t25.desc, Try.t26.size, Try.t26.bytes, Try.t26.zero.getD undef⟩),
  (30, ⟨Try.t30.desc, Try.t30.size, Try.t30.bytes, Try.t30.zero.getD undef⟩),
  (31, ⟨Try.t31.desc, Try.t31.size, Try.t31.bytes, Try.t31.zero.getD undef⟩),
  (32, ⟨Try.t32.desc, Try.t32.size, Try.t32.bytes, Try.t32.zero.getD undef⟩),
  (33, ⟨Try.t32.desc, Try.t33.size, Try.t33.bytes, Try.t33.zero.getD undef⟩),
  (36, ⟨Try.t36.desc, Try.t36.size, Try.t36.bytes, Try.t36.zero.getD undef⟩),
  (37, ⟨Try.t37.desc, Try.t37.size, Try.t37.bytes, Try.t37.zero.getD undef⟩),
  (38, ⟨Try.t3.desc, Try.t38.size, Try.t38.bytes, Try.t38.zero.getD undef⟩),
  (51, ⟨Try.t51.desc, Try.t51.size, Try.t51.bytes, Try.t51.zero.getD undef⟩),
  (52, ⟨Try.t51.desc, Try.t52.size, Try.t52.bytes, Try.t52.zero.getD undef⟩),
  (53, ⟨Try.t53.desc, Try.t53.size, Try.t53.bytes, Try.t53.zero.getD undef⟩),
  (54, ⟨Try.t53.desc, Try.t54.size, Try.t54.bytes, Try.t54.zero.getD undef⟩),
  (61, ⟨Try.t61.desc, Try.t61.size, Try.t61.bytes, Try.t61.zero.getD undef⟩),
  (63, ⟨Try.t63.desc, Try.t63.size, Try.t63.bytes, Try.t63.zero.getD undef⟩),
  (64, ⟨Try.t64.desc, Try.t64.size, Try.t64.bytes, Try.t64.zero.getD undef⟩),
  (66, ⟨Try.t66.desc, Try.t66.size, Try.t66.bytes, Try.t66.zero.getD undef⟩),
  (67, ⟨Try.t67.desc, Try.t67.size, Try.t67.bytes, Try.t67.zero.getD undef⟩),
  (68, ⟨Try.t68.desc, Try.t68.size, Try.t68.bytes, Try.t68.zero.getD undef⟩),
  (69, ⟨Try.t68.desc, Try.t69.size, Try.t69.bytes, Try.t69.zero.getD undef⟩),
  (70, ⟨Try.t70.desc, Try.t70.size, Try.t70.bytes, Try.t70.zero.getD undef⟩),
  (71, ⟨Try.t70.desc, Try.t71.size, Try.t71.bytes, Try.t71.zero.getD undef⟩),
  (72, ⟨Try.t72.desc, Try.t72.size, Try.t72.bytes, Try.t72.zero.getD undef⟩),
  (73, ⟨Try.t72.desc, Try.t73.size, Try.t73.bytes, Try.t73.zero.getD undef⟩),
  (77, ⟨Try.t77.desc, Try.t77.size, Try.t77.bytes, Try.t77.zero.getD undef⟩),
  (79, ⟨Try.t79.desc, Try.t79.size, Try.t79.bytes, Try.t79.zero.getD undef⟩),
  (88, ⟨Try.t88.desc, Try.t88.size, Try.t88.bytes, Try.t88.zero.getD undef⟩),
  (89, ⟨Try.t89.desc, Try.t89.size, Try.t89.bytes, Try.t89.zero.getD undef⟩),
  (90, ⟨Try.t90.desc, Try.t90.size, Try.t90.bytes, Try.t90.zero.getD undef⟩),
  (91, ⟨Try.t90.desc, Try.t91.size, Try.t91.bytes, Try.t91.zero.getD undef⟩),
  (96, ⟨Try.t51.desc, Try.t96.size, Try.t96.bytes, Try.t96.zero.getD undef⟩),
  (97, ⟨Try.t97.desc, Try.t97.size, Try.t97.bytes, Try.t97.zero.getD undef⟩),
  (98, ⟨Try.t97.desc, Try.t98.size, Try.t98.bytes, Try.t98.zero.getD undef⟩),
  (100, ⟨Try.t100.desc, Try.t100.size, Try.t100.bytes, Try.t100.zero.getD undef⟩),
  (101, ⟨Try.t100.desc, Try.t101.size, Try.t101.bytes, Try.t101.zero.getD undef⟩),
  (102, ⟨Try.t100.desc, Try.t102.size, Try.t102.bytes, Try.t102.zero.getD undef⟩),
  (110, ⟨Try.t110.desc, Try.t110.size, Try.t110.bytes, Try.t110.zero.getD undef⟩),
  (113, ⟨Try.t113.desc, Try.t113.size, Try.t113.bytes, Try.t113.zero.getD undef⟩),
  (118, ⟨Try.t118.desc, Try.t118.size, Try.t118.bytes, Try.t118.zero.getD undef⟩),
  (121, ⟨Try.t121.desc, Try.t121.size, Try.t121.bytes, Try.t121.zero.getD undef⟩),
  (122, ⟨Try.t122.desc, Try.t122.size, Try.t122.bytes, Try.t122.zero.getD undef⟩),
  (123, ⟨Try.t122.desc, Try.t123.size, Try.t123.bytes, Try.t123.zero.getD undef⟩),
  (130, ⟨Try.t130.desc, Try.t130.size, Try.t130.bytes, Try.t130.zero.getD undef⟩),
  (131, ⟨Try.t130.desc, Try.t131.size, Try.t131.bytes, Try.t131.zero.getD undef⟩),
  (132, ⟨Try.t132.desc, Try.t132.size, Try.t132.bytes, Try.t132.zero.getD undef⟩),
  (133, ⟨Try.t132.desc, Try.t133.size, Try.t133.bytes, Try.t133.zero.getD undef⟩),
  (145, ⟨Try.t145.desc, Try.t145.size, Try.t145.bytes, Try.t145.zero.getD undef⟩),
  (146, ⟨Try.t146.desc, Try.t146.size, Try.t146.bytes, Try.t146.zero.getD undef⟩),
  (147, ⟨Try.t146.desc, Try.t147.size, Try.t147.bytes, Try.t147.zero.getD undef⟩),
  (160, ⟨Try.t160.desc, Try.t160.size, Try.t160.bytes, Try.t160.zero.getD undef⟩),
  (161, ⟨Try.t160.desc, Try.t161.size, Try.t161.bytes, Try.t161.zero.getD undef⟩),
  (165, ⟨Try.t165.desc, Try.t165.size, Try.t165.bytes, Try.t165.zero.getD undef⟩),
  (173, ⟨Try.t173.desc, Try.t173.size, Try.t173.bytes, Try.t173.zero.getD undef⟩),
  (178, ⟨Try.t178.desc, Try.t178.size, Try.t178.bytes, Try.t178.zero.getD undef⟩),
  (179, ⟨Try.t178.desc, Try.t179.size, Try.t179.bytes, Try.t179.zero.getD undef⟩),
  (180, ⟨Try.t180.desc, Try.t180.size, Try.t180.bytes, Try.t180.zero.getD undef⟩),
  (181, ⟨Try.t181.desc, Try.t181.size, Try.t181.bytes, Try.t181.zero.getD undef⟩),
  (182, ⟨Try.t181.desc, Try.t182.size, Try.t182.bytes, Try.t182.zero.getD undef⟩),
  (183, ⟨Try.t5.desc, Try.t183.size, Try.t183.bytes, Try.t183.zero.getD undef⟩),
  (184, ⟨Try.t5.desc, Try.t184.size, Try.t184.bytes, Try.t184.zero.getD undef⟩),
  (185, ⟨Try.t185.desc, Try.t185.size, Try.t185.bytes, Try.t185.zero.getD undef⟩),
  (186, ⟨Try.t186.desc, Try.t186.size, Try.t186.bytes, Try.t186.zero.getD undef⟩),
  (187, ⟨Try.t21.desc, Try.t187.size, Try.t187.bytes, Try.t187.zero.getD undef⟩),
  (188, ⟨Try.t21.desc, Try.t188.size, Try.t188.bytes, Try.t188.zero.getD undef⟩),
  (189, ⟨Try.t189.desc, Try.t189.size, Try.t189.bytes, Try.t189.zero.getD undef⟩),
  (190, ⟨Try.t189.desc, Try.t190.size, Try.t190.bytes, Try.t190.zero.getD undef⟩),
  (191, ⟨Try.t191.desc, Try.t191.size, Try.t191.bytes, Try.t191.zero.getD undef⟩)]
theorem good2 : Good Try.prog 2 ⟨Try.t2.desc, Try.t2.size, Try.t2.bytes, Try.t2.zero.getD undef⟩ := ⟨Try.underlying2, Try.t2, by kernel_rfl, rfl, rfl, rfl⟩
theorem good3 : Good Try.prog 3 ⟨Try.t3.desc, Try.t3.size, Try.t3.bytes, Try.t3.zero.getD undef⟩ := ⟨Try.underlying3, Try.t3, by kernel_rfl, rfl, rfl, rfl⟩
theorem good4 : Good Try.prog 4 ⟨Try.t4.desc, Try.t4.size, Try.t4.bytes, Try.t4.zero.getD undef⟩ := ⟨Try.underlying4, Try.t4, by kernel_rfl, rfl, rfl, rfl⟩
theorem good5 : Good Try.prog 5 ⟨Try.t5.desc, Try.t5.size, Try.t5.bytes, Try.t5.zero.getD undef⟩ := ⟨Try.underlying5, Try.t5, by kernel_rfl, rfl, rfl, rfl⟩
theorem good6 : Good Try.prog 6 ⟨Try.t5.desc, Try.t6.size, Try.t6.bytes, Try.t6.zero.getD undef⟩ := ⟨Try.underlying6, Try.t6, by kernel_rfl, rfl, rfl, rfl⟩
theorem good7 : Good Try.prog 7 ⟨Try.t7.desc, Try.t7.size, Try.t7.bytes, Try.t7.zero.getD undef⟩ := ⟨Try.underlying7, Try.t7, by kernel_rfl, rfl, rfl, rfl⟩
theorem good8 : Good Try.prog 8 ⟨Try.t7.desc, Try.t8.size, Try.t8.bytes, Try.t8.zero.getD undef⟩ := ⟨Try.underlying8, Try.t8, by kernel_rfl, rfl, rfl, rfl⟩
theorem good9 : Good Try.prog 9 ⟨Try.t9.desc, Try.t9.size, Try.t9.bytes, Try.t9.zero.getD undef⟩ := ⟨Try.underlying9, Try.t9, by kernel_rfl, rfl, rfl, rfl⟩
theorem good10 : Good Try.prog 10 ⟨Try.t9.desc, Try.t10.size, Try.t10.bytes, Try.t10.zero.getD undef⟩ := ⟨Try.underlying10, Try.t10, by kernel_rfl, rfl, rfl, rfl⟩
theorem good11 : Good Try.prog 11 ⟨Try.t9.desc, Try.t11.size, Try.t11.bytes, Try.t11.zero.getD undef⟩ := ⟨Try.underlying11, Try.t11, by kernel_rfl, rfl, rfl, rfl⟩
theorem good12 : Good Try.prog 12 ⟨Try.t12.desc, Try.t12.size, Try.t12.bytes, Try.t12.zero.getD undef⟩ := ⟨Try.underlying12, Try.t12, by kernel_rfl, rfl, rfl, rfl⟩
theorem good13 : Good Try.prog 13 ⟨Try.t13.desc, Try.t13.size, Try.t13.bytes, Try.t13.zero.getD undef⟩ := ⟨Try.underlying13, Try.t13, by kernel_rfl, rfl, rfl, rfl⟩
theorem good14 : Good Try.prog 14 ⟨Try.t13.desc, Try.t14.size, Try.t14.bytes, Try.t14.zero.getD undef⟩ := ⟨Try.underlying14, Try.t14, by kernel_rfl, rfl, rfl, rfl⟩
theorem good15 : Good Try.prog 15 ⟨Try.t15.desc, Try.t15.size, Try.t15.bytes, Try.t15.zero.getD undef⟩ := ⟨Try.underlying15, Try.t15, by kernel_rfl, rfl, rfl, rfl⟩
theorem good16 : Good Try.prog 16 ⟨Try.t16.desc, Try.t16.size, Try.t16.bytes, Try.t16.zero.getD undef⟩ := ⟨Try.underlying16, Try.t16, by kernel_rfl, rfl, rfl, rfl⟩
theorem good17 : Good Try.prog 17 ⟨Try.t17.desc, Try.t17.size, Try.t17.bytes, Try.t17.zero.getD undef⟩ := ⟨Try.underlying17, Try.t17, by kernel_rfl, rfl, rfl, rfl⟩
theorem good18 : Good Try.prog 18 ⟨Try.t18.desc, Try.t18.size, Try.t18.bytes, Try.t18.zero.getD undef⟩ := ⟨Try.underlying18, Try.t18, by kernel_rfl, rfl, rfl, rfl⟩
theorem good19 : Good Try.prog 19 ⟨Try.t18.desc, Try.t19.size, Try.t19.bytes, Try.t19.zero.getD undef⟩ := ⟨Try.underlying19, Try.t19, by kernel_rfl, rfl, rfl, rfl⟩
theorem good20 : Good Try.prog 20 ⟨Try.t20.desc, Try.t20.size, Try.t20.bytes, Try.t20.zero.getD undef⟩ := ⟨Try.underlying20, Try.t20, by kernel_rfl, rfl, rfl, rfl⟩
theorem good21 : Good Try.prog 21 ⟨Try.t21.desc, Try.t21.size, Try.t21.bytes, Try.t21.zero.getD undef⟩ := ⟨Try.underlying21, Try.t21, by kernel_rfl, rfl, rfl, rfl⟩
theorem good22 : Good Try.prog 22 ⟨Try.t22.desc, Try.t22.size, Try.t22.bytes, Try.t22.zero.getD undef⟩ := ⟨Try.underlying22, Try.t22, by kernel_rfl, rfl, rfl, rfl⟩
theorem good23 : Good Try.prog 23 ⟨Try.t23.desc, Try.t23.size, Try.t23.bytes, Try.t23.zero.getD undef⟩ := ⟨Try.underlying23, Try.t23, by kernel_rfl, rfl, rfl, rfl⟩
theorem good24 : Good Try.prog 24 ⟨Try.t24.desc, Try.t24.size, Try.t24.bytes, Try.t24.zero.getD undef⟩ := ⟨Try.underlying24, Try.t24, by kernel_rfl, rfl, rfl, rfl⟩
theorem good25 : Good Try.prog 25 ⟨Try.t25.desc, Try.t25.size, Try.t25.bytes, Try.t25.zero.getD undef⟩ := ⟨Try.underlying25, Try.t25, by kernel_rfl, rfl, rfl, rfl⟩
theorem good26 : Good Try.prog 26 ⟨Try.t25.desc, Try.t26.size, Try.t26.bytes, Try.t26.zero.getD undef⟩ := ⟨Try.underlying26, Try.t26, by kernel_rfl, rfl, rfl, rfl⟩
theorem good30 : Good Try.prog 30 ⟨Try.t30.desc, Try.t30.size, Try.t30.bytes, Try.t30.zero.getD undef⟩ := ⟨Try.underlying30, Try.t30, by kernel_rfl, rfl, rfl, rfl⟩
theorem good31 : Good Try.prog 31 ⟨Try.t31.desc, Try.t31.size, Try.t31.bytes, Try.t31.zero.getD undef⟩ := ⟨Try.underlying31, Try.t31, by kernel_rfl, rfl, rfl, rfl⟩
theorem good32 : Good Try.prog 32 ⟨Try.t32.desc, Try.t32.size, Try.t32.bytes, Try.t32.zero.getD undef⟩ := ⟨Try.underlying32, Try.t32, by kernel_rfl, rfl, rfl, rfl⟩
theorem good33 : Good Try.prog 33 ⟨Try.t32.desc, Try.t33.size, Try.t33.bytes, Try.t33.zero.getD undef⟩ := ⟨Try.underlying33, Try.t33, by kernel_rfl, rfl, rfl, rfl⟩
theorem good36 : Good Try.prog 36 ⟨Try.t36.desc, Try.t36.size, Try.t36.bytes, Try.t36.zero.getD undef⟩ := ⟨Try.underlying36, Try.t36, by kernel_rfl, rfl, rfl, rfl⟩
theorem good37 : Good Try.prog 37 ⟨Try.t37.desc, Try.t37.size, Try.t37.bytes, Try.t37.zero.getD undef⟩ := ⟨Try.underlying37, Try.t37, by kernel_rfl, rfl, rfl, rfl⟩
theorem good38 : Good Try.prog 38 ⟨Try.t3.desc, Try.t38.size, Try.t38.bytes, Try.t38.zero.getD undef⟩ := ⟨Try.underlying38, Try.t38, by kernel_rfl, rfl, rfl, rfl⟩
theorem good51 : Good Try.prog 51 ⟨Try.t51.desc, Try.t51.size, Try.t51.bytes, Try.t51.zero.getD undef⟩ := ⟨Try.underlying51, Try.t51, by kernel_rfl, rfl, rfl, rfl⟩
theorem good52 : Good Try.prog 52 ⟨Try.t51.desc, Try.t52.size, Try.t52.bytes, Try.t52.zero.getD undef⟩ := ⟨Try.underlying52, Try.t52, by kernel_rfl, rfl, rfl, rfl⟩
theorem good53 : Good Try.prog 53 ⟨Try.t53.desc, Try.t53.size, Try.t53.bytes, Try.t53.zero.getD undef⟩ := ⟨Try.underlying53, Try.t53, by kernel_rfl, rfl, rfl, rfl⟩
theorem good54 : Good Try.prog 54 ⟨Try.t53.desc, Try.t54.size, Try.t54.bytes, Try.t54.zero.getD undef⟩ := ⟨Try.underlying54, Try.t54, by kernel_rfl, rfl, rfl, rfl⟩
theorem good61 : Good Try.prog 61 ⟨Try.t61.desc, Try.t61.size, Try.t61.bytes, Try.t61.zero.getD undef⟩ := ⟨Try.underlying61, Try.t61, by kernel_rfl, rfl, rfl, rfl⟩
theorem good63 : Good Try.prog 63 ⟨Try.t63.desc, Try.t63.size, Try.t63.bytes, Try.t63.zero.getD undef⟩ := ⟨Try.underlying63, Try.t63, by kernel_rfl, rfl, rfl, rfl⟩
theorem good64 : Good Try.prog 64 ⟨Try.t64.desc, Try.t64.size, Try.t64.bytes, Try.t64.zero.getD undef⟩ := ⟨Try.underlying64, Try.t64, by kernel_rfl, rfl, rfl, rfl⟩
theorem good66 : Good Try.prog 66 ⟨Try.t66.desc, Try.t66.size, Try.t66.bytes, Try.t66.zero.getD undef⟩ := ⟨Try.underlying66, Try.t66, by kernel_rfl, rfl, rfl, rfl⟩
theorem good67 : Good Try.prog 67 ⟨Try.t67.desc, Try.t67.size, Try.t67.bytes, Try.t67.zero.getD undef⟩ := ⟨Try.underlying67, Try.t67, by kernel_rfl, rfl, rfl, rfl⟩
theorem good68 : Good Try.prog 68 ⟨Try.t68.desc, Try.t68.size, Try.t68.bytes, Try.t68.zero.getD undef⟩ := ⟨Try.underlying68, Try.t68, by kernel_rfl, rfl, rfl, rfl⟩
theorem good69 : Good Try.prog 69 ⟨Try.t68.desc, Try.t69.size, Try.t69.bytes, Try.t69.zero.getD undef⟩ := ⟨Try.underlying69, Try.t69, by kernel_rfl, rfl, rfl, rfl⟩
theorem good70 : Good Try.prog 70 ⟨Try.t70.desc, Try.t70.size, Try.t70.bytes, Try.t70.zero.getD undef⟩ := ⟨Try.underlying70, Try.t70, by kernel_rfl, rfl, rfl, rfl⟩
theorem good71 : Good Try.prog 71 ⟨Try.t70.desc, Try.t71.size, Try.t71.bytes, Try.t71.zero.getD undef⟩ := ⟨Try.underlying71, Try.t71, by kernel_rfl, rfl, rfl, rfl⟩
theorem good72 : Good Try.prog 72 ⟨Try.t72.desc, Try.t72.size, Try.t72.bytes, Try.t72.zero.getD undef⟩ := ⟨Try.underlying72, Try.t72, by kernel_rfl, rfl, rfl, rfl⟩
theorem good73 : Good Try.prog 73 ⟨Try.t72.desc, Try.t73.size, Try.t73.bytes, Try.t73.zero.getD undef⟩ := ⟨Try.underlying73, Try.t73, by kernel_rfl, rfl, rfl, rfl⟩
theorem good77 : Good Try.prog 77 ⟨Try.t77.desc, Try.t77.size, Try.t77.bytes, Try.t77.zero.getD undef⟩ := ⟨Try.underlying77, Try.t77, by kernel_rfl, rfl, rfl, rfl⟩
theorem good79 : Good Try.prog 79 ⟨Try.t79.desc, Try.t79.size, Try.t79.bytes, Try.t79.zero.getD undef⟩ := ⟨Try.underlying79, Try.t79, by kernel_rfl, rfl, rfl, rfl⟩
theorem good88 : Good Try.prog 88 ⟨Try.t88.desc, Try.t88.size, Try.t88.bytes, Try.t88.zero.getD undef⟩ := ⟨Try.underlying88, Try.t88, by kernel_rfl, rfl, rfl, rfl⟩
theorem good89 : Good Try.prog 89 ⟨Try.t89.desc, Try.t89.size, Try.t89.bytes, Try.t89.zero.getD undef⟩ := ⟨Try.underlying89, Try.t89, by kernel_rfl, rfl, rfl, rfl⟩
theorem good90 : Good Try.prog 90 ⟨Try.t90.desc, Try.t90.size, Try.t90.bytes, Try.t90.zero.getD undef⟩ := ⟨Try.underlying90, Try.t90, by kernel_rfl, rfl, rfl, rfl⟩
theorem good91 : Good Try.prog 91 ⟨Try.t90.desc, Try.t91.size, Try.t91.bytes, Try.t91.zero.getD undef⟩ := ⟨Try.underlying91, Try.t91, by kernel_rfl, rfl, rfl, rfl⟩
theorem good96 : Good Try.prog 96 ⟨Try.t51.desc, Try.t96.size, Try.t96.bytes, Try.t96.zero.getD undef⟩ := ⟨Try.underlying96, Try.t96, by kernel_rfl, rfl, rfl, rfl⟩
theorem good97 : Good Try.prog 97 ⟨Try.t97.desc, Try.t97.size, Try.t97.bytes, Try.t97.zero.getD undef⟩ := ⟨Try.underlying97, Try.t97, by kernel_rfl, rfl, rfl, rfl⟩
theorem good98 : Good Try.prog 98 ⟨Try.t97.desc, Try.t98.size, Try.t98.bytes, Try.t98.zero.getD undef⟩ := ⟨Try.underlying98, Try.t98, by kernel_rfl, rfl, rfl, rfl⟩
theorem good100 : Good Try.prog 100 ⟨Try.t100.desc, Try.t100.size, Try.t100.bytes, Try.t100.zero.getD undef⟩ := ⟨Try.underlying100, Try.t100, by kernel_rfl, rfl, rfl, rfl⟩
theorem good101 : Good Try.prog 101 ⟨Try.t100.desc, Try.t101.size, Try.t101.bytes, Try.t101.zero.getD undef⟩ := ⟨Try.underlying101, Try.t101, by kernel_rfl, rfl, rfl, rfl⟩
theorem good102 : Good Try.prog 102 ⟨Try.t100.desc, Try.t102.size, Try.t102.bytes, Try.t102.zero.getD undef⟩ := ⟨Try.underlying102, Try.t102, by kernel_rfl, rfl, rfl, rfl⟩
theorem good110 : Good Try.prog 110 ⟨Try.t110.desc, Try.t110.size, Try.t110.bytes, Try.t110.zero.getD undef⟩ := ⟨Try.underlying110, Try.t110, by kernel_rfl, rfl, rfl, rfl⟩
theorem good113 : Good Try.prog 113 ⟨Try.t113.desc, Try.t113.size, Try.t113.bytes, Try.t113.zero.getD undef⟩ := ⟨Try.underlying113, Try.t113, by kernel_rfl, rfl, rfl, rfl⟩
theorem good118 : Good Try.prog 118 ⟨Try.t118.desc, Try.t118.size, Try.t118.bytes, Try.t118.zero.getD undef⟩ := ⟨Try.underlying118, Try.t118, by kernel_rfl, rfl, rfl, rfl⟩
theorem good121 : Good Try.prog 121 ⟨Try.t121.desc, Try.t121.size, Try.t121.bytes, Try.t121.zero.getD undef⟩ := ⟨Try.underlying121, Try.t121, by kernel_rfl, rfl, rfl, rfl⟩
theorem good122 : Good Try.prog 122 ⟨Try.t122.desc, Try.t122.size, Try.t122.bytes, Try.t122.zero.getD undef⟩ := ⟨Try.underlying122, Try.t122, by kernel_rfl, rfl, rfl, rfl⟩
theorem good123 : Good Try.prog 123 ⟨Try.t122.desc, Try.t123.size, Try.t123.bytes, Try.t123.zero.getD undef⟩ := ⟨Try.underlying123, Try.t123, by kernel_rfl, rfl, rfl, rfl⟩
theorem good130 : Good Try.prog 130 ⟨Try.t130.desc, Try.t130.size, Try.t130.bytes, Try.t130.zero.getD undef⟩ := ⟨Try.underlying130, Try.t130, by kernel_rfl, rfl, rfl, rfl⟩
theorem good131 : Good Try.prog 131 ⟨Try.t130.desc, Try.t131.size, Try.t131.bytes, Try.t131.zero.getD undef⟩ := ⟨Try.underlying131, Try.t131, by kernel_rfl, rfl, rfl, rfl⟩
theorem good132 : Good Try.prog 132 ⟨Try.t132.desc, Try.t132.size, Try.t132.bytes, Try.t132.zero.getD undef⟩ := ⟨Try.underlying132, Try.t132, by kernel_rfl, rfl, rfl, rfl⟩
theorem good133 : Good Try.prog 133 ⟨Try.t132.desc, Try.t133.size, Try.t133.bytes, Try.t133.zero.getD undef⟩ := ⟨Try.underlying133, Try.t133, by kernel_rfl, rfl, rfl, rfl⟩
theorem good145 : Good Try.prog 145 ⟨Try.t145.desc, Try.t145.size, Try.t145.bytes, Try.t145.zero.getD undef⟩ := ⟨Try.underlying145, Try.t145, by kernel_rfl, rfl, rfl, rfl⟩
theorem good146 : Good Try.prog 146 ⟨Try.t146.desc, Try.t146.size, Try.t146.bytes, Try.t146.zero.getD undef⟩ := ⟨Try.underlying146, Try.t146, by kernel_rfl, rfl, rfl, rfl⟩
theorem good147 : Good Try.prog 147 ⟨Try.t146.desc, Try.t147.size, Try.t147.bytes, Try.t147.zero.getD undef⟩ := ⟨Try.underlying147, Try.t147, by kernel_rfl, rfl, rfl, rfl⟩
theorem good160 : Good Try.prog 160 ⟨Try.t160.desc, Try.t160.size, Try.t160.bytes, Try.t160.zero.getD undef⟩ := ⟨Try.underlying160, Try.t160, by kernel_rfl, rfl, rfl, rfl⟩
theorem good161 : Good Try.prog 161 ⟨Try.t160.desc, Try.t161.size, Try.t161.bytes, Try.t161.zero.getD undef⟩ := ⟨Try.underlying161, Try.t161, by kernel_rfl, rfl, rfl, rfl⟩
theorem good165 : Good Try.prog 165 ⟨Try.t165.desc, Try.t165.size, Try.t165.bytes, Try.t165.zero.getD undef⟩ := ⟨Try.underlying165, Try.t165, by kernel_rfl, rfl, rfl, rfl⟩
theorem good173 : Good Try.prog 173 ⟨Try.t173.desc, Try.t173.size, Try.t173.bytes, Try.t173.zero.getD undef⟩ := ⟨Try.underlying173, Try.t173, by kernel_rfl, rfl, rfl, rfl⟩
theorem good178 : Good Try.prog 178 ⟨Try.t178.desc, Try.t178.size, Try.t178.bytes, Try.t178.zero.getD undef⟩ := ⟨Try.underlying178, Try.t178, by kernel_rfl, rfl, rfl, rfl⟩
theorem good179 : Good Try.prog 179 ⟨Try.t178.desc, Try.t179.size, Try.t179.bytes, Try.t179.zero.getD undef⟩ := ⟨Try.underlying179, Try.t179, by kernel_rfl, rfl, rfl, rfl⟩
theorem good180 : Good Try.prog 180 ⟨Try.t180.desc, Try.t180.size, Try.t180.bytes, Try.t180.zero.getD undef⟩ := ⟨Try.underlying180, Try.t180, by kernel_rfl, rfl, rfl, rfl⟩
theorem good181 : Good Try.prog 181 ⟨Try.t181.desc, Try.t181.size, Try.t181.bytes, Try.t181.zero.getD undef⟩ := ⟨Try.underlying181, Try.t181, by kernel_rfl, rfl, rfl, rfl⟩
theorem good182 : Good Try.prog 182 ⟨Try.t181.desc, Try.t182.size, Try.t182.bytes, Try.t182.zero.getD undef⟩ := ⟨Try.underlying182, Try.t182, by kernel_rfl, rfl, rfl, rfl⟩
theorem good183 : Good Try.prog 183 ⟨Try.t5.desc, Try.t183.size, Try.t183.bytes, Try.t183.zero.getD undef⟩ := ⟨Try.underlying183, Try.t183, by kernel_rfl, rfl, rfl, rfl⟩
theorem good184 : Good Try.prog 184 ⟨Try.t5.desc, Try.t184.size, Try.t184.bytes, Try.t184.zero.getD undef⟩ := ⟨Try.underlying184, Try.t184, by kernel_rfl, rfl, rfl, rfl⟩
theorem good185 : Good Try.prog 185 ⟨Try.t185.desc, Try.t185.size, Try.t185.bytes, Try.t185.zero.getD undef⟩ := ⟨Try.underlying185, Try.t185, by kernel_rfl, rfl, rfl, rfl⟩
theorem good186 : Good Try.prog 186 ⟨Try.t186.desc, Try.t186.size, Try.t186.bytes, Try.t186.zero.getD undef⟩ := ⟨Try.underlying186, Try.t186, by kernel_rfl, rfl, rfl, rfl⟩
theorem good187 : Good Try.prog 187 ⟨Try.t21.desc, Try.t187.size, Try.t187.bytes, Try.t187.zero.getD undef⟩ := ⟨Try.underlying187, Try.t187, by kernel_rfl, rfl, rfl, rfl⟩
theorem good188 : Good Try.prog 188 ⟨Try.t21.desc, Try.t188.size, Try.t188.bytes, Try.t188.zero.getD undef⟩ := ⟨Try.underlying188, Try.t188, by kernel_rfl, rfl, rfl, rfl⟩
theorem good189 : Good Try.prog 189 ⟨Try.t189.desc, Try.t189.size, Try.t189.bytes, Try.t189.zero.getD undef⟩ := ⟨Try.underlying189, Try.t189, by kernel_rfl, rfl, rfl, rfl⟩
theorem good190 : Good Try.prog 190 ⟨Try.t189.desc, Try.t190.size, Try.t190.bytes, Try.t190.zero.getD undef⟩ := ⟨Try.underlying190, Try.t190, by kernel_rfl, rfl, rfl, rfl⟩
theorem good191 : Good Try.prog 191 ⟨Try.t191.desc, Try.t191.size, Try.t191.bytes, Try.t191.zero.getD undef⟩ := ⟨Try.underlying191, Try.t191, by kernel_rfl, rfl, rfl, rfl⟩
theorem tabOk : TabOk Try.prog tab := .cons good2 <| .cons good3 <| .cons good4 <| .cons good5 <| .cons good6 <| .cons good7 <| .cons good8 <| .cons good9 <| .cons good10 <| .cons good11 <| .cons good12 <| .cons good13 <| .cons good14 <| .cons good15 <| .cons good16 <| .cons good17 <| .cons good18 <| .cons good19 <| .cons good20 <| .cons good21 <| .cons good22 <| .cons good23 <| .cons good24 <| .cons good25 <| .cons good26 <| .cons good30 <| .cons good31 <| .cons good32 <| .cons good33 <| .cons good36 <| .cons good37 <| .cons good38 <| .cons good51 <| .cons good52 <| .cons good53 <| .cons good54 <| .cons good61 <| .cons good63 <| .cons good64 <| .cons good66 <| .cons good67 <| .cons good68 <| .cons good69 <| .cons good70 <| .cons good71 <| .cons good72 <| .cons good73 <| .cons good77 <| .cons good79 <| .cons good88 <| .cons good89 <| .cons good90 <| .cons good91 <| .cons good96 <| .cons good97 <| .cons good98 <| .cons good100 <| .cons good101 <| .cons good102 <| .cons good110 <| .cons good113 <| .cons good118 <| .cons good121 <| .cons good122 <| .cons good123 <| .cons good130 <| .cons good131 <| .cons good132 <| .cons good133 <| .cons good145 <| .cons good146 <| .cons good147 <| .cons good160 <| .cons good161 <| .cons good165 <| .cons good173 <| .cons good178 <| .cons good179 <| .cons good180 <| .cons good181 <| .cons good182 <| .cons good183 <| .cons good184 <| .cons good185 <| .cons good186 <| .cons good187 <| .cons good188 <| .cons good189 <| .cons good190 <| .cons good191 <| TabOk.nil _
end Go.Proofs.Ytnefhhoijonnaaa
