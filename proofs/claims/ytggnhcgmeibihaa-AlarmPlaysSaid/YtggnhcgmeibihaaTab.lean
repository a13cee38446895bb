/-
  The table of the seat's types for the engine of rules, made by a program of this repo (mktab.py). No condition.
-/
import Derived.Test.YtggnhcgmeibihaaChecked
import Derived.Test.YtggnhcgmeibihaaEngG
namespace Go.Proofs.Ytggnhcgmeibihaa
open Go
set_option linter.unusedVariables false
noncomputable def tab : Tab := [(2, ⟨Try.t2.desc, Try.t2.size, Try.t2.bytes, Try.t2.zero.getD undef⟩),
  (3, ⟨Try.t3.desc, Try.t3.size, Try.t3.bytes, Try.t3.zero.getD undef⟩),
  (4, ⟨Try.t4.desc, Try.t4.size, Try.t4.bytes, Try.t4.zero.getD undef⟩),
  (5, ⟨Try.t5.desc, Try.t5.size, Try.t5.bytes, Try.t5.zero.getD undef⟩),
  (6, ⟨Try.t5.desc, Try.t6.size, Try.t6.bytes, Try.t6.zero.getD undef⟩),
  (7, ⟨Try.t7.desc, Try.t7.size, Try.t7.bytes, Try.t7.zero.getD undef⟩),
  (8, ⟨Try.t7.desc, Try.t8.size, Try.t8.bytes, Try.t8.zero.getD undef⟩),
  (9, ⟨Try.t9.desc, Try.t9.size, Try.t9.bytes, Try.t9.zero.getD undef⟩),
  (10, ⟨Try.t9.desc, Try.t10.size, Try.t10.bytes, Try.t10.zero.getD undef⟩),
  (11, ⟨Try.t9.desc, Try.t11.size, Try.t11.bytes, Try.t11.zero.getD undef⟩),
  (12, ⟨Try.t12.desc, Try.t12.size, Try.t12.bytes, Try.t12.zero.getD undef⟩),
  (13, ⟨Try.t13.desc, Try.t13.size, Try.t13.bytes, Try.t13.zero.getD undef⟩),
  (14, ⟨Try.t13.desc, Try.t14.size, Try.t14.bytes, Try.t14.zero.getD undef⟩),
  (15, ⟨Try.t15.desc, Try.t15.size, Try.t15.bytes, Try.t15.zero.getD undef⟩),
  (16, ⟨Try.t16.desc, Try.t16.size, Try.t16.bytes, Try.t16.zero.getD undef⟩),
  (17, ⟨Try.t17.desc, Try.t17.size, Try.t17.bytes, Try.t17.zero.getD undef⟩),
  (18, ⟨Try.t18.desc, Try.t18.size, Try.t18.bytes, Try.t18.zero.getD undef⟩),
  (19, ⟨Try.t18.desc, Try.t19.size, Try.t19.bytes, Try.t19.zero.getD undef⟩),
  (20, ⟨Try.t20.desc, Try.t20.size, Try.t20.bytes, Try.t20.zero.getD undef⟩),
  (21, ⟨Try.t21.desc, Try.t21.size, Try.t21.bytes, Try.t21.zero.getD undef⟩),
  (22, ⟨Try.t22.desc, Try.t22.size, Try.t22.bytes, Try.t22.zero.getD undef⟩),
  (24, ⟨Try.t24.desc, Try.t24.size, Try.t24.bytes, Try.t24.zero.getD undef⟩),
  (26, ⟨Try.t26.desc, Try.t26.size, Try.t26.bytes, Try.t26.zero.getD undef⟩),
  (27, ⟨Try.t27.desc, Try.t27.size, Try.t27.bytes, Try.t27.zero.getD undef⟩),
  (28, ⟨Try.t28.desc, Try.t28.size, Try.t28.bytes, Try.t28.zero.getD undef⟩),
  (29, ⟨Try.t28.desc, Try.t29.size, Try.t29.bytes, Try.t29.zero.getD undef⟩),
  (31, ⟨Try.t31.desc, Try.t31.size, Try.t31.bytes, Try.t31.zero.getD undef⟩),
  (39, ⟨Try.t39.desc, Try.t39.size, Try.t39.bytes, Try.t39.zero.getD undef⟩),
  (47, ⟨Try.t47.desc, Try.t47.size, Try.t47.bytes, Try.t47.zero.getD undef⟩),
  (48, ⟨Try.t47.desc, Try.t48.size, Try.t48.bytes, Try.t48.zero.getD undef⟩),
  (50, ⟨Try.t50.desc, Try.t50.size, Try.t50.bytes, Try.t50.zero.getD undef⟩),
  (51, ⟨Try.t51.desc, Try.t51.size, Try.t51.bytes, Try.t51.zero.getD undef⟩),
  (52, ⟨Try.t51.desc, Try.t52.size, Try.t52.bytes, Try.t52.zero.getD undef⟩),
  (53, ⟨Try.t53.desc, Try.t53.size, Try.t53.bytes, Try.t53.zero.getD undef⟩),
  (54, ⟨Try.t3.desc, Try.t54.size, Try.t54.bytes, Try.t54.zero.getD undef⟩),
  (57, ⟨Try.t57.desc, Try.t57.size, Try.t57.bytes, Try.t57.zero.getD undef⟩),
  (59, ⟨Try.t59.desc, Try.t59.size, Try.t59.bytes, Try.t59.zero.getD undef⟩),
  (60, ⟨Try.t59.desc, Try.t60.size, Try.t60.bytes, Try.t60.zero.getD undef⟩),
  (61, ⟨Try.t61.desc, Try.t61.size, Try.t61.bytes, Try.t61.zero.getD undef⟩),
  (62, ⟨Try.t61.desc, Try.t62.size, Try.t62.bytes, Try.t62.zero.getD undef⟩),
  (72, ⟨Try.t72.desc, Try.t72.size, Try.t72.bytes, Try.t72.zero.getD undef⟩),
  (78, ⟨Try.t78.desc, Try.t78.size, Try.t78.bytes, Try.t78.zero.getD undef⟩),
  (79, ⟨Try.t79.desc, Try.t79.size, Try.t79.bytes, Try.t79.zero.getD undef⟩),
  (80, ⟨Try.t80.desc, Try.t80.size, Try.t80.bytes, Try.t80.zero.getD undef⟩),
  (81, ⟨Try.t81.desc, Try.t81.size, Try.t81.bytes, Try.t81.zero.getD undef⟩),
  (82, ⟨Try.t81.desc, Try.t82.size, Try.t82.bytes, Try.t82.zero.getD undef⟩),
  (83, ⟨Try.t83.desc, Try.t83.size, Try.t83.bytes, Try.t83.zero.getD undef⟩),
  (84, ⟨Try.t83.desc, Try.t84.size, Try.t84.bytes, Try.t84.zero.getD undef⟩),
  (86, ⟨Try.t86.desc, Try.t86.size, Try.t86.bytes, Try.t86.zero.getD undef⟩),
  (87, ⟨Try.t61.desc, Try.t87.size, Try.t87.bytes, Try.t87.zero.getD undef⟩),
  (94, ⟨Try.t94.desc, Try.t94.size, Try.t94.bytes, Try.t94.zero.getD undef⟩),
  (95, ⟨Try.t95.desc, Try.t95.size, Try.t95.bytes, Try.t95.zero.getD undef⟩),
  (96, ⟨Try.t96.desc, Try.t96.size, Try.t96.bytes, Try.t96.zero.getD undef⟩),
  (97, ⟨Try.t96.desc, Try.t97.size, Try.t97.bytes, Try.t97.zero.getD undef⟩),
  (98, ⟨Try.t98.desc, Try.t98.size, Try.t98.bytes, Try.t98.zero.getD undef⟩),
  (99, ⟨Try.t98.desc, Try.t99.size, Try.t99.bytes, Try.t99.zero.getD undef⟩),
  (100, ⟨Try.t100.desc, Try.t100.size, Try.t100.bytes, Try.t100.zero.getD undef⟩),
  (102, ⟨Try.t102.desc, Try.t102.size, Try.t102.bytes, Try.t102.zero.getD undef⟩),
  (103, ⟨Try.t102.desc, Try.t103.size, Try.t103.bytes, Try.t103.zero.getD undef⟩),
  (105, ⟨Try.t105.desc, Try.t105.size, Try.t105.bytes, Try.t105.zero.getD undef⟩),
  (109, ⟨Try.t109.desc, Try.t109.size, Try.t109.bytes, Try.t109.zero.getD undef⟩),
  (110, ⟨Try.t110.desc, Try.t110.size, Try.t110.bytes, Try.t110.zero.getD undef⟩),
  (111, ⟨Try.t111.desc, Try.t111.size, Try.t111.bytes, Try.t111.zero.getD undef⟩),
  (112, ⟨Try.t111.desc, Try.t112.size, Try.t112.bytes, Try.t112.zero.getD undef⟩),
  (113, ⟨Try.t113.desc, Try.t113.size, Try.t113.bytes, Try.t113.zero.getD undef⟩),
  (114, ⟨Try.t114.desc, Try.t114.size, Try.t114.bytes, Try.t114.zero.getD undef⟩),
  (115, ⟨Try.t114.desc, Try.t115.size, Try.t115.bytes, Try.t115.zero.getD undef⟩),
  (129, ⟨Try.t129.desc, Try.t129.size, Try.t129.bytes, Try.t129.zero.getD undef⟩),
  (130, ⟨Try.t129.desc, Try.t130.size, Try.t130.bytes, Try.t130.zero.getD undef⟩),
  (132, ⟨Try.t132.desc, Try.t132.size, Try.t132.bytes, Try.t132.zero.getD undef⟩),
  (133, ⟨Try.t133.desc, Try.t133.size, Try.t133.bytes, Try.t133.zero.getD undef⟩),
  (136, ⟨Try.t136.desc, Try.t136.size, Try.t136.bytes, Try.t136.zero.getD undef⟩),
  (137, ⟨Try.t136.desc, Try.t137.size, Try.t137.bytes, Try.t137.zero.getD undef⟩),
  (144, ⟨Try.t144.desc, Try.t144.size, Try.t144.bytes, Try.t144.zero.getD undef⟩),
  (151, ⟨Try.t151.desc, Try.t151.size, Try.t151.bytes, Try.t151.zero.getD undef⟩),
  (155, ⟨Try.t3.desc, Try.t155.size, Try.t155.bytes, Try.t155.zero.getD undef⟩),
  (164, ⟨Try.t164.desc, Try.t164.size, Try.t164.bytes, Try.t164.zero.getD undef⟩),
  (165, ⟨Try.t27.desc, Try.t165.size, Try.t165.bytes, Try.t165.zero.getD undef⟩),
  (168, ⟨Try.t168.desc, Try.t168.size, Try.t168.bytes, Try.t168.zero.getD undef⟩),
  (170, ⟨Try.t170.desc, Try.t170.size, Try.t170.bytes, Try.t170.zero.getD undef⟩),
  (174, ⟨Try.t174.desc, Try.t174.size, Try.t174.bytes, Try.t174.zero.getD undef⟩),
  (175, ⟨Try.t174.desc, Try.t175.size, Try.t175.bytes, Try.t175.zero.getD undef⟩),
  (176, ⟨Try.t176.desc, Try.t176.size, Try.t176.bytes, Try.t176.zero.getD undef⟩),
  (177, ⟨Try.t177.desc, Try.t177.size, Try.t177.bytes, Try.t177.zero.getD undef⟩),
  (178, ⟨Try.t177.desc, Try.t178.size, Try.t178.bytes, Try.t178.zero.getD undef⟩),
  (179, ⟨Try.t5.desc, Try.t179.size, Try.t179.bytes, Try.t179.zero.getD undef⟩),
  (180, ⟨Try.t5.desc, Try.t180.size, Try.t180.bytes, Try.t180.zero.getD undef⟩),
  (182, ⟨Try.t182.desc, Try.t182.size, Try.t182.bytes, Try.t182.zero.getD undef⟩),
  (183, ⟨Try.t21.desc, Try.t183.size, Try.t183.bytes, Try.t183.zero.getD undef⟩),
  (184, ⟨Try.t21.desc, Try.t184.size, Try.t184.bytes, Try.t184.zero.getD undef⟩),
  (185, ⟨Try.t185.desc, Try.t185.size, Try.t185.bytes, Try.t185.zero.getD undef⟩),
  (186, ⟨Try.t185.desc, Try.t186.size, Try.t186.bytes, Try.t186.zero.getD undef⟩),
  (187, ⟨Try.t187.desc, Try.t187.size, Try.t187.bytes, Try.t187.zero.getD undef⟩)]
theorem good2 : Good Try.prog 2 ⟨Try.t2.desc, Try.t2.size, Try.t2.bytes, Try.t2.zero.getD undef⟩ := ⟨Try.underlying2, Try.t2, by kernel_rfl, rfl, rfl, rfl⟩
theorem good3 : Good Try.prog 3 ⟨Try.t3.desc, Try.t3.size, Try.t3.bytes, Try.t3.zero.getD undef⟩ := ⟨Try.underlying3, Try.t3, by kernel_rfl, rfl, rfl, rfl⟩
theorem good4 : Good Try.prog 4 ⟨Try.t4.desc, Try.t4.size, Try.t4.bytes, Try.t4.zero.getD undef⟩ := ⟨Try.underlying4, Try.t4, by kernel_rfl, rfl, rfl, rfl⟩
theorem good5 : Good Try.prog 5 ⟨Try.t5.desc, Try.t5.size, Try.t5.bytes, Try.t5.zero.getD undef⟩ := ⟨Try.underlying5, Try.t5, by kernel_rfl, rfl, rfl, rfl⟩
theorem good6 : Good Try.prog 6 ⟨Try.t5.desc, Try.t6.size, Try.t6.bytes, Try.t6.zero.getD undef⟩ := ⟨Try.underlying6, Try.t6, by kernel_rfl, rfl, rfl, rfl⟩
theorem good7 : Good Try.prog 7 ⟨Try.t7.desc, Try.t7.size, Try.t7.bytes, Try.t7.zero.getD undef⟩ := ⟨Try.underlying7, Try.t7, by kernel_rfl, rfl, rfl, rfl⟩
theorem good8 : Good Try.prog 8 ⟨Try.t7.desc, Try.t8.size, Try.t8.bytes, Try.t8.zero.getD undef⟩ := ⟨Try.underlying8, Try.t8, by kernel_rfl, rfl, rfl, rfl⟩
theorem good9 : Good Try.prog 9 ⟨Try.t9.desc, Try.t9.size, Try.t9.bytes, Try.t9.zero.getD undef⟩ := ⟨Try.underlying9, Try.t9, by kernel_rfl, rfl, rfl, rfl⟩
theorem good10 : Good Try.prog 10 ⟨Try.t9.desc, Try.t10.size, Try.t10.bytes, Try.t10.zero.getD undef⟩ := ⟨Try.underlying10, Try.t10, by kernel_rfl, rfl, rfl, rfl⟩
theorem good11 : Good Try.prog 11 ⟨Try.t9.desc, Try.t11.size, Try.t11.bytes, Try.t11.zero.getD undef⟩ := ⟨Try.underlying11, Try.t11, by kernel_rfl, rfl, rfl, rfl⟩
theorem good12 : Good Try.prog 12 ⟨Try.t12.desc, Try.t12.size, Try.t12.bytes, Try.t12.zero.getD undef⟩ := ⟨Try.underlying12, Try.t12, by kernel_rfl, rfl, rfl, rfl⟩
theorem good13 : Good Try.prog 13 ⟨Try.t13.desc, Try.t13.size, Try.t13.bytes, Try.t13.zero.getD undef⟩ := ⟨Try.underlying13, Try.t13, by kernel_rfl, rfl, rfl, rfl⟩
theorem good14 : Good Try.prog 14 ⟨Try.t13.desc, Try.t14.size, Try.t14.bytes, Try.t14.zero.getD undef⟩ := ⟨Try.underlying14, Try.t14, by kernel_rfl, rfl, rfl, rfl⟩
theorem good15 : Good Try.prog 15 ⟨Try.t15.desc, Try.t15.size, Try.t15.bytes, Try.t15.zero.getD undef⟩ := ⟨Try.underlying15, Try.t15, by kernel_rfl, rfl, rfl, rfl⟩
theorem good16 : Good Try.prog 16 ⟨Try.t16.desc, Try.t16.size, Try.t16.bytes, Try.t16.zero.getD undef⟩ := ⟨Try.underlying16, Try.t16, by kernel_rfl, rfl, rfl, rfl⟩
theorem good17 : Good Try.prog 17 ⟨Try.t17.desc, Try.t17.size, Try.t17.bytes, Try.t17.zero.getD undef⟩ := ⟨Try.underlying17, Try.t17, by kernel_rfl, rfl, rfl, rfl⟩
theorem good18 : Good Try.prog 18 ⟨Try.t18.desc, Try.t18.size, Try.t18.bytes, Try.t18.zero.getD undef⟩ := ⟨Try.underlying18, Try.t18, by kernel_rfl, rfl, rfl, rfl⟩
theorem good19 : Good Try.prog 19 ⟨Try.t18.desc, Try.t19.size, Try.t19.bytes, Try.t19.zero.getD undef⟩ := ⟨Try.underlying19, Try.t19, by kernel_rfl, rfl, rfl, rfl⟩
theorem good20 : Good Try.prog 20 ⟨Try.t20.desc, Try.t20.size, Try.t20.bytes, Try.t20.zero.getD undef⟩ := ⟨Try.underlying20, Try.t20, by kernel_rfl, rfl, rfl, rfl⟩
theorem good21 : Good Try.prog 21 ⟨Try.t21.desc, Try.t21.size, Try.t21.bytes, Try.t21.zero.getD undef⟩ := ⟨Try.underlying21, Try.t21, by kernel_rfl, rfl, rfl, rfl⟩
theorem good22 : Good Try.prog 22 ⟨Try.t22.desc, Try.t22.size, Try.t22.bytes, Try.t22.zero.getD undef⟩ := ⟨Try.underlying22, Try.t22, by kernel_rfl, rfl, rfl, rfl⟩
theorem good24 : Good Try.prog 24 ⟨Try.t24.desc, Try.t24.size, Try.t24.bytes, Try.t24.zero.getD undef⟩ := ⟨Try.underlying24, Try.t24, by kernel_rfl, rfl, rfl, rfl⟩
theorem good26 : Good Try.prog 26 ⟨Try.t26.desc, Try.t26.size, Try.t26.bytes, Try.t26.zero.getD undef⟩ := ⟨Try.underlying26, Try.t26, by kernel_rfl, rfl, rfl, rfl⟩
theorem good27 : Good Try.prog 27 ⟨Try.t27.desc, Try.t27.size, Try.t27.bytes, Try.t27.zero.getD undef⟩ := ⟨Try.underlying27, Try.t27, by kernel_rfl, rfl, rfl, rfl⟩
theorem good28 : Good Try.prog 28 ⟨Try.t28.desc, Try.t28.size, Try.t28.bytes, Try.t28.zero.getD undef⟩ := ⟨Try.underlying28, Try.t28, by kernel_rfl, rfl, rfl, rfl⟩
theorem good29 : Good Try.prog 29 ⟨Try.t28.desc, Try.t29.size, Try.t29.bytes, Try.t29.zero.getD undef⟩ := ⟨Try.underlying29, Try.t29, by kernel_rfl, rfl, rfl, rfl⟩
theorem good31 : Good Try.prog 31 ⟨Try.t31.desc, Try.t31.size, Try.t31.bytes, Try.t31.zero.getD undef⟩ := ⟨Try.underlying31, Try.t31, by kernel_rfl, rfl, rfl, rfl⟩
theorem good39 : Good Try.prog 39 ⟨Try.t39.desc, Try.t39.size, Try.t39.bytes, Try.t39.zero.getD undef⟩ := ⟨Try.underlying39, Try.t39, by kernel_rfl, rfl, rfl, rfl⟩
theorem good47 : Good Try.prog 47 ⟨Try.t47.desc, Try.t47.size, Try.t47.bytes, Try.t47.zero.getD undef⟩ := ⟨Try.underlying47, Try.t47, by kernel_rfl, rfl, rfl, rfl⟩
theorem good48 : Good Try.prog 48 ⟨Try.t47.desc, Try.t48.size, Try.t48.bytes, Try.t48.zero.getD undef⟩ := ⟨Try.underlying48, Try.t48, by kernel_rfl, rfl, rfl, rfl⟩
theorem good50 : Good Try.prog 50 ⟨Try.t50.desc, Try.t50.size, Try.t50.bytes, Try.t50.zero.getD undef⟩ := ⟨Try.underlying50, Try.t50, by kernel_rfl, rfl, rfl, rfl⟩
theorem good51 : Good Try.prog 51 ⟨Try.t51.desc, Try.t51.size, Try.t51.bytes, Try.t51.zero.getD undef⟩ := ⟨Try.underlying51, Try.t51, by kernel_rfl, rfl, rfl, rfl⟩
theorem good52 : Good Try.prog 52 ⟨Try.t51.desc, Try.t52.size, Try.t52.bytes, Try.t52.zero.getD undef⟩ := ⟨Try.underlying52, Try.t52, by kernel_rfl, rfl, rfl, rfl⟩
theorem good53 : Good Try.prog 53 ⟨Try.t53.desc, Try.t53.size, Try.t53.bytes, Try.t53.zero.getD undef⟩ := ⟨Try.underlying53, Try.t53, by kernel_rfl, rfl, rfl, rfl⟩
theorem good54 : Good Try.prog 54 ⟨Try.t3.desc, Try.t54.size, Try.t54.bytes, Try.t54.zero.getD undef⟩ := ⟨Try.underlying54, Try.t54, by kernel_rfl, rfl, rfl, rfl⟩
theorem good57 : Good Try.prog 57 ⟨Try.t57.desc, Try.t57.size, Try.t57.bytes, Try.t57.zero.getD undef⟩ := ⟨Try.underlying57, Try.t57, by kernel_rfl, rfl, rfl, rfl⟩
theorem good59 : Good Try.prog 59 ⟨Try.t59.desc, Try.t59.size, Try.t59.bytes, Try.t59.zero.getD undef⟩ := ⟨Try.underlying59, Try.t59, by kernel_rfl, rfl, rfl, rfl⟩
theorem good60 : Good Try.prog 60 ⟨Try.t59.desc, Try.t60.size, Try.t60.bytes, Try.t60.zero.getD undef⟩ := ⟨Try.underlying60, Try.t60, by kernel_rfl, rfl, rfl, rfl⟩
theorem good61 : Good Try.prog 61 ⟨Try.t61.desc, Try.t61.size, Try.t61.bytes, Try.t61.zero.getD undef⟩ := ⟨Try.underlying61, Try.t61, by kernel_rfl, rfl, rfl, rfl⟩
theorem good62 : Good Try.prog 62 ⟨Try.t61.desc, Try.t62.size, Try.t62.bytes, Try.t62.zero.getD undef⟩ := ⟨Try.underlying62, Try.t62, by kernel_rfl, rfl, rfl, rfl⟩
theorem good72 : Good Try.prog 72 ⟨Try.t72.desc, Try.t72.size, Try.t72.bytes, Try.t72.zero.getD undef⟩ := ⟨Try.underlying72, Try.t72, by kernel_rfl, rfl, rfl, rfl⟩
theorem good78 : Good Try.prog 78 ⟨Try.t78.desc, Try.t78.size, Try.t78.bytes, Try.t78.zero.getD undef⟩ := ⟨Try.underlying78, Try.t78, by kernel_rfl, rfl, rfl, rfl⟩
theorem good79 : Good Try.prog 79 ⟨Try.t79.desc, Try.t79.size, Try.t79.bytes, Try.t79.zero.getD undef⟩ := ⟨Try.underlying79, Try.t79, by kernel_rfl, rfl, rfl, rfl⟩
theorem good80 : Good Try.prog 80 ⟨Try.t80.desc, Try.t80.size, Try.t80.bytes, Try.t80.zero.getD undef⟩ := ⟨Try.underlying80, Try.t80, by kernel_rfl, rfl, rfl, rfl⟩
theorem good81 : Good Try.prog 81 ⟨Try.t81.desc, Try.t81.size, Try.t81.bytes, Try.t81.zero.getD undef⟩ := ⟨Try.underlying81, Try.t81, by kernel_rfl, rfl, rfl, rfl⟩
theorem good82 : Good Try.prog 82 ⟨Try.t81.desc, Try.t82.size, Try.t82.bytes, Try.t82.zero.getD undef⟩ := ⟨Try.underlying82, Try.t82, by kernel_rfl, rfl, rfl, rfl⟩
theorem good83 : Good Try.prog 83 ⟨Try.t83.desc, Try.t83.size, Try.t83.bytes, Try.t83.zero.getD undef⟩ := ⟨Try.underlying83, Try.t83, by kernel_rfl, rfl, rfl, rfl⟩
theorem good84 : Good Try.prog 84 ⟨Try.t83.desc, Try.t84.size, Try.t84.bytes, Try.t84.zero.getD undef⟩ := ⟨Try.underlying84, Try.t84, by kernel_rfl, rfl, rfl, rfl⟩
theorem good86 : Good Try.prog 86 ⟨Try.t86.desc, Try.t86.size, Try.t86.bytes, Try.t86.zero.getD undef⟩ := ⟨Try.underlying86, Try.t86, by kernel_rfl, rfl, rfl, rfl⟩
theorem good87 : Good Try.prog 87 ⟨Try.t61.desc, Try.t87.size, Try.t87.bytes, Try.t87.zero.getD undef⟩ := ⟨Try.underlying87, Try.t87, by kernel_rfl, rfl, rfl, rfl⟩
theorem good94 : Good Try.prog 94 ⟨Try.t94.desc, Try.t94.size, Try.t94.bytes, Try.t94.zero.getD undef⟩ := ⟨Try.underlying94, Try.t94, by kernel_rfl, rfl, rfl, rfl⟩
theorem good95 : Good Try.prog 95 ⟨Try.t95.desc, Try.t95.size, Try.t95.bytes, Try.t95.zero.getD undef⟩ := ⟨Try.underlying95, Try.t95, by kernel_rfl, rfl, rfl, rfl⟩
theorem good96 : Good Try.prog 96 ⟨Try.t96.desc, Try.t96.size, Try.t96.bytes, Try.t96.zero.getD undef⟩ := ⟨Try.underlying96, Try.t96, by kernel_rfl, rfl, rfl, rfl⟩
theorem good97 : Good Try.prog 97 ⟨Try.t96.desc, Try.t97.size, Try.t97.bytes, Try.t97.zero.getD undef⟩ := ⟨Try.underlying97, Try.t97, by kernel_rfl, rfl, rfl, rfl⟩
theorem good98 : Good Try.prog 98 ⟨Try.t98.desc, Try.t98.size, Try.t98.bytes, Try.t98.zero.getD undef⟩ := ⟨Try.underlying98, Try.t98, by kernel_rfl, rfl, rfl, rfl⟩
theorem good99 : Good Try.prog 99 ⟨Try.t98.desc, Try.t99.size, Try.t99.bytes, Try.t99.zero.getD undef⟩ := ⟨Try.underlying99, Try.t99, by kernel_rfl, rfl, rfl, rfl⟩
theorem good100 : Good Try.prog 100 ⟨Try.t100.desc, Try.t100.size, Try.t100.bytes, Try.t100.zero.getD undef⟩ := ⟨Try.underlying100, Try.t100, by kernel_rfl, rfl, rfl, rfl⟩
theorem good102 : Good Try.prog 102 ⟨Try.t102.desc, Try.t102.size, Try.t102.bytes, Try.t102.zero.getD undef⟩ := ⟨Try.underlying102, Try.t102, by kernel_rfl, rfl, rfl, rfl⟩
theorem good103 : Good Try.prog 103 ⟨Try.t102.desc, Try.t103.size, Try.t103.bytes, Try.t103.zero.getD undef⟩ := ⟨Try.underlying103, Try.t103, by kernel_rfl, rfl, rfl, rfl⟩
theorem good105 : Good Try.prog 105 ⟨Try.t105.desc, Try.t105.size, Try.t105.bytes, Try.t105.zero.getD undef⟩ := ⟨Try.underlying105, Try.t105, by kernel_rfl, rfl, rfl, rfl⟩
theorem good109 : Good Try.prog 109 ⟨Try.t109.desc, Try.t109.size, Try.t109.bytes, Try.t109.zero.getD undef⟩ := ⟨Try.underlying109, Try.t109, by kernel_rfl, rfl, rfl, rfl⟩
theorem good110 : Good Try.prog 110 ⟨Try.t110.desc, Try.t110.size, Try.t110.bytes, Try.t110.zero.getD undef⟩ := ⟨Try.underlying110, Try.t110, by kernel_rfl, rfl, rfl, rfl⟩
theorem good111 : Good Try.prog 111 ⟨Try.t111.desc, Try.t111.size, Try.t111.bytes, Try.t111.zero.getD undef⟩ := ⟨Try.underlying111, Try.t111, by kernel_rfl, rfl, rfl, rfl⟩
theorem good112 : Good Try.prog 112 ⟨Try.t111.desc, Try.t112.size, Try.t112.bytes, Try.t112.zero.getD undef⟩ := ⟨Try.underlying112, Try.t112, by kernel_rfl, rfl, rfl, rfl⟩
theorem good113 : Good Try.prog 113 ⟨Try.t113.desc, Try.t113.size, Try.t113.bytes, Try.t113.zero.getD undef⟩ := ⟨Try.underlying113, Try.t113, by kernel_rfl, rfl, rfl, rfl⟩
theorem good114 : Good Try.prog 114 ⟨Try.t114.desc, Try.t114.size, Try.t114.bytes, Try.t114.zero.getD undef⟩ := ⟨Try.underlying114, Try.t114, by kernel_rfl, rfl, rfl, rfl⟩
theorem good115 : Good Try.prog 115 ⟨Try.t114.desc, Try.t115.size, Try.t115.bytes, Try.t115.zero.getD undef⟩ := ⟨Try.underlying115, Try.t115, by kernel_rfl, rfl, rfl, rfl⟩
theorem good129 : Good Try.prog 129 ⟨Try.t129.desc, Try.t129.size, Try.t129.bytes, Try.t129.zero.getD undef⟩ := ⟨Try.underlying129, Try.t129, by kernel_rfl, rfl, rfl, rfl⟩
theorem good130 : Good Try.prog 130 ⟨Try.t129.desc, Try.t130.size, Try.t130.bytes, Try.t130.zero.getD undef⟩ := ⟨Try.underlying130, Try.t130, by kernel_rfl, rfl, rfl, rfl⟩
theorem good132 : Good Try.prog 132 ⟨Try.t132.desc, Try.t132.size, Try.t132.bytes, Try.t132.zero.getD undef⟩ := ⟨Try.underlying132, Try.t132, by kernel_rfl, rfl, rfl, rfl⟩
theorem good133 : Good Try.prog 133 ⟨Try.t133.desc, Try.t133.size, Try.t133.bytes, Try.t133.zero.getD undef⟩ := ⟨Try.underlying133, Try.t133, by kernel_rfl, rfl, rfl, rfl⟩
theorem good136 : Good Try.prog 136 ⟨Try.t136.desc, Try.t136.size, Try.t136.bytes, Try.t136.zero.getD undef⟩ := ⟨Try.underlying136, Try.t136, by kernel_rfl, rfl, rfl, rfl⟩
theorem good137 : Good Try.prog 137 ⟨Try.t136.desc, Try.t137.size, Try.t137.bytes, Try.t137.zero.getD undef⟩ := ⟨Try.underlying137, Try.t137, by kernel_rfl, rfl, rfl, rfl⟩
theorem good144 : Good Try.prog 144 ⟨Try.t144.desc, Try.t144.size, Try.t144.bytes, Try.t144.zero.getD undef⟩ := ⟨Try.underlying144, Try.t144, by kernel_rfl, rfl, rfl, rfl⟩
theorem good151 : Good Try.prog 151 ⟨Try.t151.desc, Try.t151.size, Try.t151.bytes, Try.t151.zero.getD undef⟩ := ⟨Try.underlying151, Try.t151, by kernel_rfl, rfl, rfl, rfl⟩
theorem good155 : Good Try.prog 155 ⟨Try.t3.desc, Try.t155.size, Try.t155.bytes, Try.t155.zero.getD undef⟩ := ⟨Try.underlying155, Try.t155, by kernel_rfl, rfl, rfl, rfl⟩
theorem good164 : Good Try.prog 164 ⟨Try.t164.desc, Try.t164.size, Try.t164.bytes, Try.t164.zero.getD undef⟩ := ⟨Try.underlying164, Try.t164, by kernel_rfl, rfl, rfl, rfl⟩
theorem good165 : Good Try.prog 165 ⟨Try.t27.desc, Try.t165.size, Try.t165.bytes, Try.t165.zero.getD undef⟩ := ⟨Try.underlying165, Try.t165, by kernel_rfl, rfl, rfl, rfl⟩
theorem good168 : Good Try.prog 168 ⟨Try.t168.desc, Try.t168.size, Try.t168.bytes, Try.t168.zero.getD undef⟩ := ⟨Try.underlying168, Try.t168, by kernel_rfl, rfl, rfl, rfl⟩
theorem good170 : Good Try.prog 170 ⟨Try.t170.desc, Try.t170.size, Try.t170.bytes, Try.t170.zero.getD undef⟩ := ⟨Try.underlying170, Try.t170, by kernel_rfl, rfl, rfl, rfl⟩
theorem good174 : Good Try.prog 174 ⟨Try.t174.desc, Try.t174.size, Try.t174.bytes, Try.t174.zero.getD undef⟩ := ⟨Try.underlying174, Try.t174, by kernel_rfl, rfl, rfl, rfl⟩
theorem good175 : Good Try.prog 175 ⟨Try.t174.desc, Try.t175.size, Try.t175.bytes, Try.t175.zero.getD undef⟩ := ⟨Try.underlying175, Try.t175, by kernel_rfl, rfl, rfl, rfl⟩
theorem good176 : Good Try.prog 176 ⟨Try.t176.desc, Try.t176.size, Try.t176.bytes, Try.t176.zero.getD undef⟩ := ⟨Try.underlying176, Try.t176, by kernel_rfl, rfl, rfl, rfl⟩
theorem good177 : Good Try.prog 177 ⟨Try.t177.desc, Try.t177.size, Try.t177.bytes, Try.t177.zero.getD undef⟩ := ⟨Try.underlying177, Try.t177, by kernel_rfl, rfl, rfl, rfl⟩
theorem good178 : Good Try.prog 178 ⟨Try.t177.desc, Try.t178.size, Try.t178.bytes, Try.t178.zero.getD undef⟩ := ⟨Try.underlying178, Try.t178, by kernel_rfl, rfl, rfl, rfl⟩
theorem good179 : Good Try.prog 179 ⟨Try.t5.desc, Try.t179.size, Try.t179.bytes, Try.t179.zero.getD undef⟩ := ⟨Try.underlying179, Try.t179, by kernel_rfl, rfl, rfl, rfl⟩
theorem good180 : Good Try.prog 180 ⟨Try.t5.desc, Try.t180.size, Try.t180.bytes, Try.t180.zero.getD undef⟩ := ⟨Try.underlying180, Try.t180, by kernel_rfl, rfl, rfl, rfl⟩
theorem good182 : Good Try.prog 182 ⟨Try.t182.desc, Try.t182.size, Try.t182.bytes, Try.t182.zero.getD undef⟩ := ⟨Try.underlying182, Try.t182, by kernel_rfl, rfl, rfl, rfl⟩
theorem good183 : Good Try.prog 183 ⟨Try.t21.desc, Try.t183.size, Try.t183.bytes, Try.t183.zero.getD undef⟩ := ⟨Try.underlying183, Try.t183, by kernel_rfl, rfl, rfl, rfl⟩
theorem good184 : Good Try.prog 184 ⟨Try.t21.desc, Try.t184.size, Try.t184.bytes, Try.t184.zero.getD undef⟩ := ⟨Try.underlying184, Try.t184, by kernel_rfl, rfl, rfl, rfl⟩
theorem good185 : Good Try.prog 185 ⟨Try.t185.desc, Try.t185.size, Try.t185.bytes, Try.t185.zero.getD undef⟩ := ⟨Try.underlying185, Try.t185, by kernel_rfl, rfl, rfl, rfl⟩
theorem good186 : Good Try.prog 186 ⟨Try.t185.desc, Try.t186.size, Try.t186.bytes, Try.t186.zero.getD undef⟩ := ⟨Try.underlying186, Try.t186, by kernel_rfl, rfl, rfl, rfl⟩
theorem good187 : Good Try.prog 187 ⟨Try.t187.desc, Try.t187.size, Try.t187.bytes, Try.t187.zero.getD undef⟩ := ⟨Try.underlying187, Try.t187, by kernel_rfl, rfl, rfl, rfl⟩
theorem tabOk : TabOk Try.prog tab := .cons good2 <| .cons good3 <| .cons good4 <| .cons good5 <| .cons good6 <| .cons good7 <| .cons good8 <| .cons good9 <| .cons good10 <| .cons good11 <| .cons good12 <| .cons good13 <| .cons good14 <| .cons good15 <| .cons good16 <| .cons good17 <| .cons good18 <| .cons good19 <| .cons good20 <| .cons good21 <| .cons good22 <| .cons good24 <| .cons good26 <| .cons good27 <| .cons good28 <| .cons good29 <| .cons good31 <| .cons good39 <| .cons good47 <| .cons good48 <| .cons good50 <| .cons good51 <| .cons good52 <| .cons good53 <| .cons good54 <| .cons good57 <| .cons good59 <| .cons good60 <| .cons good61 <| .cons good62 <| .cons good72 <| .cons good78 <| .cons good79 <| .cons good80 <| .cons good81 <| .cons good82 <| .cons good83 <| .cons good84 <| .cons good86 <| .cons good87 <| .cons good94 <| .cons good95 <| .cons good96 <| .cons good97 <| .cons good98 <| .cons good99 <| .cons good100 <| .cons good102 <| .cons good103 <| .cons good105 <| .cons good109 <| .cons good110 <| .cons good111 <| .cons good112 <| .cons good113 <| .cons good114 <| .cons good115 <| .cons good129 <| .cons good130 <| .cons good132 <| .cons good133 <| .cons good136 <| .cons good137 <| .cons good144 <| .cons good151 <| .cons good155 <| .cons good164 <| .cons good165 <| .cons good168 <| .cons good170 <| .cons good174 <| .cons good175 <| .cons good176 <| .cons good177 <| .cons good178 <| .cons good179 <| .cons good180 <| .cons good182 <| .cons good183 <| .cons good184 <| .cons good185 <| .cons good186 <| .cons good187 <| TabOk.nil _
end Go.Proofs.Ytggnhcgmeibihaa
