/-
  The table of the seat's types for the engine of rules, made by a program of this repo (mktab.py). No condition.
-/
import Derived.Test.YtanhmmfpecgbhaaChecked
import Derived.Test.YtanhmmfpecgbhaaEa
namespace Go.Proofs.Ytanhmmfpecgbhaa
open Go
set_option linter.unusedVariables false
noncomputable def tab : Tab := [(2, ⟨Try.t2.desc, Try.t2.size, Try.t2.bytes, Try.t2.zero.getD undef⟩),
  (3, ⟨Try.t3.desc, Try.t3.size, Try.t3.bytes, Try.t3.zero.getD undef⟩),
  (4, ⟨Try.t4.desc, Try.t4.size, Try.t4.bytes, Try.t4.zero.getD undef⟩),
  (5, ⟨Try.t5.desc, Try.t5.size, Try.t5.bytes, Try.t5.zero.getD undef⟩),
  (6, ⟨Try.t5.desc, Try.t6.size, Try.t6.bytes, Try.t6.zero.getD undef⟩),
  (7, ⟨Try.t7.desc, Try.t7.size, Try.t7.bytes, Try.t7.zero.getD undef⟩),
  (8, ⟨Try.t7.desc, Try.t8.size, Try.t8.bytes, Try.t8.zero.getD undef⟩),
  (9, ⟨Try.t9.desc, Try.t9.size, Try.t9.bytes, Try.t9.zero.getD undef⟩),
  (10, ⟨Try.t9.desc, Try.t10.size, Try.t10.bytes, Try.t10.zero.getD undef⟩),
  (11, ⟨Try.t9.desc, Try.t11.size, Try.t11.bytes, Try.t11.zero.getD undef⟩),
  (12, ⟨Try.t12.desc, Try.t12.size, Try.t12.bytes, Try.t12.zero.getD undef⟩),
  (13, ⟨Try.t13.desc, Try.t13.size, Try.t13.bytes, Try.t13.zero.getD undef⟩),
  (14, ⟨Try.t13.desc, Try.t14.size, Try.t14.bytes, Try.t14.zero.getD undef⟩),
  (15, ⟨Try.t15.desc, Try.t15.size, Try.t15.bytes, Try.t15.zero.getD undef⟩),
  (16, ⟨Try.t16.desc, Try.t16.size, Try.t16.bytes, Try.t16.zero.getD undef⟩),
  (17, ⟨Try.t17.desc, Try.t17.size, Try.t17.bytes, Try.t17.zero.getD undef⟩),
  (18, ⟨Try.t18.desc, Try.t18.size, Try.t18.bytes, Try.t18.zero.getD undef⟩),
  (19, ⟨Try.t18.desc, Try.t19.size, Try.t19.bytes, Try.t19.zero.getD undef⟩),
  (20, ⟨Try.t20.desc, Try.t20.size, Try.t20.bytes, Try.t20.zero.getD undef⟩),
  (21, ⟨Try.t21.desc, Try.t21.size, Try.t21.bytes, Try.t21.zero.getD undef⟩),
  (22, ⟨Try.t22.desc, Try.t22.size, Try.t22.bytes, Try.t22.zero.getD undef⟩),
  (23, ⟨Try.t23.desc, Try.t23.size, Try.t23.bytes, Try.t23.zero.getD undef⟩),
  (24, ⟨Try.t24.desc, Try.t24.size, Try.t24.bytes, Try.t24.zero.getD undef⟩),
  (26, ⟨Try.t26.desc, Try.t26.size, Try.t26.bytes, Try.t26.zero.getD undef⟩),
  (27, ⟨Try.t26.desc, Try.t27.size, Try.t27.bytes, Try.t27.zero.getD undef⟩),
  (28, ⟨Try.t28.desc, Try.t28.size, Try.t28.bytes, Try.t28.zero.getD undef⟩),
  (29, ⟨Try.t3.desc, Try.t29.size, Try.t29.bytes, Try.t29.zero.getD undef⟩),
  (32, ⟨Try.t32.desc, Try.t32.size, Try.t32.bytes, Try.t32.zero.getD undef⟩),
  (34, ⟨Try.t34.desc, Try.t34.size, Try.t34.bytes, Try.t34.zero.getD undef⟩),
  (35, ⟨Try.t34.desc, Try.t35.size, Try.t35.bytes, Try.t35.zero.getD undef⟩),
  (36, ⟨Try.t36.desc, Try.t36.size, Try.t36.bytes, Try.t36.zero.getD undef⟩),
  (37, ⟨Try.t36.desc, Try.t37.size, Try.t37.bytes, Try.t37.zero.getD undef⟩),
  (48, ⟨Try.t48.desc, Try.t48.size, Try.t48.bytes, Try.t48.zero.getD undef⟩),
  (55, ⟨Try.t55.desc, Try.t55.size, Try.t55.bytes, Try.t55.zero.getD undef⟩),
  (56, ⟨Try.t56.desc, Try.t56.size, Try.t56.bytes, Try.t56.zero.getD undef⟩),
  (57, ⟨Try.t57.desc, Try.t57.size, Try.t57.bytes, Try.t57.zero.getD undef⟩),
  (58, ⟨Try.t58.desc, Try.t58.size, Try.t58.bytes, Try.t58.zero.getD undef⟩),
  (59, ⟨Try.t58.desc, Try.t59.size, Try.t59.bytes, Try.t59.zero.getD undef⟩),
  (60, ⟨Try.t60.desc, Try.t60.size, Try.t60.bytes, Try.t60.zero.getD undef⟩),
  (61, ⟨Try.t60.desc, Try.t61.size, Try.t61.bytes, Try.t61.zero.getD undef⟩),
  (63, ⟨Try.t63.desc, Try.t63.size, Try.t63.bytes, Try.t63.zero.getD undef⟩),
  (64, ⟨Try.t36.desc, Try.t64.size, Try.t64.bytes, Try.t64.zero.getD undef⟩),
  (74, ⟨Try.t74.desc, Try.t74.size, Try.t74.bytes, Try.t74.zero.getD undef⟩),
  (75, ⟨Try.t75.desc, Try.t75.size, Try.t75.bytes, Try.t75.zero.getD undef⟩),
  (76, ⟨Try.t75.desc, Try.t76.size, Try.t76.bytes, Try.t76.zero.getD undef⟩),
  (78, ⟨Try.t78.desc, Try.t78.size, Try.t78.bytes, Try.t78.zero.getD undef⟩),
  (81, ⟨Try.t81.desc, Try.t81.size, Try.t81.bytes, Try.t81.zero.getD undef⟩),
  (82, ⟨Try.t81.desc, Try.t82.size, Try.t82.bytes, Try.t82.zero.getD undef⟩),
  (83, ⟨Try.t83.desc, Try.t83.size, Try.t83.bytes, Try.t83.zero.getD undef⟩),
  (86, ⟨Try.t86.desc, Try.t86.size, Try.t86.bytes, Try.t86.zero.getD undef⟩),
  (87, ⟨Try.t87.desc, Try.t87.size, Try.t87.bytes, Try.t87.zero.getD undef⟩),
  (88, ⟨Try.t87.desc, Try.t88.size, Try.t88.bytes, Try.t88.zero.getD undef⟩),
  (89, ⟨Try.t89.desc, Try.t89.size, Try.t89.bytes, Try.t89.zero.getD undef⟩),
  (91, ⟨Try.t91.desc, Try.t91.size, Try.t91.bytes, Try.t91.zero.getD undef⟩),
  (92, ⟨Try.t91.desc, Try.t92.size, Try.t92.bytes, Try.t92.zero.getD undef⟩),
  (97, ⟨Try.t97.desc, Try.t97.size, Try.t97.bytes, Try.t97.zero.getD undef⟩),
  (98, ⟨Try.t98.desc, Try.t98.size, Try.t98.bytes, Try.t98.zero.getD undef⟩),
  (99, ⟨Try.t99.desc, Try.t99.size, Try.t99.bytes, Try.t99.zero.getD undef⟩),
  (100, ⟨Try.t100.desc, Try.t100.size, Try.t100.bytes, Try.t100.zero.getD undef⟩),
  (101, ⟨Try.t100.desc, Try.t101.size, Try.t101.bytes, Try.t101.zero.getD undef⟩),
  (102, ⟨Try.t102.desc, Try.t102.size, Try.t102.bytes, Try.t102.zero.getD undef⟩),
  (103, ⟨Try.t103.desc, Try.t103.size, Try.t103.bytes, Try.t103.zero.getD undef⟩),
  (104, ⟨Try.t103.desc, Try.t104.size, Try.t104.bytes, Try.t104.zero.getD undef⟩),
  (119, ⟨Try.t119.desc, Try.t119.size, Try.t119.bytes, Try.t119.zero.getD undef⟩),
  (120, ⟨Try.t119.desc, Try.t120.size, Try.t120.bytes, Try.t120.zero.getD undef⟩),
  (123, ⟨Try.t123.desc, Try.t123.size, Try.t123.bytes, Try.t123.zero.getD undef⟩),
  (124, ⟨Try.t124.desc, Try.t124.size, Try.t124.bytes, Try.t124.zero.getD undef⟩),
  (127, ⟨Try.t127.desc, Try.t127.size, Try.t127.bytes, Try.t127.zero.getD undef⟩),
  (128, ⟨Try.t127.desc, Try.t128.size, Try.t128.bytes, Try.t128.zero.getD undef⟩),
  (135, ⟨Try.t135.desc, Try.t135.size, Try.t135.bytes, Try.t135.zero.getD undef⟩),
  (137, ⟨Try.t137.desc, Try.t137.size, Try.t137.bytes, Try.t137.zero.getD undef⟩),
  (138, ⟨Try.t137.desc, Try.t138.size, Try.t138.bytes, Try.t138.zero.getD undef⟩),
  (139, ⟨Try.t139.desc, Try.t139.size, Try.t139.bytes, Try.t139.zero.getD undef⟩),
  (140, ⟨Try.t140.desc, Try.t140.size, Try.t140.bytes, Try.t140.zero.getD undef⟩),
  (141, ⟨Try.t140.desc, Try.t141.size, Try.t141.bytes, Try.t141.zero.getD undef⟩),
  (142, ⟨Try.t142.desc, Try.t142.size, Try.t142.bytes, Try.t142.zero.getD undef⟩),
  (143, ⟨Try.t142.desc, Try.t143.size, Try.t143.bytes, Try.t143.zero.getD undef⟩),
  (145, ⟨Try.t145.desc, Try.t145.size, Try.t145.bytes, Try.t145.zero.getD undef⟩),
  (149, ⟨Try.t149.desc, Try.t149.size, Try.t149.bytes, Try.t149.zero.getD undef⟩),
  (155, ⟨Try.t155.desc, Try.t155.size, Try.t155.bytes, Try.t155.zero.getD undef⟩),
  (156, ⟨Try.t155.desc, Try.t156.size, Try.t156.bytes, Try.t156.zero.getD undef⟩),
  (159, ⟨Try.t159.desc, Try.t159.size, Try.t159.bytes, Try.t159.zero.getD undef⟩),
  (166, ⟨Try.t3.desc, Try.t166.size, Try.t166.bytes, Try.t166.zero.getD undef⟩),
  (175, ⟨Try.t175.desc, Try.t175.size, Try.t175.bytes, Try.t175.zero.getD undef⟩),
  (176, ⟨Try.t24.desc, Try.t176.size, Try.t176.bytes, Try.t176.zero.getD undef⟩),
  (179, ⟨Try.t179.desc, Try.t179.size, Try.t179.bytes, Try.t179.zero.getD undef⟩),
  (181, ⟨Try.t181.desc, Try.t181.size, Try.t181.bytes, Try.t181.zero.getD undef⟩),
  (185, ⟨Try.t185.desc, Try.t185.size, Try.t185.bytes, Try.t185.zero.getD undef⟩),
  (186, ⟨Try.t185.desc, Try.t186.size, Try.t186.bytes, Try.t186.zero.getD undef⟩),
  (187, ⟨Try.t187.desc, Try.t187.size, Try.t187.bytes, Try.t187.zero.getD undef⟩),
  (188, ⟨Try.t188.desc, Try.t188.size, Try.t188.bytes, Try.t188.zero.getD undef⟩),
  (189, ⟨Try.t188.desc, Try.t189.size, Try.t189.bytes, Try.t189.zero.getD undef⟩),
  (190, ⟨Try.t5.desc, Try.t190.size, Try.t190.bytes, Try.t190.zero.getD undef⟩),
  (191, ⟨Try.t5.desc, Try.t191.size, Try.t191.bytes, Try.t191.zero.getD undef⟩),
  (192, ⟨Try.t192.desc, Try.t192.size, Try.t192.bytes, Try.t192.zero.getD undef⟩),
  (193, ⟨Try.t193.desc, Try.t193.size, Try.t193.bytes, Try.t193.zero.getD undef⟩),
  (194, ⟨Try.t21.desc, Try.t194.size, Try.t194.bytes, Try.t194.zero.getD undef⟩),
  (195, ⟨Try.t21.desc, Try.t195.size, Try.t195.bytes, Try.t195.zero.getD undef⟩),
  (196, ⟨Try.t196.desc, Try.t196.size, Try.t196.bytes, Try.t196.zero.getD undef⟩),
  (197, ⟨Try.t196.desc, Try.t197.size, Try.t197.bytes, Try.t197.zero.getD undef⟩),
  (198, ⟨Try.t198.desc, Try.t198.size, Try.t198.bytes, Try.t198.zero.getD undef⟩),
  (199, ⟨Try.t199.desc, Try.t199.size, Try.t199.bytes, Try.t199.zero.getD undef⟩),
  (200, ⟨Try.t199.desc, Try.t200.size, Try.t200.bytes, Try.t200.zero.getD undef⟩),
  (201, ⟨Try.t201.desc, Try.t201.size, Try.t201.bytes, Try.t201.zero.getD undef⟩),
  (202, ⟨Try.t201.desc, Try.t202.size, Try.t202.bytes, Try.t202.zero.getD undef⟩),
  (203, ⟨Try.t203.desc, Try.t203.size, Try.t203.bytes, Try.t203.zero.getD undef⟩)]
theorem good2 : Good Try.prog 2 ⟨Try.t2.desc, Try.t2.size, Try.t2.bytes, Try.t2.zero.getD undef⟩ := ⟨Try.underlying2, Try.t2, by kernel_rfl, rfl, rfl, rfl⟩
theorem good3 : Good Try.prog 3 ⟨Try.t3.desc, Try.t3.size, Try.t3.bytes, Try.t3.zero.getD undef⟩ := ⟨Try.underlying3, Try.t3, by kernel_rfl, rfl, rfl, rfl⟩
theorem good4 : Good Try.prog 4 ⟨Try.t4.desc, Try.t4.size, Try.t4.bytes, Try.t4.zero.getD undef⟩ := ⟨Try.underlying4, Try.t4, by kernel_rfl, rfl, rfl, rfl⟩
theorem good5 : Good Try.prog 5 ⟨Try.t5.desc, Try.t5.size, Try.t5.bytes, Try.t5.zero.getD undef⟩ := ⟨Try.underlying5, Try.t5, by kernel_rfl, rfl, rfl, rfl⟩
theorem good6 : Good Try.prog 6 ⟨Try.t5.desc, Try.t6.size, Try.t6.bytes, Try.t6.zero.getD undef⟩ := ⟨Try.underlying6, Try.t6, by kernel_rfl, rfl, rfl, rfl⟩
theorem good7 : Good Try.prog 7 ⟨Try.t7.desc, Try.t7.size, Try.t7.bytes, Try.t7.zero.getD undef⟩ := ⟨Try.underlying7, Try.t7, by kernel_rfl, rfl, rfl, rfl⟩
theorem good8 : Good Try.prog 8 ⟨Try.t7.desc, Try.t8.size, Try.t8.bytes, Try.t8.zero.getD undef⟩ := ⟨Try.underlying8, Try.t8, by kernel_rfl, rfl, rfl, rfl⟩
theorem good9 : Good Try.prog 9 ⟨Try.t9.desc, Try.t9.size, Try.t9.bytes, Try.t9.zero.getD undef⟩ := ⟨Try.underlying9, Try.t9, by kernel_rfl, rfl, rfl, rfl⟩
theorem good10 : Good Try.prog 10 ⟨Try.t9.desc, Try.t10.size, Try.t10.bytes, Try.t10.zero.getD undef⟩ := ⟨Try.underlying10, Try.t10, by kernel_rfl, rfl, rfl, rfl⟩
theorem good11 : Good Try.prog 11 ⟨Try.t9.desc, Try.t11.size, Try.t11.bytes, Try.t11.zero.getD undef⟩ := ⟨Try.underlying11, Try.t11, by kernel_rfl, rfl, rfl, rfl⟩
theorem good12 : Good Try.prog 12 ⟨Try.t12.desc, Try.t12.size, Try.t12.bytes, Try.t12.zero.getD undef⟩ := ⟨Try.underlying12, Try.t12, by kernel_rfl, rfl, rfl, rfl⟩
theorem good13 : Good Try.prog 13 ⟨Try.t13.desc, Try.t13.size, Try.t13.bytes, Try.t13.zero.getD undef⟩ := ⟨Try.underlying13, Try.t13, by kernel_rfl, rfl, rfl, rfl⟩
theorem good14 : Good Try.prog 14 ⟨Try.t13.desc, Try.t14.size, Try.t14.bytes, Try.t14.zero.getD undef⟩ := ⟨Try.underlying14, Try.t14, by kernel_rfl, rfl, rfl, rfl⟩
theorem good15 : Good Try.prog 15 ⟨Try.t15.desc, Try.t15.size, Try.t15.bytes, Try.t15.zero.getD undef⟩ := ⟨Try.underlying15, Try.t15, by kernel_rfl, rfl, rfl, rfl⟩
theorem good16 : Good Try.prog 16 ⟨Try.t16.desc, Try.t16.size, Try.t16.bytes, Try.t16.zero.getD undef⟩ := ⟨Try.underlying16, Try.t16, by kernel_rfl, rfl, rfl, rfl⟩
theorem good17 : Good Try.prog 17 ⟨Try.t17.desc, Try.t17.size, Try.t17.bytes, Try.t17.zero.getD undef⟩ := ⟨Try.underlying17, Try.t17, by kernel_rfl, rfl, rfl, rfl⟩
theorem good18 : Good Try.prog 18 ⟨Try.t18.desc, Try.t18.size, Try.t18.bytes, Try.t18.zero.getD undef⟩ := ⟨Try.underlying18, Try.t18, by kernel_rfl, rfl, rfl, rfl⟩
theorem good19 : Good Try.prog 19 ⟨Try.t18.desc, Try.t19.size, Try.t19.bytes, Try.t19.zero.getD undef⟩ := ⟨Try.underlying19, Try.t19, by kernel_rfl, rfl, rfl, rfl⟩
theorem good20 : Good Try.prog 20 ⟨Try.t20.desc, Try.t20.size, Try.t20.bytes, Try.t20.zero.getD undef⟩ := ⟨Try.underlying20, Try.t20, by kernel_rfl, rfl, rfl, rfl⟩
theorem good21 : Good Try.prog 21 ⟨Try.t21.desc, Try.t21.size, Try.t21.bytes, Try.t21.zero.getD undef⟩ := ⟨Try.underlying21, Try.t21, by kernel_rfl, rfl, rfl, rfl⟩
theorem good22 : Good Try.prog 22 ⟨Try.t22.desc, Try.t22.size, Try.t22.bytes, Try.t22.zero.getD undef⟩ := ⟨Try.underlying22, Try.t22, by kernel_rfl, rfl, rfl, rfl⟩
theorem good23 : Good Try.prog 23 ⟨Try.t23.desc, Try.t23.size, Try.t23.bytes, Try.t23.zero.getD undef⟩ := ⟨Try.underlying23, Try.t23, by kernel_rfl, rfl, rfl, rfl⟩
theorem good24 : Good Try.prog 24 ⟨Try.t24.desc, Try.t24.size, Try.t24.bytes, Try.t24.zero.getD undef⟩ := ⟨Try.underlying24, Try.t24, by kernel_rfl, rfl, rfl, rfl⟩
theorem good26 : Good Try.prog 26 ⟨Try.t26.desc, Try.t26.size, Try.t26.bytes, Try.t26.zero.getD undef⟩ := ⟨Try.underlying26, Try.t26, by kernel_rfl, rfl, rfl, rfl⟩
theorem good27 : Good Try.prog 27 ⟨Try.t26.desc, Try.t27.size, Try.t27.bytes, Try.t27.zero.getD undef⟩ := ⟨Try.underlying27, Try.t27, by kernel_rfl, rfl, rfl, rfl⟩
theorem good28 : Good Try.prog 28 ⟨Try.t28.desc, Try.t28.size, Try.t28.bytes, Try.t28.zero.getD undef⟩ := ⟨Try.underlying28, Try.t28, by kernel_rfl, rfl, rfl, rfl⟩
theorem good29 : Good Try.prog 29 ⟨Try.t3.desc, Try.t29.size, Try.t29.bytes, Try.t29.zero.getD undef⟩ := ⟨Try.underlying29, Try.t29, by kernel_rfl, rfl, rfl, rfl⟩
theorem good32 : Good Try.prog 32 ⟨Try.t32.desc, Try.t32.size, Try.t32.bytes, Try.t32.zero.getD undef⟩ := ⟨Try.underlying32, Try.t32, by kernel_rfl, rfl, rfl, rfl⟩
theorem good34 : Good Try.prog 34 ⟨Try.t34.desc, Try.t34.size, Try.t34.bytes, Try.t34.zero.getD undef⟩ := ⟨Try.underlying34, Try.t34, by kernel_rfl, rfl, rfl, rfl⟩
theorem good35 : Good Try.prog 35 ⟨Try.t34.desc, Try.t35.size, Try.t35.bytes, Try.t35.zero.getD undef⟩ := ⟨Try.underlying35, Try.t35, by kernel_rfl, rfl, rfl, rfl⟩
theorem good36 : Good Try.prog 36 ⟨Try.t36.desc, Try.t36.size, Try.t36.bytes, Try.t36.zero.getD undef⟩ := ⟨Try.underlying36, Try.t36, by kernel_rfl, rfl, rfl, rfl⟩
theorem good37 : Good Try.prog 37 ⟨Try.t36.desc, Try.t37.size, Try.t37.bytes, Try.t37.zero.getD undef⟩ := ⟨Try.underlying37, Try.t37, by kernel_rfl, rfl, rfl, rfl⟩
theorem good48 : Good Try.prog 48 ⟨Try.t48.desc, Try.t48.size, Try.t48.bytes, Try.t48.zero.getD undef⟩ := ⟨Try.underlying48, Try.t48, by kernel_rfl, rfl, rfl, rfl⟩
theorem good55 : Good Try.prog 55 ⟨Try.t55.desc, Try.t55.size, Try.t55.bytes, Try.t55.zero.getD undef⟩ := ⟨Try.underlying55, Try.t55, by kernel_rfl, rfl, rfl, rfl⟩
theorem good56 : Good Try.prog 56 ⟨Try.t56.desc, Try.t56.size, Try.t56.bytes, Try.t56.zero.getD undef⟩ := ⟨Try.underlying56, Try.t56, by kernel_rfl, rfl, rfl, rfl⟩
theorem good57 : Good Try.prog 57 ⟨Try.t57.desc, Try.t57.size, Try.t57.bytes, Try.t57.zero.getD undef⟩ := ⟨Try.underlying57, Try.t57, by kernel_rfl, rfl, rfl, rfl⟩
theorem good58 : Good Try.prog 58 ⟨Try.t58.desc, Try.t58.size, Try.t58.bytes, Try.t58.zero.getD undef⟩ := ⟨Try.underlying58, Try.t58, by kernel_rfl, rfl, rfl, rfl⟩
theorem good59 : Good Try.prog 59 ⟨Try.t58.desc, Try.t59.size, Try.t59.bytes, Try.t59.zero.getD undef⟩ := ⟨Try.underlying59, Try.t59, by kernel_rfl, rfl, rfl, rfl⟩
theorem good60 : Good Try.prog 60 ⟨Try.t60.desc, Try.t60.size, Try.t60.bytes, Try.t60.zero.getD undef⟩ := ⟨Try.underlying60, Try.t60, by kernel_rfl, rfl, rfl, rfl⟩
theorem good61 : Good Try.prog 61 ⟨Try.t60.desc, Try.t61.size, Try.t61.bytes, Try.t61.zero.getD undef⟩ := ⟨Try.underlying61, Try.t61, by kernel_rfl, rfl, rfl, rfl⟩
theorem good63 : Good Try.prog 63 ⟨Try.t63.desc, Try.t63.size, Try.t63.bytes, Try.t63.zero.getD undef⟩ := ⟨Try.underlying63, Try.t63, by kernel_rfl, rfl, rfl, rfl⟩
theorem good64 : Good Try.prog 64 ⟨Try.t36.desc, Try.t64.size, Try.t64.bytes, Try.t64.zero.getD undef⟩ := ⟨Try.underlying64, Try.t64, by kernel_rfl, rfl, rfl, rfl⟩
theorem good74 : Good Try.prog 74 ⟨Try.t74.desc, Try.t74.size, Try.t74.bytes, Try.t74.zero.getD undef⟩ := ⟨Try.underlying74, Try.t74, by kernel_rfl, rfl, rfl, rfl⟩
theorem good75 : Good Try.prog 75 ⟨Try.t75.desc, Try.t75.size, Try.t75.bytes, Try.t75.zero.getD undef⟩ := ⟨Try.underlying75, Try.t75, by kernel_rfl, rfl, rfl, rfl⟩
theorem good76 : Good Try.prog 76 ⟨Try.t75.desc, Try.t76.size, Try.t76.bytes, Try.t76.zero.getD undef⟩ := ⟨Try.underlying76, Try.t76, by kernel_rfl, rfl, rfl, rfl⟩
theorem good78 : Good Try.prog 78 ⟨Try.t78.desc, Try.t78.size, Try.t78.bytes, Try.t78.zero.getD undef⟩ := ⟨Try.underlying78, Try.t78, by kernel_rfl, rfl, rfl, rfl⟩
theorem good81 : Good Try.prog 81 ⟨Try.t81.desc, Try.t81.size, Try.t81.bytes, Try.t81.zero.getD undef⟩ := ⟨Try.underlying81, Try.t81, by kernel_rfl, rfl, rfl, rfl⟩
theorem good82 : Good Try.prog 82 ⟨Try.t81.desc, Try.t82.size, Try.t82.bytes, Try.t82.zero.getD undef⟩ := ⟨Try.underlying82, Try.t82, by kernel_rfl, rfl, rfl, rfl⟩
theorem good83 : Good Try.prog 83 ⟨Try.t83.desc, Try.t83.size, Try.t83.bytes, Try.t83.zero.getD undef⟩ := ⟨Try.underlying83, Try.t83, by kernel_rfl, rfl, rfl, rfl⟩
theorem good86 : Good Try.prog 86 ⟨Try.t86.desc, Try.t86.size, Try.t86.bytes, Try.t86.zero.getD undef⟩ := ⟨Try.underlying86, Try.t86, by kernel_rfl, rfl, rfl, rfl⟩
theorem good87 : Good Try.prog 87 ⟨Try.t87.desc, Try.t87.size, Try.t87.bytes, Try.t87.zero.getD undef⟩ := ⟨Try.underlying87, Try.t87, by kernel_rfl, rfl, rfl, rfl⟩
theorem good88 : Good Try.prog 88 ⟨Try.t87.desc, Try.t88.size, Try.t88.bytes, Try.t88.zero.getD undef⟩ := ⟨Try.underlying88, Try.t88, by kernel_rfl, rfl, rfl, rfl⟩
theorem good89 : Good Try.prog 89 ⟨Try.t89.desc, Try.t89.size, Try.t89.bytes, Try.t89.zero.getD undef⟩ := ⟨Try.underlying89, Try.t89, by kernel_rfl, rfl, rfl, rfl⟩
theorem good91 : Good Try.prog 91 ⟨Try.t91.desc, Try.t91.size, Try.t91.bytes, Try.t91.zero.getD undef⟩ := ⟨Try.underlying91, Try.t91, by kernel_rfl, rfl, rfl, rfl⟩
theorem good92 : Good Try.prog 92 ⟨Try.t91.desc, Try.t92.size, Try.t92.bytes, Try.t92.zero.getD undef⟩ := ⟨Try.underlying92, Try.t92, by kernel_rfl, rfl, rfl, rfl⟩
theorem good97 : Good Try.prog 97 ⟨Try.t97.desc, Try.t97.size, Try.t97.bytes, Try.t97.zero.getD undef⟩ := ⟨Try.underlying97, Try.t97, by kernel_rfl, rfl, rfl, rfl⟩
theorem good98 : Good Try.prog 98 ⟨Try.t98.desc, Try.t98.size, Try.t98.bytes, Try.t98.zero.getD undef⟩ := ⟨Try.underlying98, Try.t98, by kernel_rfl, rfl, rfl, rfl⟩
theorem good99 : Good Try.prog 99 ⟨Try.t99.desc, Try.t99.size, Try.t99.bytes, Try.t99.zero.getD undef⟩ := ⟨Try.underlying99, Try.t99, by kernel_rfl, rfl, rfl, rfl⟩
theorem good100 : Good Try.prog 100 ⟨Try.t100.desc, Try.t100.size, Try.t100.bytes, Try.t100.zero.getD undef⟩ := ⟨Try.underlying100, Try.t100, by kernel_rfl, rfl, rfl, rfl⟩
theorem good101 : Good Try.prog 101 ⟨Try.t100.desc, Try.t101.size, Try.t101.bytes, Try.t101.zero.getD undef⟩ := ⟨Try.underlying101, Try.t101, by kernel_rfl, rfl, rfl, rfl⟩
theorem good102 : Good Try.prog 102 ⟨Try.t102.desc, Try.t102.size, Try.t102.bytes, Try.t102.zero.getD undef⟩ := ⟨Try.underlying102, Try.t102, by kernel_rfl, rfl, rfl, rfl⟩
theorem good103 : Good Try.prog 103 ⟨Try.t103.desc, Try.t103.size, Try.t103.bytes, Try.t103.zero.getD undef⟩ := ⟨Try.underlying103, Try.t103, by kernel_rfl, rfl, rfl, rfl⟩
theorem good104 : Good Try.prog 104 ⟨Try.t103.desc, Try.t104.size, Try.t104.bytes, Try.t104.zero.getD undef⟩ := ⟨Try.underlying104, Try.t104, by kernel_rfl, rfl, rfl, rfl⟩
theorem good119 : Good Try.prog 119 ⟨Try.t119.desc, Try.t119.size, Try.t119.bytes, Try.t119.zero.getD undef⟩ := ⟨Try.underlying119, Try.t119, by kernel_rfl, rfl, rfl, rfl⟩
theorem good120 : Good Try.prog 120 ⟨Try.t119.desc, Try.t120.size, Try.t120.bytes, Try.t120.zero.getD undef⟩ := ⟨Try.underlying120, Try.t120, by kernel_rfl, rfl, rfl, rfl⟩
theorem good123 : Good Try.prog 123 ⟨Try.t123.desc, Try.t123.size, Try.t123.bytes, Try.t123.zero.getD undef⟩ := ⟨Try.underlying123, Try.t123, by kernel_rfl, rfl, rfl, rfl⟩
theorem good124 : Good Try.prog 124 ⟨Try.t124.desc, Try.t124.size, Try.t124.bytes, Try.t124.zero.getD undef⟩ := ⟨Try.underlying124, Try.t124, by kernel_rfl, rfl, rfl, rfl⟩
theorem good127 : Good Try.prog 127 ⟨Try.t127.desc, Try.t127.size, Try.t127.bytes, Try.t127.zero.getD undef⟩ := ⟨Try.underlying127, Try.t127, by kernel_rfl, rfl, rfl, rfl⟩
theorem good128 : Good Try.prog 128 ⟨Try.t127.desc, Try.t128.size, Try.t128.bytes, Try.t128.zero.getD undef⟩ := ⟨Try.underlying128, Try.t128, by kernel_rfl, rfl, rfl, rfl⟩
theorem good135 : Good Try.prog 135 ⟨Try.t135.desc, Try.t135.size, Try.t135.bytes, Try.t135.zero.getD undef⟩ := ⟨Try.underlying135, Try.t135, by kernel_rfl, rfl, rfl, rfl⟩
theorem good137 : Good Try.prog 137 ⟨Try.t137.desc, Try.t137.size, Try.t137.bytes, Try.t137.zero.getD undef⟩ := ⟨Try.underlying137, Try.t137, by kernel_rfl, rfl, rfl, rfl⟩
theorem good138 : Good Try.prog 138 ⟨Try.t137.desc, Try.t138.size, Try.t138.bytes, Try.t138.zero.getD undef⟩ := ⟨Try.underlying138, Try.t138, by kernel_rfl, rfl, rfl, rfl⟩
theorem good139 : Good Try.prog 139 ⟨Try.t139.desc, Try.t139.size, Try.t139.bytes, Try.t139.zero.getD undef⟩ := ⟨Try.underlying139, Try.t139, by kernel_rfl, rfl, rfl, rfl⟩
theorem good140 : Good Try.prog 140 ⟨Try.t140.desc, Try.t140.size, Try.t140.bytes, Try.t140.zero.getD undef⟩ := ⟨Try.underlying140, Try.t140, by kernel_rfl, rfl, rfl, rfl⟩
theorem good141 : Good Try.prog 141 ⟨Try.t140.desc, Try.t141.size, Try.t141.bytes, Try.t141.zero.getD undef⟩ := ⟨Try.underlying141, Try.t141, by kernel_rfl, rfl, rfl, rfl⟩
theorem good142 : Good Try.prog 142 ⟨Try.t142.desc, Try.t142.size, Try.t142.bytes, Try.t142.zero.getD undef⟩ := ⟨Try.underlying142, Try.t142, by kernel_rfl, rfl, rfl, rfl⟩
theorem good143 : Good Try.prog 143 ⟨Try.t142.desc, Try.t143.size, Try.t143.bytes, Try.t143.zero.getD undef⟩ := ⟨Try.underlying143, Try.t143, by kernel_rfl, rfl, rfl, rfl⟩
theorem good145 : Good Try.prog 145 ⟨Try.t145.desc, Try.t145.size, Try.t145.bytes, Try.t145.zero.getD undef⟩ := ⟨Try.underlying145, Try.t145, by kernel_rfl, rfl, rfl, rfl⟩
theorem good149 : Good Try.prog 149 ⟨Try.t149.desc, Try.t149.size, Try.t149.bytes, Try.t149.zero.getD undef⟩ := ⟨Try.underlying149, Try.t149, by kernel_rfl, rfl, rfl, rfl⟩
theorem good155 : Good Try.prog 155 ⟨Try.t155.desc, Try.t155.size, Try.t155.bytes, Try.t155.zero.getD undef⟩ := ⟨Try.underlying155, Try.t155, by kernel_rfl, rfl, rfl, rfl⟩
theorem good156 : Good Try.prog 156 ⟨Try.t155.desc, Try.t156.size, Try.t156.bytes, Try.t156.zero.getD undef⟩ := ⟨Try.underlying156, Try.t156, by kernel_rfl, rfl, rfl, rfl⟩
theorem good159 : Good Try.prog 159 ⟨Try.t159.desc, Try.t159.size, Try.t159.bytes, Try.t159.zero.getD undef⟩ := ⟨Try.underlying159, Try.t159, by kernel_rfl, rfl, rfl, rfl⟩
theorem good166 : Good Try.prog 166 ⟨Try.t3.desc, Try.t166.size, Try.t166.bytes, Try.t166.zero.getD undef⟩ := ⟨Try.underlying166, Try.t166, by kernel_rfl, rfl, rfl, rfl⟩
theorem good175 : Good Try.prog 175 ⟨Try.t175.desc, Try.t175.size, Try.t175.bytes, Try.t175.zero.getD undef⟩ := ⟨Try.underlying175, Try.t175, by kernel_rfl, rfl, rfl, rfl⟩
theorem good176 : Good Try.prog 176 ⟨Try.t24.desc, Try.t176.size, Try.t176.bytes, Try.t176.zero.getD undef⟩ := ⟨Try.underlying176, Try.t176, by kernel_rfl, rfl, rfl, rfl⟩
theorem good179 : Good Try.prog 179 ⟨Try.t179.desc, Try.t179.size, Try.t179.bytes, Try.t179.zero.getD undef⟩ := ⟨Try.underlying179, Try.t179, by kernel_rfl, rfl, rfl, rfl⟩
theorem good181 : Good Try.prog 181 ⟨Try.t181.desc, Try.t181.size, Try.t181.bytes, Try.t181.zero.getD undef⟩ := ⟨Try.underlying181, Try.t181, by kernel_rfl, rfl, rfl, rfl⟩
theorem good185 : Good Try.prog 185 ⟨Try.t185.desc, Try.t185.size, Try.t185.bytes, Try.t185.zero.getD undef⟩ := ⟨Try.underlying185, Try.t185, by kernel_rfl, rfl, rfl, rfl⟩
theorem good186 : Good Try.prog 186 ⟨Try.t185.desc, Try.t186.size, Try.t186.bytes, Try.t186.zero.getD undef⟩ := ⟨Try.underlying186, Try.t186, by kernel_rfl, rfl, rfl, rfl⟩
theorem good187 : Good Try.prog 187 ⟨Try.t187.desc, Try.t187.size, Try.t187.bytes, Try.t187.zero.getD undef⟩ := ⟨Try.underlying187, Try.t187, by kernel_rfl, rfl, rfl, rfl⟩
theorem good188 : Good Try.prog 188 ⟨Try.t188.desc, Try.t188.size, Try.t188.bytes, Try.t188.zero.getD undef⟩ := ⟨Try.underlying188, Try.t188, by kernel_rfl, rfl, rfl, rfl⟩
theorem good189 : Good Try.prog 189 ⟨Try.t188.desc, Try.t189.size, Try.t189.bytes, Try.t189.zero.getD undef⟩ := ⟨Try.underlying189, Try.t189, by kernel_rfl, rfl, rfl, rfl⟩
theorem good190 : Good Try.prog 190 ⟨Try.t5.desc, Try.t190.size, Try.t190.bytes, Try.t190.zero.getD undef⟩ := ⟨Try.underlying190, Try.t190, by kernel_rfl, rfl, rfl, rfl⟩
theorem good191 : Good Try.prog 191 ⟨Try.t5.desc, Try.t191.size, Try.t191.bytes, Try.t191.zero.getD undef⟩ := ⟨Try.underlying191, Try.t191, by kernel_rfl, rfl, rfl, rfl⟩
theorem good192 : Good Try.prog 192 ⟨Try.t192.desc, Try.t192.size, Try.t192.bytes, Try.t192.zero.getD undef⟩ := ⟨Try.underlying192, Try.t192, by kernel_rfl, rfl, rfl, rfl⟩
theorem good193 : Good Try.prog 193 ⟨Try.t193.desc, Try.t193.size, Try.t193.bytes, Try.t193.zero.getD undef⟩ := ⟨Try.underlying193, Try.t193, by kernel_rfl, rfl, rfl, rfl⟩
theorem good194 : Good Try.prog 194 ⟨Try.t21.desc, Try.t194.size, Try.t194.bytes, Try.t194.zero.getD undef⟩ := ⟨Try.underlying194, Try.t194, by kernel_rfl, rfl, rfl, rfl⟩
theorem good195 : Good Try.prog 195 ⟨Try.t21.desc, Try.t195.size, Try.t195.bytes, Try.t195.zero.getD undef⟩ := ⟨Try.underlying195, Try.t195, by kernel_rfl, rfl, rfl, rfl⟩
theorem good196 : Good Try.prog 196 ⟨Try.t196.desc, Try.t196.size, Try.t196.bytes, Try.t196.zero.getD undef⟩ := ⟨Try.underlying196, Try.t196, by kernel_rfl, rfl, rfl, rfl⟩
theorem good197 : Good Try.prog 197 ⟨Try.t196.desc, Try.t197.size, Try.t197.bytes, Try.t197.zero.getD undef⟩ := ⟨Try.underlying197, Try.t197, by kernel_rfl, rfl, rfl, rfl⟩
theorem good198 : Good Try.prog 198 ⟨Try.t198.desc, Try.t198.size, Try.t198.bytes, Try.t198.zero.getD undef⟩ := ⟨Try.underlying198, Try.t198, by kernel_rfl, rfl, rfl, rfl⟩
theorem good199 : Good Try.prog 199 ⟨Try.t199.desc, Try.t199.size, Try.t199.bytes, Try.t199.zero.getD undef⟩ := ⟨Try.underlying199, Try.t199, by kernel_rfl, rfl, rfl, rfl⟩
theorem good200 : Good Try.prog 200 ⟨Try.t199.desc, Try.t200.size, Try.t200.bytes, Try.t200.zero.getD undef⟩ := ⟨Try.underlying200, Try.t200, by kernel_rfl, rfl, rfl, rfl⟩
theorem good201 : Good Try.prog 201 ⟨Try.t201.desc, Try.t201.size, Try.t201.bytes, Try.t201.zero.getD undef⟩ := ⟨Try.underlying201, Try.t201, by kernel_rfl, rfl, rfl, rfl⟩
theorem good202 : Good Try.prog 202 ⟨Try.t201.desc, Try.t202.size, Try.t202.bytes, Try.t202.zero.getD undef⟩ := ⟨Try.underlying202, Try.t202, by kernel_rfl, rfl, rfl, rfl⟩
theorem good203 : Good Try.prog 203 ⟨Try.t203.desc, Try.t203.size, Try.t203.bytes, Try.t203.zero.getD undef⟩ := ⟨Try.underlying203, Try.t203, by kernel_rfl, rfl, rfl, rfl⟩
theorem tabOk : TabOk Try.prog tab := .cons good2 <| .cons good3 <| .cons good4 <| .cons good5 <| .cons good6 <| .cons good7 <| .cons good8 <| .cons good9 <| .cons good10 <| .cons good11 <| .cons good12 <| .cons good13 <| .cons good14 <| .cons good15 <| .cons good16 <| .cons good17 <| .cons good18 <| .cons good19 <| .cons good20 <| .cons good21 <| .cons good22 <| .cons good23 <| .cons good24 <| .cons good26 <| .cons good27 <| .cons good28 <| .cons good29 <| .cons good32 <| .cons good34 <| .cons good35 <| .cons good36 <| .cons good37 <| .cons good48 <| .cons good55 <| .cons good56 <| .cons good57 <| .cons good58 <| .cons good59 <| .cons good60 <| .cons good61 <| .cons good63 <| .cons good64 <| .cons good74 <| .cons good75 <| .cons good76 <| .cons good78 <| .cons good81 <| .cons good82 <| .cons good83 <| .cons good86 <| .cons good87 <| .cons good88 <| .cons good89 <| .cons good91 <| .cons good92 <| .cons good97 <| .cons good98 <| .cons good99 <| .cons good100 <| .cons good101 <| .cons good102 <| .cons good103 <| .cons good104 <| .cons good119 <| .cons good120 <| .cons good123 <| .cons good124 <| .cons good127 <| .cons good128 <| .cons good135 <| .cons good137 <| .cons good138 <| .cons good139 <| .cons good140 <| .cons good141 <| .cons good142 <| .cons good143 <| .cons good145 <| .cons good149 <| .cons good155 <| .cons good156 <| .cons good159 <| .cons good166 <| .cons good175 <| .cons good176 <| .cons good179 <| .cons good181 <| .cons good185 <| .cons good186 <| .cons good187 <| .cons good188 <| .cons good189 <| .cons good190 <| .cons good191 <| .cons good192 <| .cons good193 <| .cons good194 <| .cons good195 <| .cons good196 <| .cons good197 <| .cons good198 <| .cons good199 <| .cons good200 <| .cons good201 <| .cons good202 <| .cons good203 <| TabOk.nil _
end Go.Proofs.Ytanhmmfpecgbhaa
