/-
  The table of the seat's types for the engine of rules, made by a program of this repo (mktab.py). No condition.
-/
import Derived.Test.YtidhpofcofknhaaGreatChecked
import Derived.Test.YtidhpofcofknhaaGreatEa
namespace Go.Proofs.YtidhpofcofknhaaGreat
open Go
set_option linter.unusedVariables false
noncomputable def Yi:EU:=[(2,⟨Tryz.t2.desc,Tryz.t2.size,Tryz.t2.bytes,Tryz.t2.zero.getD undef⟩),
 (3,⟨Tryz.t3.desc,Tryz.t3.size,Tryz.t3.bytes,Tryz.t3.zero.getD undef⟩),
 (4,⟨Tryz.t4.desc,Tryz.t4.size,Tryz.t4.bytes,Tryz.t4.zero.getD undef⟩),
 (5,⟨Tryz.t5.desc,Tryz.t5.size,Tryz.t5.bytes,Tryz.t5.zero.getD undef⟩),
 (6,⟨Tryz.t5.desc,Tryz.t6.size,Tryz.t6.bytes,Tryz.t6.zero.getD undef⟩),
 (7,⟨Tryz.t7.desc,Tryz.t7.size,Tryz.t7.bytes,Tryz.t7.zero.getD undef⟩),
 (8,⟨Tryz.t7.desc,Tryz.t8.size,Tryz.t8.bytes,Tryz.t8.zero.getD undef⟩),
 (9,⟨Tryz.t9.desc,Tryz.t9.size,Tryz.t9.bytes,Tryz.t9.zero.getD undef⟩),
 (10,⟨Tryz.t9.desc,Tryz.t10.size,Tryz.t10.bytes,Tryz.t10.zero.getD undef⟩),
 (11,⟨Tryz.t9.desc,Tryz.t11.size,Tryz.t11.bytes,Tryz.t11.zero.getD undef⟩),
 (12,⟨Tryz.t12.desc,Tryz.t12.size,Tryz.t12.bytes,Tryz.t12.zero.getD undef⟩),
 (13,⟨Tryz.t13.desc,Tryz.t13.size,Tryz.t13.bytes,Tryz.t13.zero.getD undef⟩),
 (14,⟨Tryz.t13.desc,Tryz.t14.size,Tryz.t14.bytes,Tryz.t14.zero.getD undef⟩),
 (15,⟨Tryz.t15.desc,Tryz.t15.size,Tryz.t15.bytes,Tryz.t15.zero.getD undef⟩),
 (16,⟨Tryz.t16.desc,Tryz.t16.size,Tryz.t16.bytes,Tryz.t16.zero.getD undef⟩),
 (17,⟨Tryz.t17.desc,Tryz.t17.size,Tryz.t17.bytes,Tryz.t17.zero.getD undef⟩),
 (18,⟨Tryz.t18.desc,Tryz.t18.size,Tryz.t18.bytes,Tryz.t18.zero.getD undef⟩),
 (19,⟨Tryz.t18.desc,Tryz.t19.size,Tryz.t19.bytes,Tryz.t19.zero.getD undef⟩),
 (20,⟨Tryz.t20.desc,Tryz.t20.size,Tryz.t20.bytes,Tryz.t20.zero.getD undef⟩),
 (21,⟨Tryz.t21.desc,Tryz.t21.size,Tryz.t21.bytes,Tryz.t21.zero.getD undef⟩),
 (22,⟨Tryz.t22.desc,Tryz.t22.size,Tryz.t22.bytes,Tryz.t22.zero.getD undef⟩),
 (23,⟨Tryz.t23.desc,Tryz.t23.size,Tryz.t23.bytes,Tryz.t23.zero.getD undef⟩),
 (25,⟨Tryz.t25.desc,Tryz.t25.size,Tryz.t25.bytes,Tryz.t25.zero.getD undef⟩),
 (26,⟨Tryz.t25.desc,Tryz.t26.size,Tryz.t26.bytes,Tryz.t26.zero.getD undef⟩),
 (27,⟨Tryz.t27.desc,Tryz.t27.size,Tryz.t27.bytes,Tryz.t27.zero.getD undef⟩),
 (28,⟨Tryz.t27.desc,Tryz.t28.size,Tryz.t28.bytes,Tryz.t28.zero.getD undef⟩),
 (30,⟨Tryz.t30.desc,Tryz.t30.size,Tryz.t30.bytes,Tryz.t30.zero.getD undef⟩),
 (32,⟨Tryz.t32.desc,Tryz.t32.size,Tryz.t32.bytes,Tryz.t32.zero.getD undef⟩),
 (33,⟨Tryz.t33.desc,Tryz.t33.size,Tryz.t33.bytes,Tryz.t33.zero.getD undef⟩),
 (34,⟨Tryz.t34.desc,Tryz.t34.size,Tryz.t34.bytes,Tryz.t34.zero.getD undef⟩),
 (35,⟨Tryz.t35.desc,Tryz.t35.size,Tryz.t35.bytes,Tryz.t35.zero.getD undef⟩),
 (36,⟨Tryz.t35.desc,Tryz.t36.size,Tryz.t36.bytes,Tryz.t36.zero.getD undef⟩),
 (37,⟨Tryz.t37.desc,Tryz.t37.size,Tryz.t37.bytes,Tryz.t37.zero.getD undef⟩),
 (38,⟨Tryz.t37.desc,Tryz.t38.size,Tryz.t38.bytes,Tryz.t38.zero.getD undef⟩),
 (41,⟨Tryz.t41.desc,Tryz.t41.size,Tryz.t41.bytes,Tryz.t41.zero.getD undef⟩),
 (42,⟨Tryz.t42.desc,Tryz.t42.size,Tryz.t42.bytes,Tryz.t42.zero.getD undef⟩),
 (43,⟨Tryz.t43.desc,Tryz.t43.size,Tryz.t43.bytes,Tryz.t43.zero.getD undef⟩),
 (44,⟨Tryz.t44.desc,Tryz.t44.size,Tryz.t44.bytes,Tryz.t44.zero.getD undef⟩),
 (45,⟨Tryz.t44.desc,Tryz.t45.size,Tryz.t45.bytes,Tryz.t45.zero.getD undef⟩),
 (46,⟨Tryz.t46.desc,Tryz.t46.size,Tryz.t46.bytes,Tryz.t46.zero.getD undef⟩),
 (51,⟨Tryz.t51.desc,Tryz.t51.size,Tryz.t51.bytes,Tryz.t51.zero.getD undef⟩),
 (52,⟨Tryz.t51.desc,Tryz.t52.size,Tryz.t52.bytes,Tryz.t52.zero.getD undef⟩),
 (58,⟨Tryz.t58.desc,Tryz.t58.size,Tryz.t58.bytes,Tryz.t58.zero.getD undef⟩),
 (59,⟨Tryz.t59.desc,Tryz.t59.size,Tryz.t59.bytes,Tryz.t59.zero.getD undef⟩),
 (60,⟨Tryz.t60.desc,Tryz.t60.size,Tryz.t60.bytes,Tryz.t60.zero.getD undef⟩),
 (61,⟨Tryz.t60.desc,Tryz.t61.size,Tryz.t61.bytes,Tryz.t61.zero.getD undef⟩),
 (63,⟨Tryz.t63.desc,Tryz.t63.size,Tryz.t63.bytes,Tryz.t63.zero.getD undef⟩),
 (64,⟨Tryz.t63.desc,Tryz.t64.size,Tryz.t64.bytes,Tryz.t64.zero.getD undef⟩),
 (68,⟨Tryz.t3.desc,Tryz.t68.size,Tryz.t68.bytes,Tryz.t68.zero.getD undef⟩),
 (74,⟨Tryz.t74.desc,Tryz.t74.size,Tryz.t74.bytes,Tryz.t74.zero.getD undef⟩),
 (77,⟨Tryz.t77.desc,Tryz.t77.size,Tryz.t77.bytes,Tryz.t77.zero.getD undef⟩),
 (78,⟨Tryz.t77.desc,Tryz.t78.size,Tryz.t78.bytes,Tryz.t78.zero.getD undef⟩),
 (81,⟨Tryz.t81.desc,Tryz.t81.size,Tryz.t81.bytes,Tryz.t81.zero.getD undef⟩),
 (82,⟨Tryz.t81.desc,Tryz.t82.size,Tryz.t82.bytes,Tryz.t82.zero.getD undef⟩),
 (83,⟨Tryz.t81.desc,Tryz.t83.size,Tryz.t83.bytes,Tryz.t83.zero.getD undef⟩),
 (86,⟨Tryz.t86.desc,Tryz.t86.size,Tryz.t86.bytes,Tryz.t86.zero.getD undef⟩),
 (87,⟨Tryz.t87.desc,Tryz.t87.size,Tryz.t87.bytes,Tryz.t87.zero.getD undef⟩),
 (88,⟨Tryz.t87.desc,Tryz.t88.size,Tryz.t88.bytes,Tryz.t88.zero.getD undef⟩),
 (89,⟨Tryz.t89.desc,Tryz.t89.size,Tryz.t89.bytes,Tryz.t89.zero.getD undef⟩),
 (90,⟨Tryz.t63.desc,Tryz.t90.size,Tryz.t90.bytes,Tryz.t90.zero.getD undef⟩),
 (91,⟨Tryz.t91.desc,Tryz.t91.size,Tryz.t91.bytes,Tryz.t91.zero.getD undef⟩),
 (93,⟨Tryz.t93.desc,Tryz.t93.size,Tryz.t93.bytes,Tryz.t93.zero.getD undef⟩),
 (94,⟨Tryz.t93.desc,Tryz.t94.size,Tryz.t94.bytes,Tryz.t94.zero.getD undef⟩),
 (105,⟨Tryz.t105.desc,Tryz.t105.size,Tryz.t105.bytes,Tryz.t105.zero.getD undef⟩),
 (106,⟨Tryz.t106.desc,Tryz.t106.size,Tryz.t106.bytes,Tryz.t106.zero.getD undef⟩),
 (107,⟨Tryz.t106.desc,Tryz.t107.size,Tryz.t107.bytes,Tryz.t107.zero.getD undef⟩),
 (115,⟨Tryz.t115.desc,Tryz.t115.size,Tryz.t115.bytes,Tryz.t115.zero.getD undef⟩),
 (120,⟨Tryz.t120.desc,Tryz.t120.size,Tryz.t120.bytes,Tryz.t120.zero.getD undef⟩),
 (121,⟨Tryz.t121.desc,Tryz.t121.size,Tryz.t121.bytes,Tryz.t121.zero.getD undef⟩),
 (122,⟨Tryz.t121.desc,Tryz.t122.size,Tryz.t122.bytes,Tryz.t122.zero.getD undef⟩),
 (134,⟨Tryz.t134.desc,Tryz.t134.size,Tryz.t134.bytes,Tryz.t134.zero.getD undef⟩),
 (135,⟨Tryz.t135.desc,Tryz.t135.size,Tryz.t135.bytes,Tryz.t135.zero.getD undef⟩),
 (136,⟨Tryz.t136.desc,Tryz.t136.size,Tryz.t136.bytes,Tryz.t136.zero.getD undef⟩),
 (137,⟨Tryz.t137.desc,Tryz.t137.size,Tryz.t137.bytes,Tryz.t137.zero.getD undef⟩),
 (138,⟨Tryz.t137.desc,Tryz.t138.size,Tryz.t138.bytes,Tryz.t138.zero.getD undef⟩),
 (142,⟨Tryz.t142.desc,Tryz.t142.size,Tryz.t142.bytes,Tryz.t142.zero.getD undef⟩),
 (143,⟨Tryz.t143.desc,Tryz.t143.size,Tryz.t143.bytes,Tryz.t143.zero.getD undef⟩),
 (144,⟨Tryz.t143.desc,Tryz.t144.size,Tryz.t144.bytes,Tryz.t144.zero.getD undef⟩),
 (145,⟨Tryz.t145.desc,Tryz.t145.size,Tryz.t145.bytes,Tryz.t145.zero.getD undef⟩),
 (146,⟨Tryz.t145.desc,Tryz.t146.size,Tryz.t146.bytes,Tryz.t146.zero.getD undef⟩),
 (155,⟨Tryz.t155.desc,Tryz.t155.size,Tryz.t155.bytes,Tryz.t155.zero.getD undef⟩),
 (156,⟨Tryz.t156.desc,Tryz.t156.size,Tryz.t156.bytes,Tryz.t156.zero.getD undef⟩),
 (161,⟨Tryz.t161.desc,Tryz.t161.size,Tryz.t161.bytes,Tryz.t161.zero.getD undef⟩),
 (164,⟨Tryz.t164.desc,Tryz.t164.size,Tryz.t164.bytes,Tryz.t164.zero.getD undef⟩),
 (166,⟨Tryz.t166.desc,Tryz.t166.size,Tryz.t166.bytes,Tryz.t166.zero.getD undef⟩),
 (167,⟨Tryz.t166.desc,Tryz.t167.size,Tryz.t167.bytes,Tryz.t167.zero.getD undef⟩),
 (168,⟨Tryz.t168.desc,Tryz.t168.size,Tryz.t168.bytes,Tryz.t168.zero.getD undef⟩),
 (169,⟨Tryz.t169.desc,Tryz.t169.size,Tryz.t169.bytes,Tryz.t169.zero.getD undef⟩),
 (170,⟨Tryz.t169.desc,Tryz.t170.size,Tryz.t170.bytes,Tryz.t170.zero.getD undef⟩),
 (172,⟨Tryz.t172.desc,Tryz.t172.size,Tryz.t172.bytes,Tryz.t172.zero.getD undef⟩),
 (173,⟨Tryz.t173.desc,Tryz.t173.size,Tryz.t173.bytes,Tryz.t173.zero.getD undef⟩),
 (174,⟨Tryz.t173.desc,Tryz.t174.size,Tryz.t174.bytes,Tryz.t174.zero.getD undef⟩),
 (180,⟨Tryz.t180.desc,Tryz.t180.size,Tryz.t180.bytes,Tryz.t180.zero.getD undef⟩),
 (183,⟨Tryz.t183.desc,Tryz.t183.size,Tryz.t183.bytes,Tryz.t183.zero.getD undef⟩),
 (184,⟨Tryz.t183.desc,Tryz.t184.size,Tryz.t184.bytes,Tryz.t184.zero.getD undef⟩),
 (190,⟨Tryz.t3.desc,Tryz.t190.size,Tryz.t190.bytes,Tryz.t190.zero.getD undef⟩),
 (199,⟨Tryz.t199.desc,Tryz.t199.size,Tryz.t199.bytes,Tryz.t199.zero.getD undef⟩),
 (201,⟨Tryz.t32.desc,Tryz.t201.size,Tryz.t201.bytes,Tryz.t201.zero.getD undef⟩),
 (204,⟨Tryz.t204.desc,Tryz.t204.size,Tryz.t204.bytes,Tryz.t204.zero.getD undef⟩),
 (206,⟨Tryz.t206.desc,Tryz.t206.size,Tryz.t206.bytes,Tryz.t206.zero.getD undef⟩),
 (210,⟨Tryz.t210.desc,Tryz.t210.size,Tryz.t210.bytes,Tryz.t210.zero.getD undef⟩),
 (211,⟨Tryz.t210.desc,Tryz.t211.size,Tryz.t211.bytes,Tryz.t211.zero.getD undef⟩),
 (212,⟨Tryz.t212.desc,Tryz.t212.size,Tryz.t212.bytes,Tryz.t212.zero.getD undef⟩),
 (213,⟨Tryz.t213.desc,Tryz.t213.size,Tryz.t213.bytes,Tryz.t213.zero.getD undef⟩),
 (214,⟨Tryz.t213.desc,Tryz.t214.size,Tryz.t214.bytes,Tryz.t214.zero.getD undef⟩),
 (215,⟨Tryz.t5.desc,Tryz.t215.size,Tryz.t215.bytes,Tryz.t215.zero.getD undef⟩),
 (216,⟨Tryz.t5.desc,Tryz.t216.size,Tryz.t216.bytes,Tryz.t216.zero.getD undef⟩),
 (217,⟨Tryz.t217.desc,Tryz.t217.size,Tryz.t217.bytes,Tryz.t217.zero.getD undef⟩),
 (218,⟨Tryz.t218.desc,Tryz.t218.size,Tryz.t218.bytes,Tryz.t218.zero.getD undef⟩),
 (219,⟨Tryz.t21.desc,Tryz.t219.size,Tryz.t219.bytes,Tryz.t219.zero.getD undef⟩),
 (220,⟨Tryz.t21.desc,Tryz.t220.size,Tryz.t220.bytes,Tryz.t220.zero.getD undef⟩),
 (221,⟨Tryz.t221.desc,Tryz.t221.size,Tryz.t221.bytes,Tryz.t221.zero.getD undef⟩),
 (222,⟨Tryz.t221.desc,Tryz.t222.size,Tryz.t222.bytes,Tryz.t222.zero.getD undef⟩),
 (223,⟨Tryz.t223.desc,Tryz.t223.size,Tryz.t223.bytes,Tryz.t223.zero.getD undef⟩),
 (224,⟨Tryz.t224.desc,Tryz.t224.size,Tryz.t224.bytes,Tryz.t224.zero.getD undef⟩),
 (225,⟨Tryz.t224.desc,Tryz.t225.size,Tryz.t225.bytes,Tryz.t225.zero.getD undef⟩),
 (226,⟨Tryz.t226.desc,Tryz.t226.size,Tryz.t226.bytes,Tryz.t226.zero.getD undef⟩),
 (227,⟨Tryz.t226.desc,Tryz.t227.size,Tryz.t227.bytes,Tryz.t227.zero.getD undef⟩),
 (228,⟨Tryz.t228.desc,Tryz.t228.size,Tryz.t228.bytes,Tryz.t228.zero.getD undef⟩)]
theorem Xj:A6 Tryz.prog 2 ⟨Tryz.t2.desc,Tryz.t2.size,Tryz.t2.bytes,Tryz.t2.zero.getD undef⟩:=⟨Tryz.underlying2,Tryz.t2,by kernel_rfl,rfl,rfl,rfl⟩
theorem Xi:A6 Tryz.prog 3 ⟨Tryz.t3.desc,Tryz.t3.size,Tryz.t3.bytes,Tryz.t3.zero.getD undef⟩:=⟨Tryz.underlying3,Tryz.t3,by kernel_rfl,rfl,rfl,rfl⟩
theorem Xh:A6 Tryz.prog 4 ⟨Tryz.t4.desc,Tryz.t4.size,Tryz.t4.bytes,Tryz.t4.zero.getD undef⟩:=⟨Tryz.underlying4,Tryz.t4,by kernel_rfl,rfl,rfl,rfl⟩
theorem Xg:A6 Tryz.prog 5 ⟨Tryz.t5.desc,Tryz.t5.size,Tryz.t5.bytes,Tryz.t5.zero.getD undef⟩:=⟨Tryz.underlying5,Tryz.t5,by kernel_rfl,rfl,rfl,rfl⟩
theorem Xf:A6 Tryz.prog 6 ⟨Tryz.t5.desc,Tryz.t6.size,Tryz.t6.bytes,Tryz.t6.zero.getD undef⟩:=⟨Tryz.underlying6,Tryz.t6,by kernel_rfl,rfl,rfl,rfl⟩
theorem Xe:A6 Tryz.prog 7 ⟨Tryz.t7.desc,Tryz.t7.size,Tryz.t7.bytes,Tryz.t7.zero.getD undef⟩:=⟨Tryz.underlying7,Tryz.t7,by kernel_rfl,rfl,rfl,rfl⟩
theorem Xc:A6 Tryz.prog 8 ⟨Tryz.t7.desc,Tryz.t8.size,Tryz.t8.bytes,Tryz.t8.zero.getD undef⟩:=⟨Tryz.underlying8,Tryz.t8,by kernel_rfl,rfl,rfl,rfl⟩
theorem Xa:A6 Tryz.prog 9 ⟨Tryz.t9.desc,Tryz.t9.size,Tryz.t9.bytes,Tryz.t9.zero.getD undef⟩:=⟨Tryz.underlying9,Tryz.t9,by kernel_rfl,rfl,rfl,rfl⟩
theorem Wl:A6 Tryz.prog 10 ⟨Tryz.t9.desc,Tryz.t10.size,Tryz.t10.bytes,Tryz.t10.zero.getD undef⟩:=⟨Tryz.underlying10,Tryz.t10,by kernel_rfl,rfl,rfl,rfl⟩
theorem Wk:A6 Tryz.prog 11 ⟨Tryz.t9.desc,Tryz.t11.size,Tryz.t11.bytes,Tryz.t11.zero.getD undef⟩:=⟨Tryz.underlying11,Tryz.t11,by kernel_rfl,rfl,rfl,rfl⟩
theorem Wj:A6 Tryz.prog 12 ⟨Tryz.t12.desc,Tryz.t12.size,Tryz.t12.bytes,Tryz.t12.zero.getD undef⟩:=⟨Tryz.underlying12,Tryz.t12,by kernel_rfl,rfl,rfl,rfl⟩
theorem Wi:A6 Tryz.prog 13 ⟨Tryz.t13.desc,Tryz.t13.size,Tryz.t13.bytes,Tryz.t13.zero.getD undef⟩:=⟨Tryz.underlying13,Tryz.t13,by kernel_rfl,rfl,rfl,rfl⟩
theorem Wh:A6 Tryz.prog 14 ⟨Tryz.t13.desc,Tryz.t14.size,Tryz.t14.bytes,Tryz.t14.zero.getD undef⟩:=⟨Tryz.underlying14,Tryz.t14,by kernel_rfl,rfl,rfl,rfl⟩
theorem Wg:A6 Tryz.prog 15 ⟨Tryz.t15.desc,Tryz.t15.size,Tryz.t15.bytes,Tryz.t15.zero.getD undef⟩:=⟨Tryz.underlying15,Tryz.t15,by kernel_rfl,rfl,rfl,rfl⟩
theorem Wf:A6 Tryz.prog 16 ⟨Tryz.t16.desc,Tryz.t16.size,Tryz.t16.bytes,Tryz.t16.zero.getD undef⟩:=⟨Tryz.underlying16,Tryz.t16,by kernel_rfl,rfl,rfl,rfl⟩
theorem We:A6 Tryz.prog 17 ⟨Tryz.t17.desc,Tryz.t17.size,Tryz.t17.bytes,Tryz.t17.zero.getD undef⟩:=⟨Tryz.underlying17,Tryz.t17,by kernel_rfl,rfl,rfl,rfl⟩
theorem Wd:A6 Tryz.prog 18 ⟨Tryz.t18.desc,Tryz.t18.size,Tryz.t18.bytes,Tryz.t18.zero.getD undef⟩:=⟨Tryz.underlying18,Tryz.t18,by kernel_rfl,rfl,rfl,rfl⟩
theorem Wc:A6 Tryz.prog 19 ⟨Tryz.t18.desc,Tryz.t19.size,Tryz.t19.bytes,Tryz.t19.zero.getD undef⟩:=⟨Tryz.underlying19,Tryz.t19,by kernel_rfl,rfl,rfl,rfl⟩
theorem Wb:A6 Tryz.prog 20 ⟨Tryz.t20.desc,Tryz.t20.size,Tryz.t20.bytes,Tryz.t20.zero.getD undef⟩:=⟨Tryz.underlying20,Tryz.t20,by kernel_rfl,rfl,rfl,rfl⟩
theorem Wa:A6 Tryz.prog 21 ⟨Tryz.t21.desc,Tryz.t21.size,Tryz.t21.bytes,Tryz.t21.zero.getD undef⟩:=⟨Tryz.underlying21,Tryz.t21,by kernel_rfl,rfl,rfl,rfl⟩
theorem V9:A6 Tryz.prog 22 ⟨Tryz.t22.desc,Tryz.t22.size,Tryz.t22.bytes,Tryz.t22.zero.getD undef⟩:=⟨Tryz.underlying22,Tryz.t22,by kernel_rfl,rfl,rfl,rfl⟩
theorem V8:A6 Tryz.prog 23 ⟨Tryz.t23.desc,Tryz.t23.size,Tryz.t23.bytes,Tryz.t23.zero.getD undef⟩:=⟨Tryz.underlying23,Tryz.t23,by kernel_rfl,rfl,rfl,rfl⟩
theorem V7:A6 Tryz.prog 25 ⟨Tryz.t25.desc,Tryz.t25.size,Tryz.t25.bytes,Tryz.t25.zero.getD undef⟩:=⟨Tryz.underlying25,Tryz.t25,by kernel_rfl,rfl,rfl,rfl⟩
theorem V6:A6 Tryz.prog 26 ⟨Tryz.t25.desc,Tryz.t26.size,Tryz.t26.bytes,Tryz.t26.zero.getD undef⟩:=⟨Tryz.underlying26,Tryz.t26,by kernel_rfl,rfl,rfl,rfl⟩
theorem V5:A6 Tryz.prog 27 ⟨Tryz.t27.desc,Tryz.t27.size,Tryz.t27.bytes,Tryz.t27.zero.getD undef⟩:=⟨Tryz.underlying27,Tryz.t27,by kernel_rfl,rfl,rfl,rfl⟩
theorem V4:A6 Tryz.prog 28 ⟨Tryz.t27.desc,Tryz.t28.size,Tryz.t28.bytes,Tryz.t28.zero.getD undef⟩:=⟨Tryz.underlying28,Tryz.t28,by kernel_rfl,rfl,rfl,rfl⟩
theorem V3:A6 Tryz.prog 30 ⟨Tryz.t30.desc,Tryz.t30.size,Tryz.t30.bytes,Tryz.t30.zero.getD undef⟩:=⟨Tryz.underlying30,Tryz.t30,by kernel_rfl,rfl,rfl,rfl⟩
theorem V2:A6 Tryz.prog 32 ⟨Tryz.t32.desc,Tryz.t32.size,Tryz.t32.bytes,Tryz.t32.zero.getD undef⟩:=⟨Tryz.underlying32,Tryz.t32,by kernel_rfl,rfl,rfl,rfl⟩
theorem V1:A6 Tryz.prog 33 ⟨Tryz.t33.desc,Tryz.t33.size,Tryz.t33.bytes,Tryz.t33.zero.getD undef⟩:=⟨Tryz.underlying33,Tryz.t33,by kernel_rfl,rfl,rfl,rfl⟩
theorem V0:A6 Tryz.prog 34 ⟨Tryz.t34.desc,Tryz.t34.size,Tryz.t34.bytes,Tryz.t34.zero.getD undef⟩:=⟨Tryz.underlying34,Tryz.t34,by kernel_rfl,rfl,rfl,rfl⟩
theorem VZ:A6 Tryz.prog 35 ⟨Tryz.t35.desc,Tryz.t35.size,Tryz.t35.bytes,Tryz.t35.zero.getD undef⟩:=⟨Tryz.underlying35,Tryz.t35,by kernel_rfl,rfl,rfl,rfl⟩
theorem VY:A6 Tryz.prog 36 ⟨Tryz.t35.desc,Tryz.t36.size,Tryz.t36.bytes,Tryz.t36.zero.getD undef⟩:=⟨Tryz.underlying36,Tryz.t36,by kernel_rfl,rfl,rfl,rfl⟩
theorem VX:A6 Tryz.prog 37 ⟨Tryz.t37.desc,Tryz.t37.size,Tryz.t37.bytes,Tryz.t37.zero.getD undef⟩:=⟨Tryz.underlying37,Tryz.t37,by kernel_rfl,rfl,rfl,rfl⟩
theorem VW:A6 Tryz.prog 38 ⟨Tryz.t37.desc,Tryz.t38.size,Tryz.t38.bytes,Tryz.t38.zero.getD undef⟩:=⟨Tryz.underlying38,Tryz.t38,by kernel_rfl,rfl,rfl,rfl⟩
theorem VV:A6 Tryz.prog 41 ⟨Tryz.t41.desc,Tryz.t41.size,Tryz.t41.bytes,Tryz.t41.zero.getD undef⟩:=⟨Tryz.underlying41,Tryz.t41,by kernel_rfl,rfl,rfl,rfl⟩
theorem VU:A6 Tryz.prog 42 ⟨Tryz.t42.desc,Tryz.t42.size,Tryz.t42.bytes,Tryz.t42.zero.getD undef⟩:=⟨Tryz.underlying42,Tryz.t42,by kernel_rfl,rfl,rfl,rfl⟩
theorem VT:A6 Tryz.prog 43 ⟨Tryz.t43.desc,Tryz.t43.size,Tryz.t43.bytes,Tryz.t43.zero.getD undef⟩:=⟨Tryz.underlying43,Tryz.t43,by kernel_rfl,rfl,rfl,rfl⟩
theorem VS:A6 Tryz.prog 44 ⟨Tryz.t44.desc,Tryz.t44.size,Tryz.t44.bytes,Tryz.t44.zero.getD undef⟩:=⟨Tryz.underlying44,Tryz.t44,by kernel_rfl,rfl,rfl,rfl⟩
theorem VR:A6 Tryz.prog 45 ⟨Tryz.t44.desc,Tryz.t45.size,Tryz.t45.bytes,Tryz.t45.zero.getD undef⟩:=⟨Tryz.underlying45,Tryz.t45,by kernel_rfl,rfl,rfl,rfl⟩
theorem VQ:A6 Tryz.prog 46 ⟨Tryz.t46.desc,Tryz.t46.size,Tryz.t46.bytes,Tryz.t46.zero.getD undef⟩:=⟨Tryz.underlying46,Tryz.t46,by kernel_rfl,rfl,rfl,rfl⟩
theorem VP:A6 Tryz.prog 51 ⟨Tryz.t51.desc,Tryz.t51.size,Tryz.t51.bytes,Tryz.t51.zero.getD undef⟩:=⟨Tryz.underlying51,Tryz.t51,by kernel_rfl,rfl,rfl,rfl⟩
theorem VO:A6 Tryz.prog 52 ⟨Tryz.t51.desc,Tryz.t52.size,Tryz.t52.bytes,Tryz.t52.zero.getD undef⟩:=⟨Tryz.underlying52,Tryz.t52,by kernel_rfl,rfl,rfl,rfl⟩
theorem VN:A6 Tryz.prog 58 ⟨Tryz.t58.desc,Tryz.t58.size,Tryz.t58.bytes,Tryz.t58.zero.getD undef⟩:=⟨Tryz.underlying58,Tryz.t58,by kernel_rfl,rfl,rfl,rfl⟩
theorem VM:A6 Tryz.prog 59 ⟨Tryz.t59.desc,Tryz.t59.size,Tryz.t59.bytes,Tryz.t59.zero.getD undef⟩:=⟨Tryz.underlying59,Tryz.t59,by kernel_rfl,rfl,rfl,rfl⟩
theorem VL:A6 Tryz.prog 60 ⟨Tryz.t60.desc,Tryz.t60.size,Tryz.t60.bytes,Tryz.t60.zero.getD undef⟩:=⟨Tryz.underlying60,Tryz.t60,by kernel_rfl,rfl,rfl,rfl⟩
theorem VK:A6 Tryz.prog 61 ⟨Tryz.t60.desc,Tryz.t61.size,Tryz.t61.bytes,Tryz.t61.zero.getD undef⟩:=⟨Tryz.underlying61,Tryz.t61,by kernel_rfl,rfl,rfl,rfl⟩
theorem VJ:A6 Tryz.prog 63 ⟨Tryz.t63.desc,Tryz.t63.size,Tryz.t63.bytes,Tryz.t63.zero.getD undef⟩:=⟨Tryz.underlying63,Tryz.t63,by kernel_rfl,rfl,rfl,rfl⟩
theorem VI:A6 Tryz.prog 64 ⟨Tryz.t63.desc,Tryz.t64.size,Tryz.t64.bytes,Tryz.t64.zero.getD undef⟩:=⟨Tryz.underlying64,Tryz.t64,by kernel_rfl,rfl,rfl,rfl⟩
theorem VH:A6 Tryz.prog 68 ⟨Tryz.t3.desc,Tryz.t68.size,Tryz.t68.bytes,Tryz.t68.zero.getD undef⟩:=⟨Tryz.underlying68,Tryz.t68,by kernel_rfl,rfl,rfl,rfl⟩
theorem VG:A6 Tryz.prog 74 ⟨Tryz.t74.desc,Tryz.t74.size,Tryz.t74.bytes,Tryz.t74.zero.getD undef⟩:=⟨Tryz.underlying74,Tryz.t74,by kernel_rfl,rfl,rfl,rfl⟩
theorem VF:A6 Tryz.prog 77 ⟨Tryz.t77.desc,Tryz.t77.size,Tryz.t77.bytes,Tryz.t77.zero.getD undef⟩:=⟨Tryz.underlying77,Tryz.t77,by kernel_rfl,rfl,rfl,rfl⟩
theorem VE:A6 Tryz.prog 78 ⟨Tryz.t77.desc,Tryz.t78.size,Tryz.t78.bytes,Tryz.t78.zero.getD undef⟩:=⟨Tryz.underlying78,Tryz.t78,by kernel_rfl,rfl,rfl,rfl⟩
theorem VD:A6 Tryz.prog 81 ⟨Tryz.t81.desc,Tryz.t81.size,Tryz.t81.bytes,Tryz.t81.zero.getD undef⟩:=⟨Tryz.underlying81,Tryz.t81,by kernel_rfl,rfl,rfl,rfl⟩
theorem VC:A6 Tryz.prog 82 ⟨Tryz.t81.desc,Tryz.t82.size,Tryz.t82.bytes,Tryz.t82.zero.getD undef⟩:=⟨Tryz.underlying82,Tryz.t82,by kernel_rfl,rfl,rfl,rfl⟩
theorem VB:A6 Tryz.prog 83 ⟨Tryz.t81.desc,Tryz.t83.size,Tryz.t83.bytes,Tryz.t83.zero.getD undef⟩:=⟨Tryz.underlying83,Tryz.t83,by kernel_rfl,rfl,rfl,rfl⟩
theorem VA:A6 Tryz.prog 86 ⟨Tryz.t86.desc,Tryz.t86.size,Tryz.t86.bytes,Tryz.t86.zero.getD undef⟩:=⟨Tryz.underlying86,Tryz.t86,by kernel_rfl,rfl,rfl,rfl⟩
theorem Vz:A6 Tryz.prog 87 ⟨Tryz.t87.desc,Tryz.t87.size,Tryz.t87.bytes,Tryz.t87.zero.getD undef⟩:=⟨Tryz.underlying87,Tryz.t87,by kernel_rfl,rfl,rfl,rfl⟩
theorem Vy:A6 Tryz.prog 88 ⟨Tryz.t87.desc,Tryz.t88.size,Tryz.t88.bytes,Tryz.t88.zero.getD undef⟩:=⟨Tryz.underlying88,Tryz.t88,by kernel_rfl,rfl,rfl,rfl⟩
theorem Vx:A6 Tryz.prog 89 ⟨Tryz.t89.desc,Tryz.t89.size,Tryz.t89.bytes,Tryz.t89.zero.getD undef⟩:=⟨Tryz.underlying89,Tryz.t89,by kernel_rfl,rfl,rfl,rfl⟩
theorem Vw:A6 Tryz.prog 90 ⟨Tryz.t63.desc,Tryz.t90.size,Tryz.t90.bytes,Tryz.t90.zero.getD undef⟩:=⟨Tryz.underlying90,Tryz.t90,by kernel_rfl,rfl,rfl,rfl⟩
theorem Vv:A6 Tryz.prog 91 ⟨Tryz.t91.desc,Tryz.t91.size,Tryz.t91.bytes,Tryz.t91.zero.getD undef⟩:=⟨Tryz.underlying91,Tryz.t91,by kernel_rfl,rfl,rfl,rfl⟩
theorem Vu:A6 Tryz.prog 93 ⟨Tryz.t93.desc,Tryz.t93.size,Tryz.t93.bytes,Tryz.t93.zero.getD undef⟩:=⟨Tryz.underlying93,Tryz.t93,by kernel_rfl,rfl,rfl,rfl⟩
theorem Vt:A6 Tryz.prog 94 ⟨Tryz.t93.desc,Tryz.t94.size,Tryz.t94.bytes,Tryz.t94.zero.getD undef⟩:=⟨Tryz.underlying94,Tryz.t94,by kernel_rfl,rfl,rfl,rfl⟩
theorem Uh:A6 Tryz.prog 105 ⟨Tryz.t105.desc,Tryz.t105.size,Tryz.t105.bytes,Tryz.t105.zero.getD undef⟩:=⟨Tryz.underlying105,Tryz.t105,by kernel_rfl,rfl,rfl,rfl⟩
theorem Ug:A6 Tryz.prog 106 ⟨Tryz.t106.desc,Tryz.t106.size,Tryz.t106.bytes,Tryz.t106.zero.getD undef⟩:=⟨Tryz.underlying106,Tryz.t106,by kernel_rfl,rfl,rfl,rfl⟩
theorem Uf:A6 Tryz.prog 107 ⟨Tryz.t106.desc,Tryz.t107.size,Tryz.t107.bytes,Tryz.t107.zero.getD undef⟩:=⟨Tryz.underlying107,Tryz.t107,by kernel_rfl,rfl,rfl,rfl⟩
theorem Ue:A6 Tryz.prog 115 ⟨Tryz.t115.desc,Tryz.t115.size,Tryz.t115.bytes,Tryz.t115.zero.getD undef⟩:=⟨Tryz.underlying115,Tryz.t115,by kernel_rfl,rfl,rfl,rfl⟩
theorem Ud:A6 Tryz.prog 120 ⟨Tryz.t120.desc,Tryz.t120.size,Tryz.t120.bytes,Tryz.t120.zero.getD undef⟩:=⟨Tryz.underlying120,Tryz.t120,by kernel_rfl,rfl,rfl,rfl⟩
theorem Uc:A6 Tryz.prog 121 ⟨Tryz.t121.desc,Tryz.t121.size,Tryz.t121.bytes,Tryz.t121.zero.getD undef⟩:=⟨Tryz.underlying121,Tryz.t121,by kernel_rfl,rfl,rfl,rfl⟩
theorem Ub:A6 Tryz.prog 122 ⟨Tryz.t121.desc,Tryz.t122.size,Tryz.t122.bytes,Tryz.t122.zero.getD undef⟩:=⟨Tryz.underlying122,Tryz.t122,by kernel_rfl,rfl,rfl,rfl⟩
theorem Ua:A6 Tryz.prog 134 ⟨Tryz.t134.desc,Tryz.t134.size,Tryz.t134.bytes,Tryz.t134.zero.getD undef⟩:=⟨Tryz.underlying134,Tryz.t134,by kernel_rfl,rfl,rfl,rfl⟩
theorem T9:A6 Tryz.prog 135 ⟨Tryz.t135.desc,Tryz.t135.size,Tryz.t135.bytes,Tryz.t135.zero.getD undef⟩:=⟨Tryz.underlying135,Tryz.t135,by kernel_rfl,rfl,rfl,rfl⟩
theorem T8:A6 Tryz.prog 136 ⟨Tryz.t136.desc,Tryz.t136.size,Tryz.t136.bytes,Tryz.t136.zero.getD undef⟩:=⟨Tryz.underlying136,Tryz.t136,by kernel_rfl,rfl,rfl,rfl⟩
theorem T7:A6 Tryz.prog 137 ⟨Tryz.t137.desc,Tryz.t137.size,Tryz.t137.bytes,Tryz.t137.zero.getD undef⟩:=⟨Tryz.underlying137,Tryz.t137,by kernel_rfl,rfl,rfl,rfl⟩
theorem T6:A6 Tryz.prog 138 ⟨Tryz.t137.desc,Tryz.t138.size,Tryz.t138.bytes,Tryz.t138.zero.getD undef⟩:=⟨Tryz.underlying138,Tryz.t138,by kernel_rfl,rfl,rfl,rfl⟩
theorem T5:A6 Tryz.prog 142 ⟨Tryz.t142.desc,Tryz.t142.size,Tryz.t142.bytes,Tryz.t142.zero.getD undef⟩:=⟨Tryz.underlying142,Tryz.t142,by kernel_rfl,rfl,rfl,rfl⟩
theorem T4:A6 Tryz.prog 143 ⟨Tryz.t143.desc,Tryz.t143.size,Tryz.t143.bytes,Tryz.t143.zero.getD undef⟩:=⟨Tryz.underlying143,Tryz.t143,by kernel_rfl,rfl,rfl,rfl⟩
theorem T3:A6 Tryz.prog 144 ⟨Tryz.t143.desc,Tryz.t144.size,Tryz.t144.bytes,Tryz.t144.zero.getD undef⟩:=⟨Tryz.underlying144,Tryz.t144,by kernel_rfl,rfl,rfl,rfl⟩
theorem T2:A6 Tryz.prog 145 ⟨Tryz.t145.desc,Tryz.t145.size,Tryz.t145.bytes,Tryz.t145.zero.getD undef⟩:=⟨Tryz.underlying145,Tryz.t145,by kernel_rfl,rfl,rfl,rfl⟩
theorem T1:A6 Tryz.prog 146 ⟨Tryz.t145.desc,Tryz.t146.size,Tryz.t146.bytes,Tryz.t146.zero.getD undef⟩:=⟨Tryz.underlying146,Tryz.t146,by kernel_rfl,rfl,rfl,rfl⟩
theorem T0:A6 Tryz.prog 155 ⟨Tryz.t155.desc,Tryz.t155.size,Tryz.t155.bytes,Tryz.t155.zero.getD undef⟩:=⟨Tryz.underlying155,Tryz.t155,by kernel_rfl,rfl,rfl,rfl⟩
theorem TZ:A6 Tryz.prog 156 ⟨Tryz.t156.desc,Tryz.t156.size,Tryz.t156.bytes,Tryz.t156.zero.getD undef⟩:=⟨Tryz.underlying156,Tryz.t156,by kernel_rfl,rfl,rfl,rfl⟩
theorem TY:A6 Tryz.prog 161 ⟨Tryz.t161.desc,Tryz.t161.size,Tryz.t161.bytes,Tryz.t161.zero.getD undef⟩:=⟨Tryz.underlying161,Tryz.t161,by kernel_rfl,rfl,rfl,rfl⟩
theorem TX:A6 Tryz.prog 164 ⟨Tryz.t164.desc,Tryz.t164.size,Tryz.t164.bytes,Tryz.t164.zero.getD undef⟩:=⟨Tryz.underlying164,Tryz.t164,by kernel_rfl,rfl,rfl,rfl⟩
theorem TW:A6 Tryz.prog 166 ⟨Tryz.t166.desc,Tryz.t166.size,Tryz.t166.bytes,Tryz.t166.zero.getD undef⟩:=⟨Tryz.underlying166,Tryz.t166,by kernel_rfl,rfl,rfl,rfl⟩
theorem TV:A6 Tryz.prog 167 ⟨Tryz.t166.desc,Tryz.t167.size,Tryz.t167.bytes,Tryz.t167.zero.getD undef⟩:=⟨Tryz.underlying167,Tryz.t167,by kernel_rfl,rfl,rfl,rfl⟩
theorem TU:A6 Tryz.prog 168 ⟨Tryz.t168.desc,Tryz.t168.size,Tryz.t168.bytes,Tryz.t168.zero.getD undef⟩:=⟨Tryz.underlying168,Tryz.t168,by kernel_rfl,rfl,rfl,rfl⟩
theorem TS:A6 Tryz.prog 169 ⟨Tryz.t169.desc,Tryz.t169.size,Tryz.t169.bytes,Tryz.t169.zero.getD undef⟩:=⟨Tryz.underlying169,Tryz.t169,by kernel_rfl,rfl,rfl,rfl⟩
theorem TR:A6 Tryz.prog 170 ⟨Tryz.t169.desc,Tryz.t170.size,Tryz.t170.bytes,Tryz.t170.zero.getD undef⟩:=⟨Tryz.underlying170,Tryz.t170,by kernel_rfl,rfl,rfl,rfl⟩
theorem TQ:A6 Tryz.prog 172 ⟨Tryz.t172.desc,Tryz.t172.size,Tryz.t172.bytes,Tryz.t172.zero.getD undef⟩:=⟨Tryz.underlying172,Tryz.t172,by kernel_rfl,rfl,rfl,rfl⟩
theorem TP:A6 Tryz.prog 173 ⟨Tryz.t173.desc,Tryz.t173.size,Tryz.t173.bytes,Tryz.t173.zero.getD undef⟩:=⟨Tryz.underlying173,Tryz.t173,by kernel_rfl,rfl,rfl,rfl⟩
theorem TO:A6 Tryz.prog 174 ⟨Tryz.t173.desc,Tryz.t174.size,Tryz.t174.bytes,Tryz.t174.zero.getD undef⟩:=⟨Tryz.underlying174,Tryz.t174,by kernel_rfl,rfl,rfl,rfl⟩
theorem TN:A6 Tryz.prog 180 ⟨Tryz.t180.desc,Tryz.t180.size,Tryz.t180.bytes,Tryz.t180.zero.getD undef⟩:=⟨Tryz.underlying180,Tryz.t180,by kernel_rfl,rfl,rfl,rfl⟩
theorem TM:A6 Tryz.prog 183 ⟨Tryz.t183.desc,Tryz.t183.size,Tryz.t183.bytes,Tryz.t183.zero.getD undef⟩:=⟨Tryz.underlying183,Tryz.t183,by kernel_rfl,rfl,rfl,rfl⟩
theorem TK:A6 Tryz.prog 184 ⟨Tryz.t183.desc,Tryz.t184.size,Tryz.t184.bytes,Tryz.t184.zero.getD undef⟩:=⟨Tryz.underlying184,Tryz.t184,by kernel_rfl,rfl,rfl,rfl⟩
theorem TJ:A6 Tryz.prog 190 ⟨Tryz.t3.desc,Tryz.t190.size,Tryz.t190.bytes,Tryz.t190.zero.getD undef⟩:=⟨Tryz.underlying190,Tryz.t190,by kernel_rfl,rfl,rfl,rfl⟩
theorem TH:A6 Tryz.prog 199 ⟨Tryz.t199.desc,Tryz.t199.size,Tryz.t199.bytes,Tryz.t199.zero.getD undef⟩:=⟨Tryz.underlying199,Tryz.t199,by kernel_rfl,rfl,rfl,rfl⟩
theorem TG:A6 Tryz.prog 201 ⟨Tryz.t32.desc,Tryz.t201.size,Tryz.t201.bytes,Tryz.t201.zero.getD undef⟩:=⟨Tryz.underlying201,Tryz.t201,by kernel_rfl,rfl,rfl,rfl⟩
theorem TF:A6 Tryz.prog 204 ⟨Tryz.t204.desc,Tryz.t204.size,Tryz.t204.bytes,Tryz.t204.zero.getD undef⟩:=⟨Tryz.underlying204,Tryz.t204,by kernel_rfl,rfl,rfl,rfl⟩
theorem TE:A6 Tryz.prog 206 ⟨Tryz.t206.desc,Tryz.t206.size,Tryz.t206.bytes,Tryz.t206.zero.getD undef⟩:=⟨Tryz.underlying206,Tryz.t206,by kernel_rfl,rfl,rfl,rfl⟩
theorem TD:A6 Tryz.prog 210 ⟨Tryz.t210.desc,Tryz.t210.size,Tryz.t210.bytes,Tryz.t210.zero.getD undef⟩:=⟨Tryz.underlying210,Tryz.t210,by kernel_rfl,rfl,rfl,rfl⟩
theorem TC:A6 Tryz.prog 211 ⟨Tryz.t210.desc,Tryz.t211.size,Tryz.t211.bytes,Tryz.t211.zero.getD undef⟩:=⟨Tryz.underlying211,Tryz.t211,by kernel_rfl,rfl,rfl,rfl⟩
theorem TB:A6 Tryz.prog 212 ⟨Tryz.t212.desc,Tryz.t212.size,Tryz.t212.bytes,Tryz.t212.zero.getD undef⟩:=⟨Tryz.underlying212,Tryz.t212,by kernel_rfl,rfl,rfl,rfl⟩
theorem TA:A6 Tryz.prog 213 ⟨Tryz.t213.desc,Tryz.t213.size,Tryz.t213.bytes,Tryz.t213.zero.getD undef⟩:=⟨Tryz.underlying213,Tryz.t213,by kernel_rfl,rfl,rfl,rfl⟩
theorem Tz:A6 Tryz.prog 214 ⟨Tryz.t213.desc,Tryz.t214.size,Tryz.t214.bytes,Tryz.t214.zero.getD undef⟩:=⟨Tryz.underlying214,Tryz.t214,by kernel_rfl,rfl,rfl,rfl⟩
theorem Ty:A6 Tryz.prog 215 ⟨Tryz.t5.desc,Tryz.t215.size,Tryz.t215.bytes,Tryz.t215.zero.getD undef⟩:=⟨Tryz.underlying215,Tryz.t215,by kernel_rfl,rfl,rfl,rfl⟩
theorem Tx:A6 Tryz.prog 216 ⟨Tryz.t5.desc,Tryz.t216.size,Tryz.t216.bytes,Tryz.t216.zero.getD undef⟩:=⟨Tryz.underlying216,Tryz.t216,by kernel_rfl,rfl,rfl,rfl⟩
theorem Tw:A6 Tryz.prog 217 ⟨Tryz.t217.desc,Tryz.t217.size,Tryz.t217.bytes,Tryz.t217.zero.getD undef⟩:=⟨Tryz.underlying217,Tryz.t217,by kernel_rfl,rfl,rfl,rfl⟩
theorem Tv:A6 Tryz.prog 218 ⟨Tryz.t218.desc,Tryz.t218.size,Tryz.t218.bytes,Tryz.t218.zero.getD undef⟩:=⟨Tryz.underlying218,Tryz.t218,by kernel_rfl,rfl,rfl,rfl⟩
theorem Tu:A6 Tryz.prog 219 ⟨Tryz.t21.desc,Tryz.t219.size,Tryz.t219.bytes,Tryz.t219.zero.getD undef⟩:=⟨Tryz.underlying219,Tryz.t219,by kernel_rfl,rfl,rfl,rfl⟩
theorem Tt:A6 Tryz.prog 220 ⟨Tryz.t21.desc,Tryz.t220.size,Tryz.t220.bytes,Tryz.t220.zero.getD undef⟩:=⟨Tryz.underlying220,Tryz.t220,by kernel_rfl,rfl,rfl,rfl⟩
theorem Ts:A6 Tryz.prog 221 ⟨Tryz.t221.desc,Tryz.t221.size,Tryz.t221.bytes,Tryz.t221.zero.getD undef⟩:=⟨Tryz.underlying221,Tryz.t221,by kernel_rfl,rfl,rfl,rfl⟩
theorem Tr:A6 Tryz.prog 222 ⟨Tryz.t221.desc,Tryz.t222.size,Tryz.t222.bytes,Tryz.t222.zero.getD undef⟩:=⟨Tryz.underlying222,Tryz.t222,by kernel_rfl,rfl,rfl,rfl⟩
theorem Tq:A6 Tryz.prog 223 ⟨Tryz.t223.desc,Tryz.t223.size,Tryz.t223.bytes,Tryz.t223.zero.getD undef⟩:=⟨Tryz.underlying223,Tryz.t223,by kernel_rfl,rfl,rfl,rfl⟩
theorem Tp:A6 Tryz.prog 224 ⟨Tryz.t224.desc,Tryz.t224.size,Tryz.t224.bytes,Tryz.t224.zero.getD undef⟩:=⟨Tryz.underlying224,Tryz.t224,by kernel_rfl,rfl,rfl,rfl⟩
theorem To:A6 Tryz.prog 225 ⟨Tryz.t224.desc,Tryz.t225.size,Tryz.t225.bytes,Tryz.t225.zero.getD undef⟩:=⟨Tryz.underlying225,Tryz.t225,by kernel_rfl,rfl,rfl,rfl⟩
theorem Tn:A6 Tryz.prog 226 ⟨Tryz.t226.desc,Tryz.t226.size,Tryz.t226.bytes,Tryz.t226.zero.getD undef⟩:=⟨Tryz.underlying226,Tryz.t226,by kernel_rfl,rfl,rfl,rfl⟩
theorem Tm:A6 Tryz.prog 227 ⟨Tryz.t226.desc,Tryz.t227.size,Tryz.t227.bytes,Tryz.t227.zero.getD undef⟩:=⟨Tryz.underlying227,Tryz.t227,by kernel_rfl,rfl,rfl,rfl⟩
theorem Tl:A6 Tryz.prog 228 ⟨Tryz.t228.desc,Tryz.t228.size,Tryz.t228.bytes,Tryz.t228.zero.getD undef⟩:=⟨Tryz.underlying228,Tryz.t228,by kernel_rfl,rfl,rfl,rfl⟩
theorem Aa:AW Tryz.prog Yi:=.cons Xj <| .cons Xi <| .cons Xh <| .cons Xg <| .cons Xf <| .cons Xe <| .cons Xc <| .cons Xa <| .cons Wl <| .cons Wk <| .cons Wj <| .cons Wi <| .cons Wh <| .cons Wg <| .cons Wf <| .cons We <| .cons Wd <| .cons Wc <| .cons Wb <| .cons Wa <| .cons V9 <| .cons V8 <| .cons V7 <| .cons V6 <| .cons V5 <| .cons V4 <| .cons V3 <| .cons V2 <| .cons V1 <| .cons V0 <| .cons VZ <| .cons VY <| .cons VX <| .cons VW <| .cons VV <| .cons VU <| .cons VT <| .cons VS <| .cons VR <| .cons VQ <| .cons VP <| .cons VO <| .cons VN <| .cons VM <| .cons VL <| .cons VK <| .cons VJ <| .cons VI <| .cons VH <| .cons VG <| .cons VF <| .cons VE <| .cons VD <| .cons VC <| .cons VB <| .cons VA <| .cons Vz <| .cons Vy <| .cons Vx <| .cons Vw <| .cons Vv <| .cons Vu <| .cons Vt <| .cons Uh <| .cons Ug <| .cons Uf <| .cons Ue <| .cons Ud <| .cons Uc <| .cons Ub <| .cons Ua <| .cons T9 <| .cons T8 <| .cons T7 <| .cons T6 <| .cons T5 <| .cons T4 <| .cons T3 <| .cons T2 <| .cons T1 <| .cons T0 <| .cons TZ <| .cons TY <| .cons TX <| .cons TW <| .cons TV <| .cons TU <| .cons TS <| .cons TR <| .cons TQ <| .cons TP <| .cons TO <| .cons TN <| .cons TM <| .cons TK <| .cons TJ <| .cons TH <| .cons TG <| .cons TF <| .cons TE <| .cons TD <| .cons TC <| .cons TB <| .cons TA <| .cons Tz <| .cons Ty <| .cons Tx <| .cons Tw <| .cons Tv <| .cons Tu <| .cons Tt <| .cons Ts <| .cons Tr <| .cons Tq <| .cons Tp <| .cons To <| .cons Tn <| .cons Tm <| .cons Tl <| AW.nil _
end Go.Proofs.YtidhpofcofknhaaGreat
