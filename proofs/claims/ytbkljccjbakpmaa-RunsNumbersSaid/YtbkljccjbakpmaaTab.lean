/-
  The table of the seat's types for the engine of rules, made by a program of this repo (mktab.py). No condition.
-/
import Derived.Test.YtbkljccjbakpmaaChecked
import Derived.Test.YtbkljccjbakpmaaEa
namespace Go.Proofs.Ytbkljccjbakpmaa
open Go
set_option linter.unusedVariables false
noncomputable def tab : Tab := [(2, ⟨Try.t2.desc, Try.t2.size, Try.t2.bytes, Try.t2.zero.getD undef⟩),
  (3, ⟨Try.t3.desc, Try.t3.size, Try.t3.bytes, Try.t3.zero.getD undef⟩),
  (4, ⟨Try.t4.desc, Try.t4.size, Try.t4.bytes, Try.t4.zero.getD undef⟩),
  (5, ⟨Try.t5.desc, Try.t5.size, Try.t5.bytes, Try.t5.zero.getD undef⟩),
  (6, ⟨Try.t5.desc, Try.t6.size, Try.t6.bytes, Try.t6.zero.getD undef⟩),
  (7, ⟨Try.t7.desc, Try.t7.size, Try.t7.bytes, Try.t7.zero.getD undef⟩),
  (8, ⟨Try.t7.desc, Try.t8.size, Try.t8.bytes, Try.t8.zero.getD undef⟩),
  (9, ⟨Try.t9.desc, Try.t9.size, Try.t9.bytes, Try.t9.zero.getD undef⟩),
  (10, ⟨Try.t9.desc, Try.t10.size, Try.t10.bytes, Try.t10.zero.getD undef⟩),
  (11, ⟨Try.t9.desc, Try.t11.size, Try.t11.bytes, Try.t11.zero.getD undef⟩),
  (12, ⟨Try.t12.desc, Try.t12.size, Try.t12.bytes, Try.t12.zero.getD undef⟩),
  (13, ⟨Try.t13.desc, Try.t13.size, Try.t13.bytes, Try.t13.zero.getD undef⟩),
  (14, ⟨Try.t13.desc, Try.t14.size, Try.t14.bytes, Try.t14.zero.getD undef⟩),
  (15, ⟨Try.t15.desc, Try.t15.size, Try.t15.bytes, Try.t15.zero.getD undef⟩),
  (16, ⟨Try.t16.desc, Try.t16.size, Try.t16.bytes, Try.t16.zero.getD undef⟩),
  (17, ⟨Try.t17.desc, Try.t17.size, Try.t17.bytes, Try.t17.zero.getD undef⟩),
  (18, ⟨Try.t18.desc, Try.t18.size, Try.t18.bytes, Try.t18.zero.getD undef⟩),
  (19, ⟨Try.t18.desc, Try.t19.size, Try.t19.bytes, Try.t19.zero.getD undef⟩),
  (20, ⟨Try.t20.desc, Try.t20.size, Try.t20.bytes, Try.t20.zero.getD undef⟩),
  (21, ⟨Try.t21.desc, Try.t21.size, Try.t21.bytes, Try.t21.zero.getD undef⟩),
  (22, ⟨Try.t22.desc, Try.t22.size, Try.t22.bytes, Try.t22.zero.getD undef⟩),
  (25, ⟨Try.t25.desc, Try.t25.size, Try.t25.bytes, Try.t25.zero.getD undef⟩),
  (26, ⟨Try.t26.desc, Try.t26.size, Try.t26.bytes, Try.t26.zero.getD undef⟩),
  (27, ⟨Try.t27.desc, Try.t27.size, Try.t27.bytes, Try.t27.zero.getD undef⟩),
  (28, ⟨Try.t27.desc, Try.t28.size, Try.t28.bytes, Try.t28.zero.getD undef⟩),
  (41, ⟨Try.t41.desc, Try.t41.size, Try.t41.bytes, Try.t41.zero.getD undef⟩),
  (42, ⟨Try.t41.desc, Try.t42.size, Try.t42.bytes, Try.t42.zero.getD undef⟩),
  (47, ⟨Try.t47.desc, Try.t47.size, Try.t47.bytes, Try.t47.zero.getD undef⟩),
  (56, ⟨Try.t3.desc, Try.t56.size, Try.t56.bytes, Try.t56.zero.getD undef⟩),
  (65, ⟨Try.t65.desc, Try.t65.size, Try.t65.bytes, Try.t65.zero.getD undef⟩),
  (69, ⟨Try.t25.desc, Try.t69.size, Try.t69.bytes, Try.t69.zero.getD undef⟩),
  (72, ⟨Try.t72.desc, Try.t72.size, Try.t72.bytes, Try.t72.zero.getD undef⟩),
  (74, ⟨Try.t74.desc, Try.t74.size, Try.t74.bytes, Try.t74.zero.getD undef⟩),
  (76, ⟨Try.t76.desc, Try.t76.size, Try.t76.bytes, Try.t76.zero.getD undef⟩),
  (80, ⟨Try.t80.desc, Try.t80.size, Try.t80.bytes, Try.t80.zero.getD undef⟩),
  (81, ⟨Try.t80.desc, Try.t81.size, Try.t81.bytes, Try.t81.zero.getD undef⟩),
  (82, ⟨Try.t82.desc, Try.t82.size, Try.t82.bytes, Try.t82.zero.getD undef⟩),
  (83, ⟨Try.t83.desc, Try.t83.size, Try.t83.bytes, Try.t83.zero.getD undef⟩),
  (84, ⟨Try.t83.desc, Try.t84.size, Try.t84.bytes, Try.t84.zero.getD undef⟩),
  (86, ⟨Try.t5.desc, Try.t86.size, Try.t86.bytes, Try.t86.zero.getD undef⟩),
  (87, ⟨Try.t5.desc, Try.t87.size, Try.t87.bytes, Try.t87.zero.getD undef⟩),
  (88, ⟨Try.t88.desc, Try.t88.size, Try.t88.bytes, Try.t88.zero.getD undef⟩),
  (89, ⟨Try.t89.desc, Try.t89.size, Try.t89.bytes, Try.t89.zero.getD undef⟩),
  (90, ⟨Try.t21.desc, Try.t90.size, Try.t90.bytes, Try.t90.zero.getD undef⟩),
  (91, ⟨Try.t21.desc, Try.t91.size, Try.t91.bytes, Try.t91.zero.getD undef⟩),
  (92, ⟨Try.t92.desc, Try.t92.size, Try.t92.bytes, Try.t92.zero.getD undef⟩),
  (93, ⟨Try.t92.desc, Try.t93.size, Try.t93.bytes, Try.t93.zero.getD undef⟩),
  (94, ⟨Try.t94.desc, Try.t94.size, Try.t94.bytes, Try.t94.zero.getD undef⟩)]
theorem good2 : Good Try.prog 2 ⟨Try.t2.desc, Try.t2.size, Try.t2.bytes, Try.t2.zero.getD undef⟩ := ⟨Try.underlying2, Try.t2, by kernel_rfl, rfl, rfl, rfl⟩
theorem good3 : Good Try.prog 3 ⟨Try.t3.desc, Try.t3.size, Try.t3.bytes, Try.t3.zero.getD undef⟩ := ⟨Try.underlying3, Try.t3, by kernel_rfl, rfl, rfl, rfl⟩
theorem good4 : Good Try.prog 4 ⟨Try.t4.desc, Try.t4.size, Try.t4.bytes, Try.t4.zero.getD undef⟩ := ⟨Try.underlying4, Try.t4, by kernel_rfl, rfl, rfl, rfl⟩
theorem good5 : Good Try.prog 5 ⟨Try.t5.desc, Try.t5.size, Try.t5.bytes, Try.t5.zero.getD undef⟩ := ⟨Try.underlying5, Try.t5, by kernel_rfl, rfl, rfl, rfl⟩
theorem good6 : Good Try.prog 6 ⟨Try.t5.desc, Try.t6.size, Try.t6.bytes, Try.t6.zero.getD undef⟩ := ⟨Try.underlying6, Try.t6, by kernel_rfl, rfl, rfl, rfl⟩
theorem good7 : Good Try.prog 7 ⟨Try.t7.desc, Try.t7.size, Try.t7.bytes, Try.t7.zero.getD undef⟩ := ⟨Try.underlying7, Try.t7, by kernel_rfl, rfl, rfl, rfl⟩
theorem good8 : Good Try.prog 8 ⟨Try.t7.desc, Try.t8.size, Try.t8.bytes, Try.t8.zero.getD undef⟩ := ⟨Try.underlying8, Try.t8, by kernel_rfl, rfl, rfl, rfl⟩
theorem good9 : Good Try.prog 9 ⟨Try.t9.desc, Try.t9.size, Try.t9.bytes, Try.t9.zero.getD undef⟩ := ⟨Try.underlying9, Try.t9, by kernel_rfl, rfl, rfl, rfl⟩
theorem good10 : Good Try.prog 10 ⟨Try.t9.desc, Try.t10.size, Try.t10.bytes, Try.t10.zero.getD undef⟩ := ⟨Try.underlying10, Try.t10, by kernel_rfl, rfl, rfl, rfl⟩
theorem good11 : Good Try.prog 11 ⟨Try.t9.desc, Try.t11.size, Try.t11.bytes, Try.t11.zero.getD undef⟩ := ⟨Try.underlying11, Try.t11, by kernel_rfl, rfl, rfl, rfl⟩
theorem good12 : Good Try.prog 12 ⟨Try.t12.desc, Try.t12.size, Try.t12.bytes, Try.t12.zero.getD undef⟩ := ⟨Try.underlying12, Try.t12, by kernel_rfl, rfl, rfl, rfl⟩
theorem good13 : Good Try.prog 13 ⟨Try.t13.desc, Try.t13.size, Try.t13.bytes, Try.t13.zero.getD undef⟩ := ⟨Try.underlying13, Try.t13, by kernel_rfl, rfl, rfl, rfl⟩
theorem good14 : Good Try.prog 14 ⟨Try.t13.desc, Try.t14.size, Try.t14.bytes, Try.t14.zero.getD undef⟩ := ⟨Try.underlying14, Try.t14, by kernel_rfl, rfl, rfl, rfl⟩
theorem good15 : Good Try.prog 15 ⟨Try.t15.desc, Try.t15.size, Try.t15.bytes, Try.t15.zero.getD undef⟩ := ⟨Try.underlying15, Try.t15, by kernel_rfl, rfl, rfl, rfl⟩
theorem good16 : Good Try.prog 16 ⟨Try.t16.desc, Try.t16.size, Try.t16.bytes, Try.t16.zero.getD undef⟩ := ⟨Try.underlying16, Try.t16, by kernel_rfl, rfl, rfl, rfl⟩
theorem good17 : Good Try.prog 17 ⟨Try.t17.desc, Try.t17.size, Try.t17.bytes, Try.t17.zero.getD undef⟩ := ⟨Try.underlying17, Try.t17, by kernel_rfl, rfl, rfl, rfl⟩
theorem good18 : Good Try.prog 18 ⟨Try.t18.desc, Try.t18.size, Try.t18.bytes, Try.t18.zero.getD undef⟩ := ⟨Try.underlying18, Try.t18, by kernel_rfl, rfl, rfl, rfl⟩
theorem good19 : Good Try.prog 19 ⟨Try.t18.desc, Try.t19.size, Try.t19.bytes, Try.t19.zero.getD undef⟩ := ⟨Try.underlying19, Try.t19, by kernel_rfl, rfl, rfl, rfl⟩
theorem good20 : Good Try.prog 20 ⟨Try.t20.desc, Try.t20.size, Try.t20.bytes, Try.t20.zero.getD undef⟩ := ⟨Try.underlying20, Try.t20, by kernel_rfl, rfl, rfl, rfl⟩
theorem good21 : Good Try.prog 21 ⟨Try.t21.desc, Try.t21.size, Try.t21.bytes, Try.t21.zero.getD undef⟩ := ⟨Try.underlying21, Try.t21, by kernel_rfl, rfl, rfl, rfl⟩
theorem good22 : Good Try.prog 22 ⟨Try.t22.desc, Try.t22.size, Try.t22.bytes, Try.t22.zero.getD undef⟩ := ⟨Try.underlying22, Try.t22, by kernel_rfl, rfl, rfl, rfl⟩
theorem good25 : Good Try.prog 25 ⟨Try.t25.desc, Try.t25.size, Try.t25.bytes, Try.t25.zero.getD undef⟩ := ⟨Try.underlying25, Try.t25, by kernel_rfl, rfl, rfl, rfl⟩
theorem good26 : Good Try.prog 26 ⟨Try.t26.desc, Try.t26.size, Try.t26.bytes, Try.t26.zero.getD undef⟩ := ⟨Try.underlying26, Try.t26, by kernel_rfl, rfl, rfl, rfl⟩
theorem good27 : Good Try.prog 27 ⟨Try.t27.desc, Try.t27.size, Try.t27.bytes, Try.t27.zero.getD undef⟩ := ⟨Try.underlying27, Try.t27, by kernel_rfl, rfl, rfl, rfl⟩
theorem good28 : Good Try.prog 28 ⟨Try.t27.desc, Try.t28.size, Try.t28.bytes, Try.t28.zero.getD undef⟩ := ⟨Try.underlying28, Try.t28, by kernel_rfl, rfl, rfl, rfl⟩
theorem good41 : Good Try.prog 41 ⟨Try.t41.desc, Try.t41.size, Try.t41.bytes, Try.t41.zero.getD undef⟩ := ⟨Try.underlying41, Try.t41, by kernel_rfl, rfl, rfl, rfl⟩
theorem good42 : Good Try.prog 42 ⟨Try.t41.desc, Try.t42.size, Try.t42.bytes, Try.t42.zero.getD undef⟩ := ⟨Try.underlying42, Try.t42, by kernel_rfl, rfl, rfl, rfl⟩
theorem good47 : Good Try.prog 47 ⟨Try.t47.desc, Try.t47.size, Try.t47.bytes, Try.t47.zero.getD undef⟩ := ⟨Try.underlying47, Try.t47, by kernel_rfl, rfl, rfl, rfl⟩
theorem good56 : Good Try.prog 56 ⟨Try.t3.desc, Try.t56.size, Try.t56.bytes, Try.t56.zero.getD undef⟩ := ⟨Try.underlying56, Try.t56, by kernel_rfl, rfl, rfl, rfl⟩
theorem good65 : Good Try.prog 65 ⟨Try.t65.desc, Try.t65.size, Try.t65.bytes, Try.t65.zero.getD undef⟩ := ⟨Try.underlying65, Try.t65, by kernel_rfl, rfl, rfl, rfl⟩
theorem good69 : Good Try.prog 69 ⟨Try.t25.desc, Try.t69.size, Try.t69.bytes, Try.t69.zero.getD undef⟩ := ⟨Try.underlying69, Try.t69, by kernel_rfl, rfl, rfl, rfl⟩
theorem good72 : Good Try.prog 72 ⟨Try.t72.desc, Try.t72.size, Try.t72.bytes, Try.t72.zero.getD undef⟩ := ⟨Try.underlying72, Try.t72, by kernel_rfl, rfl, rfl, rfl⟩
theorem good74 : Good Try.prog 74 ⟨Try.t74.desc, Try.t74.size, Try.t74.bytes, Try.t74.zero.getD undef⟩ := ⟨Try.underlying74, Try.t74, by kernel_rfl, rfl, rfl, rfl⟩
theorem good76 : Good Try.prog 76 ⟨Try.t76.desc, Try.t76.size, Try.t76.bytes, Try.t76.zero.getD undef⟩ := ⟨Try.underlying76, Try.t76, by kernel_rfl, rfl, rfl, rfl⟩
theorem good80 : Good Try.prog 80 ⟨Try.t80.desc, Try.t80.size, Try.t80.bytes, Try.t80.zero.getD undef⟩ := ⟨Try.underlying80, Try.t80, by kernel_rfl, rfl, rfl, rfl⟩
theorem good81 : Good Try.prog 81 ⟨Try.t80.desc, Try.t81.size, Try.t81.bytes, Try.t81.zero.getD undef⟩ := ⟨Try.underlying81, Try.t81, by kernel_rfl, rfl, rfl, rfl⟩
theorem good82 : Good Try.prog 82 ⟨Try.t82.desc, Try.t82.size, Try.t82.bytes, Try.t82.zero.getD undef⟩ := ⟨Try.underlying82, Try.t82, by kernel_rfl, rfl, rfl, rfl⟩
theorem good83 : Good Try.prog 83 ⟨Try.t83.desc, Try.t83.size, Try.t83.bytes, Try.t83.zero.getD undef⟩ := ⟨Try.underlying83, Try.t83, by kernel_rfl, rfl, rfl, rfl⟩
theorem good84 : Good Try.prog 84 ⟨Try.t83.desc, Try.t84.size, Try.t84.bytes, Try.t84.zero.getD undef⟩ := ⟨Try.underlying84, Try.t84, by kernel_rfl, rfl, rfl, rfl⟩
theorem good86 : Good Try.prog 86 ⟨Try.t5.desc, Try.t86.size, Try.t86.bytes, Try.t86.zero.getD undef⟩ := ⟨Try.underlying86, Try.t86, by kernel_rfl, rfl, rfl, rfl⟩
theorem good87 : Good Try.prog 87 ⟨Try.t5.desc, Try.t87.size, Try.t87.bytes, Try.t87.zero.getD undef⟩ := ⟨Try.underlying87, Try.t87, by kernel_rfl, rfl, rfl, rfl⟩
theorem good88 : Good Try.prog 88 ⟨Try.t88.desc, Try.t88.size, Try.t88.bytes, Try.t88.zero.getD undef⟩ := ⟨Try.underlying88, Try.t88, by kernel_rfl, rfl, rfl, rfl⟩
theorem good89 : Good Try.prog 89 ⟨Try.t89.desc, Try.t89.size, Try.t89.bytes, Try.t89.zero.getD undef⟩ := ⟨Try.underlying89, Try.t89, by kernel_rfl, rfl, rfl, rfl⟩
theorem good90 : Good Try.prog 90 ⟨Try.t21.desc, Try.t90.size, Try.t90.bytes, Try.t90.zero.getD undef⟩ := ⟨Try.underlying90, Try.t90, by kernel_rfl, rfl, rfl, rfl⟩
theorem good91 : Good Try.prog 91 ⟨Try.t21.desc, Try.t91.size, Try.t91.bytes, Try.t91.zero.getD undef⟩ := ⟨Try.underlying91, Try.t91, by kernel_rfl, rfl, rfl, rfl⟩
theorem good92 : Good Try.prog 92 ⟨Try.t92.desc, Try.t92.size, Try.t92.bytes, Try.t92.zero.getD undef⟩ := ⟨Try.underlying92, Try.t92, by kernel_rfl, rfl, rfl, rfl⟩
theorem good93 : Good Try.prog 93 ⟨Try.t92.desc, Try.t93.size, Try.t93.bytes, Try.t93.zero.getD undef⟩ := ⟨Try.underlying93, Try.t93, by kernel_rfl, rfl, rfl, rfl⟩
theorem good94 : Good Try.prog 94 ⟨Try.t94.desc, Try.t94.size, Try.t94.bytes, Try.t94.zero.getD undef⟩ := ⟨Try.underlying94, Try.t94, by kernel_rfl, rfl, rfl, rfl⟩
theorem tabOk : TabOk Try.prog tab := .cons good2 <| .cons good3 <| .cons good4 <| .cons good5 <| .cons good6 <| .cons good7 <| .cons good8 <| .cons good9 <| .cons good10 <| .cons good11 <| .cons good12 <| .cons good13 <| .cons good14 <| .cons good15 <| .cons good16 <| .cons good17 <| .cons good18 <| .cons good19 <| .cons good20 <| .cons good21 <| .cons good22 <| .cons good25 <| .cons good26 <| .cons good27 <| .cons good28 <| .cons good41 <| .cons good42 <| .cons good47 <| .cons good56 <| .cons good65 <| .cons good69 <| .cons good72 <| .cons good74 <| .cons good76 <| .cons good80 <| .cons good81 <| .cons good82 <| .cons good83 <| .cons good84 <| .cons good86 <| .cons good87 <| .cons good88 <| .cons good89 <| .cons good90 <| .cons good91 <| .cons good92 <| .cons good93 <| .cons good94 <| TabOk.nil _
end Go.Proofs.Ytbkljccjbakpmaa
