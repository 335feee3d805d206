/- Part 2 of what the law is proved with: Ty ShSound. -/
import Derived.Test.YtggggfcgnkllgaaProg
import Derived.Test.YtggggfcgnkllgaaQHC1
section
/- The closed facts on types that the operations of this seat ask. Printed by wip/tyfacts.py. -/
set_option linter.unusedVariables false
set_option linter.unusedSimpArgs false
namespace Go.Proofs.Ytggggfcgnkllgaa
open Go Go.Sh
theorem mixed : Try.prog.follows .mixedOrders = true := by kernel_rfl
theorem agg_3 : aggB Try.prog 3 = false := by kernel_rfl
theorem sz_3 : szT Try.prog 3 = 1 := by kernel_rfl
theorem info_3 : infoB Try.prog 3 = true := by kernel_rfl
theorem zero_3 : zeroT Try.prog 3 = some (.int .i64 0) := by kernel_rfl
theorem el_3 : El Try.prog 3 1 (.int .i64 0) 8 := El.mk' (by kernel_rfl) rfl
theorem agg_4 : aggB Try.prog 4 = false := by kernel_rfl
theorem sz_4 : szT Try.prog 4 = 1 := by kernel_rfl
theorem info_4 : infoB Try.prog 4 = true := by kernel_rfl
theorem zero_4 : zeroT Try.prog 4 = some (.bool false) := by kernel_rfl
theorem el_4 : El Try.prog 4 1 (.bool false) 1 := El.mk' (by kernel_rfl) rfl
theorem agg_5 : aggB Try.prog 5 = false := by kernel_rfl
theorem sz_5 : szT Try.prog 5 = 1 := by kernel_rfl
theorem info_5 : infoB Try.prog 5 = true := by kernel_rfl
theorem zero_5 : zeroT Try.prog 5 = some (.int .u8 0) := by kernel_rfl
theorem el_5 : El Try.prog 5 1 (.int .u8 0) 1 := El.mk' (by kernel_rfl) rfl
theorem agg_9 : aggB Try.prog 9 = false := by kernel_rfl
theorem sz_9 : szT Try.prog 9 = 1 := by kernel_rfl
theorem info_9 : infoB Try.prog 9 = true := by kernel_rfl
theorem zero_9 : zeroT Try.prog 9 = some (.string { data := #[] }) := by kernel_rfl
theorem el_9 : El Try.prog 9 1 (.string { data := #[] }) 16 := El.mk' (by kernel_rfl) rfl
theorem agg_22 : aggB Try.prog 22 = false := by kernel_rfl
theorem sz_22 : szT Try.prog 22 = 1 := by kernel_rfl
theorem info_22 : infoB Try.prog 22 = true := by kernel_rfl
theorem zero_22 : zeroT Try.prog 22 = some (.int .u64 0) := by kernel_rfl
theorem el_22 : El Try.prog 22 1 (.int .u64 0) 8 := El.mk' (by kernel_rfl) rfl
theorem agg_23 : aggB Try.prog 23 = false := by kernel_rfl
theorem sz_23 : szT Try.prog 23 = 1 := by kernel_rfl
theorem info_23 : infoB Try.prog 23 = true := by kernel_rfl
theorem zero_23 : zeroT Try.prog 23 = some (.int .u32 0) := by kernel_rfl
theorem el_23 : El Try.prog 23 1 (.int .u32 0) 4 := El.mk' (by kernel_rfl) rfl
theorem agg_25 : aggB Try.prog 25 = true := by kernel_rfl
theorem sz_25 : szT Try.prog 25 = 4 := by kernel_rfl
theorem info_25 : infoB Try.prog 25 = true := by kernel_rfl
theorem zero_25 : zeroT Try.prog 25 = some (.agg #[(.int .u64 0), (.int .u8 0), (.int .u32 0), (.int .u32 0)]) := by kernel_rfl
theorem el_25 : El Try.prog 25 4 (.agg #[(.int .u64 0), (.int .u8 0), (.int .u32 0), (.int .u32 0)]) 24 := El.mk' (by kernel_rfl) rfl
theorem agg_27 : aggB Try.prog 27 = false := by kernel_rfl
theorem sz_27 : szT Try.prog 27 = 1 := by kernel_rfl
theorem info_27 : infoB Try.prog 27 = true := by kernel_rfl
theorem zero_27 : zeroT Try.prog 27 = some (.slice none 0 0) := by kernel_rfl
theorem el_27 : El Try.prog 27 1 (.slice none 0 0) 24 := El.mk' (by kernel_rfl) rfl
theorem agg_30 : aggB Try.prog 30 = false := by kernel_rfl
theorem sz_30 : szT Try.prog 30 = 1 := by kernel_rfl
theorem info_30 : infoB Try.prog 30 = true := by kernel_rfl
theorem zero_30 : zeroT Try.prog 30 = some (.int .i64 0) := by kernel_rfl
theorem el_30 : El Try.prog 30 1 (.int .i64 0) 8 := El.mk' (by kernel_rfl) rfl
theorem agg_31 : aggB Try.prog 31 = false := by kernel_rfl
theorem sz_31 : szT Try.prog 31 = 1 := by kernel_rfl
theorem info_31 : infoB Try.prog 31 = true := by kernel_rfl
theorem agg_38 : aggB Try.prog 38 = false := by kernel_rfl
theorem sz_38 : szT Try.prog 38 = 1 := by kernel_rfl
theorem info_38 : infoB Try.prog 38 = true := by kernel_rfl
theorem agg_41 : aggB Try.prog 41 = true := by kernel_rfl
theorem sz_41 : szT Try.prog 41 = 2 := by kernel_rfl
theorem info_41 : infoB Try.prog 41 = true := by kernel_rfl
theorem zero_41 : zeroT Try.prog 41 = some (.agg #[(.int .u8 0), (.int .u8 0)]) := by kernel_rfl
theorem el_41 : El Try.prog 41 2 (.agg #[(.int .u8 0), (.int .u8 0)]) 2 := El.mk' (by kernel_rfl) rfl
theorem agg_46 : aggB Try.prog 46 = false := by kernel_rfl
theorem sz_46 : szT Try.prog 46 = 1 := by kernel_rfl
theorem info_46 : infoB Try.prog 46 = true := by kernel_rfl
theorem agg_49 : aggB Try.prog 49 = false := by kernel_rfl
theorem sz_49 : szT Try.prog 49 = 1 := by kernel_rfl
theorem info_49 : infoB Try.prog 49 = true := by kernel_rfl
theorem zero_49 : zeroT Try.prog 49 = some (.int .u64 0) := by kernel_rfl
theorem el_49 : El Try.prog 49 1 (.int .u64 0) 8 := El.mk' (by kernel_rfl) rfl
theorem agg_53 : aggB Try.prog 53 = false := by kernel_rfl
theorem sz_53 : szT Try.prog 53 = 1 := by kernel_rfl
theorem info_53 : infoB Try.prog 53 = true := by kernel_rfl
theorem zero_53 : zeroT Try.prog 53 = some (.slice none 0 0) := by kernel_rfl
theorem el_53 : El Try.prog 53 1 (.slice none 0 0) 24 := El.mk' (by kernel_rfl) rfl
theorem agg_54 : aggB Try.prog 54 = false := by kernel_rfl
theorem sz_54 : szT Try.prog 54 = 1 := by kernel_rfl
theorem info_54 : infoB Try.prog 54 = true := by kernel_rfl
theorem zero_54 : zeroT Try.prog 54 = some (.pointer none) := by kernel_rfl
theorem el_54 : El Try.prog 54 1 (.pointer none) 8 := El.mk' (by kernel_rfl) rfl
theorem agg_57 : aggB Try.prog 57 = true := by kernel_rfl
theorem sz_57 : szT Try.prog 57 = 3 := by kernel_rfl
theorem info_57 : infoB Try.prog 57 = true := by kernel_rfl
theorem zero_57 : zeroT Try.prog 57 = some (.agg #[(.slice none 0 0), (.int .i64 0), (.int .i64 0)]) := by kernel_rfl
theorem el_57 : El Try.prog 57 3 (.agg #[(.slice none 0 0), (.int .i64 0), (.int .i64 0)]) 40 := El.mk' (by kernel_rfl) rfl
theorem agg_59 : aggB Try.prog 59 = true := by kernel_rfl
theorem sz_59 : szT Try.prog 59 = 2 := by kernel_rfl
theorem info_59 : infoB Try.prog 59 = true := by kernel_rfl
theorem zero_59 : zeroT Try.prog 59 = some (.agg #[(.bool false), (.int .i64 0)]) := by kernel_rfl
theorem el_59 : El Try.prog 59 2 (.agg #[(.bool false), (.int .i64 0)]) 16 := El.mk' (by kernel_rfl) rfl
theorem agg_65 : aggB Try.prog 65 = false := by kernel_rfl
theorem sz_65 : szT Try.prog 65 = 1 := by kernel_rfl
theorem info_65 : infoB Try.prog 65 = true := by kernel_rfl
theorem zero_65 : zeroT Try.prog 65 = some (.slice none 0 0) := by kernel_rfl
theorem el_65 : El Try.prog 65 1 (.slice none 0 0) 24 := El.mk' (by kernel_rfl) rfl
theorem agg_66 : aggB Try.prog 66 = false := by kernel_rfl
theorem sz_66 : szT Try.prog 66 = 1 := by kernel_rfl
theorem info_66 : infoB Try.prog 66 = true := by kernel_rfl
theorem zero_66 : zeroT Try.prog 66 = some (.slice none 0 0) := by kernel_rfl
theorem el_66 : El Try.prog 66 1 (.slice none 0 0) 24 := El.mk' (by kernel_rfl) rfl
theorem agg_69 : aggB Try.prog 69 = false := by kernel_rfl
theorem sz_69 : szT Try.prog 69 = 1 := by kernel_rfl
theorem info_69 : infoB Try.prog 69 = true := by kernel_rfl
theorem zero_69 : zeroT Try.prog 69 = some (.int .u16 0) := by kernel_rfl
theorem el_69 : El Try.prog 69 1 (.int .u16 0) 2 := El.mk' (by kernel_rfl) rfl
theorem agg_70 : aggB Try.prog 70 = false := by kernel_rfl
theorem sz_70 : szT Try.prog 70 = 1 := by kernel_rfl
theorem info_70 : infoB Try.prog 70 = true := by kernel_rfl
theorem zero_70 : zeroT Try.prog 70 = some (.slice none 0 0) := by kernel_rfl
theorem el_70 : El Try.prog 70 1 (.slice none 0 0) 24 := El.mk' (by kernel_rfl) rfl
theorem agg_73 : aggB Try.prog 73 = true := by kernel_rfl
theorem sz_73 : szT Try.prog 73 = 128 := by kernel_rfl
theorem info_73 : infoB Try.prog 73 = true := by kernel_rfl
theorem zero_73 : zeroT Try.prog 73 = some (.agg (List.replicate 128 (Value.int .u8 0)).toArray) := by kernel_rfl
theorem el_73 : El Try.prog 73 128 (.agg (List.replicate 128 (Value.int .u8 0)).toArray) 128 := El.mk' (by kernel_rfl) (by simp only [Value.cells, List.size_toArray, List.length_replicate, List.length_append, List.length_cons, List.length_nil])
theorem agg_74 : aggB Try.prog 74 = false := by kernel_rfl
theorem sz_74 : szT Try.prog 74 = 1 := by kernel_rfl
theorem info_74 : infoB Try.prog 74 = true := by kernel_rfl
theorem zero_74 : zeroT Try.prog 74 = some (.pointer none) := by kernel_rfl
theorem el_74 : El Try.prog 74 1 (.pointer none) 8 := El.mk' (by kernel_rfl) rfl
theorem agg_75 : aggB Try.prog 75 = false := by kernel_rfl
theorem sz_75 : szT Try.prog 75 = 1 := by kernel_rfl
theorem info_75 : infoB Try.prog 75 = true := by kernel_rfl
theorem agg_79 : aggB Try.prog 79 = false := by kernel_rfl
theorem sz_79 : szT Try.prog 79 = 1 := by kernel_rfl
theorem info_79 : infoB Try.prog 79 = true := by kernel_rfl
theorem zero_79 : zeroT Try.prog 79 = some (.slice none 0 0) := by kernel_rfl
theorem el_79 : El Try.prog 79 1 (.slice none 0 0) 24 := El.mk' (by kernel_rfl) rfl
theorem agg_80 : aggB Try.prog 80 = false := by kernel_rfl
theorem sz_80 : szT Try.prog 80 = 1 := by kernel_rfl
theorem info_80 : infoB Try.prog 80 = true := by kernel_rfl
theorem agg_83 : aggB Try.prog 83 = false := by kernel_rfl
theorem sz_83 : szT Try.prog 83 = 1 := by kernel_rfl
theorem info_83 : infoB Try.prog 83 = true := by kernel_rfl
theorem zero_83 : zeroT Try.prog 83 = some (.slice none 0 0) := by kernel_rfl
theorem el_83 : El Try.prog 83 1 (.slice none 0 0) 24 := El.mk' (by kernel_rfl) rfl
theorem agg_86 : aggB Try.prog 86 = true := by kernel_rfl
theorem sz_86 : szT Try.prog 86 = 5 := by kernel_rfl
theorem info_86 : infoB Try.prog 86 = true := by kernel_rfl
theorem zero_86 : zeroT Try.prog 86 = some (.agg #[(.int .u8 0), (.int .i64 0), (.int .i64 0), (.slice none 0 0), (.slice none 0 0)]) := by kernel_rfl
theorem el_86 : El Try.prog 86 5 (.agg #[(.int .u8 0), (.int .i64 0), (.int .i64 0), (.slice none 0 0), (.slice none 0 0)]) 72 := El.mk' (by kernel_rfl) rfl
theorem agg_89 : aggB Try.prog 89 = true := by kernel_rfl
theorem sz_89 : szT Try.prog 89 = 20 := by kernel_rfl
theorem info_89 : infoB Try.prog 89 = true := by kernel_rfl
theorem zero_89 : zeroT Try.prog 89 = some (.agg (List.replicate 20 (Value.string { data := #[] })).toArray) := by kernel_rfl
theorem el_89 : El Try.prog 89 20 (.agg (List.replicate 20 (Value.string { data := #[] })).toArray) 320 := El.mk' (by kernel_rfl) (by simp only [Value.cells, List.size_toArray, List.length_replicate, List.length_append, List.length_cons, List.length_nil])
theorem agg_92 : aggB Try.prog 92 = false := by kernel_rfl
theorem sz_92 : szT Try.prog 92 = 1 := by kernel_rfl
theorem info_92 : infoB Try.prog 92 = true := by kernel_rfl
theorem zero_92 : zeroT Try.prog 92 = some (.pointer none) := by kernel_rfl
theorem el_92 : El Try.prog 92 1 (.pointer none) 8 := El.mk' (by kernel_rfl) rfl
theorem agg_93 : aggB Try.prog 93 = false := by kernel_rfl
theorem sz_93 : szT Try.prog 93 = 1 := by kernel_rfl
theorem info_93 : infoB Try.prog 93 = true := by kernel_rfl
theorem agg_100 : aggB Try.prog 100 = false := by kernel_rfl
theorem sz_100 : szT Try.prog 100 = 1 := by kernel_rfl
theorem info_100 : infoB Try.prog 100 = true := by kernel_rfl
theorem zero_100 : zeroT Try.prog 100 = some (.slice none 0 0) := by kernel_rfl
theorem el_100 : El Try.prog 100 1 (.slice none 0 0) 24 := El.mk' (by kernel_rfl) rfl
theorem agg_105 : aggB Try.prog 105 = false := by kernel_rfl
theorem sz_105 : szT Try.prog 105 = 1 := by kernel_rfl
theorem info_105 : infoB Try.prog 105 = true := by kernel_rfl
theorem agg_108 : aggB Try.prog 108 = true := by kernel_rfl
theorem sz_108 : szT Try.prog 108 = 2 := by kernel_rfl
theorem info_108 : infoB Try.prog 108 = true := by kernel_rfl
theorem zero_108 : zeroT Try.prog 108 = some (.agg #[(.int .u32 0), (.int .u32 0)]) := by kernel_rfl
theorem el_108 : El Try.prog 108 2 (.agg #[(.int .u32 0), (.int .u32 0)]) 8 := El.mk' (by kernel_rfl) rfl
theorem agg_111 : aggB Try.prog 111 = true := by kernel_rfl
theorem sz_111 : szT Try.prog 111 = 32 := by kernel_rfl
theorem info_111 : infoB Try.prog 111 = true := by kernel_rfl
theorem zero_111 : zeroT Try.prog 111 = some (.agg (List.replicate 32 (Value.int .u8 0)).toArray) := by kernel_rfl
theorem el_111 : El Try.prog 111 32 (.agg (List.replicate 32 (Value.int .u8 0)).toArray) 32 := El.mk' (by kernel_rfl) (by simp only [Value.cells, List.size_toArray, List.length_replicate, List.length_append, List.length_cons, List.length_nil])
theorem agg_113 : aggB Try.prog 113 = true := by kernel_rfl
theorem sz_113 : szT Try.prog 113 = 33 := by kernel_rfl
theorem info_113 : infoB Try.prog 113 = true := by kernel_rfl
theorem zero_113 : zeroT Try.prog 113 = some (.agg (List.replicate 32 (Value.int .u8 0) ++ [Value.int .u32 0]).toArray) := by kernel_rfl
theorem el_113 : El Try.prog 113 33 (.agg (List.replicate 32 (Value.int .u8 0) ++ [Value.int .u32 0]).toArray) 36 := El.mk' (by kernel_rfl) (by simp only [Value.cells, List.size_toArray, List.length_replicate, List.length_append, List.length_cons, List.length_nil])
theorem agg_115 : aggB Try.prog 115 = true := by kernel_rfl
theorem sz_115 : szT Try.prog 115 = 34 := by kernel_rfl
theorem info_115 : infoB Try.prog 115 = true := by kernel_rfl
theorem zero_115 : zeroT Try.prog 115 = some (.agg (List.replicate 32 (Value.int .u8 0) ++ [Value.int .u32 0] ++ [Value.slice none 0 0]).toArray) := by kernel_rfl
theorem el_115 : El Try.prog 115 34 (.agg (List.replicate 32 (Value.int .u8 0) ++ [Value.int .u32 0] ++ [Value.slice none 0 0]).toArray) 64 := El.mk' (by kernel_rfl) (by simp only [Value.cells, List.size_toArray, List.length_replicate, List.length_append, List.length_cons, List.length_nil])
theorem agg_116 : aggB Try.prog 116 = false := by kernel_rfl
theorem sz_116 : szT Try.prog 116 = 1 := by kernel_rfl
theorem info_116 : infoB Try.prog 116 = true := by kernel_rfl
theorem zero_116 : zeroT Try.prog 116 = some (.slice none 0 0) := by kernel_rfl
theorem el_116 : El Try.prog 116 1 (.slice none 0 0) 24 := El.mk' (by kernel_rfl) rfl
theorem agg_117 : aggB Try.prog 117 = false := by kernel_rfl
theorem sz_117 : szT Try.prog 117 = 1 := by kernel_rfl
theorem info_117 : infoB Try.prog 117 = true := by kernel_rfl
theorem agg_119 : aggB Try.prog 119 = false := by kernel_rfl
theorem sz_119 : szT Try.prog 119 = 1 := by kernel_rfl
theorem info_119 : infoB Try.prog 119 = true := by kernel_rfl
theorem agg_124 : aggB Try.prog 124 = false := by kernel_rfl
theorem sz_124 : szT Try.prog 124 = 1 := by kernel_rfl
theorem info_124 : infoB Try.prog 124 = true := by kernel_rfl
theorem zero_124 : zeroT Try.prog 124 = some (.pointer none) := by kernel_rfl
theorem el_124 : El Try.prog 124 1 (.pointer none) 8 := El.mk' (by kernel_rfl) rfl
theorem agg_125 : aggB Try.prog 125 = false := by kernel_rfl
theorem sz_125 : szT Try.prog 125 = 1 := by kernel_rfl
theorem info_125 : infoB Try.prog 125 = true := by kernel_rfl
theorem agg_128 : aggB Try.prog 128 = false := by kernel_rfl
theorem sz_128 : szT Try.prog 128 = 1 := by kernel_rfl
theorem info_128 : infoB Try.prog 128 = true := by kernel_rfl
theorem zero_128 : zeroT Try.prog 128 = some (.slice none 0 0) := by kernel_rfl
theorem el_128 : El Try.prog 128 1 (.slice none 0 0) 24 := El.mk' (by kernel_rfl) rfl
theorem agg_129 : aggB Try.prog 129 = true := by kernel_rfl
theorem sz_129 : szT Try.prog 129 = 7 := by kernel_rfl
theorem info_129 : infoB Try.prog 129 = true := by kernel_rfl
theorem zero_129 : zeroT Try.prog 129 = some (.agg #[(.string { data := #[] }), (.string { data := #[] }), (.string { data := #[] }), (.string { data := #[] }), (.string { data := #[] }), (.string { data := #[] }), (.string { data := #[] })]) := by kernel_rfl
theorem el_129 : El Try.prog 129 7 (.agg #[(.string { data := #[] }), (.string { data := #[] }), (.string { data := #[] }), (.string { data := #[] }), (.string { data := #[] }), (.string { data := #[] }), (.string { data := #[] })]) 112 := El.mk' (by kernel_rfl) rfl
theorem agg_131 : aggB Try.prog 131 = true := by kernel_rfl
theorem sz_131 : szT Try.prog 131 = 2 := by kernel_rfl
theorem info_131 : infoB Try.prog 131 = true := by kernel_rfl
theorem zero_131 : zeroT Try.prog 131 = some (.agg #[(.int .u8 0), (.slice none 0 0)]) := by kernel_rfl
theorem el_131 : El Try.prog 131 2 (.agg #[(.int .u8 0), (.slice none 0 0)]) 32 := El.mk' (by kernel_rfl) rfl
theorem agg_135 : aggB Try.prog 135 = true := by kernel_rfl
theorem sz_135 : szT Try.prog 135 = 4 := by kernel_rfl
theorem info_135 : infoB Try.prog 135 = true := by kernel_rfl
theorem zero_135 : zeroT Try.prog 135 = some (.agg #[(.int .u8 0), (.int .i64 0), (.int .i64 0), (.int .i64 0)]) := by kernel_rfl
theorem el_135 : El Try.prog 135 4 (.agg #[(.int .u8 0), (.int .i64 0), (.int .i64 0), (.int .i64 0)]) 32 := El.mk' (by kernel_rfl) rfl
theorem agg_136 : aggB Try.prog 136 = false := by kernel_rfl
theorem sz_136 : szT Try.prog 136 = 1 := by kernel_rfl
theorem info_136 : infoB Try.prog 136 = true := by kernel_rfl
theorem zero_136 : zeroT Try.prog 136 = some (.slice none 0 0) := by kernel_rfl
theorem el_136 : El Try.prog 136 1 (.slice none 0 0) 24 := El.mk' (by kernel_rfl) rfl
theorem agg_138 : aggB Try.prog 138 = true := by kernel_rfl
theorem sz_138 : szT Try.prog 138 = 4 := by kernel_rfl
theorem info_138 : infoB Try.prog 138 = true := by kernel_rfl
theorem zero_138 : zeroT Try.prog 138 = some (.agg #[(.pointer none), (.int .i64 0), (.int .i64 0), (.int .i64 0)]) := by kernel_rfl
theorem el_138 : El Try.prog 138 4 (.agg #[(.pointer none), (.int .i64 0), (.int .i64 0), (.int .i64 0)]) 32 := El.mk' (by kernel_rfl) rfl
theorem agg_139 : aggB Try.prog 139 = false := by kernel_rfl
theorem sz_139 : szT Try.prog 139 = 1 := by kernel_rfl
theorem info_139 : infoB Try.prog 139 = true := by kernel_rfl
theorem agg_142 : aggB Try.prog 142 = true := by kernel_rfl
theorem sz_142 : szT Try.prog 142 = 5 := by kernel_rfl
theorem info_142 : infoB Try.prog 142 = true := by kernel_rfl
theorem zero_142 : zeroT Try.prog 142 = some (.agg #[(.int .u8 0), (.int .i64 0), (.int .i64 0), (.slice none 0 0), (.slice none 0 0)]) := by kernel_rfl
theorem el_142 : El Try.prog 142 5 (.agg #[(.int .u8 0), (.int .i64 0), (.int .i64 0), (.slice none 0 0), (.slice none 0 0)]) 72 := El.mk' (by kernel_rfl) rfl
theorem agg_144 : aggB Try.prog 144 = false := by kernel_rfl
theorem sz_144 : szT Try.prog 144 = 1 := by kernel_rfl
theorem info_144 : infoB Try.prog 144 = true := by kernel_rfl
theorem agg_146 : aggB Try.prog 146 = false := by kernel_rfl
theorem sz_146 : szT Try.prog 146 = 1 := by kernel_rfl
theorem info_146 : infoB Try.prog 146 = true := by kernel_rfl
theorem zero_146 : zeroT Try.prog 146 = some (.slice none 0 0) := by kernel_rfl
theorem el_146 : El Try.prog 146 1 (.slice none 0 0) 24 := El.mk' (by kernel_rfl) rfl
theorem agg_148 : aggB Try.prog 148 = true := by kernel_rfl
theorem sz_148 : szT Try.prog 148 = 5 := by kernel_rfl
theorem info_148 : infoB Try.prog 148 = true := by kernel_rfl
theorem zero_148 : zeroT Try.prog 148 = some (.agg #[(.slice none 0 0), (.slice none 0 0), (.bool false), (.int .i64 0), (.int .i64 0)]) := by kernel_rfl
theorem el_148 : El Try.prog 148 5 (.agg #[(.slice none 0 0), (.slice none 0 0), (.bool false), (.int .i64 0), (.int .i64 0)]) 72 := El.mk' (by kernel_rfl) rfl
theorem agg_150 : aggB Try.prog 150 = false := by kernel_rfl
theorem sz_150 : szT Try.prog 150 = 1 := by kernel_rfl
theorem info_150 : infoB Try.prog 150 = true := by kernel_rfl
theorem zero_150 : zeroT Try.prog 150 = some (.pointer none) := by kernel_rfl
theorem el_150 : El Try.prog 150 1 (.pointer none) 8 := El.mk' (by kernel_rfl) rfl
theorem agg_151 : aggB Try.prog 151 = false := by kernel_rfl
theorem sz_151 : szT Try.prog 151 = 1 := by kernel_rfl
theorem info_151 : infoB Try.prog 151 = true := by kernel_rfl
theorem agg_153 : aggB Try.prog 153 = false := by kernel_rfl
theorem sz_153 : szT Try.prog 153 = 1 := by kernel_rfl
theorem info_153 : infoB Try.prog 153 = true := by kernel_rfl
theorem agg_157 : aggB Try.prog 157 = false := by kernel_rfl
theorem sz_157 : szT Try.prog 157 = 1 := by kernel_rfl
theorem info_157 : infoB Try.prog 157 = true := by kernel_rfl
theorem zero_157 : zeroT Try.prog 157 = some (.slice none 0 0) := by kernel_rfl
theorem el_157 : El Try.prog 157 1 (.slice none 0 0) 24 := El.mk' (by kernel_rfl) rfl
theorem agg_159 : aggB Try.prog 159 = true := by kernel_rfl
theorem sz_159 : szT Try.prog 159 = 5 := by kernel_rfl
theorem info_159 : infoB Try.prog 159 = true := by kernel_rfl
theorem zero_159 : zeroT Try.prog 159 = some (.agg #[(.int .u8 0), (.int .i64 0), (.int .i64 0), (.slice none 0 0), (.slice none 0 0)]) := by kernel_rfl
theorem el_159 : El Try.prog 159 5 (.agg #[(.int .u8 0), (.int .i64 0), (.int .i64 0), (.slice none 0 0), (.slice none 0 0)]) 72 := El.mk' (by kernel_rfl) rfl
theorem agg_162 : aggB Try.prog 162 = true := by kernel_rfl
theorem sz_162 : szT Try.prog 162 = 2 := by kernel_rfl
theorem info_162 : infoB Try.prog 162 = true := by kernel_rfl
theorem zero_162 : zeroT Try.prog 162 = some (.agg #[(.pointer none), (.int .i64 0)]) := by kernel_rfl
theorem el_162 : El Try.prog 162 2 (.agg #[(.pointer none), (.int .i64 0)]) 16 := El.mk' (by kernel_rfl) rfl
theorem agg_163 : aggB Try.prog 163 = false := by kernel_rfl
theorem sz_163 : szT Try.prog 163 = 1 := by kernel_rfl
theorem info_163 : infoB Try.prog 163 = true := by kernel_rfl
theorem agg_166 : aggB Try.prog 166 = false := by kernel_rfl
theorem sz_166 : szT Try.prog 166 = 1 := by kernel_rfl
theorem info_166 : infoB Try.prog 166 = true := by kernel_rfl
theorem agg_169 : aggB Try.prog 169 = true := by kernel_rfl
theorem sz_169 : szT Try.prog 169 = 128 := by kernel_rfl
theorem info_169 : infoB Try.prog 169 = true := by kernel_rfl
theorem zero_169 : zeroT Try.prog 169 = some (.agg (List.replicate 128 (Value.int .u8 0)).toArray) := by kernel_rfl
theorem el_169 : El Try.prog 169 128 (.agg (List.replicate 128 (Value.int .u8 0)).toArray) 128 := El.mk' (by kernel_rfl) (by simp only [Value.cells, List.size_toArray, List.length_replicate, List.length_append, List.length_cons, List.length_nil])
theorem agg_173 : aggB Try.prog 173 = false := by kernel_rfl
theorem sz_173 : szT Try.prog 173 = 1 := by kernel_rfl
theorem info_173 : infoB Try.prog 173 = true := by kernel_rfl
theorem zero_173 : zeroT Try.prog 173 = some (.pointer none) := by kernel_rfl
theorem el_173 : El Try.prog 173 1 (.pointer none) 8 := El.mk' (by kernel_rfl) rfl
theorem agg_176 : aggB Try.prog 176 = true := by kernel_rfl
theorem sz_176 : szT Try.prog 176 = 2 := by kernel_rfl
theorem info_176 : infoB Try.prog 176 = true := by kernel_rfl
theorem zero_176 : zeroT Try.prog 176 = some (.agg #[(.slice none 0 0), (.int .i64 0)]) := by kernel_rfl
theorem el_176 : El Try.prog 176 2 (.agg #[(.slice none 0 0), (.int .i64 0)]) 32 := El.mk' (by kernel_rfl) rfl
theorem agg_178 : aggB Try.prog 178 = false := by kernel_rfl
theorem sz_178 : szT Try.prog 178 = 1 := by kernel_rfl
theorem info_178 : infoB Try.prog 178 = true := by kernel_rfl
theorem zero_178 : zeroT Try.prog 178 = some (.pointer none) := by kernel_rfl
theorem el_178 : El Try.prog 178 1 (.pointer none) 8 := El.mk' (by kernel_rfl) rfl
theorem agg_180 : aggB Try.prog 180 = false := by kernel_rfl
theorem sz_180 : szT Try.prog 180 = 1 := by kernel_rfl
theorem info_180 : infoB Try.prog 180 = true := by kernel_rfl
theorem zero_180 : zeroT Try.prog 180 = some (.slice none 0 0) := by kernel_rfl
theorem el_180 : El Try.prog 180 1 (.slice none 0 0) 24 := El.mk' (by kernel_rfl) rfl
theorem agg_181 : aggB Try.prog 181 = false := by kernel_rfl
theorem sz_181 : szT Try.prog 181 = 1 := by kernel_rfl
theorem info_181 : infoB Try.prog 181 = true := by kernel_rfl
theorem zero_181 : zeroT Try.prog 181 = some (.slice none 0 0) := by kernel_rfl
theorem el_181 : El Try.prog 181 1 (.slice none 0 0) 24 := El.mk' (by kernel_rfl) rfl
theorem agg_183 : aggB Try.prog 183 = true := by kernel_rfl
theorem sz_183 : szT Try.prog 183 = 6 := by kernel_rfl
theorem info_183 : infoB Try.prog 183 = true := by kernel_rfl
theorem zero_183 : zeroT Try.prog 183 = some (.agg #[(.slice none 0 0), (.slice none 0 0), (.slice none 0 0), (.bool false), (.int .i64 0), (.int .i64 0)]) := by kernel_rfl
theorem el_183 : El Try.prog 183 6 (.agg #[(.slice none 0 0), (.slice none 0 0), (.slice none 0 0), (.bool false), (.int .i64 0), (.int .i64 0)]) 96 := El.mk' (by kernel_rfl) rfl
theorem agg_184 : aggB Try.prog 184 = true := by kernel_rfl
theorem sz_184 : szT Try.prog 184 = 128 := by kernel_rfl
theorem info_184 : infoB Try.prog 184 = true := by kernel_rfl
theorem zero_184 : zeroT Try.prog 184 = some (.agg (List.replicate 128 (Value.int .u8 0)).toArray) := by kernel_rfl
theorem el_184 : El Try.prog 184 128 (.agg (List.replicate 128 (Value.int .u8 0)).toArray) 128 := El.mk' (by kernel_rfl) (by simp only [Value.cells, List.size_toArray, List.length_replicate, List.length_append, List.length_cons, List.length_nil])
theorem agg_186 : aggB Try.prog 186 = true := by kernel_rfl
theorem sz_186 : szT Try.prog 186 = 129 := by kernel_rfl
theorem info_186 : infoB Try.prog 186 = true := by kernel_rfl
theorem zero_186 : zeroT Try.prog 186 = some (.agg ([Value.int .i64 0] ++ List.replicate 128 (Value.int .u8 0)).toArray) := by kernel_rfl
theorem el_186 : El Try.prog 186 129 (.agg ([Value.int .i64 0] ++ List.replicate 128 (Value.int .u8 0)).toArray) 136 := El.mk' (by kernel_rfl) (by simp only [Value.cells, List.size_toArray, List.length_replicate, List.length_append, List.length_cons, List.length_nil])
theorem agg_191 : aggB Try.prog 191 = false := by kernel_rfl
theorem sz_191 : szT Try.prog 191 = 1 := by kernel_rfl
theorem info_191 : infoB Try.prog 191 = true := by kernel_rfl
theorem agg_193 : aggB Try.prog 193 = false := by kernel_rfl
theorem sz_193 : szT Try.prog 193 = 1 := by kernel_rfl
theorem info_193 : infoB Try.prog 193 = true := by kernel_rfl
theorem zero_193 : zeroT Try.prog 193 = some .nilFunc := by kernel_rfl
theorem el_193 : El Try.prog 193 1 .nilFunc 8 := El.mk' (by kernel_rfl) rfl
theorem agg_196 : aggB Try.prog 196 = true := by kernel_rfl
theorem sz_196 : szT Try.prog 196 = 4 := by kernel_rfl
theorem info_196 : infoB Try.prog 196 = true := by kernel_rfl
theorem zero_196 : zeroT Try.prog 196 = some (.agg #[(.pointer none), (.int .i64 0), (.int .i64 0), (.int .i64 0)]) := by kernel_rfl
theorem el_196 : El Try.prog 196 4 (.agg #[(.pointer none), (.int .i64 0), (.int .i64 0), (.int .i64 0)]) 32 := El.mk' (by kernel_rfl) rfl
theorem agg_197 : aggB Try.prog 197 = false := by kernel_rfl
theorem sz_197 : szT Try.prog 197 = 1 := by kernel_rfl
theorem info_197 : infoB Try.prog 197 = true := by kernel_rfl
theorem agg_200 : aggB Try.prog 200 = true := by kernel_rfl
theorem sz_200 : szT Try.prog 200 = 2 := by kernel_rfl
theorem info_200 : infoB Try.prog 200 = true := by kernel_rfl
theorem zero_200 : zeroT Try.prog 200 = some (.agg #[(.int .i64 0), (.string { data := #[] })]) := by kernel_rfl
theorem el_200 : El Try.prog 200 2 (.agg #[(.int .i64 0), (.string { data := #[] })]) 24 := El.mk' (by kernel_rfl) rfl
theorem agg_201 : aggB Try.prog 201 = false := by kernel_rfl
theorem sz_201 : szT Try.prog 201 = 1 := by kernel_rfl
theorem info_201 : infoB Try.prog 201 = true := by kernel_rfl
theorem agg_204 : aggB Try.prog 204 = true := by kernel_rfl
theorem sz_204 : szT Try.prog 204 = 2 := by kernel_rfl
theorem info_204 : infoB Try.prog 204 = true := by kernel_rfl
theorem zero_204 : zeroT Try.prog 204 = some (.agg #[(.pointer none), (.int .i64 0)]) := by kernel_rfl
theorem el_204 : El Try.prog 204 2 (.agg #[(.pointer none), (.int .i64 0)]) 16 := El.mk' (by kernel_rfl) rfl
theorem agg_206 : aggB Try.prog 206 = false := by kernel_rfl
theorem sz_206 : szT Try.prog 206 = 1 := by kernel_rfl
theorem info_206 : infoB Try.prog 206 = true := by kernel_rfl
theorem agg_209 : aggB Try.prog 209 = true := by kernel_rfl
theorem sz_209 : szT Try.prog 209 = 256 := by kernel_rfl
theorem info_209 : infoB Try.prog 209 = true := by kernel_rfl
theorem zero_209 : zeroT Try.prog 209 = some (.agg (List.replicate 256 (Value.int .u32 0)).toArray) := by kernel_rfl
theorem el_209 : El Try.prog 209 256 (.agg (List.replicate 256 (Value.int .u32 0)).toArray) 1024 := El.mk' (by kernel_rfl) (by simp only [Value.cells, List.size_toArray, List.length_replicate, List.length_append, List.length_cons, List.length_nil])
theorem agg_210 : aggB Try.prog 210 = false := by kernel_rfl
theorem sz_210 : szT Try.prog 210 = 1 := by kernel_rfl
theorem info_210 : infoB Try.prog 210 = true := by kernel_rfl
theorem zero_210 : zeroT Try.prog 210 = some (.map none) := by kernel_rfl
theorem el_210 : El Try.prog 210 1 (.map none) 8 := El.mk' (by kernel_rfl) rfl
section
variable (w : World) (K : Value → World → Prop) {R : World → World → Prop}
theorem X_len_9 (s : ByteArray) : X Try.prog (Builtin.len_ #[9] 3 #[.string s]) w K = K (.int .i64 (s.size : Int)) w := X_ok (run_len_str Try.underlying9 _ s w)
theorem XP_len_9 (s : ByteArray) : XP Try.prog (Builtin.len_ #[9] 3 #[.string s]) w K = K (.int .i64 (s.size : Int)) w := XP_ok (fun w' => run_len_str Try.underlying9 _ s w')
theorem X_len_27 (a : Option Addr) (n c : Nat) : X Try.prog (Builtin.len_ #[27] 3 #[.slice a n c]) w K = K (.int .i64 (n : Int)) w := X_ok (run_len_sl Try.underlying27 _ a n c w)
theorem XP_len_27 (a : Option Addr) (n c : Nat) : XP Try.prog (Builtin.len_ #[27] 3 #[.slice a n c]) w K = K (.int .i64 (n : Int)) w := XP_ok (fun w' => run_len_sl Try.underlying27 _ a n c w')
theorem X_len_53 (a : Option Addr) (n c : Nat) : X Try.prog (Builtin.len_ #[53] 3 #[.slice a n c]) w K = K (.int .i64 (n : Int)) w := X_ok (run_len_sl Try.underlying53 _ a n c w)
theorem XP_len_53 (a : Option Addr) (n c : Nat) : XP Try.prog (Builtin.len_ #[53] 3 #[.slice a n c]) w K = K (.int .i64 (n : Int)) w := XP_ok (fun w' => run_len_sl Try.underlying53 _ a n c w')
theorem X_len_65 (a : Option Addr) (n c : Nat) : X Try.prog (Builtin.len_ #[65] 3 #[.slice a n c]) w K = K (.int .i64 (n : Int)) w := X_ok (run_len_sl Try.underlying65 _ a n c w)
theorem XP_len_65 (a : Option Addr) (n c : Nat) : XP Try.prog (Builtin.len_ #[65] 3 #[.slice a n c]) w K = K (.int .i64 (n : Int)) w := XP_ok (fun w' => run_len_sl Try.underlying65 _ a n c w')
theorem X_len_66 (a : Option Addr) (n c : Nat) : X Try.prog (Builtin.len_ #[66] 3 #[.slice a n c]) w K = K (.int .i64 (n : Int)) w := X_ok (run_len_sl Try.underlying66 _ a n c w)
theorem XP_len_66 (a : Option Addr) (n c : Nat) : XP Try.prog (Builtin.len_ #[66] 3 #[.slice a n c]) w K = K (.int .i64 (n : Int)) w := XP_ok (fun w' => run_len_sl Try.underlying66 _ a n c w')
theorem X_len_70 (a : Option Addr) (n c : Nat) : X Try.prog (Builtin.len_ #[70] 3 #[.slice a n c]) w K = K (.int .i64 (n : Int)) w := X_ok (run_len_sl Try.underlying70 _ a n c w)
theorem XP_len_70 (a : Option Addr) (n c : Nat) : XP Try.prog (Builtin.len_ #[70] 3 #[.slice a n c]) w K = K (.int .i64 (n : Int)) w := XP_ok (fun w' => run_len_sl Try.underlying70 _ a n c w')
theorem X_len_79 (a : Option Addr) (n c : Nat) : X Try.prog (Builtin.len_ #[79] 3 #[.slice a n c]) w K = K (.int .i64 (n : Int)) w := X_ok (run_len_sl Try.underlying79 _ a n c w)
theorem XP_len_79 (a : Option Addr) (n c : Nat) : XP Try.prog (Builtin.len_ #[79] 3 #[.slice a n c]) w K = K (.int .i64 (n : Int)) w := XP_ok (fun w' => run_len_sl Try.underlying79 _ a n c w')
theorem X_len_83 (a : Option Addr) (n c : Nat) : X Try.prog (Builtin.len_ #[83] 3 #[.slice a n c]) w K = K (.int .i64 (n : Int)) w := X_ok (run_len_sl Try.underlying83 _ a n c w)
theorem XP_len_83 (a : Option Addr) (n c : Nat) : XP Try.prog (Builtin.len_ #[83] 3 #[.slice a n c]) w K = K (.int .i64 (n : Int)) w := XP_ok (fun w' => run_len_sl Try.underlying83 _ a n c w')
theorem X_len_100 (a : Option Addr) (n c : Nat) : X Try.prog (Builtin.len_ #[100] 3 #[.slice a n c]) w K = K (.int .i64 (n : Int)) w := X_ok (run_len_sl Try.underlying100 _ a n c w)
theorem XP_len_100 (a : Option Addr) (n c : Nat) : XP Try.prog (Builtin.len_ #[100] 3 #[.slice a n c]) w K = K (.int .i64 (n : Int)) w := XP_ok (fun w' => run_len_sl Try.underlying100 _ a n c w')
theorem X_len_116 (a : Option Addr) (n c : Nat) : X Try.prog (Builtin.len_ #[116] 3 #[.slice a n c]) w K = K (.int .i64 (n : Int)) w := X_ok (run_len_sl Try.underlying116 _ a n c w)
theorem XP_len_116 (a : Option Addr) (n c : Nat) : XP Try.prog (Builtin.len_ #[116] 3 #[.slice a n c]) w K = K (.int .i64 (n : Int)) w := XP_ok (fun w' => run_len_sl Try.underlying116 _ a n c w')
theorem X_len_128 (a : Option Addr) (n c : Nat) : X Try.prog (Builtin.len_ #[128] 3 #[.slice a n c]) w K = K (.int .i64 (n : Int)) w := X_ok (run_len_sl Try.underlying128 _ a n c w)
theorem XP_len_128 (a : Option Addr) (n c : Nat) : XP Try.prog (Builtin.len_ #[128] 3 #[.slice a n c]) w K = K (.int .i64 (n : Int)) w := XP_ok (fun w' => run_len_sl Try.underlying128 _ a n c w')
theorem X_len_136 (a : Option Addr) (n c : Nat) : X Try.prog (Builtin.len_ #[136] 3 #[.slice a n c]) w K = K (.int .i64 (n : Int)) w := X_ok (run_len_sl Try.underlying136 _ a n c w)
theorem XP_len_136 (a : Option Addr) (n c : Nat) : XP Try.prog (Builtin.len_ #[136] 3 #[.slice a n c]) w K = K (.int .i64 (n : Int)) w := XP_ok (fun w' => run_len_sl Try.underlying136 _ a n c w')
theorem X_len_146 (a : Option Addr) (n c : Nat) : X Try.prog (Builtin.len_ #[146] 3 #[.slice a n c]) w K = K (.int .i64 (n : Int)) w := X_ok (run_len_sl Try.underlying146 _ a n c w)
theorem XP_len_146 (a : Option Addr) (n c : Nat) : XP Try.prog (Builtin.len_ #[146] 3 #[.slice a n c]) w K = K (.int .i64 (n : Int)) w := XP_ok (fun w' => run_len_sl Try.underlying146 _ a n c w')
theorem X_len_157 (a : Option Addr) (n c : Nat) : X Try.prog (Builtin.len_ #[157] 3 #[.slice a n c]) w K = K (.int .i64 (n : Int)) w := X_ok (run_len_sl Try.underlying157 _ a n c w)
theorem XP_len_157 (a : Option Addr) (n c : Nat) : XP Try.prog (Builtin.len_ #[157] 3 #[.slice a n c]) w K = K (.int .i64 (n : Int)) w := XP_ok (fun w' => run_len_sl Try.underlying157 _ a n c w')
theorem X_len_180 (a : Option Addr) (n c : Nat) : X Try.prog (Builtin.len_ #[180] 3 #[.slice a n c]) w K = K (.int .i64 (n : Int)) w := X_ok (run_len_sl Try.underlying180 _ a n c w)
theorem XP_len_180 (a : Option Addr) (n c : Nat) : XP Try.prog (Builtin.len_ #[180] 3 #[.slice a n c]) w K = K (.int .i64 (n : Int)) w := XP_ok (fun w' => run_len_sl Try.underlying180 _ a n c w')
theorem X_len_181 (a : Option Addr) (n c : Nat) : X Try.prog (Builtin.len_ #[181] 3 #[.slice a n c]) w K = K (.int .i64 (n : Int)) w := X_ok (run_len_sl Try.underlying181 _ a n c w)
theorem XP_len_181 (a : Option Addr) (n c : Nat) : XP Try.prog (Builtin.len_ #[181] 3 #[.slice a n c]) w K = K (.int .i64 (n : Int)) w := XP_ok (fun w' => run_len_sl Try.underlying181 _ a n c w')
theorem X_conv_3_5 (j : IntKind) (n : Int) : X Try.prog (convert 3 5 (.int j n)) w K = K (.int .u8 (IntKind.u8.wrap n)) w := X_ok (run_conv_int Try.underlying3 Try.underlying5 j n w)
theorem XP_conv_3_5 (j : IntKind) (n : Int) : XP Try.prog (convert 3 5 (.int j n)) w K = K (.int .u8 (IntKind.u8.wrap n)) w := XP_ok (fun w' => run_conv_int Try.underlying3 Try.underlying5 j n w')
theorem XR_conv_3_5 (j : IntKind) (n : Int) : XR Try.prog R (convert 3 5 (.int j n)) w K = K (.int .u8 (IntKind.u8.wrap n)) w := XR_eq (fun w' => run_conv_int Try.underlying3 Try.underlying5 j n w')
theorem X_conv_3_22 (j : IntKind) (n : Int) : X Try.prog (convert 3 22 (.int j n)) w K = K (.int .u64 (IntKind.u64.wrap n)) w := X_ok (run_conv_int Try.underlying3 Try.underlying22 j n w)
theorem XP_conv_3_22 (j : IntKind) (n : Int) : XP Try.prog (convert 3 22 (.int j n)) w K = K (.int .u64 (IntKind.u64.wrap n)) w := XP_ok (fun w' => run_conv_int Try.underlying3 Try.underlying22 j n w')
theorem XR_conv_3_22 (j : IntKind) (n : Int) : XR Try.prog R (convert 3 22 (.int j n)) w K = K (.int .u64 (IntKind.u64.wrap n)) w := XR_eq (fun w' => run_conv_int Try.underlying3 Try.underlying22 j n w')
theorem X_conv_3_23 (j : IntKind) (n : Int) : X Try.prog (convert 3 23 (.int j n)) w K = K (.int .u32 (IntKind.u32.wrap n)) w := X_ok (run_conv_int Try.underlying3 Try.underlying23 j n w)
theorem XP_conv_3_23 (j : IntKind) (n : Int) : XP Try.prog (convert 3 23 (.int j n)) w K = K (.int .u32 (IntKind.u32.wrap n)) w := XP_ok (fun w' => run_conv_int Try.underlying3 Try.underlying23 j n w')
theorem XR_conv_3_23 (j : IntKind) (n : Int) : XR Try.prog R (convert 3 23 (.int j n)) w K = K (.int .u32 (IntKind.u32.wrap n)) w := XR_eq (fun w' => run_conv_int Try.underlying3 Try.underlying23 j n w')
theorem X_conv_3_49 (j : IntKind) (n : Int) : X Try.prog (convert 3 49 (.int j n)) w K = K (.int .u64 (IntKind.u64.wrap n)) w := X_ok (run_conv_int Try.underlying3 Try.underlying49 j n w)
theorem XP_conv_3_49 (j : IntKind) (n : Int) : XP Try.prog (convert 3 49 (.int j n)) w K = K (.int .u64 (IntKind.u64.wrap n)) w := XP_ok (fun w' => run_conv_int Try.underlying3 Try.underlying49 j n w')
theorem XR_conv_3_49 (j : IntKind) (n : Int) : XR Try.prog R (convert 3 49 (.int j n)) w K = K (.int .u64 (IntKind.u64.wrap n)) w := XR_eq (fun w' => run_conv_int Try.underlying3 Try.underlying49 j n w')
theorem X_conv_5_3 (j : IntKind) (n : Int) : X Try.prog (convert 5 3 (.int j n)) w K = K (.int .i64 (IntKind.i64.wrap n)) w := X_ok (run_conv_int Try.underlying5 Try.underlying3 j n w)
theorem XP_conv_5_3 (j : IntKind) (n : Int) : XP Try.prog (convert 5 3 (.int j n)) w K = K (.int .i64 (IntKind.i64.wrap n)) w := XP_ok (fun w' => run_conv_int Try.underlying5 Try.underlying3 j n w')
theorem XR_conv_5_3 (j : IntKind) (n : Int) : XR Try.prog R (convert 5 3 (.int j n)) w K = K (.int .i64 (IntKind.i64.wrap n)) w := XR_eq (fun w' => run_conv_int Try.underlying5 Try.underlying3 j n w')
theorem X_conv_5_22 (j : IntKind) (n : Int) : X Try.prog (convert 5 22 (.int j n)) w K = K (.int .u64 (IntKind.u64.wrap n)) w := X_ok (run_conv_int Try.underlying5 Try.underlying22 j n w)
theorem XP_conv_5_22 (j : IntKind) (n : Int) : XP Try.prog (convert 5 22 (.int j n)) w K = K (.int .u64 (IntKind.u64.wrap n)) w := XP_ok (fun w' => run_conv_int Try.underlying5 Try.underlying22 j n w')
theorem XR_conv_5_22 (j : IntKind) (n : Int) : XR Try.prog R (convert 5 22 (.int j n)) w K = K (.int .u64 (IntKind.u64.wrap n)) w := XR_eq (fun w' => run_conv_int Try.underlying5 Try.underlying22 j n w')
theorem X_conv_5_23 (j : IntKind) (n : Int) : X Try.prog (convert 5 23 (.int j n)) w K = K (.int .u32 (IntKind.u32.wrap n)) w := X_ok (run_conv_int Try.underlying5 Try.underlying23 j n w)
theorem XP_conv_5_23 (j : IntKind) (n : Int) : XP Try.prog (convert 5 23 (.int j n)) w K = K (.int .u32 (IntKind.u32.wrap n)) w := XP_ok (fun w' => run_conv_int Try.underlying5 Try.underlying23 j n w')
theorem XR_conv_5_23 (j : IntKind) (n : Int) : XR Try.prog R (convert 5 23 (.int j n)) w K = K (.int .u32 (IntKind.u32.wrap n)) w := XR_eq (fun w' => run_conv_int Try.underlying5 Try.underlying23 j n w')
theorem X_conv_22_3 (j : IntKind) (n : Int) : X Try.prog (convert 22 3 (.int j n)) w K = K (.int .i64 (IntKind.i64.wrap n)) w := X_ok (run_conv_int Try.underlying22 Try.underlying3 j n w)
theorem XP_conv_22_3 (j : IntKind) (n : Int) : XP Try.prog (convert 22 3 (.int j n)) w K = K (.int .i64 (IntKind.i64.wrap n)) w := XP_ok (fun w' => run_conv_int Try.underlying22 Try.underlying3 j n w')
theorem XR_conv_22_3 (j : IntKind) (n : Int) : XR Try.prog R (convert 22 3 (.int j n)) w K = K (.int .i64 (IntKind.i64.wrap n)) w := XR_eq (fun w' => run_conv_int Try.underlying22 Try.underlying3 j n w')
theorem X_conv_22_5 (j : IntKind) (n : Int) : X Try.prog (convert 22 5 (.int j n)) w K = K (.int .u8 (IntKind.u8.wrap n)) w := X_ok (run_conv_int Try.underlying22 Try.underlying5 j n w)
theorem XP_conv_22_5 (j : IntKind) (n : Int) : XP Try.prog (convert 22 5 (.int j n)) w K = K (.int .u8 (IntKind.u8.wrap n)) w := XP_ok (fun w' => run_conv_int Try.underlying22 Try.underlying5 j n w')
theorem XR_conv_22_5 (j : IntKind) (n : Int) : XR Try.prog R (convert 22 5 (.int j n)) w K = K (.int .u8 (IntKind.u8.wrap n)) w := XR_eq (fun w' => run_conv_int Try.underlying22 Try.underlying5 j n w')
theorem X_conv_22_23 (j : IntKind) (n : Int) : X Try.prog (convert 22 23 (.int j n)) w K = K (.int .u32 (IntKind.u32.wrap n)) w := X_ok (run_conv_int Try.underlying22 Try.underlying23 j n w)
theorem XP_conv_22_23 (j : IntKind) (n : Int) : XP Try.prog (convert 22 23 (.int j n)) w K = K (.int .u32 (IntKind.u32.wrap n)) w := XP_ok (fun w' => run_conv_int Try.underlying22 Try.underlying23 j n w')
theorem XR_conv_22_23 (j : IntKind) (n : Int) : XR Try.prog R (convert 22 23 (.int j n)) w K = K (.int .u32 (IntKind.u32.wrap n)) w := XR_eq (fun w' => run_conv_int Try.underlying22 Try.underlying23 j n w')
theorem X_conv_23_3 (j : IntKind) (n : Int) : X Try.prog (convert 23 3 (.int j n)) w K = K (.int .i64 (IntKind.i64.wrap n)) w := X_ok (run_conv_int Try.underlying23 Try.underlying3 j n w)
theorem XP_conv_23_3 (j : IntKind) (n : Int) : XP Try.prog (convert 23 3 (.int j n)) w K = K (.int .i64 (IntKind.i64.wrap n)) w := XP_ok (fun w' => run_conv_int Try.underlying23 Try.underlying3 j n w')
theorem XR_conv_23_3 (j : IntKind) (n : Int) : XR Try.prog R (convert 23 3 (.int j n)) w K = K (.int .i64 (IntKind.i64.wrap n)) w := XR_eq (fun w' => run_conv_int Try.underlying23 Try.underlying3 j n w')
theorem X_conv_23_5 (j : IntKind) (n : Int) : X Try.prog (convert 23 5 (.int j n)) w K = K (.int .u8 (IntKind.u8.wrap n)) w := X_ok (run_conv_int Try.underlying23 Try.underlying5 j n w)
theorem XP_conv_23_5 (j : IntKind) (n : Int) : XP Try.prog (convert 23 5 (.int j n)) w K = K (.int .u8 (IntKind.u8.wrap n)) w := XP_ok (fun w' => run_conv_int Try.underlying23 Try.underlying5 j n w')
theorem XR_conv_23_5 (j : IntKind) (n : Int) : XR Try.prog R (convert 23 5 (.int j n)) w K = K (.int .u8 (IntKind.u8.wrap n)) w := XR_eq (fun w' => run_conv_int Try.underlying23 Try.underlying5 j n w')
theorem X_conv_23_22 (j : IntKind) (n : Int) : X Try.prog (convert 23 22 (.int j n)) w K = K (.int .u64 (IntKind.u64.wrap n)) w := X_ok (run_conv_int Try.underlying23 Try.underlying22 j n w)
theorem XP_conv_23_22 (j : IntKind) (n : Int) : XP Try.prog (convert 23 22 (.int j n)) w K = K (.int .u64 (IntKind.u64.wrap n)) w := XP_ok (fun w' => run_conv_int Try.underlying23 Try.underlying22 j n w')
theorem XR_conv_23_22 (j : IntKind) (n : Int) : XR Try.prog R (convert 23 22 (.int j n)) w K = K (.int .u64 (IntKind.u64.wrap n)) w := XR_eq (fun w' => run_conv_int Try.underlying23 Try.underlying22 j n w')
theorem X_conv_49_3 (j : IntKind) (n : Int) : X Try.prog (convert 49 3 (.int j n)) w K = K (.int .i64 (IntKind.i64.wrap n)) w := X_ok (run_conv_int Try.underlying49 Try.underlying3 j n w)
theorem XP_conv_49_3 (j : IntKind) (n : Int) : XP Try.prog (convert 49 3 (.int j n)) w K = K (.int .i64 (IntKind.i64.wrap n)) w := XP_ok (fun w' => run_conv_int Try.underlying49 Try.underlying3 j n w')
theorem XR_conv_49_3 (j : IntKind) (n : Int) : XR Try.prog R (convert 49 3 (.int j n)) w K = K (.int .i64 (IntKind.i64.wrap n)) w := XR_eq (fun w' => run_conv_int Try.underlying49 Try.underlying3 j n w')
theorem X_conv_69_3 (j : IntKind) (n : Int) : X Try.prog (convert 69 3 (.int j n)) w K = K (.int .i64 (IntKind.i64.wrap n)) w := X_ok (run_conv_int Try.underlying69 Try.underlying3 j n w)
theorem XP_conv_69_3 (j : IntKind) (n : Int) : XP Try.prog (convert 69 3 (.int j n)) w K = K (.int .i64 (IntKind.i64.wrap n)) w := XP_ok (fun w' => run_conv_int Try.underlying69 Try.underlying3 j n w')
theorem XR_conv_69_3 (j : IntKind) (n : Int) : XR Try.prog R (convert 69 3 (.int j n)) w K = K (.int .i64 (IntKind.i64.wrap n)) w := XR_eq (fun w' => run_conv_int Try.underlying69 Try.underlying3 j n w')
theorem run_field_25_0 (b o : Nat) (w : World) : Sem.run Try.prog (Instr.fieldAt 25 (.pointer (some ⟨b, o, none⟩)) 0) w = .ok (.pointer (some ⟨b, o, none⟩)) w := by kernel_rfl
theorem X_field_25_0 (b o : Nat) : X Try.prog (Instr.fieldAt 25 (.pointer (some ⟨b, o, none⟩)) 0) w K = K (.pointer (some ⟨b, o, none⟩)) w := X_ok (run_field_25_0 b o w)
theorem XP_field_25_0 (b o : Nat) : XP Try.prog (Instr.fieldAt 25 (.pointer (some ⟨b, o, none⟩)) 0) w K = K (.pointer (some ⟨b, o, none⟩)) w := XP_ok (fun w' => run_field_25_0 b o w')
theorem run_field_25_1 (b o : Nat) (w : World) : Sem.run Try.prog (Instr.fieldAt 25 (.pointer (some ⟨b, o, none⟩)) 1) w = .ok (.pointer (some ⟨b, o + 1, none⟩)) w := by kernel_rfl
theorem X_field_25_1 (b o : Nat) : X Try.prog (Instr.fieldAt 25 (.pointer (some ⟨b, o, none⟩)) 1) w K = K (.pointer (some ⟨b, o + 1, none⟩)) w := X_ok (run_field_25_1 b o w)
theorem XP_field_25_1 (b o : Nat) : XP Try.prog (Instr.fieldAt 25 (.pointer (some ⟨b, o, none⟩)) 1) w K = K (.pointer (some ⟨b, o + 1, none⟩)) w := XP_ok (fun w' => run_field_25_1 b o w')
theorem run_field_25_2 (b o : Nat) (w : World) : Sem.run Try.prog (Instr.fieldAt 25 (.pointer (some ⟨b, o, none⟩)) 2) w = .ok (.pointer (some ⟨b, o + 2, none⟩)) w := by kernel_rfl
theorem X_field_25_2 (b o : Nat) : X Try.prog (Instr.fieldAt 25 (.pointer (some ⟨b, o, none⟩)) 2) w K = K (.pointer (some ⟨b, o + 2, none⟩)) w := X_ok (run_field_25_2 b o w)
theorem XP_field_25_2 (b o : Nat) : XP Try.prog (Instr.fieldAt 25 (.pointer (some ⟨b, o, none⟩)) 2) w K = K (.pointer (some ⟨b, o + 2, none⟩)) w := XP_ok (fun w' => run_field_25_2 b o w')
theorem run_field_25_3 (b o : Nat) (w : World) : Sem.run Try.prog (Instr.fieldAt 25 (.pointer (some ⟨b, o, none⟩)) 3) w = .ok (.pointer (some ⟨b, o + 3, none⟩)) w := by kernel_rfl
theorem X_field_25_3 (b o : Nat) : X Try.prog (Instr.fieldAt 25 (.pointer (some ⟨b, o, none⟩)) 3) w K = K (.pointer (some ⟨b, o + 3, none⟩)) w := X_ok (run_field_25_3 b o w)
theorem XP_field_25_3 (b o : Nat) : XP Try.prog (Instr.fieldAt 25 (.pointer (some ⟨b, o, none⟩)) 3) w K = K (.pointer (some ⟨b, o + 3, none⟩)) w := XP_ok (fun w' => run_field_25_3 b o w')
theorem run_field_57_0 (b o : Nat) (w : World) : Sem.run Try.prog (Instr.fieldAt 57 (.pointer (some ⟨b, o, none⟩)) 0) w = .ok (.pointer (some ⟨b, o, none⟩)) w := by kernel_rfl
theorem X_field_57_0 (b o : Nat) : X Try.prog (Instr.fieldAt 57 (.pointer (some ⟨b, o, none⟩)) 0) w K = K (.pointer (some ⟨b, o, none⟩)) w := X_ok (run_field_57_0 b o w)
theorem XP_field_57_0 (b o : Nat) : XP Try.prog (Instr.fieldAt 57 (.pointer (some ⟨b, o, none⟩)) 0) w K = K (.pointer (some ⟨b, o, none⟩)) w := XP_ok (fun w' => run_field_57_0 b o w')
theorem run_field_57_1 (b o : Nat) (w : World) : Sem.run Try.prog (Instr.fieldAt 57 (.pointer (some ⟨b, o, none⟩)) 1) w = .ok (.pointer (some ⟨b, o + 1, none⟩)) w := by kernel_rfl
theorem X_field_57_1 (b o : Nat) : X Try.prog (Instr.fieldAt 57 (.pointer (some ⟨b, o, none⟩)) 1) w K = K (.pointer (some ⟨b, o + 1, none⟩)) w := X_ok (run_field_57_1 b o w)
theorem XP_field_57_1 (b o : Nat) : XP Try.prog (Instr.fieldAt 57 (.pointer (some ⟨b, o, none⟩)) 1) w K = K (.pointer (some ⟨b, o + 1, none⟩)) w := XP_ok (fun w' => run_field_57_1 b o w')
theorem run_field_57_2 (b o : Nat) (w : World) : Sem.run Try.prog (Instr.fieldAt 57 (.pointer (some ⟨b, o, none⟩)) 2) w = .ok (.pointer (some ⟨b, o + 2, none⟩)) w := by kernel_rfl
theorem X_field_57_2 (b o : Nat) : X Try.prog (Instr.fieldAt 57 (.pointer (some ⟨b, o, none⟩)) 2) w K = K (.pointer (some ⟨b, o + 2, none⟩)) w := X_ok (run_field_57_2 b o w)
theorem XP_field_57_2 (b o : Nat) : XP Try.prog (Instr.fieldAt 57 (.pointer (some ⟨b, o, none⟩)) 2) w K = K (.pointer (some ⟨b, o + 2, none⟩)) w := XP_ok (fun w' => run_field_57_2 b o w')
theorem run_field_59_0 (b o : Nat) (w : World) : Sem.run Try.prog (Instr.fieldAt 59 (.pointer (some ⟨b, o, none⟩)) 0) w = .ok (.pointer (some ⟨b, o, none⟩)) w := by kernel_rfl
theorem X_field_59_0 (b o : Nat) : X Try.prog (Instr.fieldAt 59 (.pointer (some ⟨b, o, none⟩)) 0) w K = K (.pointer (some ⟨b, o, none⟩)) w := X_ok (run_field_59_0 b o w)
theorem XP_field_59_0 (b o : Nat) : XP Try.prog (Instr.fieldAt 59 (.pointer (some ⟨b, o, none⟩)) 0) w K = K (.pointer (some ⟨b, o, none⟩)) w := XP_ok (fun w' => run_field_59_0 b o w')
theorem run_field_59_1 (b o : Nat) (w : World) : Sem.run Try.prog (Instr.fieldAt 59 (.pointer (some ⟨b, o, none⟩)) 1) w = .ok (.pointer (some ⟨b, o + 1, none⟩)) w := by kernel_rfl
theorem X_field_59_1 (b o : Nat) : X Try.prog (Instr.fieldAt 59 (.pointer (some ⟨b, o, none⟩)) 1) w K = K (.pointer (some ⟨b, o + 1, none⟩)) w := X_ok (run_field_59_1 b o w)
theorem XP_field_59_1 (b o : Nat) : XP Try.prog (Instr.fieldAt 59 (.pointer (some ⟨b, o, none⟩)) 1) w K = K (.pointer (some ⟨b, o + 1, none⟩)) w := XP_ok (fun w' => run_field_59_1 b o w')
theorem run_field_86_0 (b o : Nat) (w : World) : Sem.run Try.prog (Instr.fieldAt 86 (.pointer (some ⟨b, o, none⟩)) 0) w = .ok (.pointer (some ⟨b, o, none⟩)) w := by kernel_rfl
theorem X_field_86_0 (b o : Nat) : X Try.prog (Instr.fieldAt 86 (.pointer (some ⟨b, o, none⟩)) 0) w K = K (.pointer (some ⟨b, o, none⟩)) w := X_ok (run_field_86_0 b o w)
theorem XP_field_86_0 (b o : Nat) : XP Try.prog (Instr.fieldAt 86 (.pointer (some ⟨b, o, none⟩)) 0) w K = K (.pointer (some ⟨b, o, none⟩)) w := XP_ok (fun w' => run_field_86_0 b o w')
theorem run_field_86_1 (b o : Nat) (w : World) : Sem.run Try.prog (Instr.fieldAt 86 (.pointer (some ⟨b, o, none⟩)) 1) w = .ok (.pointer (some ⟨b, o + 1, none⟩)) w := by kernel_rfl
theorem X_field_86_1 (b o : Nat) : X Try.prog (Instr.fieldAt 86 (.pointer (some ⟨b, o, none⟩)) 1) w K = K (.pointer (some ⟨b, o + 1, none⟩)) w := X_ok (run_field_86_1 b o w)
theorem XP_field_86_1 (b o : Nat) : XP Try.prog (Instr.fieldAt 86 (.pointer (some ⟨b, o, none⟩)) 1) w K = K (.pointer (some ⟨b, o + 1, none⟩)) w := XP_ok (fun w' => run_field_86_1 b o w')
theorem run_field_86_2 (b o : Nat) (w : World) : Sem.run Try.prog (Instr.fieldAt 86 (.pointer (some ⟨b, o, none⟩)) 2) w = .ok (.pointer (some ⟨b, o + 2, none⟩)) w := by kernel_rfl
theorem X_field_86_2 (b o : Nat) : X Try.prog (Instr.fieldAt 86 (.pointer (some ⟨b, o, none⟩)) 2) w K = K (.pointer (some ⟨b, o + 2, none⟩)) w := X_ok (run_field_86_2 b o w)
theorem XP_field_86_2 (b o : Nat) : XP Try.prog (Instr.fieldAt 86 (.pointer (some ⟨b, o, none⟩)) 2) w K = K (.pointer (some ⟨b, o + 2, none⟩)) w := XP_ok (fun w' => run_field_86_2 b o w')
theorem run_field_86_3 (b o : Nat) (w : World) : Sem.run Try.prog (Instr.fieldAt 86 (.pointer (some ⟨b, o, none⟩)) 3) w = .ok (.pointer (some ⟨b, o + 3, none⟩)) w := by kernel_rfl
theorem X_field_86_3 (b o : Nat) : X Try.prog (Instr.fieldAt 86 (.pointer (some ⟨b, o, none⟩)) 3) w K = K (.pointer (some ⟨b, o + 3, none⟩)) w := X_ok (run_field_86_3 b o w)
theorem XP_field_86_3 (b o : Nat) : XP Try.prog (Instr.fieldAt 86 (.pointer (some ⟨b, o, none⟩)) 3) w K = K (.pointer (some ⟨b, o + 3, none⟩)) w := XP_ok (fun w' => run_field_86_3 b o w')
theorem run_field_86_4 (b o : Nat) (w : World) : Sem.run Try.prog (Instr.fieldAt 86 (.pointer (some ⟨b, o, none⟩)) 4) w = .ok (.pointer (some ⟨b, o + 4, none⟩)) w := by kernel_rfl
theorem X_field_86_4 (b o : Nat) : X Try.prog (Instr.fieldAt 86 (.pointer (some ⟨b, o, none⟩)) 4) w K = K (.pointer (some ⟨b, o + 4, none⟩)) w := X_ok (run_field_86_4 b o w)
theorem XP_field_86_4 (b o : Nat) : XP Try.prog (Instr.fieldAt 86 (.pointer (some ⟨b, o, none⟩)) 4) w K = K (.pointer (some ⟨b, o + 4, none⟩)) w := XP_ok (fun w' => run_field_86_4 b o w')
theorem run_field_113_0 (b o : Nat) (w : World) : Sem.run Try.prog (Instr.fieldAt 113 (.pointer (some ⟨b, o, none⟩)) 0) w = .ok (.pointer (some ⟨b, o, none⟩)) w := by kernel_rfl
theorem X_field_113_0 (b o : Nat) : X Try.prog (Instr.fieldAt 113 (.pointer (some ⟨b, o, none⟩)) 0) w K = K (.pointer (some ⟨b, o, none⟩)) w := X_ok (run_field_113_0 b o w)
theorem XP_field_113_0 (b o : Nat) : XP Try.prog (Instr.fieldAt 113 (.pointer (some ⟨b, o, none⟩)) 0) w K = K (.pointer (some ⟨b, o, none⟩)) w := XP_ok (fun w' => run_field_113_0 b o w')
theorem run_field_113_1 (b o : Nat) (w : World) : Sem.run Try.prog (Instr.fieldAt 113 (.pointer (some ⟨b, o, none⟩)) 1) w = .ok (.pointer (some ⟨b, o + 32, none⟩)) w := by kernel_rfl
theorem X_field_113_1 (b o : Nat) : X Try.prog (Instr.fieldAt 113 (.pointer (some ⟨b, o, none⟩)) 1) w K = K (.pointer (some ⟨b, o + 32, none⟩)) w := X_ok (run_field_113_1 b o w)
theorem XP_field_113_1 (b o : Nat) : XP Try.prog (Instr.fieldAt 113 (.pointer (some ⟨b, o, none⟩)) 1) w K = K (.pointer (some ⟨b, o + 32, none⟩)) w := XP_ok (fun w' => run_field_113_1 b o w')
theorem run_field_115_0 (b o : Nat) (w : World) : Sem.run Try.prog (Instr.fieldAt 115 (.pointer (some ⟨b, o, none⟩)) 0) w = .ok (.pointer (some ⟨b, o, none⟩)) w := by kernel_rfl
theorem X_field_115_0 (b o : Nat) : X Try.prog (Instr.fieldAt 115 (.pointer (some ⟨b, o, none⟩)) 0) w K = K (.pointer (some ⟨b, o, none⟩)) w := X_ok (run_field_115_0 b o w)
theorem XP_field_115_0 (b o : Nat) : XP Try.prog (Instr.fieldAt 115 (.pointer (some ⟨b, o, none⟩)) 0) w K = K (.pointer (some ⟨b, o, none⟩)) w := XP_ok (fun w' => run_field_115_0 b o w')
theorem run_field_115_1 (b o : Nat) (w : World) : Sem.run Try.prog (Instr.fieldAt 115 (.pointer (some ⟨b, o, none⟩)) 1) w = .ok (.pointer (some ⟨b, o + 33, none⟩)) w := by kernel_rfl
theorem X_field_115_1 (b o : Nat) : X Try.prog (Instr.fieldAt 115 (.pointer (some ⟨b, o, none⟩)) 1) w K = K (.pointer (some ⟨b, o + 33, none⟩)) w := X_ok (run_field_115_1 b o w)
theorem XP_field_115_1 (b o : Nat) : XP Try.prog (Instr.fieldAt 115 (.pointer (some ⟨b, o, none⟩)) 1) w K = K (.pointer (some ⟨b, o + 33, none⟩)) w := XP_ok (fun w' => run_field_115_1 b o w')
theorem run_field_131_0 (b o : Nat) (w : World) : Sem.run Try.prog (Instr.fieldAt 131 (.pointer (some ⟨b, o, none⟩)) 0) w = .ok (.pointer (some ⟨b, o, none⟩)) w := by kernel_rfl
theorem X_field_131_0 (b o : Nat) : X Try.prog (Instr.fieldAt 131 (.pointer (some ⟨b, o, none⟩)) 0) w K = K (.pointer (some ⟨b, o, none⟩)) w := X_ok (run_field_131_0 b o w)
theorem XP_field_131_0 (b o : Nat) : XP Try.prog (Instr.fieldAt 131 (.pointer (some ⟨b, o, none⟩)) 0) w K = K (.pointer (some ⟨b, o, none⟩)) w := XP_ok (fun w' => run_field_131_0 b o w')
theorem run_field_131_1 (b o : Nat) (w : World) : Sem.run Try.prog (Instr.fieldAt 131 (.pointer (some ⟨b, o, none⟩)) 1) w = .ok (.pointer (some ⟨b, o + 1, none⟩)) w := by kernel_rfl
theorem X_field_131_1 (b o : Nat) : X Try.prog (Instr.fieldAt 131 (.pointer (some ⟨b, o, none⟩)) 1) w K = K (.pointer (some ⟨b, o + 1, none⟩)) w := X_ok (run_field_131_1 b o w)
theorem XP_field_131_1 (b o : Nat) : XP Try.prog (Instr.fieldAt 131 (.pointer (some ⟨b, o, none⟩)) 1) w K = K (.pointer (some ⟨b, o + 1, none⟩)) w := XP_ok (fun w' => run_field_131_1 b o w')
theorem run_field_135_0 (b o : Nat) (w : World) : Sem.run Try.prog (Instr.fieldAt 135 (.pointer (some ⟨b, o, none⟩)) 0) w = .ok (.pointer (some ⟨b, o, none⟩)) w := by kernel_rfl
theorem X_field_135_0 (b o : Nat) : X Try.prog (Instr.fieldAt 135 (.pointer (some ⟨b, o, none⟩)) 0) w K = K (.pointer (some ⟨b, o, none⟩)) w := X_ok (run_field_135_0 b o w)
theorem XP_field_135_0 (b o : Nat) : XP Try.prog (Instr.fieldAt 135 (.pointer (some ⟨b, o, none⟩)) 0) w K = K (.pointer (some ⟨b, o, none⟩)) w := XP_ok (fun w' => run_field_135_0 b o w')
theorem run_field_135_1 (b o : Nat) (w : World) : Sem.run Try.prog (Instr.fieldAt 135 (.pointer (some ⟨b, o, none⟩)) 1) w = .ok (.pointer (some ⟨b, o + 1, none⟩)) w := by kernel_rfl
theorem X_field_135_1 (b o : Nat) : X Try.prog (Instr.fieldAt 135 (.pointer (some ⟨b, o, none⟩)) 1) w K = K (.pointer (some ⟨b, o + 1, none⟩)) w := X_ok (run_field_135_1 b o w)
theorem XP_field_135_1 (b o : Nat) : XP Try.prog (Instr.fieldAt 135 (.pointer (some ⟨b, o, none⟩)) 1) w K = K (.pointer (some ⟨b, o + 1, none⟩)) w := XP_ok (fun w' => run_field_135_1 b o w')
theorem run_field_135_2 (b o : Nat) (w : World) : Sem.run Try.prog (Instr.fieldAt 135 (.pointer (some ⟨b, o, none⟩)) 2) w = .ok (.pointer (some ⟨b, o + 2, none⟩)) w := by kernel_rfl
theorem X_field_135_2 (b o : Nat) : X Try.prog (Instr.fieldAt 135 (.pointer (some ⟨b, o, none⟩)) 2) w K = K (.pointer (some ⟨b, o + 2, none⟩)) w := X_ok (run_field_135_2 b o w)
theorem XP_field_135_2 (b o : Nat) : XP Try.prog (Instr.fieldAt 135 (.pointer (some ⟨b, o, none⟩)) 2) w K = K (.pointer (some ⟨b, o + 2, none⟩)) w := XP_ok (fun w' => run_field_135_2 b o w')
theorem run_field_135_3 (b o : Nat) (w : World) : Sem.run Try.prog (Instr.fieldAt 135 (.pointer (some ⟨b, o, none⟩)) 3) w = .ok (.pointer (some ⟨b, o + 3, none⟩)) w := by kernel_rfl
theorem X_field_135_3 (b o : Nat) : X Try.prog (Instr.fieldAt 135 (.pointer (some ⟨b, o, none⟩)) 3) w K = K (.pointer (some ⟨b, o + 3, none⟩)) w := X_ok (run_field_135_3 b o w)
theorem XP_field_135_3 (b o : Nat) : XP Try.prog (Instr.fieldAt 135 (.pointer (some ⟨b, o, none⟩)) 3) w K = K (.pointer (some ⟨b, o + 3, none⟩)) w := XP_ok (fun w' => run_field_135_3 b o w')
theorem run_field_138_0 (b o : Nat) (w : World) : Sem.run Try.prog (Instr.fieldAt 138 (.pointer (some ⟨b, o, none⟩)) 0) w = .ok (.pointer (some ⟨b, o, none⟩)) w := by kernel_rfl
theorem X_field_138_0 (b o : Nat) : X Try.prog (Instr.fieldAt 138 (.pointer (some ⟨b, o, none⟩)) 0) w K = K (.pointer (some ⟨b, o, none⟩)) w := X_ok (run_field_138_0 b o w)
theorem XP_field_138_0 (b o : Nat) : XP Try.prog (Instr.fieldAt 138 (.pointer (some ⟨b, o, none⟩)) 0) w K = K (.pointer (some ⟨b, o, none⟩)) w := XP_ok (fun w' => run_field_138_0 b o w')
theorem run_field_138_1 (b o : Nat) (w : World) : Sem.run Try.prog (Instr.fieldAt 138 (.pointer (some ⟨b, o, none⟩)) 1) w = .ok (.pointer (some ⟨b, o + 1, none⟩)) w := by kernel_rfl
theorem X_field_138_1 (b o : Nat) : X Try.prog (Instr.fieldAt 138 (.pointer (some ⟨b, o, none⟩)) 1) w K = K (.pointer (some ⟨b, o + 1, none⟩)) w := X_ok (run_field_138_1 b o w)
theorem XP_field_138_1 (b o : Nat) : XP Try.prog (Instr.fieldAt 138 (.pointer (some ⟨b, o, none⟩)) 1) w K = K (.pointer (some ⟨b, o + 1, none⟩)) w := XP_ok (fun w' => run_field_138_1 b o w')
theorem run_field_138_2 (b o : Nat) (w : World) : Sem.run Try.prog (Instr.fieldAt 138 (.pointer (some ⟨b, o, none⟩)) 2) w = .ok (.pointer (some ⟨b, o + 2, none⟩)) w := by kernel_rfl
theorem X_field_138_2 (b o : Nat) : X Try.prog (Instr.fieldAt 138 (.pointer (some ⟨b, o, none⟩)) 2) w K = K (.pointer (some ⟨b, o + 2, none⟩)) w := X_ok (run_field_138_2 b o w)
theorem XP_field_138_2 (b o : Nat) : XP Try.prog (Instr.fieldAt 138 (.pointer (some ⟨b, o, none⟩)) 2) w K = K (.pointer (some ⟨b, o + 2, none⟩)) w := XP_ok (fun w' => run_field_138_2 b o w')
theorem run_field_138_3 (b o : Nat) (w : World) : Sem.run Try.prog (Instr.fieldAt 138 (.pointer (some ⟨b, o, none⟩)) 3) w = .ok (.pointer (some ⟨b, o + 3, none⟩)) w := by kernel_rfl
theorem X_field_138_3 (b o : Nat) : X Try.prog (Instr.fieldAt 138 (.pointer (some ⟨b, o, none⟩)) 3) w K = K (.pointer (some ⟨b, o + 3, none⟩)) w := X_ok (run_field_138_3 b o w)
theorem XP_field_138_3 (b o : Nat) : XP Try.prog (Instr.fieldAt 138 (.pointer (some ⟨b, o, none⟩)) 3) w K = K (.pointer (some ⟨b, o + 3, none⟩)) w := XP_ok (fun w' => run_field_138_3 b o w')
theorem run_field_142_0 (b o : Nat) (w : World) : Sem.run Try.prog (Instr.fieldAt 142 (.pointer (some ⟨b, o, none⟩)) 0) w = .ok (.pointer (some ⟨b, o, none⟩)) w := by kernel_rfl
theorem X_field_142_0 (b o : Nat) : X Try.prog (Instr.fieldAt 142 (.pointer (some ⟨b, o, none⟩)) 0) w K = K (.pointer (some ⟨b, o, none⟩)) w := X_ok (run_field_142_0 b o w)
theorem XP_field_142_0 (b o : Nat) : XP Try.prog (Instr.fieldAt 142 (.pointer (some ⟨b, o, none⟩)) 0) w K = K (.pointer (some ⟨b, o, none⟩)) w := XP_ok (fun w' => run_field_142_0 b o w')
theorem run_field_142_1 (b o : Nat) (w : World) : Sem.run Try.prog (Instr.fieldAt 142 (.pointer (some ⟨b, o, none⟩)) 1) w = .ok (.pointer (some ⟨b, o + 1, none⟩)) w := by kernel_rfl
theorem X_field_142_1 (b o : Nat) : X Try.prog (Instr.fieldAt 142 (.pointer (some ⟨b, o, none⟩)) 1) w K = K (.pointer (some ⟨b, o + 1, none⟩)) w := X_ok (run_field_142_1 b o w)
theorem XP_field_142_1 (b o : Nat) : XP Try.prog (Instr.fieldAt 142 (.pointer (some ⟨b, o, none⟩)) 1) w K = K (.pointer (some ⟨b, o + 1, none⟩)) w := XP_ok (fun w' => run_field_142_1 b o w')
theorem run_field_142_2 (b o : Nat) (w : World) : Sem.run Try.prog (Instr.fieldAt 142 (.pointer (some ⟨b, o, none⟩)) 2) w = .ok (.pointer (some ⟨b, o + 2, none⟩)) w := by kernel_rfl
theorem X_field_142_2 (b o : Nat) : X Try.prog (Instr.fieldAt 142 (.pointer (some ⟨b, o, none⟩)) 2) w K = K (.pointer (some ⟨b, o + 2, none⟩)) w := X_ok (run_field_142_2 b o w)
theorem XP_field_142_2 (b o : Nat) : XP Try.prog (Instr.fieldAt 142 (.pointer (some ⟨b, o, none⟩)) 2) w K = K (.pointer (some ⟨b, o + 2, none⟩)) w := XP_ok (fun w' => run_field_142_2 b o w')
theorem run_field_142_3 (b o : Nat) (w : World) : Sem.run Try.prog (Instr.fieldAt 142 (.pointer (some ⟨b, o, none⟩)) 3) w = .ok (.pointer (some ⟨b, o + 3, none⟩)) w := by kernel_rfl
theorem X_field_142_3 (b o : Nat) : X Try.prog (Instr.fieldAt 142 (.pointer (some ⟨b, o, none⟩)) 3) w K = K (.pointer (some ⟨b, o + 3, none⟩)) w := X_ok (run_field_142_3 b o w)
theorem XP_field_142_3 (b o : Nat) : XP Try.prog (Instr.fieldAt 142 (.pointer (some ⟨b, o, none⟩)) 3) w K = K (.pointer (some ⟨b, o + 3, none⟩)) w := XP_ok (fun w' => run_field_142_3 b o w')
theorem run_field_142_4 (b o : Nat) (w : World) : Sem.run Try.prog (Instr.fieldAt 142 (.pointer (some ⟨b, o, none⟩)) 4) w = .ok (.pointer (some ⟨b, o + 4, none⟩)) w := by kernel_rfl
theorem X_field_142_4 (b o : Nat) : X Try.prog (Instr.fieldAt 142 (.pointer (some ⟨b, o, none⟩)) 4) w K = K (.pointer (some ⟨b, o + 4, none⟩)) w := X_ok (run_field_142_4 b o w)
theorem XP_field_142_4 (b o : Nat) : XP Try.prog (Instr.fieldAt 142 (.pointer (some ⟨b, o, none⟩)) 4) w K = K (.pointer (some ⟨b, o + 4, none⟩)) w := XP_ok (fun w' => run_field_142_4 b o w')
theorem run_field_148_0 (b o : Nat) (w : World) : Sem.run Try.prog (Instr.fieldAt 148 (.pointer (some ⟨b, o, none⟩)) 0) w = .ok (.pointer (some ⟨b, o, none⟩)) w := by kernel_rfl
theorem X_field_148_0 (b o : Nat) : X Try.prog (Instr.fieldAt 148 (.pointer (some ⟨b, o, none⟩)) 0) w K = K (.pointer (some ⟨b, o, none⟩)) w := X_ok (run_field_148_0 b o w)
theorem XP_field_148_0 (b o : Nat) : XP Try.prog (Instr.fieldAt 148 (.pointer (some ⟨b, o, none⟩)) 0) w K = K (.pointer (some ⟨b, o, none⟩)) w := XP_ok (fun w' => run_field_148_0 b o w')
theorem run_field_148_1 (b o : Nat) (w : World) : Sem.run Try.prog (Instr.fieldAt 148 (.pointer (some ⟨b, o, none⟩)) 1) w = .ok (.pointer (some ⟨b, o + 1, none⟩)) w := by kernel_rfl
theorem X_field_148_1 (b o : Nat) : X Try.prog (Instr.fieldAt 148 (.pointer (some ⟨b, o, none⟩)) 1) w K = K (.pointer (some ⟨b, o + 1, none⟩)) w := X_ok (run_field_148_1 b o w)
theorem XP_field_148_1 (b o : Nat) : XP Try.prog (Instr.fieldAt 148 (.pointer (some ⟨b, o, none⟩)) 1) w K = K (.pointer (some ⟨b, o + 1, none⟩)) w := XP_ok (fun w' => run_field_148_1 b o w')
theorem run_field_148_2 (b o : Nat) (w : World) : Sem.run Try.prog (Instr.fieldAt 148 (.pointer (some ⟨b, o, none⟩)) 2) w = .ok (.pointer (some ⟨b, o + 2, none⟩)) w := by kernel_rfl
theorem X_field_148_2 (b o : Nat) : X Try.prog (Instr.fieldAt 148 (.pointer (some ⟨b, o, none⟩)) 2) w K = K (.pointer (some ⟨b, o + 2, none⟩)) w := X_ok (run_field_148_2 b o w)
theorem XP_field_148_2 (b o : Nat) : XP Try.prog (Instr.fieldAt 148 (.pointer (some ⟨b, o, none⟩)) 2) w K = K (.pointer (some ⟨b, o + 2, none⟩)) w := XP_ok (fun w' => run_field_148_2 b o w')
theorem run_field_148_3 (b o : Nat) (w : World) : Sem.run Try.prog (Instr.fieldAt 148 (.pointer (some ⟨b, o, none⟩)) 3) w = .ok (.pointer (some ⟨b, o + 3, none⟩)) w := by kernel_rfl
theorem X_field_148_3 (b o : Nat) : X Try.prog (Instr.fieldAt 148 (.pointer (some ⟨b, o, none⟩)) 3) w K = K (.pointer (some ⟨b, o + 3, none⟩)) w := X_ok (run_field_148_3 b o w)
theorem XP_field_148_3 (b o : Nat) : XP Try.prog (Instr.fieldAt 148 (.pointer (some ⟨b, o, none⟩)) 3) w K = K (.pointer (some ⟨b, o + 3, none⟩)) w := XP_ok (fun w' => run_field_148_3 b o w')
theorem run_field_148_4 (b o : Nat) (w : World) : Sem.run Try.prog (Instr.fieldAt 148 (.pointer (some ⟨b, o, none⟩)) 4) w = .ok (.pointer (some ⟨b, o + 4, none⟩)) w := by kernel_rfl
theorem X_field_148_4 (b o : Nat) : X Try.prog (Instr.fieldAt 148 (.pointer (some ⟨b, o, none⟩)) 4) w K = K (.pointer (some ⟨b, o + 4, none⟩)) w := X_ok (run_field_148_4 b o w)
theorem XP_field_148_4 (b o : Nat) : XP Try.prog (Instr.fieldAt 148 (.pointer (some ⟨b, o, none⟩)) 4) w K = K (.pointer (some ⟨b, o + 4, none⟩)) w := XP_ok (fun w' => run_field_148_4 b o w')
theorem run_field_159_0 (b o : Nat) (w : World) : Sem.run Try.prog (Instr.fieldAt 159 (.pointer (some ⟨b, o, none⟩)) 0) w = .ok (.pointer (some ⟨b, o, none⟩)) w := by kernel_rfl
theorem X_field_159_0 (b o : Nat) : X Try.prog (Instr.fieldAt 159 (.pointer (some ⟨b, o, none⟩)) 0) w K = K (.pointer (some ⟨b, o, none⟩)) w := X_ok (run_field_159_0 b o w)
theorem XP_field_159_0 (b o : Nat) : XP Try.prog (Instr.fieldAt 159 (.pointer (some ⟨b, o, none⟩)) 0) w K = K (.pointer (some ⟨b, o, none⟩)) w := XP_ok (fun w' => run_field_159_0 b o w')
theorem run_field_159_1 (b o : Nat) (w : World) : Sem.run Try.prog (Instr.fieldAt 159 (.pointer (some ⟨b, o, none⟩)) 1) w = .ok (.pointer (some ⟨b, o + 1, none⟩)) w := by kernel_rfl
theorem X_field_159_1 (b o : Nat) : X Try.prog (Instr.fieldAt 159 (.pointer (some ⟨b, o, none⟩)) 1) w K = K (.pointer (some ⟨b, o + 1, none⟩)) w := X_ok (run_field_159_1 b o w)
theorem XP_field_159_1 (b o : Nat) : XP Try.prog (Instr.fieldAt 159 (.pointer (some ⟨b, o, none⟩)) 1) w K = K (.pointer (some ⟨b, o + 1, none⟩)) w := XP_ok (fun w' => run_field_159_1 b o w')
theorem run_field_159_2 (b o : Nat) (w : World) : Sem.run Try.prog (Instr.fieldAt 159 (.pointer (some ⟨b, o, none⟩)) 2) w = .ok (.pointer (some ⟨b, o + 2, none⟩)) w := by kernel_rfl
theorem X_field_159_2 (b o : Nat) : X Try.prog (Instr.fieldAt 159 (.pointer (some ⟨b, o, none⟩)) 2) w K = K (.pointer (some ⟨b, o + 2, none⟩)) w := X_ok (run_field_159_2 b o w)
theorem XP_field_159_2 (b o : Nat) : XP Try.prog (Instr.fieldAt 159 (.pointer (some ⟨b, o, none⟩)) 2) w K = K (.pointer (some ⟨b, o + 2, none⟩)) w := XP_ok (fun w' => run_field_159_2 b o w')
theorem run_field_159_3 (b o : Nat) (w : World) : Sem.run Try.prog (Instr.fieldAt 159 (.pointer (some ⟨b, o, none⟩)) 3) w = .ok (.pointer (some ⟨b, o + 3, none⟩)) w := by kernel_rfl
theorem X_field_159_3 (b o : Nat) : X Try.prog (Instr.fieldAt 159 (.pointer (some ⟨b, o, none⟩)) 3) w K = K (.pointer (some ⟨b, o + 3, none⟩)) w := X_ok (run_field_159_3 b o w)
theorem XP_field_159_3 (b o : Nat) : XP Try.prog (Instr.fieldAt 159 (.pointer (some ⟨b, o, none⟩)) 3) w K = K (.pointer (some ⟨b, o + 3, none⟩)) w := XP_ok (fun w' => run_field_159_3 b o w')
theorem run_field_159_4 (b o : Nat) (w : World) : Sem.run Try.prog (Instr.fieldAt 159 (.pointer (some ⟨b, o, none⟩)) 4) w = .ok (.pointer (some ⟨b, o + 4, none⟩)) w := by kernel_rfl
theorem X_field_159_4 (b o : Nat) : X Try.prog (Instr.fieldAt 159 (.pointer (some ⟨b, o, none⟩)) 4) w K = K (.pointer (some ⟨b, o + 4, none⟩)) w := X_ok (run_field_159_4 b o w)
theorem XP_field_159_4 (b o : Nat) : XP Try.prog (Instr.fieldAt 159 (.pointer (some ⟨b, o, none⟩)) 4) w K = K (.pointer (some ⟨b, o + 4, none⟩)) w := XP_ok (fun w' => run_field_159_4 b o w')
theorem run_field_162_0 (b o : Nat) (w : World) : Sem.run Try.prog (Instr.fieldAt 162 (.pointer (some ⟨b, o, none⟩)) 0) w = .ok (.pointer (some ⟨b, o, none⟩)) w := by kernel_rfl
theorem X_field_162_0 (b o : Nat) : X Try.prog (Instr.fieldAt 162 (.pointer (some ⟨b, o, none⟩)) 0) w K = K (.pointer (some ⟨b, o, none⟩)) w := X_ok (run_field_162_0 b o w)
theorem XP_field_162_0 (b o : Nat) : XP Try.prog (Instr.fieldAt 162 (.pointer (some ⟨b, o, none⟩)) 0) w K = K (.pointer (some ⟨b, o, none⟩)) w := XP_ok (fun w' => run_field_162_0 b o w')
theorem run_field_162_1 (b o : Nat) (w : World) : Sem.run Try.prog (Instr.fieldAt 162 (.pointer (some ⟨b, o, none⟩)) 1) w = .ok (.pointer (some ⟨b, o + 1, none⟩)) w := by kernel_rfl
theorem X_field_162_1 (b o : Nat) : X Try.prog (Instr.fieldAt 162 (.pointer (some ⟨b, o, none⟩)) 1) w K = K (.pointer (some ⟨b, o + 1, none⟩)) w := X_ok (run_field_162_1 b o w)
theorem XP_field_162_1 (b o : Nat) : XP Try.prog (Instr.fieldAt 162 (.pointer (some ⟨b, o, none⟩)) 1) w K = K (.pointer (some ⟨b, o + 1, none⟩)) w := XP_ok (fun w' => run_field_162_1 b o w')
theorem run_field_176_0 (b o : Nat) (w : World) : Sem.run Try.prog (Instr.fieldAt 176 (.pointer (some ⟨b, o, none⟩)) 0) w = .ok (.pointer (some ⟨b, o, none⟩)) w := by kernel_rfl
theorem X_field_176_0 (b o : Nat) : X Try.prog (Instr.fieldAt 176 (.pointer (some ⟨b, o, none⟩)) 0) w K = K (.pointer (some ⟨b, o, none⟩)) w := X_ok (run_field_176_0 b o w)
theorem XP_field_176_0 (b o : Nat) : XP Try.prog (Instr.fieldAt 176 (.pointer (some ⟨b, o, none⟩)) 0) w K = K (.pointer (some ⟨b, o, none⟩)) w := XP_ok (fun w' => run_field_176_0 b o w')
theorem run_field_176_1 (b o : Nat) (w : World) : Sem.run Try.prog (Instr.fieldAt 176 (.pointer (some ⟨b, o, none⟩)) 1) w = .ok (.pointer (some ⟨b, o + 1, none⟩)) w := by kernel_rfl
theorem X_field_176_1 (b o : Nat) : X Try.prog (Instr.fieldAt 176 (.pointer (some ⟨b, o, none⟩)) 1) w K = K (.pointer (some ⟨b, o + 1, none⟩)) w := X_ok (run_field_176_1 b o w)
theorem XP_field_176_1 (b o : Nat) : XP Try.prog (Instr.fieldAt 176 (.pointer (some ⟨b, o, none⟩)) 1) w K = K (.pointer (some ⟨b, o + 1, none⟩)) w := XP_ok (fun w' => run_field_176_1 b o w')
theorem run_field_183_0 (b o : Nat) (w : World) : Sem.run Try.prog (Instr.fieldAt 183 (.pointer (some ⟨b, o, none⟩)) 0) w = .ok (.pointer (some ⟨b, o, none⟩)) w := by kernel_rfl
theorem X_field_183_0 (b o : Nat) : X Try.prog (Instr.fieldAt 183 (.pointer (some ⟨b, o, none⟩)) 0) w K = K (.pointer (some ⟨b, o, none⟩)) w := X_ok (run_field_183_0 b o w)
theorem XP_field_183_0 (b o : Nat) : XP Try.prog (Instr.fieldAt 183 (.pointer (some ⟨b, o, none⟩)) 0) w K = K (.pointer (some ⟨b, o, none⟩)) w := XP_ok (fun w' => run_field_183_0 b o w')
theorem run_field_183_1 (b o : Nat) (w : World) : Sem.run Try.prog (Instr.fieldAt 183 (.pointer (some ⟨b, o, none⟩)) 1) w = .ok (.pointer (some ⟨b, o + 1, none⟩)) w := by kernel_rfl
theorem X_field_183_1 (b o : Nat) : X Try.prog (Instr.fieldAt 183 (.pointer (some ⟨b, o, none⟩)) 1) w K = K (.pointer (some ⟨b, o + 1, none⟩)) w := X_ok (run_field_183_1 b o w)
theorem XP_field_183_1 (b o : Nat) : XP Try.prog (Instr.fieldAt 183 (.pointer (some ⟨b, o, none⟩)) 1) w K = K (.pointer (some ⟨b, o + 1, none⟩)) w := XP_ok (fun w' => run_field_183_1 b o w')
theorem run_field_183_2 (b o : Nat) (w : World) : Sem.run Try.prog (Instr.fieldAt 183 (.pointer (some ⟨b, o, none⟩)) 2) w = .ok (.pointer (some ⟨b, o + 2, none⟩)) w := by kernel_rfl
theorem X_field_183_2 (b o : Nat) : X Try.prog (Instr.fieldAt 183 (.pointer (some ⟨b, o, none⟩)) 2) w K = K (.pointer (some ⟨b, o + 2, none⟩)) w := X_ok (run_field_183_2 b o w)
theorem XP_field_183_2 (b o : Nat) : XP Try.prog (Instr.fieldAt 183 (.pointer (some ⟨b, o, none⟩)) 2) w K = K (.pointer (some ⟨b, o + 2, none⟩)) w := XP_ok (fun w' => run_field_183_2 b o w')
theorem run_field_183_3 (b o : Nat) (w : World) : Sem.run Try.prog (Instr.fieldAt 183 (.pointer (some ⟨b, o, none⟩)) 3) w = .ok (.pointer (some ⟨b, o + 3, none⟩)) w := by kernel_rfl
theorem X_field_183_3 (b o : Nat) : X Try.prog (Instr.fieldAt 183 (.pointer (some ⟨b, o, none⟩)) 3) w K = K (.pointer (some ⟨b, o + 3, none⟩)) w := X_ok (run_field_183_3 b o w)
theorem XP_field_183_3 (b o : Nat) : XP Try.prog (Instr.fieldAt 183 (.pointer (some ⟨b, o, none⟩)) 3) w K = K (.pointer (some ⟨b, o + 3, none⟩)) w := XP_ok (fun w' => run_field_183_3 b o w')
theorem run_field_183_4 (b o : Nat) (w : World) : Sem.run Try.prog (Instr.fieldAt 183 (.pointer (some ⟨b, o, none⟩)) 4) w = .ok (.pointer (some ⟨b, o + 4, none⟩)) w := by kernel_rfl
theorem X_field_183_4 (b o : Nat) : X Try.prog (Instr.fieldAt 183 (.pointer (some ⟨b, o, none⟩)) 4) w K = K (.pointer (some ⟨b, o + 4, none⟩)) w := X_ok (run_field_183_4 b o w)
theorem XP_field_183_4 (b o : Nat) : XP Try.prog (Instr.fieldAt 183 (.pointer (some ⟨b, o, none⟩)) 4) w K = K (.pointer (some ⟨b, o + 4, none⟩)) w := XP_ok (fun w' => run_field_183_4 b o w')
theorem run_field_183_5 (b o : Nat) (w : World) : Sem.run Try.prog (Instr.fieldAt 183 (.pointer (some ⟨b, o, none⟩)) 5) w = .ok (.pointer (some ⟨b, o + 5, none⟩)) w := by kernel_rfl
theorem X_field_183_5 (b o : Nat) : X Try.prog (Instr.fieldAt 183 (.pointer (some ⟨b, o, none⟩)) 5) w K = K (.pointer (some ⟨b, o + 5, none⟩)) w := X_ok (run_field_183_5 b o w)
theorem XP_field_183_5 (b o : Nat) : XP Try.prog (Instr.fieldAt 183 (.pointer (some ⟨b, o, none⟩)) 5) w K = K (.pointer (some ⟨b, o + 5, none⟩)) w := XP_ok (fun w' => run_field_183_5 b o w')
theorem run_field_186_0 (b o : Nat) (w : World) : Sem.run Try.prog (Instr.fieldAt 186 (.pointer (some ⟨b, o, none⟩)) 0) w = .ok (.pointer (some ⟨b, o, none⟩)) w := by kernel_rfl
theorem X_field_186_0 (b o : Nat) : X Try.prog (Instr.fieldAt 186 (.pointer (some ⟨b, o, none⟩)) 0) w K = K (.pointer (some ⟨b, o, none⟩)) w := X_ok (run_field_186_0 b o w)
theorem XP_field_186_0 (b o : Nat) : XP Try.prog (Instr.fieldAt 186 (.pointer (some ⟨b, o, none⟩)) 0) w K = K (.pointer (some ⟨b, o, none⟩)) w := XP_ok (fun w' => run_field_186_0 b o w')
theorem run_field_186_1 (b o : Nat) (w : World) : Sem.run Try.prog (Instr.fieldAt 186 (.pointer (some ⟨b, o, none⟩)) 1) w = .ok (.pointer (some ⟨b, o + 1, none⟩)) w := by kernel_rfl
theorem X_field_186_1 (b o : Nat) : X Try.prog (Instr.fieldAt 186 (.pointer (some ⟨b, o, none⟩)) 1) w K = K (.pointer (some ⟨b, o + 1, none⟩)) w := X_ok (run_field_186_1 b o w)
theorem XP_field_186_1 (b o : Nat) : XP Try.prog (Instr.fieldAt 186 (.pointer (some ⟨b, o, none⟩)) 1) w K = K (.pointer (some ⟨b, o + 1, none⟩)) w := XP_ok (fun w' => run_field_186_1 b o w')
theorem run_field_196_0 (b o : Nat) (w : World) : Sem.run Try.prog (Instr.fieldAt 196 (.pointer (some ⟨b, o, none⟩)) 0) w = .ok (.pointer (some ⟨b, o, none⟩)) w := by kernel_rfl
theorem X_field_196_0 (b o : Nat) : X Try.prog (Instr.fieldAt 196 (.pointer (some ⟨b, o, none⟩)) 0) w K = K (.pointer (some ⟨b, o, none⟩)) w := X_ok (run_field_196_0 b o w)
theorem XP_field_196_0 (b o : Nat) : XP Try.prog (Instr.fieldAt 196 (.pointer (some ⟨b, o, none⟩)) 0) w K = K (.pointer (some ⟨b, o, none⟩)) w := XP_ok (fun w' => run_field_196_0 b o w')
theorem run_field_196_1 (b o : Nat) (w : World) : Sem.run Try.prog (Instr.fieldAt 196 (.pointer (some ⟨b, o, none⟩)) 1) w = .ok (.pointer (some ⟨b, o + 1, none⟩)) w := by kernel_rfl
theorem X_field_196_1 (b o : Nat) : X Try.prog (Instr.fieldAt 196 (.pointer (some ⟨b, o, none⟩)) 1) w K = K (.pointer (some ⟨b, o + 1, none⟩)) w := X_ok (run_field_196_1 b o w)
theorem XP_field_196_1 (b o : Nat) : XP Try.prog (Instr.fieldAt 196 (.pointer (some ⟨b, o, none⟩)) 1) w K = K (.pointer (some ⟨b, o + 1, none⟩)) w := XP_ok (fun w' => run_field_196_1 b o w')
theorem run_field_196_2 (b o : Nat) (w : World) : Sem.run Try.prog (Instr.fieldAt 196 (.pointer (some ⟨b, o, none⟩)) 2) w = .ok (.pointer (some ⟨b, o + 2, none⟩)) w := by kernel_rfl
theorem X_field_196_2 (b o : Nat) : X Try.prog (Instr.fieldAt 196 (.pointer (some ⟨b, o, none⟩)) 2) w K = K (.pointer (some ⟨b, o + 2, none⟩)) w := X_ok (run_field_196_2 b o w)
theorem XP_field_196_2 (b o : Nat) : XP Try.prog (Instr.fieldAt 196 (.pointer (some ⟨b, o, none⟩)) 2) w K = K (.pointer (some ⟨b, o + 2, none⟩)) w := XP_ok (fun w' => run_field_196_2 b o w')
theorem run_field_196_3 (b o : Nat) (w : World) : Sem.run Try.prog (Instr.fieldAt 196 (.pointer (some ⟨b, o, none⟩)) 3) w = .ok (.pointer (some ⟨b, o + 3, none⟩)) w := by kernel_rfl
theorem X_field_196_3 (b o : Nat) : X Try.prog (Instr.fieldAt 196 (.pointer (some ⟨b, o, none⟩)) 3) w K = K (.pointer (some ⟨b, o + 3, none⟩)) w := X_ok (run_field_196_3 b o w)
theorem XP_field_196_3 (b o : Nat) : XP Try.prog (Instr.fieldAt 196 (.pointer (some ⟨b, o, none⟩)) 3) w K = K (.pointer (some ⟨b, o + 3, none⟩)) w := XP_ok (fun w' => run_field_196_3 b o w')
theorem run_field_200_0 (b o : Nat) (w : World) : Sem.run Try.prog (Instr.fieldAt 200 (.pointer (some ⟨b, o, none⟩)) 0) w = .ok (.pointer (some ⟨b, o, none⟩)) w := by kernel_rfl
theorem X_field_200_0 (b o : Nat) : X Try.prog (Instr.fieldAt 200 (.pointer (some ⟨b, o, none⟩)) 0) w K = K (.pointer (some ⟨b, o, none⟩)) w := X_ok (run_field_200_0 b o w)
theorem XP_field_200_0 (b o : Nat) : XP Try.prog (Instr.fieldAt 200 (.pointer (some ⟨b, o, none⟩)) 0) w K = K (.pointer (some ⟨b, o, none⟩)) w := XP_ok (fun w' => run_field_200_0 b o w')
theorem run_field_200_1 (b o : Nat) (w : World) : Sem.run Try.prog (Instr.fieldAt 200 (.pointer (some ⟨b, o, none⟩)) 1) w = .ok (.pointer (some ⟨b, o + 1, none⟩)) w := by kernel_rfl
theorem X_field_200_1 (b o : Nat) : X Try.prog (Instr.fieldAt 200 (.pointer (some ⟨b, o, none⟩)) 1) w K = K (.pointer (some ⟨b, o + 1, none⟩)) w := X_ok (run_field_200_1 b o w)
theorem XP_field_200_1 (b o : Nat) : XP Try.prog (Instr.fieldAt 200 (.pointer (some ⟨b, o, none⟩)) 1) w K = K (.pointer (some ⟨b, o + 1, none⟩)) w := XP_ok (fun w' => run_field_200_1 b o w')
theorem run_field_204_0 (b o : Nat) (w : World) : Sem.run Try.prog (Instr.fieldAt 204 (.pointer (some ⟨b, o, none⟩)) 0) w = .ok (.pointer (some ⟨b, o, none⟩)) w := by kernel_rfl
theorem X_field_204_0 (b o : Nat) : X Try.prog (Instr.fieldAt 204 (.pointer (some ⟨b, o, none⟩)) 0) w K = K (.pointer (some ⟨b, o, none⟩)) w := X_ok (run_field_204_0 b o w)
theorem XP_field_204_0 (b o : Nat) : XP Try.prog (Instr.fieldAt 204 (.pointer (some ⟨b, o, none⟩)) 0) w K = K (.pointer (some ⟨b, o, none⟩)) w := XP_ok (fun w' => run_field_204_0 b o w')
theorem run_field_204_1 (b o : Nat) (w : World) : Sem.run Try.prog (Instr.fieldAt 204 (.pointer (some ⟨b, o, none⟩)) 1) w = .ok (.pointer (some ⟨b, o + 1, none⟩)) w := by kernel_rfl
theorem X_field_204_1 (b o : Nat) : X Try.prog (Instr.fieldAt 204 (.pointer (some ⟨b, o, none⟩)) 1) w K = K (.pointer (some ⟨b, o + 1, none⟩)) w := X_ok (run_field_204_1 b o w)
theorem XP_field_204_1 (b o : Nat) : XP Try.prog (Instr.fieldAt 204 (.pointer (some ⟨b, o, none⟩)) 1) w K = K (.pointer (some ⟨b, o + 1, none⟩)) w := XP_ok (fun w' => run_field_204_1 b o w')
theorem X_eql_nil_54 (a b : Operand) (p : Option Addr) : X Try.prog (binOpG .eql 54 a b (.pointer p) (.pointer none)) w K = K (.bool p.isNone) w := X_ok (run_eql_nil Try.underlying54 a b p w)
theorem XP_eql_nil_54 (a b : Operand) (p : Option Addr) : XP Try.prog (binOpG .eql 54 a b (.pointer p) (.pointer none)) w K = K (.bool p.isNone) w := XP_ok (fun w' => run_eql_nil Try.underlying54 a b p w')
theorem X_neq_nil_54 (a b : Operand) (p : Option Addr) : X Try.prog (binOpG .neq 54 a b (.pointer p) (.pointer none)) w K = K (.bool p.isSome) w := X_ok (run_neq_nil Try.underlying54 a b p w)
theorem XP_neq_nil_54 (a b : Operand) (p : Option Addr) : XP Try.prog (binOpG .neq 54 a b (.pointer p) (.pointer none)) w K = K (.bool p.isSome) w := XP_ok (fun w' => run_neq_nil Try.underlying54 a b p w')
theorem X_eql_nil_74 (a b : Operand) (p : Option Addr) : X Try.prog (binOpG .eql 74 a b (.pointer p) (.pointer none)) w K = K (.bool p.isNone) w := X_ok (run_eql_nil Try.underlying74 a b p w)
theorem XP_eql_nil_74 (a b : Operand) (p : Option Addr) : XP Try.prog (binOpG .eql 74 a b (.pointer p) (.pointer none)) w K = K (.bool p.isNone) w := XP_ok (fun w' => run_eql_nil Try.underlying74 a b p w')
theorem X_neq_nil_74 (a b : Operand) (p : Option Addr) : X Try.prog (binOpG .neq 74 a b (.pointer p) (.pointer none)) w K = K (.bool p.isSome) w := X_ok (run_neq_nil Try.underlying74 a b p w)
theorem XP_neq_nil_74 (a b : Operand) (p : Option Addr) : XP Try.prog (binOpG .neq 74 a b (.pointer p) (.pointer none)) w K = K (.bool p.isSome) w := XP_ok (fun w' => run_neq_nil Try.underlying74 a b p w')
theorem X_eql_nil_124 (a b : Operand) (p : Option Addr) : X Try.prog (binOpG .eql 124 a b (.pointer p) (.pointer none)) w K = K (.bool p.isNone) w := X_ok (run_eql_nil Try.underlying124 a b p w)
theorem XP_eql_nil_124 (a b : Operand) (p : Option Addr) : XP Try.prog (binOpG .eql 124 a b (.pointer p) (.pointer none)) w K = K (.bool p.isNone) w := XP_ok (fun w' => run_eql_nil Try.underlying124 a b p w')
theorem X_neq_nil_124 (a b : Operand) (p : Option Addr) : X Try.prog (binOpG .neq 124 a b (.pointer p) (.pointer none)) w K = K (.bool p.isSome) w := X_ok (run_neq_nil Try.underlying124 a b p w)
theorem XP_neq_nil_124 (a b : Operand) (p : Option Addr) : XP Try.prog (binOpG .neq 124 a b (.pointer p) (.pointer none)) w K = K (.bool p.isSome) w := XP_ok (fun w' => run_neq_nil Try.underlying124 a b p w')
theorem X_eql_nil_150 (a b : Operand) (p : Option Addr) : X Try.prog (binOpG .eql 150 a b (.pointer p) (.pointer none)) w K = K (.bool p.isNone) w := X_ok (run_eql_nil Try.underlying150 a b p w)
theorem XP_eql_nil_150 (a b : Operand) (p : Option Addr) : XP Try.prog (binOpG .eql 150 a b (.pointer p) (.pointer none)) w K = K (.bool p.isNone) w := XP_ok (fun w' => run_eql_nil Try.underlying150 a b p w')
theorem X_neq_nil_150 (a b : Operand) (p : Option Addr) : X Try.prog (binOpG .neq 150 a b (.pointer p) (.pointer none)) w K = K (.bool p.isSome) w := X_ok (run_neq_nil Try.underlying150 a b p w)
theorem XP_neq_nil_150 (a b : Operand) (p : Option Addr) : XP Try.prog (binOpG .neq 150 a b (.pointer p) (.pointer none)) w K = K (.bool p.isSome) w := XP_ok (fun w' => run_neq_nil Try.underlying150 a b p w')
theorem X_eql_bool_4 (a b : Operand) (x y : Bool) : X Try.prog (binOpG .eql 4 a b (.bool x) (.bool y)) w K = K (.bool (x == y)) w := X_ok (run_eql_bool Try.underlying4 a b x y w)
theorem XP_eql_bool_4 (a b : Operand) (x y : Bool) : XP Try.prog (binOpG .eql 4 a b (.bool x) (.bool y)) w K = K (.bool (x == y)) w := XP_ok (fun w' => run_eql_bool Try.underlying4 a b x y w')
theorem X_neq_bool_4 (a b : Operand) (x y : Bool) : X Try.prog (binOpG .neq 4 a b (.bool x) (.bool y)) w K = K (.bool (x != y)) w := X_ok (run_neq_bool Try.underlying4 a b x y w)
theorem XP_neq_bool_4 (a b : Operand) (x y : Bool) : XP Try.prog (binOpG .neq 4 a b (.bool x) (.bool y)) w K = K (.bool (x != y)) w := XP_ok (fun w' => run_neq_bool Try.underlying4 a b x y w')
end
set_option linter.defProp false in
/-- The rules, in one. -/
def ST := And.intro (And.intro (And.intro (And.intro (And.intro (And.intro (And.intro (And.intro (@agg_3) (And.intro (@sz_3) (@info_3))) (And.intro (And.intro (@agg_4) (@sz_4)) (And.intro (@info_4) (@agg_5)))) (And.intro (And.intro (@sz_5) (And.intro (@info_5) (@agg_9))) (And.intro (And.intro (@sz_9) (@info_9)) (And.intro (@agg_22) (@sz_22))))) (And.intro (And.intro (And.intro (@info_22) (And.intro (@agg_23) (@sz_23))) (And.intro (And.intro (@info_23) (@agg_25)) (And.intro (@sz_25) (@info_25)))) (And.intro (And.intro (And.intro (@agg_27) (@sz_27)) (And.intro (@info_27) (@agg_30))) (And.intro (And.intro (@sz_30) (@info_30)) (And.intro (@agg_31) (@sz_31)))))) (And.intro (And.intro (And.intro (And.intro (@info_31) (And.intro (@agg_38) (@sz_38))) (And.intro (And.intro (@info_38) (@agg_41)) (And.intro (@sz_41) (@info_41)))) (And.intro (And.intro (@agg_46) (And.intro (@sz_46) (@info_46))) (And.intro (And.intro (@agg_49) (@sz_49)) (And.intro (@info_49) (@agg_53))))) (And.intro (And.intro (And.intro (@sz_53) (And.intro (@info_53) (@agg_54))) (And.intro (And.intro (@sz_54) (@info_54)) (And.intro (@agg_57) (@sz_57)))) (And.intro (And.intro (And.intro (@info_57) (@agg_59)) (And.intro (@sz_59) (@info_59))) (And.intro (And.intro (@agg_65) (@sz_65)) (And.intro (@info_65) (@agg_66))))))) (And.intro (And.intro (And.intro (And.intro (And.intro (@sz_66) (And.intro (@info_66) (@agg_69))) (And.intro (And.intro (@sz_69) (@info_69)) (And.intro (@agg_70) (@sz_70)))) (And.intro (And.intro (@info_70) (And.intro (@agg_73) (@sz_73))) (And.intro (And.intro (@info_73) (@agg_74)) (And.intro (@sz_74) (@info_74))))) (And.intro (And.intro (And.intro (@agg_75) (And.intro (@sz_75) (@info_75))) (And.intro (And.intro (@agg_79) (@sz_79)) (And.intro (@info_79) (@agg_80)))) (And.intro (And.intro (And.intro (@sz_80) (@info_80)) (And.intro (@agg_83) (@sz_83))) (And.intro (And.intro (@info_83) (@agg_86)) (And.intro (@sz_86) (@info_86)))))) (And.intro (And.intro (And.intro (And.intro (@agg_89) (And.intro (@sz_89) (@info_89))) (And.intro (And.intro (@agg_92) (@sz_92)) (And.intro (@info_92) (@agg_93)))) (And.intro (And.intro (@sz_93) (And.intro (@info_93) (@agg_100))) (And.intro (And.intro (@sz_100) (@info_100)) (And.intro (@agg_105) (@sz_105))))) (And.intro (And.intro (And.intro (@info_105) (And.intro (@agg_108) (@sz_108))) (And.intro (And.intro (@info_108) (@agg_111)) (And.intro (@sz_111) (@info_111)))) (And.intro (And.intro (And.intro (@agg_113) (@sz_113)) (And.intro (@info_113) (@agg_115))) (And.intro (And.intro (@sz_115) (@info_115)) (And.intro (@agg_116) (@sz_116)))))))) (And.intro (And.intro (And.intro (And.intro (And.intro (And.intro (@info_116) (And.intro (@agg_117) (@sz_117))) (And.intro (And.intro (@info_117) (@agg_119)) (And.intro (@sz_119) (@info_119)))) (And.intro (And.intro (@agg_124) (And.intro (@sz_124) (@info_124))) (And.intro (And.intro (@agg_125) (@sz_125)) (And.intro (@info_125) (@agg_128))))) (And.intro (And.intro (And.intro (@sz_128) (And.intro (@info_128) (@agg_129))) (And.intro (And.intro (@sz_129) (@info_129)) (And.intro (@agg_131) (@sz_131)))) (And.intro (And.intro (And.intro (@info_131) (@agg_135)) (And.intro (@sz_135) (@info_135))) (And.intro (And.intro (@agg_136) (@sz_136)) (And.intro (@info_136) (@agg_138)))))) (And.intro (And.intro (And.intro (And.intro (@sz_138) (And.intro (@info_138) (@agg_139))) (And.intro (And.intro (@sz_139) (@info_139)) (And.intro (@agg_142) (@sz_142)))) (And.intro (And.intro (@info_142) (And.intro (@agg_144) (@sz_144))) (And.intro (And.intro (@info_144) (@agg_146)) (And.intro (@sz_146) (@info_146))))) (And.intro (And.intro (And.intro (@agg_148) (And.intro (@sz_148) (@info_148))) (And.intro (And.intro (@agg_150) (@sz_150)) (And.intro (@info_150) (@agg_151)))) (And.intro (And.intro (And.intro (@sz_151) (@info_151)) (And.intro (@agg_153) (@sz_153))) (And.intro (And.intro (@info_153) (@agg_157)) (And.intro (@sz_157) (@info_157))))))) (And.intro (And.intro (And.intro (And.intro (And.intro (@agg_159) (And.intro (@sz_159) (@info_159))) (And.intro (And.intro (@agg_162) (@sz_162)) (And.intro (@info_162) (@agg_163)))) (And.intro (And.intro (@sz_163) (And.intro (@info_163) (@agg_166))) (And.intro (And.intro (@sz_166) (@info_166)) (And.intro (@agg_169) (@sz_169))))) (And.intro (And.intro (And.intro (@info_169) (And.intro (@agg_173) (@sz_173))) (And.intro (And.intro (@info_173) (@agg_176)) (And.intro (@sz_176) (@info_176)))) (And.intro (And.intro (And.intro (@agg_178) (@sz_178)) (And.intro (@info_178) (@agg_180))) (And.intro (And.intro (@sz_180) (@info_180)) (And.intro (@agg_181) (@sz_181)))))) (And.intro (And.intro (And.intro (And.intro (@info_181) (And.intro (@agg_183) (@sz_183))) (And.intro (And.intro (@info_183) (@agg_184)) (And.intro (@sz_184) (@info_184)))) (And.intro (And.intro (And.intro (@agg_186) (@sz_186)) (And.intro (@info_186) (@agg_191))) (And.intro (And.intro (@sz_191) (@info_191)) (And.intro (@agg_193) (@sz_193))))) (And.intro (And.intro (And.intro (@info_193) (And.intro (@agg_196) (@sz_196))) (And.intro (And.intro (@info_196) (@agg_197)) (And.intro (@sz_197) (@info_197)))) (And.intro (And.intro (And.intro (@agg_200) (@sz_200)) (And.intro (@info_200) (@agg_201))) (And.intro (And.intro (@sz_201) (@info_201)) (And.intro (@agg_204) (@sz_204))))))))) (And.intro (And.intro (And.intro (And.intro (And.intro (And.intro (And.intro (@info_204) (And.intro (@agg_206) (@sz_206))) (And.intro (And.intro (@info_206) (@agg_209)) (And.intro (@sz_209) (@info_209)))) (And.intro (And.intro (@agg_210) (And.intro (@sz_210) (@info_210))) (And.intro (And.intro (@X_len_9) (@XP_len_9)) (And.intro (@X_len_27) (@XP_len_27))))) (And.intro (And.intro (And.intro (@X_len_53) (And.intro (@XP_len_53) (@X_len_65))) (And.intro (And.intro (@XP_len_65) (@X_len_66)) (And.intro (@XP_len_66) (@X_len_70)))) (And.intro (And.intro (And.intro (@XP_len_70) (@X_len_79)) (And.intro (@XP_len_79) (@X_len_83))) (And.intro (And.intro (@XP_len_83) (@X_len_100)) (And.intro (@XP_len_100) (@X_len_116)))))) (And.intro (And.intro (And.intro (And.intro (@XP_len_116) (And.intro (@X_len_128) (@XP_len_128))) (And.intro (And.intro (@X_len_136) (@XP_len_136)) (And.intro (@X_len_146) (@XP_len_146)))) (And.intro (And.intro (@X_len_157) (And.intro (@XP_len_157) (@X_len_180))) (And.intro (And.intro (@XP_len_180) (@X_len_181)) (And.intro (@XP_len_181) (@X_conv_3_5))))) (And.intro (And.intro (And.intro (@XP_conv_3_5) (And.intro (@XR_conv_3_5) (@X_conv_3_22))) (And.intro (And.intro (@XP_conv_3_22) (@XR_conv_3_22)) (And.intro (@X_conv_3_23) (@XP_conv_3_23)))) (And.intro (And.intro (And.intro (@XR_conv_3_23) (@X_conv_3_49)) (And.intro (@XP_conv_3_49) (@XR_conv_3_49))) (And.intro (And.intro (@X_conv_5_3) (@XP_conv_5_3)) (And.intro (@XR_conv_5_3) (@X_conv_5_22))))))) (And.intro (And.intro (And.intro (And.intro (And.intro (@XP_conv_5_22) (And.intro (@XR_conv_5_22) (@X_conv_5_23))) (And.intro (And.intro (@XP_conv_5_23) (@XR_conv_5_23)) (And.intro (@X_conv_22_3) (@XP_conv_22_3)))) (And.intro (And.intro (@XR_conv_22_3) (And.intro (@X_conv_22_5) (@XP_conv_22_5))) (And.intro (And.intro (@XR_conv_22_5) (@X_conv_22_23)) (And.intro (@XP_conv_22_23) (@XR_conv_22_23))))) (And.intro (And.intro (And.intro (@X_conv_23_3) (And.intro (@XP_conv_23_3) (@XR_conv_23_3))) (And.intro (And.intro (@X_conv_23_5) (@XP_conv_23_5)) (And.intro (@XR_conv_23_5) (@X_conv_23_22)))) (And.intro (And.intro (And.intro (@XP_conv_23_22) (@XR_conv_23_22)) (And.intro (@X_conv_49_3) (@XP_conv_49_3))) (And.intro (And.intro (@XR_conv_49_3) (@X_conv_69_3)) (And.intro (@XP_conv_69_3) (@XR_conv_69_3)))))) (And.intro (And.intro (And.intro (And.intro (@X_field_25_0) (And.intro (@XP_field_25_0) (@X_field_25_1))) (And.intro (And.intro (@XP_field_25_1) (@X_field_25_2)) (And.intro (@XP_field_25_2) (@X_field_25_3)))) (And.intro (And.intro (@XP_field_25_3) (And.intro (@X_field_57_0) (@XP_field_57_0))) (And.intro (And.intro (@X_field_57_1) (@XP_field_57_1)) (And.intro (@X_field_57_2) (@XP_field_57_2))))) (And.intro (And.intro (And.intro (@X_field_59_0) (And.intro (@XP_field_59_0) (@X_field_59_1))) (And.intro (And.intro (@XP_field_59_1) (@X_field_86_0)) (And.intro (@XP_field_86_0) (@X_field_86_1)))) (And.intro (And.intro (And.intro (@XP_field_86_1) (@X_field_86_2)) (And.intro (@XP_field_86_2) (@X_field_86_3))) (And.intro (And.intro (@XP_field_86_3) (@X_field_86_4)) (And.intro (@XP_field_86_4) (@X_field_113_0)))))))) (And.intro (And.intro (And.intro (And.intro (And.intro (And.intro (@XP_field_113_0) (And.intro (@X_field_113_1) (@XP_field_113_1))) (And.intro (And.intro (@X_field_115_0) (@XP_field_115_0)) (And.intro (@X_field_115_1) (@XP_field_115_1)))) (And.intro (And.intro (@X_field_131_0) (And.intro (@XP_field_131_0) (@X_field_131_1))) (And.intro (And.intro (@XP_field_131_1) (@X_field_135_0)) (And.intro (@XP_field_135_0) (@X_field_135_1))))) (And.intro (And.intro (And.intro (@XP_field_135_1) (And.intro (@X_field_135_2) (@XP_field_135_2))) (And.intro (And.intro (@X_field_135_3) (@XP_field_135_3)) (And.intro (@X_field_138_0) (@XP_field_138_0)))) (And.intro (And.intro (And.intro (@X_field_138_1) (@XP_field_138_1)) (And.intro (@X_field_138_2) (@XP_field_138_2))) (And.intro (And.intro (@X_field_138_3) (@XP_field_138_3)) (And.intro (@X_field_142_0) (@XP_field_142_0)))))) (And.intro (And.intro (And.intro (And.intro (@X_field_142_1) (And.intro (@XP_field_142_1) (@X_field_142_2))) (And.intro (And.intro (@XP_field_142_2) (@X_field_142_3)) (And.intro (@XP_field_142_3) (@X_field_142_4)))) (And.intro (And.intro (@XP_field_142_4) (And.intro (@X_field_148_0) (@XP_field_148_0))) (And.intro (And.intro (@X_field_148_1) (@XP_field_148_1)) (And.intro (@X_field_148_2) (@XP_field_148_2))))) (And.intro (And.intro (And.intro (@X_field_148_3) (And.intro (@XP_field_148_3) (@X_field_148_4))) (And.intro (And.intro (@XP_field_148_4) (@X_field_159_0)) (And.intro (@XP_field_159_0) (@X_field_159_1)))) (And.intro (And.intro (And.intro (@XP_field_159_1) (@X_field_159_2)) (And.intro (@XP_field_159_2) (@X_field_159_3))) (And.intro (And.intro (@XP_field_159_3) (@X_field_159_4)) (And.intro (@XP_field_159_4) (@X_field_162_0))))))) (And.intro (And.intro (And.intro (And.intro (And.intro (@XP_field_162_0) (And.intro (@X_field_162_1) (@XP_field_162_1))) (And.intro (And.intro (@X_field_176_0) (@XP_field_176_0)) (And.intro (@X_field_176_1) (@XP_field_176_1)))) (And.intro (And.intro (@X_field_183_0) (And.intro (@XP_field_183_0) (@X_field_183_1))) (And.intro (And.intro (@XP_field_183_1) (@X_field_183_2)) (And.intro (@XP_field_183_2) (@X_field_183_3))))) (And.intro (And.intro (And.intro (@XP_field_183_3) (And.intro (@X_field_183_4) (@XP_field_183_4))) (And.intro (And.intro (@X_field_183_5) (@XP_field_183_5)) (And.intro (@X_field_186_0) (@XP_field_186_0)))) (And.intro (And.intro (And.intro (@X_field_186_1) (@XP_field_186_1)) (And.intro (@X_field_196_0) (@XP_field_196_0))) (And.intro (And.intro (@X_field_196_1) (@XP_field_196_1)) (And.intro (@X_field_196_2) (@XP_field_196_2)))))) (And.intro (And.intro (And.intro (And.intro (@X_field_196_3) (And.intro (@XP_field_196_3) (@X_field_200_0))) (And.intro (And.intro (@XP_field_200_0) (@X_field_200_1)) (And.intro (@XP_field_200_1) (@X_field_204_0)))) (And.intro (And.intro (And.intro (@XP_field_204_0) (@X_field_204_1)) (And.intro (@XP_field_204_1) (@X_eql_nil_54))) (And.intro (And.intro (@XP_eql_nil_54) (@X_neq_nil_54)) (And.intro (@XP_neq_nil_54) (@X_eql_nil_74))))) (And.intro (And.intro (And.intro (@XP_eql_nil_74) (And.intro (@X_neq_nil_74) (@XP_neq_nil_74))) (And.intro (And.intro (@X_eql_nil_124) (@XP_eql_nil_124)) (And.intro (@X_neq_nil_124) (@XP_neq_nil_124)))) (And.intro (And.intro (And.intro (@X_eql_nil_150) (@XP_eql_nil_150)) (And.intro (@X_neq_nil_150) (@XP_neq_nil_150))) (And.intro (And.intro (@X_eql_bool_4) (@XP_eql_bool_4)) (And.intro (@X_neq_bool_4) (@XP_neq_bool_4)))))))))
end Go.Proofs.Ytggggfcgnkllgaa
end
section
/- The shallow reading is sound: what it asks of a function's code gives a contract of the function. -/
set_option linter.unusedSimpArgs false
namespace Go.Sh
open Go

def envOf (a : Act) : Env := fun t => a.tmps.getD t undef

theorem ev_envOf (a : Act) (x : Operand) : ev (envOf a) x = a.eval x := by cases x <;> rfl
theorem ev_envOf' (a : Act) : ev (envOf a) = a.eval := funext (ev_envOf a)

theorem envOf_put (a : Act) (d : Option Nat) (v : Value) (h : ∀ t, d = some t → t < a.tmps.size) : envOf (a.put d v) = updO (envOf a) d v := by
  cases d with
  | none => rfl
  | some d =>
    have hd := h d rfl
    funext t
    by_cases e : t = d
    · subst e; simp [envOf, Act.put, updO, upd, hd]
    · simp [envOf, Act.put, updO, upd, e, Array.getElem?_setIfInBounds_ne (Ne.symm e)]

theorem put_size (a : Act) (d : Option Nat) (v : Value) : (a.put d v).tmps.size = a.tmps.size := by cases d <;> simp [Act.put]
theorem put_defers (a : Act) (d : Option Nat) (v : Value) : (a.put d v).defers = a.defers := by cases d <;> rfl

theorem map_list {α β : Type} (xs : Array α) (f : α → β) : (xs.toList.map f).toArray = xs.map f := by
  apply Array.ext'
  simp

theorem upon_value {P : Program} {o : Oper} {a : Act} {w : World} {next : Act → World → Prop} {Q : Exit → Act → World → Prop} {s : Sem Value} {K : Value → World → Prop}
    (he : execOp a.eval o = (do pure (.value (← s)))) (h : X P s w K) (hk : ∀ v w', K v w' → next (a.put o.dst v) w') : o.wp P a w next Q := by
  obtain ⟨v, w', hr, hK⟩ := X_iff.1 h
  unfold Oper.wp
  rw [he]
  simp only [Sem.run_bind, hr, Result.andThen_ok, Sem.run_pure, Oper.upon]
  exact hk _ _ hK

theorem upon_unit {P : Program} {o : Oper} {a : Act} {w : World} {next : Act → World → Prop} {Q : Exit → Act → World → Prop} {s : Sem Unit} {K : World → Prop}
    (he : execOp a.eval o = (do s; pure .skip)) (h : XU P s w K) (hk : ∀ w', K w' → next (a.put o.dst undef) w') : o.wp P a w next Q := by
  obtain ⟨w', hr, hK⟩ := XU_iff.1 h
  unfold Oper.wp
  rw [he]
  simp only [Sem.run_bind, hr, Result.andThen_ok, Sem.run_pure, Oper.upon]
  exact hk _ hK

theorem X_of_no {P : Program} {s : Sem Value} {K : Value → World → Prop} {w : World} {why : String} (e : s = stuck why) (h : X P s w K) : False := by
  obtain ⟨v, w', hr, _⟩ := X_iff.1 h
  subst e
  simp [stuck] at hr

theorem enter_of_callFunc {P : Program} {f : FuncId} {args : Array Value} {w : World} (h : callOk P f = true) : (callFunc f args).run P w = .ok (.enter f args) w := by
  unfold callOk at h
  cases hf : P.funcs[f]? with
  | none => simp [hf] at h
  | some fn =>
    simp only [hf, Bool.and_eq_true, Bool.not_eq_true'] at h
    have h1 : ¬ (fn.name == "runtime.NumGoroutine") = true := by rw [h.1]; simp
    have h2 : ¬ fn.body.isNone = true := by cases hb : fn.body <;> simp_all
    unfold callFunc
    simp only [program, Sem.run_bind, Sem.run, Result.andThen_ok, hf]
    rw [if_neg h1, if_neg h2]
    rfl

theorem calls_wp {P : Program} {o : Oper} {a : Act} {w : World} {next : Act → World → Prop} {Q : Exit → Act → World → Prop} {f : FuncId} {args : Array Value} {K : Value → World → Prop}
    (he : (execOp a.eval o).run P w = (callFunc f args).run P w) (h : CALL P f args w K) (hk : ∀ v w', K v w' → next (a.put o.dst v) w') : o.wp P a w next Q := by
  unfold Oper.wp
  rw [he, enter_of_callFunc h.1]
  simp only [Oper.upon]
  refine h.2.mono fun e w' hh => ?_
  cases e with
  | returned v => exact hk _ _ hh
  | panicked c => exact hh.elim
  | outgrown => exact hh.elim

theorem nilS_eq {P : Program} {v : Value} {K : Value → World → Prop} {w : World} (h : X P (nilS v) w K) {a : Act} {o : Oper} {x : Operand} (ho : o.op = .nilCheck x) (hv : a.eval x = v) {next : Act → World → Prop} {Q : Exit → Act → World → Prop}
    (hk : ∀ v w', K v w' → next (a.put o.dst v) w') : o.wp P a w next Q := by
  obtain ⟨u, w', hr, hK⟩ := X_iff.1 h
  unfold Oper.wp execOp
  simp only [ho, hv]
  cases v with
  | pointer p =>
    cases p with
    | none => simp [nilS, runtimePanic, program, Sem.run, goPanic] at hr
    | some p =>
      simp only [nilS, Sem.run_pure, Result.ok.injEq] at hr
      obtain ⟨rfl, rfl⟩ := hr
      exact hk _ _ hK
  | nilIface => simp [nilS, runtimePanic, program, Sem.run, goPanic] at hr
  | nilFunc => simp [nilS, runtimePanic, program, Sem.run, goPanic] at hr
  | func fn first captured =>
    cases fn with
    | method name => simp [nilS, stuck, Sem.run] at hr
    | _ =>
      simp only [nilS, Sem.run_pure, Result.ok.injEq] at hr
      obtain ⟨rfl, rfl⟩ := hr
      exact hk _ _ hK
  | _ =>
    simp only [nilS, Sem.run_pure, Result.ok.injEq] at hr
    obtain ⟨rfl, rfl⟩ := hr
    exact hk _ _ hK

theorem binOpS_run {P : Program} (op : BinOp) (t : TypeId) (x y : Operand) (a b : Value) (w : World) : (binOpS op t x y a b).run P w = (do eqGuard op t x y a b; binOp op t a b : Sem Value).run P w := by
  cases op <;> first | rfl | (simp only [binOpS, eqGuard]; rfl)

theorem resolve_value {P : Program} {ρ : Operand → Value} {c : Call} {t : TypeId} {x : Operand} (hc : c.callee = .value x) {f : FuncId} {first captured : Array Value} (hx : ρ x = .func (.func f) first captured) (w : World) :
    (do let d ← resolve ρ c t; invoke d.target d.args : Sem Next).run P w = (callFunc f (first ++ c.args.map ρ ++ captured)).run P w := by
  simp only [resolve, hc, hx, Deferred.ofValue, Sem.run_bind, Sem.run_pure, Result.andThen_ok, invoke]

theorem resolve_builtin {P : Program} {ρ : Operand → Value} {c : Call} {t : TypeId} {b : Builtin} (hc : c.callee = .builtin b) (w : World) {v : Value} {w' : World}
    (h : (builtinSem b c.argTypes t (c.args.map ρ)).run P w = .ok v w') :
    (do let d ← resolve ρ c t; invoke d.target d.args : Sem Next).run P w = .ok (.value v) w' := by
  simp only [resolve, hc, Sem.run_bind, Sem.run_pure, Result.andThen_ok, invoke, builtin]
  cases b <;> simp only [builtinSem] at h <;> first
    | (simp only [Sem.run_bind, h, Result.andThen_ok, Sem.run_pure]; done)
    | (simp [stuck] at h; done)

theorem stepS_sound {P : Program} {o : Oper} {a : Act} {w : World} {next : Act → World → Prop} {Q : Exit → Act → World → Prop} {K : Value → World → Prop}
    (h : stepS P (envOf a) o w K) (hk : ∀ v w', K v w' → next (a.put o.dst v) w') : o.wp P a w next Q := by
  unfold stepS at h
  rw [ev_envOf'] at h
  have hm : ∀ (xs : Array Operand), (xs.toList.map a.eval).toArray = xs.map a.eval := fun xs => map_list xs _
  have hp : ∀ (ps : Array (Nat × Operand)), (ps.toList.map fun p => (p.1, a.eval p.2)).toArray = ps.map fun (i, x) => (i, a.eval x) := fun ps => map_list ps _
  cases hop : o.op with
  | move x => simp only [hop] at h; exact upon_value (s := pure (a.eval x)) (by unfold execOp; simp only [hop]; rfl) (X_iff.2 ⟨_, _, rfl, h⟩) hk
  | assign x => simp only [hop] at h; exact upon_value (s := pure (a.eval x)) (by unfold execOp; simp only [hop]; rfl) (X_iff.2 ⟨_, _, rfl, h⟩) hk
  | store t x y => simp only [hop] at h; exact upon_unit (by unfold execOp; simp only [hop]) h (fun w' hw => hk _ _ hw)
  | mapUpdate t m k x => simp only [hop] at h; exact upon_unit (by unfold execOp; simp only [hop]) h (fun w' hw => hk _ _ hw)
  | insert t m k x => simp only [hop] at h; exact upon_unit (by unfold execOp; simp only [hop]) h (fun w' hw => hk _ _ hw)
  | call c =>
    simp only [hop] at h
    unfold callS at h
    rw [ev_envOf', hm] at h
    cases hc : c.callee with
    | value x =>
      have key : ∀ f first captured, a.eval x = .func (.func f) first captured → CALL P f (first ++ c.args.map a.eval ++ captured) w K → o.wp P a w next Q := by
        intro f first captured hx hcall
        refine calls_wp ?_ hcall hk
        unfold execOp
        simp only [hop]
        exact resolve_value hc hx w
      cases x with
      | func f =>
        simp only [hc] at h
        exact key f #[] #[] rfl (by simpa using h)
      | tmp t =>
        simp only [hc, closS] at h
        split at h
        · rename_i f first captured hx
          exact key _ _ _ hx h
        · exact h.elim
      | const v =>
        simp only [hc, closS] at h
        split at h
        · rename_i f first captured hx
          exact key _ _ _ hx h
        · exact h.elim
      | global g => simp only [hc, closS, Act.eval] at h
    | invoke r m => simp only [hc] at h
    | builtin b =>
      simp only [hc] at h
      obtain ⟨v, w', hr, hK⟩ := X_iff.1 h
      unfold Oper.wp execOp
      simp only [hop]
      rw [resolve_builtin hc w hr]
      exact hk _ _ hK
  | nilCheck x =>
    simp only [hop, opSem, ev_envOf'] at h
    exact nilS_eq h hop rfl hk
  | pick c x y =>
    simp only [hop, opSem, ev_envOf'] at h
    obtain ⟨v, w', hr, hK⟩ := X_iff.1 h
    unfold Oper.wp execOp
    simp only [hop]
    simp only [pickS, Sem.run_bind] at hr ⊢
    generalize (asBool (a.eval c)).run P w = r at hr ⊢
    cases r with
    | ok b w1 =>
      simp only [Result.andThen_ok, Sem.run_pure, Result.ok.injEq] at hr
      obtain ⟨rfl, rfl⟩ := hr
      exact hk _ _ hK
    | halt x w1 => simp [Result.andThen] at hr
  | binOp op t x y u =>
    simp only [hop, opSem, ev_envOf'] at h
    obtain ⟨v, w', hr, hK⟩ := X_iff.1 h
    rw [binOpS_run] at hr
    exact upon_value (s := do eqGuard op t x y (a.eval x) (a.eval y); binOp op t (a.eval x) (a.eval y)) (by unfold execOp; simp only [hop]) (X_iff.2 ⟨v, w', hr, hK⟩) hk
  | _ =>
    simp only [hop, opSem, ev_envOf', hm, hp] at h
    first
      | exact (X_of_no rfl h).elim
      | exact upon_value (by unfold execOp; simp only [hop]) h hk

theorem yielded_gval {ops : Array Oper} {a : Act} {j : Nat} {b : Bool} : yielded ops a.tmps j = some b ↔ gval ops (envOf a) j = .bool b := by
  unfold yielded gval envOf
  cases hd : (ops[j]?).bind (·.dst) with
  | none => simp [undef]
  | some d =>
    simp only [Option.bind_some]
    cases ht : a.tmps[d]? with
    | none => simp [ht, undef, Array.getD_eq_getD_getElem?]
    | some v => simp only [Array.getD_eq_getD_getElem?, ht, Option.getD_some]; cases v <;> simp

theorem yielded_none {ops : Array Oper} {a : Act} {j : Nat} (h : ∀ b, gval ops (envOf a) j ≠ .bool b) : yielded ops a.tmps j = none := by
  cases hy : yielded ops a.tmps j with
  | none => rfl
  | some b => exact absurd (yielded_gval.1 hy) (h b)

theorem wanted_none {o : Oper} {y : Nat → Option Bool} (h : o.guard = none) : Region.wanted o y = true := by simp [Region.wanted, h]

/-- The guard decides: the step, or nothing. -/
theorem gstep_cases {ops : Array Oper} {a : Act} {o : Oper} {j : Nat} {want : Bool} (hg : o.guard = some (j, want)) {S : World → (Value → World → Prop) → Prop} {K : Value → World → Prop} {w : World}
    (h : gstep (gval ops (envOf a) j) want S w K) : (Region.wanted o (yielded ops a.tmps) = true ∧ S w K) ∨ (Region.wanted o (yielded ops a.tmps) = false ∧ K undef w) := by
  unfold gstep at h
  split at h
  · rename_i b hb
    have hy := yielded_gval.2 hb
    split at h
    · rename_i e; subst e
      exact .inl ⟨by simp [Region.wanted, hg, hy], h⟩
    · rename_i e
      exact .inr ⟨by simp [Region.wanted, hg, hy, e], h⟩
  · rename_i hne
    have hy := yielded_none (ops := ops) (a := a) (j := j) (fun b hb => hne b hb)
    exact .inr ⟨by simp [Region.wanted, hg, hy], h⟩

/-- How a region's post is read off the frame. -/
def liftQ (n : Nat) (Q : Exit → Env → World → Prop) : Exit → Act → World → Prop
  | .panic _, _, _ => False
  | .outgrown, _, _ => False
  | e, a, w => a.tmps.size = n ∧ a.defers = [] ∧ Q e (envOf a) w

theorem opsS_sound {P : Program} {n : Nat} {ops : Array Oper} {Q : Exit → Env → World → Prop} : ∀ (l : List Oper) (a : Act) (w : World), (∀ o ∈ l, dstOk n o = true) → a.tmps.size = n → a.defers = [] →
    opsS P ops (Q .normal) l (envOf a) w → wpList P ops (liftQ n Q) l a w := by
  intro l
  induction l with
  | nil => intro a w _ hn hd h; exact ⟨hn, hd, h⟩
  | cons o rest ih =>
    intro a w hl hn hd h
    have hdst : ∀ t, o.dst = some t → t < a.tmps.size := by
      intro t ht
      have := hl o (by simp)
      simp only [dstOk, ht, decide_eq_true_eq] at this
      exact hn ▸ this
    have next : ∀ v w', opsS P ops (Q .normal) rest (updO (envOf a) o.dst v) w' → wpList P ops (liftQ n Q) rest (a.put o.dst v) w' := by
      intro v w' hh
      refine ih _ _ (fun o ho => hl o (by simp [ho])) (by rw [put_size]; exact hn) (by rw [put_defers]; exact hd) ?_
      rw [envOf_put a o.dst v hdst]
      exact hh
    unfold opsS stepG at h
    unfold wpList
    cases hg : o.guard with
    | none =>
      simp only [hg] at h
      rw [if_pos (wanted_none hg)]
      exact .inl (stepS_sound h next)
    | some jw =>
      obtain ⟨j, want⟩ := jw
      simp only [hg] at h
      rcases gstep_cases hg h with ⟨hw, hs⟩ | ⟨hw, hs⟩
      · rw [if_pos hw]; exact .inl (stepS_sound hs next)
      · rw [if_neg (by simp [hw])]; exact next _ _ hs

/-! ### The order is open -/

def wpAnyR (P : Program) (ops : Array Oper) (Q : Exit → Act → World → Prop) (R : World → World → Prop) : Nat → Array Bool → Act → World → Prop
  | 0, listed, a, w => Region.ready .any ops listed = [] ∧ Q .normal a w
  | fuel + 1, listed, a, w =>
    (Region.ready .any ops listed = [] → Q .normal a w) ∧
    ∀ i ∈ Region.ready .any ops listed, wpOp P ops Q i (fun a' w' => (chkB ops listed i = true → R w w') ∧ wpAnyR P ops Q R fuel (listed.setIfInBounds i true) a' w') a w

section
variable {P : Program} {ops : Array Oper} {Q : Exit → Act → World → Prop} {R : World → World → Prop}

theorem wpAny_of_R : ∀ (fuel : Nat) (listed : Array Bool) (a : Act) (w : World), wpAnyR P ops Q R fuel listed a w → wpAny P .any ops Q fuel listed a w
  | 0, _, _, _, h => h
  | fuel + 1, _, _, _, h => ⟨h.1, fun i hi => wpOp_mono (fun a' w' h' => wpAny_of_R fuel _ a' w' h'.2) (h.2 i hi)⟩

theorem chkB_mono {listed : Array Bool} {i j : Nat} (h : chkB ops listed j = true) : chkB ops (listed.setIfInBounds i true) j = true := by
  unfold chkB at *
  cases hj : ops[j]? with
  | none => simp [hj] at h
  | some oj =>
    simp only [hj, List.any_eq_true, List.mem_range, Bool.and_eq_true] at h ⊢
    obtain ⟨k, hk, ⟨h1, h2⟩, h3⟩ := h
    exact ⟨k, hk, ⟨getD_set_true h1, h2⟩, h3⟩

theorem chkB_reader {listed : Array Bool} {i j : Nat} {oj : Oper} (hj : ops[j]? = some oj) (hi : readsB ops i = true) (hlt : i < listed.size) (hno : ∀ e ∈ oj.after, Region.binds .any e = true → e.on ≠ i) :
    chkB ops (listed.setIfInBounds i true) j = true := by
  unfold chkB
  simp only [hj, List.any_eq_true, List.mem_range, Bool.and_eq_true]
  have hio : i < ops.size := by
    unfold readsB at hi
    cases h : ops[i]? with
    | none => simp [h] at hi
    | some o => exact (Array.getElem?_eq_some_iff.1 h).1
  refine ⟨i, hio, ⟨by simp [hlt], hi⟩, ?_⟩
  unfold waitsB
  simp only [Bool.not_eq_true', Bool.eq_false_iff, ne_eq, Array.any_eq_true', Bool.and_eq_true, beq_iff_eq, not_exists, not_and]
  exact fun e he hb => hno e he hb

theorem lt_of_ready {i : Nat} {listed : Array Bool} (h : i ∈ Region.ready .any ops listed) : i < listed.size := by
  have h0 := (mem_ready.1 h).1
  rcases Nat.lt_or_ge i listed.size with h' | h'
  · exact h'
  · simp [Array.getElem?_eq_none h'] at h0

theorem yieldsIf_weaken {S S' : World → Prop} {o : Oper} {v : Value} {a : Act} (hs : ∀ w, S' w → S w) (h : YieldsIf P ops S o v a) : YieldsIf P ops S' o v a :=
  h.imp (fun ⟨a, b⟩ => ⟨a, fun w hw => b w (hs w hw)⟩) id

/-- One that may come up may be taken: it looks at memory. -/
theorem takeR {i : Nat} {oi : Oper} {v : Value} (fr : Frame? R) (hi : ops[i]? = some oi) (hsel : ∀ (j : Nat) (o : Oper) cs b, ops[j]? = some o → o.op ≠ .select cs b)
    (hQ : ∀ c a w, Q (.panic c) (a.put oi.dst v) w → Q (.panic c) a w) (hrd : readsB ops i = true) :
    ∀ (fuel : Nat) (listed : Array Bool) (a : Act) (w : World),
      (∀ j oj, ops[j]? = some oj → j ≠ i → listed.getD j true = false → (∀ e ∈ oj.after, Region.binds .any e = true → e.on ≠ i) → oi.apart ops oj = true) →
      i ∈ Region.ready .any ops listed → YieldsIf P ops (R w) oi v a →
      wpAnyR P ops Q R fuel (listed.setIfInBounds i true) (a.put oi.dst v) w → wpAnyR P ops Q R (fuel + 1) listed a w := by
  intro fuel
  induction fuel with
  | zero =>
    intro listed a w _ hr hy H
    refine ⟨fun h => (by rw [h] at hr; cases hr), fun j hj => ?_⟩
    by_cases hji : j = i
    · subst hji; exact hy.wpOp hi (fr.refl w) ⟨fun _ => fr.refl w, H⟩
    · have := ready_mono hj hji
      rw [H.1] at this
      cases this
  | succ fuel ih =>
    intro listed a w hfree hr hy H
    refine ⟨fun h => (by rw [h] at hr; cases hr), fun j hj => ?_⟩
    by_cases hji : j = i
    · subst hji; exact hy.wpOp hi (fr.refl w) ⟨fun _ => fr.refl w, H⟩
    · have h1 := H.2 j (ready_mono hj hji)
      obtain ⟨hjun, oj, hoj, hall⟩ := mem_ready.1 hj
      have hnot : ∀ e ∈ oj.after, Region.binds .any e = true → e.on ≠ i := fun e he hb heq => by
        have h1 := hall e he hb
        have h0 := (mem_ready.1 hr).1
        rw [heq] at h1
        rcases Nat.lt_or_ge i listed.size with h' | h'
        · simp [h'] at h0 h1; rw [h0] at h1; cases h1
        · simp [Array.getElem?_eq_none h'] at h1
      have h2 := wpOp_putIf hoj (hfree j oj hoj hji hjun hnot) (fun cs b => hsel i oi cs b hi) (fun cs b => hsel j oj cs b hoj) hQ hy h1
      have hfree' : ∀ k ok, ops[k]? = some ok → k ≠ i → (listed.setIfInBounds j true).getD k true = false →
          (∀ e ∈ ok.after, Region.binds .any e = true → e.on ≠ i) → oi.apart ops ok = true := fun k ok hk hki hun hno => by
        refine hfree k ok hk hki ?_ hno
        by_cases hjk : j = k
        · subst hjk; exact hjun
        · rw [getD_set_ne true hjk] at hun; exact hun
      have hchk := chkB_reader (listed := listed) hoj hrd (lt_of_ready hr) hnot
      refine wpOp_mono (fun a' w' h3 => ⟨fun _ => h3.2.1 hchk, ih (listed.setIfInBounds j true) a' w' hfree' (ready_mono hr (Ne.symm hji))
        (yieldsIf_weaken (fun w2 hw2 => fr.trans _ _ _ (h3.2.1 hchk) hw2) h3.1) ?_⟩) h2
      rw [Array.setIfInBounds_comm _ _ hji]
      exact h3.2.2

/-- One that may come up may be taken: it looks at no memory. -/
theorem takeP {i : Nat} {oi : Oper} {v : Value} (fr : Frame? R) (hi : ops[i]? = some oi) (hsel : ∀ (j : Nat) (o : Oper) cs b, ops[j]? = some o → o.op ≠ .select cs b)
    (hQ : ∀ c a w, Q (.panic c) (a.put oi.dst v) w → Q (.panic c) a w) :
    ∀ (fuel : Nat) (listed : Array Bool) (a : Act) (w : World),
      (∀ j oj, ops[j]? = some oj → j ≠ i → listed.getD j true = false → (∀ e ∈ oj.after, Region.binds .any e = true → e.on ≠ i) → oi.apart ops oj = true) →
      i ∈ Region.ready .any ops listed → Yields P ops oi v a →
      wpAnyR P ops Q R fuel (listed.setIfInBounds i true) (a.put oi.dst v) w → wpAnyR P ops Q R (fuel + 1) listed a w := by
  intro fuel
  induction fuel with
  | zero =>
    intro listed a w _ hr hy H
    refine ⟨fun h => (by rw [h] at hr; cases hr), fun j hj => ?_⟩
    by_cases hji : j = i
    · subst hji; exact hy.wpOp hi ⟨fun _ => fr.refl w, H⟩
    · have := ready_mono hj hji
      rw [H.1] at this
      cases this
  | succ fuel ih =>
    intro listed a w hfree hr hy H
    refine ⟨fun h => (by rw [h] at hr; cases hr), fun j hj => ?_⟩
    by_cases hji : j = i
    · subst hji; exact hy.wpOp hi ⟨fun _ => fr.refl w, H⟩
    · have h1 := H.2 j (ready_mono hj hji)
      obtain ⟨hjun, oj, hoj, hall⟩ := mem_ready.1 hj
      have hnot : ∀ e ∈ oj.after, Region.binds .any e = true → e.on ≠ i := fun e he hb heq => by
        have h1 := hall e he hb
        have h0 := (mem_ready.1 hr).1
        rw [heq] at h1
        rcases Nat.lt_or_ge i listed.size with h' | h'
        · simp [h'] at h0 h1; rw [h0] at h1; cases h1
        · simp [Array.getElem?_eq_none h'] at h1
      have h2 := wpOp_put hoj (hfree j oj hoj hji hjun hnot) (fun cs b => hsel i oi cs b hi) (fun cs b => hsel j oj cs b hoj) hQ hy h1
      have hfree' : ∀ k ok, ops[k]? = some ok → k ≠ i → (listed.setIfInBounds j true).getD k true = false →
          (∀ e ∈ ok.after, Region.binds .any e = true → e.on ≠ i) → oi.apart ops ok = true := fun k ok hk hki hun hno => by
        refine hfree k ok hk hki ?_ hno
        by_cases hjk : j = k
        · subst hjk; exact hjun
        · rw [getD_set_ne true hjk] at hun; exact hun
      refine wpOp_mono (fun a' w' h3 => ⟨fun hc => h3.2.1 (chkB_mono hc), ih (listed.setIfInBounds j true) a' w' hfree' (ready_mono hr (Ne.symm hji)) h3.1 ?_⟩) h2
      rw [Array.setIfInBounds_comm _ _ hji]
      exact h3.2.2
end

theorem semOf_run {P : Program} {a : Act} {o : Oper} {w w' : World} {v : Value} (hk : kindOf o ≠ 2) (h : (semOf (envOf a) o).run P w = .ok v w') : (execOp a.eval o).run P w = .ok (.value v) w' := by
  -- one that is carried out as a step is carried out so
  have key : ∀ (K : Value → World → Prop), X P (semOf (envOf a) o) w K → stepS P (envOf a) o w K := by
    intro K hX
    unfold stepS
    unfold semOf at hX
    cases hop : o.op with
    | move x => simp only [hop, opSem] at hX ⊢; obtain ⟨v, w', hr, hK⟩ := X_iff.1 hX; simp only [Sem.run_pure, Result.ok.injEq] at hr; obtain ⟨rfl, rfl⟩ := hr; exact hK
    | assign x => simp only [hop, opSem] at hX ⊢; obtain ⟨v, w', hr, hK⟩ := X_iff.1 hX; simp only [Sem.run_pure, Result.ok.injEq] at hr; obtain ⟨rfl, rfl⟩ := hr; exact hK
    | store t x y => simp [kindOf, hop] at hk
    | mapUpdate t m k x => simp [kindOf, hop] at hk
    | insert t m k x => simp [kindOf, hop] at hk
    | call c =>
      obtain ⟨callee, args, ts⟩ := c
      cases callee with
      | value x => simp [kindOf, hop] at hk
      | invoke r m => simp [kindOf, hop] at hk
      | builtin b => simp only [hop] at hX ⊢; exact hX
    | _ => simp only [hop] at hX ⊢; exact hX
  have h1 : stepS P (envOf a) o w (fun u w2 => u = v ∧ w2 = w') := key _ (X_iff.2 ⟨v, w', h, rfl, rfl⟩)
  -- a step with no effect beyond its value
  by_cases hc : ∃ c, o.op = .call c
  · obtain ⟨c, hop⟩ := hc
    obtain ⟨callee, args, ts⟩ := c
    cases callee with
    | value x => simp [kindOf, hop] at hk
    | invoke r m => simp [kindOf, hop] at hk
    | builtin b =>
      unfold execOp
      simp only [hop]
      refine resolve_builtin rfl w ?_
      rw [← map_list]
      simpa only [semOf, hop, ev_envOf'] using h
  · have hq : o.wp P a w (fun a' w2 => True) (fun _ _ _ => False) := stepS_sound h1 (fun _ _ _ => trivial)
    clear hq
    have hp : ∀ (ps : Array (Nat × Operand)), (ps.toList.map fun p => (p.1, a.eval p.2)).toArray = ps.map fun (i, x) => (i, a.eval x) := fun ps => map_list ps _
    cases hop : o.op with
    | call c => exact absurd ⟨c, hop⟩ hc
    | binOp op t x y u =>
      simp only [semOf, hop, opSem, ev_envOf'] at h
      rw [binOpS_run] at h
      unfold execOp
      simp only [hop]
      rw [Sem.run_bind, h]
      rfl
    | nilCheck x =>
      simp only [semOf, hop, opSem, ev_envOf'] at h
      unfold execOp
      simp only [hop]
      cases hv : a.eval x with
      | pointer p =>
        cases p with
        | none => simp [hv, nilS, runtimePanic, program, Sem.run, goPanic] at h
        | some p => simpa [hv, nilS] using h
      | nilIface => simp [hv, nilS, runtimePanic, program, Sem.run, goPanic] at h
      | nilFunc => simp [hv, nilS, runtimePanic, program, Sem.run, goPanic] at h
      | func fn first captured =>
        cases fn with
        | method name => simp [hv, nilS, stuck] at h
        | _ => simpa [hv, nilS] using h
      | _ => simpa [hv, nilS] using h
    | _ =>
      simp only [semOf, hop, opSem, ev_envOf', map_list, hp] at h
      first
        | (simp [kindOf, hop] at hk; done)
        | (simp [stuck] at h; done)
        | (unfold execOp
           simp only [hop]
           first
             | (simp only [Sem.run_bind, h, Result.andThen_ok, Sem.run_pure]; done)
             | (simp only [Sem.run_pure, Result.ok.injEq] at h ⊢; obtain ⟨rfl, rfl⟩ := h; exact ⟨rfl, rfl⟩)
             | (simp only [pickS, binOpG, Sem.run_bind] at h ⊢; generalize hr : Sem.run P _ w = r at h ⊢; cases r <;> simp_all [Result.andThen])
             | skip)

/-! ### The region whose order is open, as a whole -/

theorem takeS_yields {P : Program} {R : World → World → Prop} {a : Act} {o : Oper} {w : World} {K : Value → World → Prop} (hk : kindOf o ≠ 2) (h : takeS P R (envOf a) o w K) :
    ∃ v, K v w ∧ ((∀ w', (execOp a.eval o).run P w' = .ok (.value v) w') ∨ (kindOf o = 1 ∧ ∀ w', R w w' → (execOp a.eval o).run P w' = .ok (.value v) w')) := by
  have step : ∀ {K : Value → World → Prop}, (match kindOf o with | 0 => XP P (semOf (envOf a) o) w K | _ => XR P R (semOf (envOf a) o) w K) →
      ∃ v, K v w ∧ ((∀ w', (execOp a.eval o).run P w' = .ok (.value v) w') ∨ (kindOf o = 1 ∧ ∀ w', R w w' → (execOp a.eval o).run P w' = .ok (.value v) w')) := by
    intro K h
    by_cases h0 : kindOf o = 0
    · simp only [h0] at h
      obtain ⟨v, hv, hK⟩ := XP_iff.1 h
      exact ⟨v, hK, .inl fun w' => semOf_run hk (hv w')⟩
    · have h1 : kindOf o = 1 := by
        have : kindOf o = 0 ∨ kindOf o = 1 ∨ kindOf o = 2 := by
          unfold kindOf
          repeat' split
          all_goals simp
        omega
      simp only [h1] at h
      obtain ⟨v, hv, hK⟩ := XR_imp h
      exact ⟨v, hK, .inr ⟨h1, fun w' hw => semOf_run hk (hv w' hw)⟩⟩
  unfold takeS at h
  cases hop : o.op with
  | move x =>
    simp only [hop] at h
    refine ⟨_, h, .inl fun w' => ?_⟩
    unfold execOp
    simp only [hop, Sem.run_pure, ev_envOf]
  | assign x =>
    simp only [hop] at h
    refine ⟨_, h, .inl fun w' => ?_⟩
    unfold execOp
    simp only [hop, Sem.run_pure, ev_envOf]
  | _ => simp only [hop] at h; exact step h

def leftOf (l : Array Bool) : Nat := l.toList.countP (fun b => !b)
theorem countP_set_true : ∀ (l : List Bool) (i : Nat), l[i]? = some false → (l.set i true).countP (fun b => !b) + 1 = l.countP (fun b => !b)
  | [], i, h => by simp at h
  | b :: l, 0, h => by
    simp at h
    subst h
    simp
  | b :: l, i + 1, h => by
    have := countP_set_true l i (by simpa using h)
    simp only [List.set_cons_succ, List.countP_cons]
    omega
theorem leftOf_set {l : Array Bool} {i : Nat} (hlt : i < l.size) (h : l.getD i true = false) : leftOf (l.setIfInBounds i true) + 1 = leftOf l := by
  unfold leftOf
  have e : (l.setIfInBounds i true).toList = l.toList.set i true := by simp
  rw [e]
  refine countP_set_true _ _ ?_
  rw [Array.getElem?_toList]
  simpa [Array.getD_eq_getD_getElem?, Array.getElem?_eq_getElem hlt] using h
theorem leftOf_zero {l : Array Bool} (h : leftOf l = 0) (j : Nat) : l.getD j true = true := by
  unfold leftOf at h
  rw [List.countP_eq_zero] at h
  rw [Array.getD_eq_getD_getElem?]
  cases hj : l[j]? with
  | none => rfl
  | some b =>
    have := h b (by rw [← Array.getElem?_toList] at hj; exact List.mem_of_getElem? hj)
    simpa using this

theorem anyS_sound {P : Program} {R : World → World → Prop} (fr : Frame? R) {n : Nat} {ops : Array Oper} {Q : Exit → Env → World → Prop} (hops : ops.all (dstOk n) = true) (hsel : noSel ops = true) :
    ∀ (fuel : Nat) (listed : Array Bool) (a : Act) (w : World), a.tmps.size = n → a.defers = [] → (fuel = 0 → Region.ready .any ops listed = []) → listed.size = ops.size →
      leftOf listed ≤ fuel →
      anyS P R ops (Q .normal) fuel listed (envOf a) w → wpAnyR P ops (liftQ n Q) R fuel listed a w := by
  intro fuel
  induction fuel with
  | zero =>
    intro listed a w hn hd h0 _ _ h
    exact ⟨h0 rfl, hn, hd, h⟩
  | succ fuel ih =>
    intro listed a w hn hd _ hls hcount h
    have hQ : ∀ (o : Oper) (v : Value) (c : List PanicEntry) (a : Act) (w : World), liftQ n Q (.panic c) (a.put o.dst v) w → liftQ n Q (.panic c) a w := fun _ _ _ _ _ h => h.elim
    -- one more is laid: fewer are left
    have hless : ∀ i, i ∈ Region.ready .any ops listed → leftOf (listed.setIfInBounds i true) ≤ fuel := by
      intro i hi
      have := leftOf_set (lt_of_ready hi) (mem_ready.1 hi).1
      omega
    have hend : ∀ i, i ∈ Region.ready .any ops listed → (fuel = 0 → Region.ready .any ops (listed.setIfInBounds i true) = []) := by
      intro i hi h0
      have hc := hless i hi
      cases hr : Region.ready .any ops (listed.setIfInBounds i true) with
      | nil => rfl
      | cons j l =>
        have hj : j ∈ Region.ready .any ops (listed.setIfInBounds i true) := by rw [hr]; simp
        have h1 := (mem_ready.1 hj).1
        rw [leftOf_zero (by omega)] at h1
        cases h1
    have hdst : ∀ (i : Nat) (o : Oper), ops[i]? = some o → ∀ t, o.dst = some t → t < a.tmps.size := by
      intro i o ho t ht
      have := Array.all_eq_true_iff_forall_mem.1 hops o (Array.mem_of_getElem? ho)
      simp only [dstOk, ht, decide_eq_true_eq] at this
      exact hn ▸ this
    have next : ∀ (i : Nat) (o : Oper) (v : Value) (w' : World), i ∈ Region.ready .any ops listed → ops[i]? = some o →
        anyS P R ops (Q .normal) fuel (listed.setIfInBounds i true) (updO (envOf a) (ops.getD i default).dst v) w' → wpAnyR P ops (liftQ n Q) R fuel (listed.setIfInBounds i true) (a.put o.dst v) w' := by
      intro i o v w' hi ho hh
      have e : ops.getD i default = o := by simp [Array.getD_eq_getD_getElem?, ho]
      rw [e, ← envOf_put a o.dst v (hdst i o ho)] at hh
      exact ih _ _ _ (by rw [put_size]; exact hn) (by rw [put_defers]; exact hd) (hend i hi) (by simpa using hls) (hless i hi) hh
    unfold anyS at h
    cases hrd : Region.ready .any ops listed with
    | nil =>
      simp only [hrd] at h
      refine ⟨fun _ => ⟨hn, hd, h⟩, fun i hi => ?_⟩
      rw [hrd] at hi
      cases hi
    | cons i0 l =>
      simp only [hrd] at h
      cases hf : (i0 :: l).find? (canTake ops listed) with
      | some i =>
        simp only [hf] at h
        have hi : i ∈ Region.ready .any ops listed := by rw [hrd]; exact List.mem_of_find?_eq_some hf
        have hcan : canTake ops listed i = true := List.find?_some hf
        obtain ⟨_, o, ho, _⟩ := mem_ready.1 hi
        simp only [canTake, ho, Bool.and_eq_true, bne_iff_ne, ne_eq] at hcan
        obtain ⟨hk, hfree⟩ := hcan
        have e : ops.getD i default = o := by simp [Array.getD_eq_getD_getElem?, ho]
        -- the value that it yields
        have hy : ∃ v : Value, anyS P R ops (Q .normal) fuel (listed.setIfInBounds i true) (updO (envOf a) (ops.getD i default).dst v) w ∧ (Yields P ops o v a ∨ (kindOf o = 1 ∧ YieldsIf P ops (R w) o v a)) := by
          have fromS : ∀ {K : Value → World → Prop}, takeS P R (envOf a) o w K → Region.wanted o (yielded ops a.tmps) = true → ∃ v, K v w ∧ (Yields P ops o v a ∨ (kindOf o = 1 ∧ YieldsIf P ops (R w) o v a)) := by
            intro K hs hw
            obtain ⟨v, hK, hv⟩ := takeS_yields hk hs
            rcases hv with hv | ⟨h1, hv⟩
            · exact ⟨v, hK, .inl (.inl ⟨hw, hv⟩)⟩
            · exact ⟨v, hK, .inr ⟨h1, .inl ⟨hw, hv⟩⟩⟩
          unfold takeG at h
          rw [e] at h ⊢
          cases hg : o.guard with
          | none =>
            simp only [hg] at h
            exact fromS h (wanted_none hg)
          | some jw =>
            obtain ⟨j, want⟩ := jw
            simp only [hg] at h
            rcases gstep_cases hg h with ⟨hw, hs⟩ | ⟨hw, hs⟩
            · exact fromS hs hw
            · exact ⟨undef, hs, .inl (.inr ⟨hw, rfl⟩)⟩
        obtain ⟨v, hK, hy⟩ := hy
        have hn2 := next i o v w hi ho hK
        rcases hy with hy | ⟨h1, hy⟩
        · exact takeP fr ho (Region.noSelect_spec hsel) (hQ o v) fuel listed a w (Region.free_spec ho hfree) hi hy hn2
        · exact takeR fr ho (Region.noSelect_spec hsel) (hQ o v) (by simp [readsB, ho, h1]) fuel listed a w (Region.free_spec ho hfree) hi hy hn2
      | none =>
        simp only [hf] at h
        refine ⟨fun h0 => (by rw [hrd] at h0; cases h0), fun i hi => ?_⟩
        have hall : ∀ (l : List Nat) (f : Nat → Prop), allL f l → ∀ i ∈ l, f i := by
          intro l
          induction l with
          | nil => intro f _ i hi; cases hi
          | cons x l ihl =>
            intro f hl i hi
            cases l with
            | nil => rcases List.mem_cons.1 hi with rfl | hi <;> first | exact hl | cases hi
            | cons y l =>
              rcases List.mem_cons.1 hi with rfl | hi
              · exact hl.1
              · exact ihl f hl.2 i hi
        have hs := hall _ _ h i (by rw [← hrd]; exact hi)
        obtain ⟨_, o, ho, _⟩ := mem_ready.1 hi
        have e : ops.getD i default = o := by simp [Array.getD_eq_getD_getElem?, ho]
        have split : ∀ v w', andIf (chkB ops listed i) (R w w') (anyS P R ops (Q .normal) fuel (listed.setIfInBounds i true) (updO (envOf a) (ops.getD i default).dst v) w') →
            (chkB ops listed i = true → R w w') ∧ wpAnyR P ops (liftQ n Q) R fuel (listed.setIfInBounds i true) (a.put o.dst v) w' := by
          intro v w' hh
          unfold andIf at hh
          split at hh
          · exact ⟨fun _ => hh.1, next i o v w' hi ho hh.2⟩
          · rename_i hc
            exact ⟨fun h' => (by rw [hc] at h'; cases h'), next i o v w' hi ho hh⟩
        unfold wpOp
        simp only [ho]
        unfold stepG at hs
        simp only [e] at hs split
        cases hg : o.guard with
        | none =>
          simp only [hg] at hs
          rw [if_pos (wanted_none hg)]
          exact .inl (stepS_sound hs split)
        | some jw =>
          obtain ⟨j, want⟩ := jw
          simp only [hg] at hs
          rcases gstep_cases hg hs with ⟨hw, hs⟩ | ⟨hw, hs⟩
          · rw [if_pos hw]; exact .inl (stepS_sound hs split)
          · rw [if_neg (by simp [hw])]; exact split _ _ hs

theorem drawS_sound {P : Program} (hm : P.follows .mixedOrders = true) {n id : Nat} {ops : Array Oper} {Q : Exit → Env → World → Prop} (hops : ops.all (dstOk n) = true) (hsel : noSel ops = true) {a : Act} {w : World}
    (hn : a.tmps.size = n) (hd : a.defers = []) (h : drawS P ops (Q .normal) (envOf a) w) : (Code.region id ops true).wp P (liftQ n Q) a w := by
  obtain ⟨R, fr, h⟩ := h
  refine wp_region_any hm (wpAny_of_R (R := R) _ _ _ _ (anyS_sound fr hops hsel _ _ _ _ hn hd ?_ (by simp) ?_ h))
  · intro h0
    have : ops = #[] := Array.eq_empty_of_size_eq_zero h0
    subst this
    rfl
  · simp [leftOf, List.countP_replicate]

/-! ### Code -/
theorem lift_then {n : Nat} {K : Env → World → Prop} {Q : Exit → Env → World → Prop} {e : Exit} {a : Act} {w : World} (h : liftQ n (thenS K Q) e a w) :
    Exit.then (fun a w => a.tmps.size = n ∧ a.defers = [] ∧ K (envOf a) w) (liftQ n Q) e a w := by
  cases e <;> exact h

theorem lift_block {n id : Nat} {Q : Exit → Env → World → Prop} {e : Exit} {a : Act} {w : World} (h : liftQ n (inBlockS id Q) e a w) : Exit.inBlock id (liftQ n Q) e a w := by
  cases e with
  | exit id' =>
    obtain ⟨h1, h2, h3⟩ := h
    unfold Exit.inBlock
    simp only [inBlockS] at h3 ⊢
    split
    · rename_i e; rw [if_pos e] at h3; exact ⟨h1, h2, h3⟩
    · rename_i e; rw [if_neg e] at h3; exact ⟨h1, h2, h3⟩
  | _ => exact h

theorem sh_sound {P : Program} (hm : P.follows .mixedOrders = true) {n : Nat} : ∀ (c : Code) (Q : Exit → Env → World → Prop) (a : Act) (w : World), codeOk n c = true → a.tmps.size = n → a.defers = [] →
    sh P c Q (envOf a) w → c.wp P (liftQ n Q) a w := by
  intro c
  induction c with
  | skip => intro Q a w _ hn hd h; exact wp_skip ⟨hn, hd, h⟩
  | region id ops draw =>
    intro Q a w hok hn hd h
    simp only [codeOk, Bool.and_eq_true, Bool.or_eq_true, Bool.not_eq_true'] at hok
    cases draw with
    | false =>
      refine wp_region_list (opsS_sound ops.toList a w (fun o ho => ?_) hn hd h)
      exact Array.all_eq_true_iff_forall_mem.1 hok.1 o (by simpa using ho)
    | true => exact drawS_sound hm hok.1 (hok.2.resolve_left (by simp)) hn hd h
  | seq x y ihx ihy =>
    intro Q a w hok hn hd h
    simp only [codeOk, Bool.and_eq_true] at hok
    refine wp_seq (Code.wp_mono (fun e a w hq => ?_) (ihx _ a w hok.1 hn hd h))
    have := lift_then hq
    cases e with
    | normal => exact ihy _ _ _ hok.2 this.1 this.2.1 this.2.2
    | _ => exact this
  | cond c x y ihx ihy =>
    intro Q a w hok hn hd h
    simp only [codeOk, Bool.and_eq_true] at hok
    simp only [sh, condS, ev_envOf] at h
    split at h
    · rename_i hc; exact wp_cond_true hc (ihx _ _ _ hok.1 hn hd h)
    · rename_i hc; exact wp_cond_false hc (ihy _ _ _ hok.2 hn hd h)
    · exact h.elim
  | block id x ih =>
    intro Q a w hok hn hd h
    exact wp_block (Code.wp_mono (fun e a w hq => lift_block hq) (ih _ a w hok hn hd h))
  | loop x ih =>
    intro Q a w hok hn hd h
    obtain ⟨I, μ, h0, hround⟩ := h
    refine wp_loop (fun a w => a.tmps.size = n ∧ a.defers = [] ∧ I (envOf a) w) (fun a w => μ (envOf a) w) ⟨hn, hd, h0⟩ ?_
    intro a w ⟨hn, hd, hI⟩
    refine Code.wp_mono (fun e a w hq => ?_) (ih _ a w hok hn hd (hround _ _ hI))
    have := lift_then hq
    cases e with
    | normal => exact ⟨⟨this.1, this.2.1, this.2.2.1⟩, this.2.2.2⟩
    | _ => exact this
  | exit id => intro Q a w _ hn hd h; exact wp_exit ⟨hn, hd, h⟩
  | ret => intro Q a w _ hn hd h; exact wp_ret ⟨hn, hd, h⟩
  | _ => intro Q a w _ _ _ h; exact h.elim

theorem resS_run {P : Program} {a : Act} {w : World} :
    ∀ (rs : List ResultVar) (K : List Value → Prop), resS P (envOf a) w rs K →
      ∃ vs, K vs ∧ ∀ f : ResultVar → Sem Value, (∀ u, f (.tmp u) = pure (a.tmps.getD u undef)) → (∀ x t, f (.cell x t) = (do loadVar t (← asAddr (a.tmps.getD x undef)))) → (rs.mapM f).run P w = .ok vs w := by
  intro rs
  induction rs with
  | nil => intro K h; exact ⟨[], h, fun f _ _ => by simp⟩
  | cons r rs ih =>
    intro K h
    cases r with
    | tmp t =>
      obtain ⟨vs, hK, hr⟩ := ih _ h
      refine ⟨_, hK, fun f hf hc => ?_⟩
      rw [List.mapM_cons, hf]
      simp only [Sem.run_bind, Sem.run_pure, Result.andThen_ok, hr f hf hc]
      rfl
    | cell x t =>
      obtain ⟨v, w', hv, ew, h⟩ := onR_iff.1 h
      subst ew
      obtain ⟨vs, hK, hr⟩ := ih _ h
      refine ⟨v :: vs, hK, fun f hf hc => ?_⟩
      have hv' : (f (.cell x t)).run P w' = .ok v w' := by rw [hc]; exact hv
      rw [List.mapM_cons]
      simp only [Sem.run_bind, hv', Result.andThen_ok, hr f hf hc, Sem.run_pure]

theorem oneS_cases {K : Value → Prop} {vs : List Value} (h : oneS K vs) : K (if h : vs.toArray.size = 1 then vs.toArray[0]'(by omega) else .tuple vs.toArray) := by
  match vs, h with
  | [], h => exact h
  | [v], h => exact h
  | v :: u :: vs, h => rw [dif_neg (by simp)]; exact h

theorem retS_post {P : Program} {n : Nat} {fn : Func} {K : Value → World → Prop} {e : Exit} {a : Act} {w : World} (h : liftQ n (retS P fn.results K) e a w) :
    bodyPost P fn (fun | .returned v, w' => K v w' | _, _ => False) e a w := by
  have main : a.defers = [] → resS P (envOf a) w fn.results.toList (oneS fun v => K v w) → a.defers = [] ∧ ∃ v, (results fn a.tmps).run P w = .ok v w ∧ K v w := by
    intro hd h
    refine ⟨hd, ?_⟩
    unfold results
    rw [Array.mapM_eq_mapM_toList]
    simp only [Sem.run_bind, Sem.run_map]
    obtain ⟨vs, hK, hr⟩ := resS_run (P := P) (a := a) (w := w) _ _ h
    rw [hr]
    · exact ⟨_, rfl, oneS_cases hK⟩
    · intro u; rfl
    · intro x t; rfl
  cases e with
  | normal => exact main h.2.1 h.2.2
  | ret => exact main h.2.1 h.2.2
  | panic c => exact h.elim
  | outgrown => exact h.elim
  | exit id => exact h.2.2.elim
  | goto l => exact h.2.2.elim

/-- **The contract of a function, off the shallow reading of its code.** -/
theorem call_of_sh {P : Program} (hm : P.follows .mixedOrders = true) {f : FuncId} {fn : Func} {c : Code} {args : Array Value} {K : Value → World → Prop} {w : World}
    (hf : P.funcs[f]? = some fn) (hb : fn.body = some c) (hnm : (fn.name == "runtime.NumGoroutine") = false) (hok : codeOk fn.ntmps c = true) (hargs : args.size ≤ fn.ntmps)
    (h : sh P c (retS P fn.results K) (env0 args) w) : CALL P f args w K := by
  refine ⟨by simp [callOk, hf, hnm, hb], calls_of_wp hf hb ?_⟩
  refine Code.wp_mono (fun e a w hq => retS_post hq) (sh_sound hm (n := fn.ntmps) c _ _ w hok (by simp; omega) rfl ?_)
  have e : envOf { tmps := args ++ Array.replicate (fn.ntmps - args.size) undef, defers := [] } = env0 args := by
    funext t
    unfold envOf env0
    simp only [Array.getD_eq_getD_getElem?]
    by_cases ht : t < args.size
    · simp [Array.getElem?_append_left ht]
    · rw [Array.getElem?_append_right (by omega), Array.getElem?_eq_none (xs := args) (by omega)]
      by_cases h2 : t - args.size < fn.ntmps - args.size
      · simp [h2]
      · rw [Array.getElem?_eq_none (by simp; omega)]
  rw [e]
  exact h

theorem call_of_eq {P : Program} (hm : P.follows .mixedOrders = true) {f : FuncId} {fn : Func} {c : Code} {args : Array Value} {K : Value → World → Prop} {w : World} {B : Prop}
    (hf : P.funcs[f]? = some fn) (hb : fn.body = some c) (hnm : (fn.name == "runtime.NumGoroutine") = false) (hok : codeOk fn.ntmps c = true) (hargs : args.size ≤ fn.ntmps)
    (e : sh P c (retS P fn.results K) (env0 args) w = B) (h : B) : CALL P f args w K := call_of_sh hm hf hb hnm hok hargs (by rw [e]; exact h)

end Go.Sh
end
