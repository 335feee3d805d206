/- Part 2 of what the law is proved with. -/
import Derived.Test.YtcigpjejbkngfaaGreatDoorProg
import Derived.Test.YtcigpjejbkngfaaGreatDoorQTR1
set_option linter.unusedVariables false
set_option linter.unusedSimpArgs false
section
namespace Go.Proofs.YtcigpjejbkngfaaGreatDoor
open Go Go.Sh
theorem mixed : Tryz.prog.follows .mixedOrders = true := by kernel_rfl
theorem agg_3 : aggB Tryz.prog 3 = false := by kernel_rfl
theorem sz_3 : szT Tryz.prog 3 = 1 := by kernel_rfl
theorem info_3 : infoB Tryz.prog 3 = true := by kernel_rfl
theorem zero_3 : zeroT Tryz.prog 3 = some (.int .i64 0) := by kernel_rfl
theorem el_3 : El Tryz.prog 3 1 (.int .i64 0) 8 := El.mk' (by kernel_rfl) rfl
theorem agg_4 : aggB Tryz.prog 4 = false := by kernel_rfl
theorem sz_4 : szT Tryz.prog 4 = 1 := by kernel_rfl
theorem info_4 : infoB Tryz.prog 4 = true := by kernel_rfl
theorem zero_4 : zeroT Tryz.prog 4 = some (.bool false) := by kernel_rfl
theorem agg_5 : aggB Tryz.prog 5 = false := by kernel_rfl
theorem sz_5 : szT Tryz.prog 5 = 1 := by kernel_rfl
theorem info_5 : infoB Tryz.prog 5 = true := by kernel_rfl
theorem zero_5 : zeroT Tryz.prog 5 = some (.int .u8 0) := by kernel_rfl
theorem el_5 : El Tryz.prog 5 1 (.int .u8 0) 1 := El.mk' (by kernel_rfl) rfl
theorem agg_28 : aggB Tryz.prog 28 = false := by kernel_rfl
theorem sz_28 : szT Tryz.prog 28 = 1 := by kernel_rfl
theorem info_28 : infoB Tryz.prog 28 = true := by kernel_rfl
theorem el_28 : El Tryz.prog 28 1 (.slice none 0 0) 24 := El.mk' (by kernel_rfl) rfl
theorem agg_30 : aggB Tryz.prog 30 = true := by kernel_rfl
theorem sz_30 : szT Tryz.prog 30 = 32 := by kernel_rfl
theorem info_30 : infoB Tryz.prog 30 = true := by kernel_rfl
theorem zero_30 : zeroT Tryz.prog 30 = some (.agg (List.replicate 32 (Value.int .u8 0)).toArray) := by kernel_rfl
theorem agg_31 : aggB Tryz.prog 31 = false := by kernel_rfl
theorem sz_31 : szT Tryz.prog 31 = 1 := by kernel_rfl
theorem info_31 : infoB Tryz.prog 31 = true := by kernel_rfl
theorem el_31 : El Tryz.prog 31 1 (.int .u32 0) 4 := El.mk' (by kernel_rfl) rfl
theorem agg_33 : aggB Tryz.prog 33 = true := by kernel_rfl
theorem sz_33 : szT Tryz.prog 33 = 33 := by kernel_rfl
theorem info_33 : infoB Tryz.prog 33 = true := by kernel_rfl
theorem zero_33 : zeroT Tryz.prog 33 = some (.agg (List.replicate 32 (Value.int .u8 0) ++ [Value.int .u32 0]).toArray) := by kernel_rfl
theorem el_33 : El Tryz.prog 33 33 (.agg (List.replicate 32 (Value.int .u8 0) ++ [Value.int .u32 0]).toArray) 36 := El.mk' (by kernel_rfl) (by simp only [Value.cells, List.size_toArray, List.length_replicate, List.length_append, List.length_cons, List.length_nil])
theorem agg_34 : aggB Tryz.prog 34 = false := by kernel_rfl
theorem sz_34 : szT Tryz.prog 34 = 1 := by kernel_rfl
theorem info_34 : infoB Tryz.prog 34 = true := by kernel_rfl
theorem agg_37 : aggB Tryz.prog 37 = false := by kernel_rfl
theorem sz_37 : szT Tryz.prog 37 = 1 := by kernel_rfl
theorem info_37 : infoB Tryz.prog 37 = true := by kernel_rfl
theorem zero_37 : zeroT Tryz.prog 37 = some (.int .u64 0) := by kernel_rfl
theorem el_37 : El Tryz.prog 37 1 (.int .u64 0) 8 := El.mk' (by kernel_rfl) rfl
theorem agg_40 : aggB Tryz.prog 40 = true := by kernel_rfl
theorem sz_40 : szT Tryz.prog 40 = 34 := by kernel_rfl
theorem info_40 : infoB Tryz.prog 40 = true := by kernel_rfl
theorem zero_40 : zeroT Tryz.prog 40 = some (.agg (List.replicate 32 (Value.int .u8 0) ++ [Value.int .u32 0] ++ [Value.slice none 0 0]).toArray) := by kernel_rfl
theorem el_40 : El Tryz.prog 40 34 (.agg (List.replicate 32 (Value.int .u8 0) ++ [Value.int .u32 0] ++ [Value.slice none 0 0]).toArray) 64 := El.mk' (by kernel_rfl) (by simp only [Value.cells, List.size_toArray, List.length_replicate, List.length_append, List.length_cons, List.length_nil])
theorem agg_41 : aggB Tryz.prog 41 = false := by kernel_rfl
theorem sz_41 : szT Tryz.prog 41 = 1 := by kernel_rfl
theorem info_41 : infoB Tryz.prog 41 = true := by kernel_rfl
theorem zero_41 : zeroT Tryz.prog 41 = some (.slice none 0 0) := by kernel_rfl
theorem agg_43 : aggB Tryz.prog 43 = false := by kernel_rfl
theorem sz_43 : szT Tryz.prog 43 = 1 := by kernel_rfl
theorem info_43 : infoB Tryz.prog 43 = true := by kernel_rfl
theorem agg_46 : aggB Tryz.prog 46 = false := by kernel_rfl
theorem sz_46 : szT Tryz.prog 46 = 1 := by kernel_rfl
theorem info_46 : infoB Tryz.prog 46 = true := by kernel_rfl
theorem el_46 : El Tryz.prog 46 1 (.slice none 0 0) 24 := El.mk' (by kernel_rfl) rfl
theorem agg_50 : aggB Tryz.prog 50 = true := by kernel_rfl
theorem sz_50 : szT Tryz.prog 50 = 4 := by kernel_rfl
theorem info_50 : infoB Tryz.prog 50 = true := by kernel_rfl
theorem zero_50 : zeroT Tryz.prog 50 = some (.agg #[(.int .i64 0), (.int .i64 0), (.int .u32 0), (.int .u32 0)]) := by kernel_rfl
theorem agg_54 : aggB Tryz.prog 54 = false := by kernel_rfl
theorem agg_57 : aggB Tryz.prog 57 = false := by kernel_rfl
theorem agg_63 : aggB Tryz.prog 63 = true := by kernel_rfl
theorem sz_63 : szT Tryz.prog 63 = 3 := by kernel_rfl
theorem info_63 : infoB Tryz.prog 63 = true := by kernel_rfl
theorem zero_63 : zeroT Tryz.prog 63 = some (.agg #[(.int .i64 0), (.int .i64 0), (.int .i64 0)]) := by kernel_rfl
theorem agg_68 : aggB Tryz.prog 68 = false := by kernel_rfl
theorem agg_69 : aggB Tryz.prog 69 = false := by kernel_rfl
theorem agg_84 : aggB Tryz.prog 84 = true := by kernel_rfl
theorem sz_84 : szT Tryz.prog 84 = 35 := by kernel_rfl
theorem info_84 : infoB Tryz.prog 84 = true := by kernel_rfl
theorem zero_84 : zeroT Tryz.prog 84 = some (.agg (List.replicate 32 (Value.int .u8 0) ++ [Value.int .u32 0] ++ [Value.int .i64 0, Value.int .i64 0]).toArray) := by kernel_rfl
theorem el_84 : El Tryz.prog 84 35 (.agg (List.replicate 32 (Value.int .u8 0) ++ [Value.int .u32 0] ++ [Value.int .i64 0, Value.int .i64 0]).toArray) 56 := El.mk' (by kernel_rfl) (by simp only [Value.cells, List.size_toArray, List.length_replicate, List.length_append, List.length_cons, List.length_nil])
theorem agg_87 : aggB Tryz.prog 87 = false := by kernel_rfl
theorem agg_88 : aggB Tryz.prog 88 = false := by kernel_rfl
theorem sz_88 : szT Tryz.prog 88 = 1 := by kernel_rfl
theorem info_88 : infoB Tryz.prog 88 = true := by kernel_rfl
theorem agg_101 : aggB Tryz.prog 101 = false := by kernel_rfl
theorem agg_104 : aggB Tryz.prog 104 = true := by kernel_rfl
theorem sz_104 : szT Tryz.prog 104 = 2 := by kernel_rfl
theorem info_104 : infoB Tryz.prog 104 = true := by kernel_rfl
theorem zero_104 : zeroT Tryz.prog 104 = some (.agg #[(.int .i64 0), (.int .i64 0)]) := by kernel_rfl
theorem agg_115 : aggB Tryz.prog 115 = false := by kernel_rfl
theorem agg_127 : aggB Tryz.prog 127 = false := by kernel_rfl
theorem agg_130 : aggB Tryz.prog 130 = false := by kernel_rfl
theorem agg_135 : aggB Tryz.prog 135 = true := by kernel_rfl
theorem sz_135 : szT Tryz.prog 135 = 8 := by kernel_rfl
theorem info_135 : infoB Tryz.prog 135 = true := by kernel_rfl
theorem zero_135 : zeroT Tryz.prog 135 = some (.agg #[(.int .u32 0), (.int .u32 0), (.int .u32 0), (.int .u32 0), (.int .u32 0), (.int .u32 0), (.int .u32 0), (.int .u32 0)]) := by kernel_rfl
theorem agg_137 : aggB Tryz.prog 137 = true := by kernel_rfl
theorem sz_137 : szT Tryz.prog 137 = 64 := by kernel_rfl
theorem info_137 : infoB Tryz.prog 137 = true := by kernel_rfl
theorem agg_139 : aggB Tryz.prog 139 = true := by kernel_rfl
theorem sz_139 : szT Tryz.prog 139 = 73 := by kernel_rfl
theorem info_139 : infoB Tryz.prog 139 = true := by kernel_rfl
theorem zero_139 : zeroT Tryz.prog 139 = some (.agg ([Value.int .u32 0, Value.int .u32 0, Value.int .u32 0, Value.int .u32 0, Value.int .u32 0, Value.int .u32 0, Value.int .u32 0, Value.int .u32 0] ++ List.replicate 64 (Value.int .u8 0) ++ [Value.int .u64 0]).toArray) := by kernel_rfl
theorem zero_141 : zeroT Tryz.prog 141 = some (.slice none 0 0) := by kernel_rfl
theorem agg_142 : aggB Tryz.prog 142 = false := by kernel_rfl
theorem zero_142 : zeroT Tryz.prog 142 = some (.map none) := by kernel_rfl
theorem agg_143 : aggB Tryz.prog 143 = false := by kernel_rfl
theorem agg_144 : aggB Tryz.prog 144 = false := by kernel_rfl
theorem zero_157 : zeroT Tryz.prog 157 = some (.map none) := by kernel_rfl
theorem agg_160 : aggB Tryz.prog 160 = true := by kernel_rfl
theorem sz_160 : szT Tryz.prog 160 = 128 := by kernel_rfl
theorem info_160 : infoB Tryz.prog 160 = true := by kernel_rfl
theorem el_160 : El Tryz.prog 160 128 (.agg (List.replicate 128 (Value.int .u8 0)).toArray) 128 := El.mk' (by kernel_rfl) (by simp only [Value.cells, List.size_toArray, List.length_replicate, List.length_append, List.length_cons, List.length_nil])
theorem agg_162 : aggB Tryz.prog 162 = true := by kernel_rfl
theorem sz_162 : szT Tryz.prog 162 = 129 := by kernel_rfl
theorem info_162 : infoB Tryz.prog 162 = true := by kernel_rfl
theorem zero_162 : zeroT Tryz.prog 162 = some (.agg ([Value.int .i64 0] ++ List.replicate 128 (Value.int .u8 0)).toArray) := by kernel_rfl
theorem el_162 : El Tryz.prog 162 129 (.agg ([Value.int .i64 0] ++ List.replicate 128 (Value.int .u8 0)).toArray) 136 := El.mk' (by kernel_rfl) (by simp only [Value.cells, List.size_toArray, List.length_replicate, List.length_append, List.length_cons, List.length_nil])
theorem sz_165 : szT Tryz.prog 165 = 7 := by kernel_rfl
theorem info_165 : infoB Tryz.prog 165 = true := by kernel_rfl
theorem agg_173 : aggB Tryz.prog 173 = false := by kernel_rfl
theorem zero_176 : zeroT Tryz.prog 176 = some (.agg (List.replicate 16 (Value.int .u32 0)).toArray) := by kernel_rfl
theorem agg_184 : aggB Tryz.prog 184 = true := by kernel_rfl
theorem sz_184 : szT Tryz.prog 184 = 35 := by kernel_rfl
theorem info_184 : infoB Tryz.prog 184 = true := by kernel_rfl
theorem zero_184 : zeroT Tryz.prog 184 = some (.agg (List.replicate 32 (Value.int .u8 0) ++ [Value.int .u32 0] ++ [Value.int .i64 0, Value.int .i64 0]).toArray) := by kernel_rfl
theorem el_184 : El Tryz.prog 184 35 (.agg (List.replicate 32 (Value.int .u8 0) ++ [Value.int .u32 0] ++ [Value.int .i64 0, Value.int .i64 0]).toArray) 56 := El.mk' (by kernel_rfl) (by simp only [Value.cells, List.size_toArray, List.length_replicate, List.length_append, List.length_cons, List.length_nil])
theorem agg_185 : aggB Tryz.prog 185 = false := by kernel_rfl
theorem sz_185 : szT Tryz.prog 185 = 1 := by kernel_rfl
theorem info_185 : infoB Tryz.prog 185 = true := by kernel_rfl
theorem agg_209 : aggB Tryz.prog 209 = true := by kernel_rfl
theorem sz_209 : szT Tryz.prog 209 = 2 := by kernel_rfl
theorem info_209 : infoB Tryz.prog 209 = true := by kernel_rfl
theorem agg_224 : aggB Tryz.prog 224 = true := by kernel_rfl
theorem sz_224 : szT Tryz.prog 224 = 256 := by kernel_rfl
theorem info_224 : infoB Tryz.prog 224 = true := by kernel_rfl
theorem zero_224 : zeroT Tryz.prog 224 = some (.agg (List.replicate 256 (Value.int .u32 0)).toArray) := by kernel_rfl
section
variable (w : World) (K : Value → World → Prop) {R : World → World → Prop}
theorem X_len_22 (a : Option Addr) (n c : Nat) : X Tryz.prog (Builtin.len_ #[22] 3 #[.slice a n c]) w K = K (.int .i64 (n : Int)) w := X_ok (run_len_sl Tryz.underlying22 _ a n c w)
theorem XP_len_22 (a : Option Addr) (n c : Nat) : XP Tryz.prog (Builtin.len_ #[22] 3 #[.slice a n c]) w K = K (.int .i64 (n : Int)) w := XP_ok (fun w' => run_len_sl Tryz.underlying22 _ a n c w')
theorem X_len_28 (a : Option Addr) (n c : Nat) : X Tryz.prog (Builtin.len_ #[28] 3 #[.slice a n c]) w K = K (.int .i64 (n : Int)) w := X_ok (run_len_sl Tryz.underlying28 _ a n c w)
theorem XP_len_28 (a : Option Addr) (n c : Nat) : XP Tryz.prog (Builtin.len_ #[28] 3 #[.slice a n c]) w K = K (.int .i64 (n : Int)) w := XP_ok (fun w' => run_len_sl Tryz.underlying28 _ a n c w')
theorem X_len_41 (a : Option Addr) (n c : Nat) : X Tryz.prog (Builtin.len_ #[41] 3 #[.slice a n c]) w K = K (.int .i64 (n : Int)) w := X_ok (run_len_sl Tryz.underlying41 _ a n c w)
theorem XP_len_41 (a : Option Addr) (n c : Nat) : XP Tryz.prog (Builtin.len_ #[41] 3 #[.slice a n c]) w K = K (.int .i64 (n : Int)) w := XP_ok (fun w' => run_len_sl Tryz.underlying41 _ a n c w')
theorem X_len_43 (a : Option Addr) (n c : Nat) : X Tryz.prog (Builtin.len_ #[43] 3 #[.slice a n c]) w K = K (.int .i64 (n : Int)) w := X_ok (run_len_sl Tryz.underlying43 _ a n c w)
theorem XP_len_43 (a : Option Addr) (n c : Nat) : XP Tryz.prog (Builtin.len_ #[43] 3 #[.slice a n c]) w K = K (.int .i64 (n : Int)) w := XP_ok (fun w' => run_len_sl Tryz.underlying43 _ a n c w')
theorem X_len_46 (a : Option Addr) (n c : Nat) : X Tryz.prog (Builtin.len_ #[46] 3 #[.slice a n c]) w K = K (.int .i64 (n : Int)) w := X_ok (run_len_sl Tryz.underlying46 _ a n c w)
theorem XP_len_46 (a : Option Addr) (n c : Nat) : XP Tryz.prog (Builtin.len_ #[46] 3 #[.slice a n c]) w K = K (.int .i64 (n : Int)) w := XP_ok (fun w' => run_len_sl Tryz.underlying46 _ a n c w')
theorem X_len_67 (a : Option Addr) (n c : Nat) : X Tryz.prog (Builtin.len_ #[67] 3 #[.slice a n c]) w K = K (.int .i64 (n : Int)) w := X_ok (run_len_sl Tryz.underlying67 _ a n c w)
theorem XP_len_67 (a : Option Addr) (n c : Nat) : XP Tryz.prog (Builtin.len_ #[67] 3 #[.slice a n c]) w K = K (.int .i64 (n : Int)) w := XP_ok (fun w' => run_len_sl Tryz.underlying67 _ a n c w')
theorem X_len_87 (a : Option Addr) (n c : Nat) : X Tryz.prog (Builtin.len_ #[87] 3 #[.slice a n c]) w K = K (.int .i64 (n : Int)) w := X_ok (run_len_sl Tryz.underlying87 _ a n c w)
theorem XP_len_87 (a : Option Addr) (n c : Nat) : XP Tryz.prog (Builtin.len_ #[87] 3 #[.slice a n c]) w K = K (.int .i64 (n : Int)) w := XP_ok (fun w' => run_len_sl Tryz.underlying87 _ a n c w')
theorem X_len_115 (a : Option Addr) (n c : Nat) : X Tryz.prog (Builtin.len_ #[115] 3 #[.slice a n c]) w K = K (.int .i64 (n : Int)) w := X_ok (run_len_sl Tryz.underlying115 _ a n c w)
theorem XP_len_115 (a : Option Addr) (n c : Nat) : XP Tryz.prog (Builtin.len_ #[115] 3 #[.slice a n c]) w K = K (.int .i64 (n : Int)) w := XP_ok (fun w' => run_len_sl Tryz.underlying115 _ a n c w')
theorem X_len_124 (a : Option Addr) (n c : Nat) : X Tryz.prog (Builtin.len_ #[124] 3 #[.slice a n c]) w K = K (.int .i64 (n : Int)) w := X_ok (run_len_sl Tryz.underlying124 _ a n c w)
theorem XP_len_124 (a : Option Addr) (n c : Nat) : XP Tryz.prog (Builtin.len_ #[124] 3 #[.slice a n c]) w K = K (.int .i64 (n : Int)) w := XP_ok (fun w' => run_len_sl Tryz.underlying124 _ a n c w')
theorem X_len_141 (a : Option Addr) (n c : Nat) : X Tryz.prog (Builtin.len_ #[141] 3 #[.slice a n c]) w K = K (.int .i64 (n : Int)) w := X_ok (run_len_sl Tryz.underlying141 _ a n c w)
theorem XP_len_141 (a : Option Addr) (n c : Nat) : XP Tryz.prog (Builtin.len_ #[141] 3 #[.slice a n c]) w K = K (.int .i64 (n : Int)) w := XP_ok (fun w' => run_len_sl Tryz.underlying141 _ a n c w')
theorem X_len_150 (a : Option Addr) (n c : Nat) : X Tryz.prog (Builtin.len_ #[150] 3 #[.slice a n c]) w K = K (.int .i64 (n : Int)) w := X_ok (run_len_sl Tryz.underlying150 _ a n c w)
theorem XP_len_150 (a : Option Addr) (n c : Nat) : XP Tryz.prog (Builtin.len_ #[150] 3 #[.slice a n c]) w K = K (.int .i64 (n : Int)) w := XP_ok (fun w' => run_len_sl Tryz.underlying150 _ a n c w')
theorem X_conv_3_5 (j : IntKind) (n : Int) : X Tryz.prog (convert 3 5 (.int j n)) w K = K (.int .u8 (IntKind.u8.wrap n)) w := X_ok (run_conv_int Tryz.underlying3 Tryz.underlying5 j n w)
theorem XP_conv_3_5 (j : IntKind) (n : Int) : XP Tryz.prog (convert 3 5 (.int j n)) w K = K (.int .u8 (IntKind.u8.wrap n)) w := XP_ok (fun w' => run_conv_int Tryz.underlying3 Tryz.underlying5 j n w')
theorem XR_conv_3_5 (j : IntKind) (n : Int) : XR Tryz.prog R (convert 3 5 (.int j n)) w K = K (.int .u8 (IntKind.u8.wrap n)) w := XR_eq (fun w' => run_conv_int Tryz.underlying3 Tryz.underlying5 j n w')
theorem X_conv_3_31 (j : IntKind) (n : Int) : X Tryz.prog (convert 3 31 (.int j n)) w K = K (.int .u32 (IntKind.u32.wrap n)) w := X_ok (run_conv_int Tryz.underlying3 Tryz.underlying31 j n w)
theorem XP_conv_3_31 (j : IntKind) (n : Int) : XP Tryz.prog (convert 3 31 (.int j n)) w K = K (.int .u32 (IntKind.u32.wrap n)) w := XP_ok (fun w' => run_conv_int Tryz.underlying3 Tryz.underlying31 j n w')
theorem XR_conv_3_31 (j : IntKind) (n : Int) : XR Tryz.prog R (convert 3 31 (.int j n)) w K = K (.int .u32 (IntKind.u32.wrap n)) w := XR_eq (fun w' => run_conv_int Tryz.underlying3 Tryz.underlying31 j n w')
theorem X_conv_3_37 (j : IntKind) (n : Int) : X Tryz.prog (convert 3 37 (.int j n)) w K = K (.int .u64 (IntKind.u64.wrap n)) w := X_ok (run_conv_int Tryz.underlying3 Tryz.underlying37 j n w)
theorem XP_conv_3_37 (j : IntKind) (n : Int) : XP Tryz.prog (convert 3 37 (.int j n)) w K = K (.int .u64 (IntKind.u64.wrap n)) w := XP_ok (fun w' => run_conv_int Tryz.underlying3 Tryz.underlying37 j n w')
theorem XR_conv_3_37 (j : IntKind) (n : Int) : XR Tryz.prog R (convert 3 37 (.int j n)) w K = K (.int .u64 (IntKind.u64.wrap n)) w := XR_eq (fun w' => run_conv_int Tryz.underlying3 Tryz.underlying37 j n w')
theorem X_conv_3_118 (j : IntKind) (n : Int) : X Tryz.prog (convert 3 118 (.int j n)) w K = K (.int .u64 (IntKind.u64.wrap n)) w := X_ok (run_conv_int Tryz.underlying3 Tryz.underlying118 j n w)
theorem X_conv_5_3 (j : IntKind) (n : Int) : X Tryz.prog (convert 5 3 (.int j n)) w K = K (.int .i64 (IntKind.i64.wrap n)) w := X_ok (run_conv_int Tryz.underlying5 Tryz.underlying3 j n w)
theorem XP_conv_5_3 (j : IntKind) (n : Int) : XP Tryz.prog (convert 5 3 (.int j n)) w K = K (.int .i64 (IntKind.i64.wrap n)) w := XP_ok (fun w' => run_conv_int Tryz.underlying5 Tryz.underlying3 j n w')
theorem XR_conv_5_3 (j : IntKind) (n : Int) : XR Tryz.prog R (convert 5 3 (.int j n)) w K = K (.int .i64 (IntKind.i64.wrap n)) w := XR_eq (fun w' => run_conv_int Tryz.underlying5 Tryz.underlying3 j n w')
theorem X_conv_5_31 (j : IntKind) (n : Int) : X Tryz.prog (convert 5 31 (.int j n)) w K = K (.int .u32 (IntKind.u32.wrap n)) w := X_ok (run_conv_int Tryz.underlying5 Tryz.underlying31 j n w)
theorem XP_conv_5_31 (j : IntKind) (n : Int) : XP Tryz.prog (convert 5 31 (.int j n)) w K = K (.int .u32 (IntKind.u32.wrap n)) w := XP_ok (fun w' => run_conv_int Tryz.underlying5 Tryz.underlying31 j n w')
theorem XR_conv_5_31 (j : IntKind) (n : Int) : XR Tryz.prog R (convert 5 31 (.int j n)) w K = K (.int .u32 (IntKind.u32.wrap n)) w := XR_eq (fun w' => run_conv_int Tryz.underlying5 Tryz.underlying31 j n w')
theorem X_conv_5_37 (j : IntKind) (n : Int) : X Tryz.prog (convert 5 37 (.int j n)) w K = K (.int .u64 (IntKind.u64.wrap n)) w := X_ok (run_conv_int Tryz.underlying5 Tryz.underlying37 j n w)
theorem XP_conv_5_37 (j : IntKind) (n : Int) : XP Tryz.prog (convert 5 37 (.int j n)) w K = K (.int .u64 (IntKind.u64.wrap n)) w := XP_ok (fun w' => run_conv_int Tryz.underlying5 Tryz.underlying37 j n w')
theorem XR_conv_5_37 (j : IntKind) (n : Int) : XR Tryz.prog R (convert 5 37 (.int j n)) w K = K (.int .u64 (IntKind.u64.wrap n)) w := XR_eq (fun w' => run_conv_int Tryz.underlying5 Tryz.underlying37 j n w')
theorem X_conv_31_5 (j : IntKind) (n : Int) : X Tryz.prog (convert 31 5 (.int j n)) w K = K (.int .u8 (IntKind.u8.wrap n)) w := X_ok (run_conv_int Tryz.underlying31 Tryz.underlying5 j n w)
theorem XP_conv_31_5 (j : IntKind) (n : Int) : XP Tryz.prog (convert 31 5 (.int j n)) w K = K (.int .u8 (IntKind.u8.wrap n)) w := XP_ok (fun w' => run_conv_int Tryz.underlying31 Tryz.underlying5 j n w')
theorem XR_conv_31_5 (j : IntKind) (n : Int) : XR Tryz.prog R (convert 31 5 (.int j n)) w K = K (.int .u8 (IntKind.u8.wrap n)) w := XR_eq (fun w' => run_conv_int Tryz.underlying31 Tryz.underlying5 j n w')
theorem X_conv_31_37 (j : IntKind) (n : Int) : X Tryz.prog (convert 31 37 (.int j n)) w K = K (.int .u64 (IntKind.u64.wrap n)) w := X_ok (run_conv_int Tryz.underlying31 Tryz.underlying37 j n w)
theorem XP_conv_31_37 (j : IntKind) (n : Int) : XP Tryz.prog (convert 31 37 (.int j n)) w K = K (.int .u64 (IntKind.u64.wrap n)) w := XP_ok (fun w' => run_conv_int Tryz.underlying31 Tryz.underlying37 j n w')
theorem XR_conv_31_37 (j : IntKind) (n : Int) : XR Tryz.prog R (convert 31 37 (.int j n)) w K = K (.int .u64 (IntKind.u64.wrap n)) w := XR_eq (fun w' => run_conv_int Tryz.underlying31 Tryz.underlying37 j n w')
theorem X_conv_37_3 (j : IntKind) (n : Int) : X Tryz.prog (convert 37 3 (.int j n)) w K = K (.int .i64 (IntKind.i64.wrap n)) w := X_ok (run_conv_int Tryz.underlying37 Tryz.underlying3 j n w)
theorem XP_conv_37_3 (j : IntKind) (n : Int) : XP Tryz.prog (convert 37 3 (.int j n)) w K = K (.int .i64 (IntKind.i64.wrap n)) w := XP_ok (fun w' => run_conv_int Tryz.underlying37 Tryz.underlying3 j n w')
theorem XR_conv_37_3 (j : IntKind) (n : Int) : XR Tryz.prog R (convert 37 3 (.int j n)) w K = K (.int .i64 (IntKind.i64.wrap n)) w := XR_eq (fun w' => run_conv_int Tryz.underlying37 Tryz.underlying3 j n w')
theorem X_conv_37_5 (j : IntKind) (n : Int) : X Tryz.prog (convert 37 5 (.int j n)) w K = K (.int .u8 (IntKind.u8.wrap n)) w := X_ok (run_conv_int Tryz.underlying37 Tryz.underlying5 j n w)
theorem XP_conv_37_5 (j : IntKind) (n : Int) : XP Tryz.prog (convert 37 5 (.int j n)) w K = K (.int .u8 (IntKind.u8.wrap n)) w := XP_ok (fun w' => run_conv_int Tryz.underlying37 Tryz.underlying5 j n w')
theorem XR_conv_37_5 (j : IntKind) (n : Int) : XR Tryz.prog R (convert 37 5 (.int j n)) w K = K (.int .u8 (IntKind.u8.wrap n)) w := XR_eq (fun w' => run_conv_int Tryz.underlying37 Tryz.underlying5 j n w')
theorem X_conv_37_31 (j : IntKind) (n : Int) : X Tryz.prog (convert 37 31 (.int j n)) w K = K (.int .u32 (IntKind.u32.wrap n)) w := X_ok (run_conv_int Tryz.underlying37 Tryz.underlying31 j n w)
theorem XP_conv_37_31 (j : IntKind) (n : Int) : XP Tryz.prog (convert 37 31 (.int j n)) w K = K (.int .u32 (IntKind.u32.wrap n)) w := XP_ok (fun w' => run_conv_int Tryz.underlying37 Tryz.underlying31 j n w')
theorem XR_conv_37_31 (j : IntKind) (n : Int) : XR Tryz.prog R (convert 37 31 (.int j n)) w K = K (.int .u32 (IntKind.u32.wrap n)) w := XR_eq (fun w' => run_conv_int Tryz.underlying37 Tryz.underlying31 j n w')
theorem X_conv_118_3 (j : IntKind) (n : Int) : X Tryz.prog (convert 118 3 (.int j n)) w K = K (.int .i64 (IntKind.i64.wrap n)) w := X_ok (run_conv_int Tryz.underlying118 Tryz.underlying3 j n w)
theorem run_field_33_0 (b o : Nat) (w : World) : Sem.run Tryz.prog (Instr.fieldAt 33 (.pointer (some ⟨b, o, none⟩)) 0) w = .ok (.pointer (some ⟨b, o, none⟩)) w := by kernel_rfl
theorem X_field_33_0 (b o : Nat) : X Tryz.prog (Instr.fieldAt 33 (.pointer (some ⟨b, o, none⟩)) 0) w K = K (.pointer (some ⟨b, o, none⟩)) w := X_ok (run_field_33_0 b o w)
theorem XP_field_33_0 (b o : Nat) : XP Tryz.prog (Instr.fieldAt 33 (.pointer (some ⟨b, o, none⟩)) 0) w K = K (.pointer (some ⟨b, o, none⟩)) w := XP_ok (fun w' => run_field_33_0 b o w')
theorem run_field_33_1 (b o : Nat) (w : World) : Sem.run Tryz.prog (Instr.fieldAt 33 (.pointer (some ⟨b, o, none⟩)) 1) w = .ok (.pointer (some ⟨b, o + 32, none⟩)) w := by kernel_rfl
theorem X_field_33_1 (b o : Nat) : X Tryz.prog (Instr.fieldAt 33 (.pointer (some ⟨b, o, none⟩)) 1) w K = K (.pointer (some ⟨b, o + 32, none⟩)) w := X_ok (run_field_33_1 b o w)
theorem XP_field_33_1 (b o : Nat) : XP Tryz.prog (Instr.fieldAt 33 (.pointer (some ⟨b, o, none⟩)) 1) w K = K (.pointer (some ⟨b, o + 32, none⟩)) w := XP_ok (fun w' => run_field_33_1 b o w')
theorem run_field_40_0 (b o : Nat) (w : World) : Sem.run Tryz.prog (Instr.fieldAt 40 (.pointer (some ⟨b, o, none⟩)) 0) w = .ok (.pointer (some ⟨b, o, none⟩)) w := by kernel_rfl
theorem X_field_40_0 (b o : Nat) : X Tryz.prog (Instr.fieldAt 40 (.pointer (some ⟨b, o, none⟩)) 0) w K = K (.pointer (some ⟨b, o, none⟩)) w := X_ok (run_field_40_0 b o w)
theorem XP_field_40_0 (b o : Nat) : XP Tryz.prog (Instr.fieldAt 40 (.pointer (some ⟨b, o, none⟩)) 0) w K = K (.pointer (some ⟨b, o, none⟩)) w := XP_ok (fun w' => run_field_40_0 b o w')
theorem run_field_40_1 (b o : Nat) (w : World) : Sem.run Tryz.prog (Instr.fieldAt 40 (.pointer (some ⟨b, o, none⟩)) 1) w = .ok (.pointer (some ⟨b, o + 33, none⟩)) w := by kernel_rfl
theorem X_field_40_1 (b o : Nat) : X Tryz.prog (Instr.fieldAt 40 (.pointer (some ⟨b, o, none⟩)) 1) w K = K (.pointer (some ⟨b, o + 33, none⟩)) w := X_ok (run_field_40_1 b o w)
theorem XP_field_40_1 (b o : Nat) : XP Tryz.prog (Instr.fieldAt 40 (.pointer (some ⟨b, o, none⟩)) 1) w K = K (.pointer (some ⟨b, o + 33, none⟩)) w := XP_ok (fun w' => run_field_40_1 b o w')
theorem run_field_50_0 (b o : Nat) (w : World) : Sem.run Tryz.prog (Instr.fieldAt 50 (.pointer (some ⟨b, o, none⟩)) 0) w = .ok (.pointer (some ⟨b, o, none⟩)) w := by kernel_rfl
theorem X_field_50_0 (b o : Nat) : X Tryz.prog (Instr.fieldAt 50 (.pointer (some ⟨b, o, none⟩)) 0) w K = K (.pointer (some ⟨b, o, none⟩)) w := X_ok (run_field_50_0 b o w)
theorem run_field_50_1 (b o : Nat) (w : World) : Sem.run Tryz.prog (Instr.fieldAt 50 (.pointer (some ⟨b, o, none⟩)) 1) w = .ok (.pointer (some ⟨b, o + 1, none⟩)) w := by kernel_rfl
theorem X_field_50_1 (b o : Nat) : X Tryz.prog (Instr.fieldAt 50 (.pointer (some ⟨b, o, none⟩)) 1) w K = K (.pointer (some ⟨b, o + 1, none⟩)) w := X_ok (run_field_50_1 b o w)
theorem XP_field_50_1 (b o : Nat) : XP Tryz.prog (Instr.fieldAt 50 (.pointer (some ⟨b, o, none⟩)) 1) w K = K (.pointer (some ⟨b, o + 1, none⟩)) w := XP_ok (fun w' => run_field_50_1 b o w')
theorem run_field_50_2 (b o : Nat) (w : World) : Sem.run Tryz.prog (Instr.fieldAt 50 (.pointer (some ⟨b, o, none⟩)) 2) w = .ok (.pointer (some ⟨b, o + 2, none⟩)) w := by kernel_rfl
theorem X_field_50_2 (b o : Nat) : X Tryz.prog (Instr.fieldAt 50 (.pointer (some ⟨b, o, none⟩)) 2) w K = K (.pointer (some ⟨b, o + 2, none⟩)) w := X_ok (run_field_50_2 b o w)
theorem XP_field_50_2 (b o : Nat) : XP Tryz.prog (Instr.fieldAt 50 (.pointer (some ⟨b, o, none⟩)) 2) w K = K (.pointer (some ⟨b, o + 2, none⟩)) w := XP_ok (fun w' => run_field_50_2 b o w')
theorem run_field_50_3 (b o : Nat) (w : World) : Sem.run Tryz.prog (Instr.fieldAt 50 (.pointer (some ⟨b, o, none⟩)) 3) w = .ok (.pointer (some ⟨b, o + 3, none⟩)) w := by kernel_rfl
theorem X_field_50_3 (b o : Nat) : X Tryz.prog (Instr.fieldAt 50 (.pointer (some ⟨b, o, none⟩)) 3) w K = K (.pointer (some ⟨b, o + 3, none⟩)) w := X_ok (run_field_50_3 b o w)
theorem run_field_63_0 (b o : Nat) (w : World) : Sem.run Tryz.prog (Instr.fieldAt 63 (.pointer (some ⟨b, o, none⟩)) 0) w = .ok (.pointer (some ⟨b, o, none⟩)) w := by kernel_rfl
theorem X_field_63_0 (b o : Nat) : X Tryz.prog (Instr.fieldAt 63 (.pointer (some ⟨b, o, none⟩)) 0) w K = K (.pointer (some ⟨b, o, none⟩)) w := X_ok (run_field_63_0 b o w)
theorem run_field_63_1 (b o : Nat) (w : World) : Sem.run Tryz.prog (Instr.fieldAt 63 (.pointer (some ⟨b, o, none⟩)) 1) w = .ok (.pointer (some ⟨b, o + 1, none⟩)) w := by kernel_rfl
theorem X_field_63_1 (b o : Nat) : X Tryz.prog (Instr.fieldAt 63 (.pointer (some ⟨b, o, none⟩)) 1) w K = K (.pointer (some ⟨b, o + 1, none⟩)) w := X_ok (run_field_63_1 b o w)
theorem run_field_63_2 (b o : Nat) (w : World) : Sem.run Tryz.prog (Instr.fieldAt 63 (.pointer (some ⟨b, o, none⟩)) 2) w = .ok (.pointer (some ⟨b, o + 2, none⟩)) w := by kernel_rfl
theorem X_field_63_2 (b o : Nat) : X Tryz.prog (Instr.fieldAt 63 (.pointer (some ⟨b, o, none⟩)) 2) w K = K (.pointer (some ⟨b, o + 2, none⟩)) w := X_ok (run_field_63_2 b o w)
theorem run_field_71_0 (b o : Nat) (w : World) : Sem.run Tryz.prog (Instr.fieldAt 71 (.pointer (some ⟨b, o, none⟩)) 0) w = .ok (.pointer (some ⟨b, o, none⟩)) w := by kernel_rfl
theorem X_field_71_0 (b o : Nat) : X Tryz.prog (Instr.fieldAt 71 (.pointer (some ⟨b, o, none⟩)) 0) w K = K (.pointer (some ⟨b, o, none⟩)) w := X_ok (run_field_71_0 b o w)
theorem XP_field_71_0 (b o : Nat) : XP Tryz.prog (Instr.fieldAt 71 (.pointer (some ⟨b, o, none⟩)) 0) w K = K (.pointer (some ⟨b, o, none⟩)) w := XP_ok (fun w' => run_field_71_0 b o w')
theorem run_field_71_1 (b o : Nat) (w : World) : Sem.run Tryz.prog (Instr.fieldAt 71 (.pointer (some ⟨b, o, none⟩)) 1) w = .ok (.pointer (some ⟨b, o + 1, none⟩)) w := by kernel_rfl
theorem XP_field_71_1 (b o : Nat) : XP Tryz.prog (Instr.fieldAt 71 (.pointer (some ⟨b, o, none⟩)) 1) w K = K (.pointer (some ⟨b, o + 1, none⟩)) w := XP_ok (fun w' => run_field_71_1 b o w')
theorem run_field_71_2 (b o : Nat) (w : World) : Sem.run Tryz.prog (Instr.fieldAt 71 (.pointer (some ⟨b, o, none⟩)) 2) w = .ok (.pointer (some ⟨b, o + 2, none⟩)) w := by kernel_rfl
theorem X_field_71_2 (b o : Nat) : X Tryz.prog (Instr.fieldAt 71 (.pointer (some ⟨b, o, none⟩)) 2) w K = K (.pointer (some ⟨b, o + 2, none⟩)) w := X_ok (run_field_71_2 b o w)
theorem run_field_71_3 (b o : Nat) (w : World) : Sem.run Tryz.prog (Instr.fieldAt 71 (.pointer (some ⟨b, o, none⟩)) 3) w = .ok (.pointer (some ⟨b, o + 3, none⟩)) w := by kernel_rfl
theorem X_field_71_3 (b o : Nat) : X Tryz.prog (Instr.fieldAt 71 (.pointer (some ⟨b, o, none⟩)) 3) w K = K (.pointer (some ⟨b, o + 3, none⟩)) w := X_ok (run_field_71_3 b o w)
theorem run_field_71_4 (b o : Nat) (w : World) : Sem.run Tryz.prog (Instr.fieldAt 71 (.pointer (some ⟨b, o, none⟩)) 4) w = .ok (.pointer (some ⟨b, o + 4, none⟩)) w := by kernel_rfl
theorem X_field_71_4 (b o : Nat) : X Tryz.prog (Instr.fieldAt 71 (.pointer (some ⟨b, o, none⟩)) 4) w K = K (.pointer (some ⟨b, o + 4, none⟩)) w := X_ok (run_field_71_4 b o w)
theorem XP_field_71_4 (b o : Nat) : XP Tryz.prog (Instr.fieldAt 71 (.pointer (some ⟨b, o, none⟩)) 4) w K = K (.pointer (some ⟨b, o + 4, none⟩)) w := XP_ok (fun w' => run_field_71_4 b o w')
theorem run_field_71_5 (b o : Nat) (w : World) : Sem.run Tryz.prog (Instr.fieldAt 71 (.pointer (some ⟨b, o, none⟩)) 5) w = .ok (.pointer (some ⟨b, o + 5, none⟩)) w := by kernel_rfl
theorem X_field_71_5 (b o : Nat) : X Tryz.prog (Instr.fieldAt 71 (.pointer (some ⟨b, o, none⟩)) 5) w K = K (.pointer (some ⟨b, o + 5, none⟩)) w := X_ok (run_field_71_5 b o w)
theorem XP_field_71_5 (b o : Nat) : XP Tryz.prog (Instr.fieldAt 71 (.pointer (some ⟨b, o, none⟩)) 5) w K = K (.pointer (some ⟨b, o + 5, none⟩)) w := XP_ok (fun w' => run_field_71_5 b o w')
theorem run_field_71_6 (b o : Nat) (w : World) : Sem.run Tryz.prog (Instr.fieldAt 71 (.pointer (some ⟨b, o, none⟩)) 6) w = .ok (.pointer (some ⟨b, o + 6, none⟩)) w := by kernel_rfl
theorem X_field_71_6 (b o : Nat) : X Tryz.prog (Instr.fieldAt 71 (.pointer (some ⟨b, o, none⟩)) 6) w K = K (.pointer (some ⟨b, o + 6, none⟩)) w := X_ok (run_field_71_6 b o w)
theorem XP_field_71_6 (b o : Nat) : XP Tryz.prog (Instr.fieldAt 71 (.pointer (some ⟨b, o, none⟩)) 6) w K = K (.pointer (some ⟨b, o + 6, none⟩)) w := XP_ok (fun w' => run_field_71_6 b o w')
theorem run_field_71_7 (b o : Nat) (w : World) : Sem.run Tryz.prog (Instr.fieldAt 71 (.pointer (some ⟨b, o, none⟩)) 7) w = .ok (.pointer (some ⟨b, o + 7, none⟩)) w := by kernel_rfl
theorem X_field_71_7 (b o : Nat) : X Tryz.prog (Instr.fieldAt 71 (.pointer (some ⟨b, o, none⟩)) 7) w K = K (.pointer (some ⟨b, o + 7, none⟩)) w := X_ok (run_field_71_7 b o w)
theorem XP_field_71_7 (b o : Nat) : XP Tryz.prog (Instr.fieldAt 71 (.pointer (some ⟨b, o, none⟩)) 7) w K = K (.pointer (some ⟨b, o + 7, none⟩)) w := XP_ok (fun w' => run_field_71_7 b o w')
theorem run_field_84_0 (b o : Nat) (w : World) : Sem.run Tryz.prog (Instr.fieldAt 84 (.pointer (some ⟨b, o, none⟩)) 0) w = .ok (.pointer (some ⟨b, o, none⟩)) w := by kernel_rfl
theorem X_field_84_0 (b o : Nat) : X Tryz.prog (Instr.fieldAt 84 (.pointer (some ⟨b, o, none⟩)) 0) w K = K (.pointer (some ⟨b, o, none⟩)) w := X_ok (run_field_84_0 b o w)
theorem XP_field_84_0 (b o : Nat) : XP Tryz.prog (Instr.fieldAt 84 (.pointer (some ⟨b, o, none⟩)) 0) w K = K (.pointer (some ⟨b, o, none⟩)) w := XP_ok (fun w' => run_field_84_0 b o w')
theorem run_field_84_1 (b o : Nat) (w : World) : Sem.run Tryz.prog (Instr.fieldAt 84 (.pointer (some ⟨b, o, none⟩)) 1) w = .ok (.pointer (some ⟨b, o + 33, none⟩)) w := by kernel_rfl
theorem X_field_84_1 (b o : Nat) : X Tryz.prog (Instr.fieldAt 84 (.pointer (some ⟨b, o, none⟩)) 1) w K = K (.pointer (some ⟨b, o + 33, none⟩)) w := X_ok (run_field_84_1 b o w)
theorem XP_field_84_1 (b o : Nat) : XP Tryz.prog (Instr.fieldAt 84 (.pointer (some ⟨b, o, none⟩)) 1) w K = K (.pointer (some ⟨b, o + 33, none⟩)) w := XP_ok (fun w' => run_field_84_1 b o w')
theorem run_field_84_2 (b o : Nat) (w : World) : Sem.run Tryz.prog (Instr.fieldAt 84 (.pointer (some ⟨b, o, none⟩)) 2) w = .ok (.pointer (some ⟨b, o + 34, none⟩)) w := by kernel_rfl
theorem X_field_84_2 (b o : Nat) : X Tryz.prog (Instr.fieldAt 84 (.pointer (some ⟨b, o, none⟩)) 2) w K = K (.pointer (some ⟨b, o + 34, none⟩)) w := X_ok (run_field_84_2 b o w)
theorem XP_field_84_2 (b o : Nat) : XP Tryz.prog (Instr.fieldAt 84 (.pointer (some ⟨b, o, none⟩)) 2) w K = K (.pointer (some ⟨b, o + 34, none⟩)) w := XP_ok (fun w' => run_field_84_2 b o w')
theorem run_field_90_0 (b o : Nat) (w : World) : Sem.run Tryz.prog (Instr.fieldAt 90 (.pointer (some ⟨b, o, none⟩)) 0) w = .ok (.pointer (some ⟨b, o, none⟩)) w := by kernel_rfl
theorem X_field_90_0 (b o : Nat) : X Tryz.prog (Instr.fieldAt 90 (.pointer (some ⟨b, o, none⟩)) 0) w K = K (.pointer (some ⟨b, o, none⟩)) w := X_ok (run_field_90_0 b o w)
theorem XP_field_90_0 (b o : Nat) : XP Tryz.prog (Instr.fieldAt 90 (.pointer (some ⟨b, o, none⟩)) 0) w K = K (.pointer (some ⟨b, o, none⟩)) w := XP_ok (fun w' => run_field_90_0 b o w')
theorem run_field_90_2 (b o : Nat) (w : World) : Sem.run Tryz.prog (Instr.fieldAt 90 (.pointer (some ⟨b, o, none⟩)) 2) w = .ok (.pointer (some ⟨b, o + 2, none⟩)) w := by kernel_rfl
theorem XP_field_90_2 (b o : Nat) : XP Tryz.prog (Instr.fieldAt 90 (.pointer (some ⟨b, o, none⟩)) 2) w K = K (.pointer (some ⟨b, o + 2, none⟩)) w := XP_ok (fun w' => run_field_90_2 b o w')
theorem run_field_90_3 (b o : Nat) (w : World) : Sem.run Tryz.prog (Instr.fieldAt 90 (.pointer (some ⟨b, o, none⟩)) 3) w = .ok (.pointer (some ⟨b, o + 3, none⟩)) w := by kernel_rfl
theorem X_field_90_3 (b o : Nat) : X Tryz.prog (Instr.fieldAt 90 (.pointer (some ⟨b, o, none⟩)) 3) w K = K (.pointer (some ⟨b, o + 3, none⟩)) w := X_ok (run_field_90_3 b o w)
theorem run_field_90_4 (b o : Nat) (w : World) : Sem.run Tryz.prog (Instr.fieldAt 90 (.pointer (some ⟨b, o, none⟩)) 4) w = .ok (.pointer (some ⟨b, o + 4, none⟩)) w := by kernel_rfl
theorem X_field_90_4 (b o : Nat) : X Tryz.prog (Instr.fieldAt 90 (.pointer (some ⟨b, o, none⟩)) 4) w K = K (.pointer (some ⟨b, o + 4, none⟩)) w := X_ok (run_field_90_4 b o w)
theorem run_field_90_5 (b o : Nat) (w : World) : Sem.run Tryz.prog (Instr.fieldAt 90 (.pointer (some ⟨b, o, none⟩)) 5) w = .ok (.pointer (some ⟨b, o + 5, none⟩)) w := by kernel_rfl
theorem X_field_90_5 (b o : Nat) : X Tryz.prog (Instr.fieldAt 90 (.pointer (some ⟨b, o, none⟩)) 5) w K = K (.pointer (some ⟨b, o + 5, none⟩)) w := X_ok (run_field_90_5 b o w)
theorem run_field_92_0 (b o : Nat) (w : World) : Sem.run Tryz.prog (Instr.fieldAt 92 (.pointer (some ⟨b, o, none⟩)) 0) w = .ok (.pointer (some ⟨b, o, none⟩)) w := by kernel_rfl
theorem X_field_92_0 (b o : Nat) : X Tryz.prog (Instr.fieldAt 92 (.pointer (some ⟨b, o, none⟩)) 0) w K = K (.pointer (some ⟨b, o, none⟩)) w := X_ok (run_field_92_0 b o w)
theorem XP_field_92_0 (b o : Nat) : XP Tryz.prog (Instr.fieldAt 92 (.pointer (some ⟨b, o, none⟩)) 0) w K = K (.pointer (some ⟨b, o, none⟩)) w := XP_ok (fun w' => run_field_92_0 b o w')
theorem run_field_92_1 (b o : Nat) (w : World) : Sem.run Tryz.prog (Instr.fieldAt 92 (.pointer (some ⟨b, o, none⟩)) 1) w = .ok (.pointer (some ⟨b, o + 1, none⟩)) w := by kernel_rfl
theorem XP_field_92_1 (b o : Nat) : XP Tryz.prog (Instr.fieldAt 92 (.pointer (some ⟨b, o, none⟩)) 1) w K = K (.pointer (some ⟨b, o + 1, none⟩)) w := XP_ok (fun w' => run_field_92_1 b o w')
theorem run_field_92_2 (b o : Nat) (w : World) : Sem.run Tryz.prog (Instr.fieldAt 92 (.pointer (some ⟨b, o, none⟩)) 2) w = .ok (.pointer (some ⟨b, o + 2, none⟩)) w := by kernel_rfl
theorem X_field_92_2 (b o : Nat) : X Tryz.prog (Instr.fieldAt 92 (.pointer (some ⟨b, o, none⟩)) 2) w K = K (.pointer (some ⟨b, o + 2, none⟩)) w := X_ok (run_field_92_2 b o w)
theorem XP_field_92_2 (b o : Nat) : XP Tryz.prog (Instr.fieldAt 92 (.pointer (some ⟨b, o, none⟩)) 2) w K = K (.pointer (some ⟨b, o + 2, none⟩)) w := XP_ok (fun w' => run_field_92_2 b o w')
theorem run_field_92_3 (b o : Nat) (w : World) : Sem.run Tryz.prog (Instr.fieldAt 92 (.pointer (some ⟨b, o, none⟩)) 3) w = .ok (.pointer (some ⟨b, o + 3, none⟩)) w := by kernel_rfl
theorem X_field_92_3 (b o : Nat) : X Tryz.prog (Instr.fieldAt 92 (.pointer (some ⟨b, o, none⟩)) 3) w K = K (.pointer (some ⟨b, o + 3, none⟩)) w := X_ok (run_field_92_3 b o w)
theorem run_field_104_0 (b o : Nat) (w : World) : Sem.run Tryz.prog (Instr.fieldAt 104 (.pointer (some ⟨b, o, none⟩)) 0) w = .ok (.pointer (some ⟨b, o, none⟩)) w := by kernel_rfl
theorem X_field_104_0 (b o : Nat) : X Tryz.prog (Instr.fieldAt 104 (.pointer (some ⟨b, o, none⟩)) 0) w K = K (.pointer (some ⟨b, o, none⟩)) w := X_ok (run_field_104_0 b o w)
theorem XP_field_104_0 (b o : Nat) : XP Tryz.prog (Instr.fieldAt 104 (.pointer (some ⟨b, o, none⟩)) 0) w K = K (.pointer (some ⟨b, o, none⟩)) w := XP_ok (fun w' => run_field_104_0 b o w')
theorem run_field_104_1 (b o : Nat) (w : World) : Sem.run Tryz.prog (Instr.fieldAt 104 (.pointer (some ⟨b, o, none⟩)) 1) w = .ok (.pointer (some ⟨b, o + 1, none⟩)) w := by kernel_rfl
theorem X_field_104_1 (b o : Nat) : X Tryz.prog (Instr.fieldAt 104 (.pointer (some ⟨b, o, none⟩)) 1) w K = K (.pointer (some ⟨b, o + 1, none⟩)) w := X_ok (run_field_104_1 b o w)
theorem XP_field_104_1 (b o : Nat) : XP Tryz.prog (Instr.fieldAt 104 (.pointer (some ⟨b, o, none⟩)) 1) w K = K (.pointer (some ⟨b, o + 1, none⟩)) w := XP_ok (fun w' => run_field_104_1 b o w')
theorem run_field_117_0 (b o : Nat) (w : World) : Sem.run Tryz.prog (Instr.fieldAt 117 (.pointer (some ⟨b, o, none⟩)) 0) w = .ok (.pointer (some ⟨b, o, none⟩)) w := by kernel_rfl
theorem X_field_117_0 (b o : Nat) : X Tryz.prog (Instr.fieldAt 117 (.pointer (some ⟨b, o, none⟩)) 0) w K = K (.pointer (some ⟨b, o, none⟩)) w := X_ok (run_field_117_0 b o w)
theorem XP_field_117_0 (b o : Nat) : XP Tryz.prog (Instr.fieldAt 117 (.pointer (some ⟨b, o, none⟩)) 0) w K = K (.pointer (some ⟨b, o, none⟩)) w := XP_ok (fun w' => run_field_117_0 b o w')
theorem run_field_117_1 (b o : Nat) (w : World) : Sem.run Tryz.prog (Instr.fieldAt 117 (.pointer (some ⟨b, o, none⟩)) 1) w = .ok (.pointer (some ⟨b, o + 1, none⟩)) w := by kernel_rfl
theorem X_field_117_1 (b o : Nat) : X Tryz.prog (Instr.fieldAt 117 (.pointer (some ⟨b, o, none⟩)) 1) w K = K (.pointer (some ⟨b, o + 1, none⟩)) w := X_ok (run_field_117_1 b o w)
theorem run_field_117_2 (b o : Nat) (w : World) : Sem.run Tryz.prog (Instr.fieldAt 117 (.pointer (some ⟨b, o, none⟩)) 2) w = .ok (.pointer (some ⟨b, o + 2, none⟩)) w := by kernel_rfl
theorem X_field_117_2 (b o : Nat) : X Tryz.prog (Instr.fieldAt 117 (.pointer (some ⟨b, o, none⟩)) 2) w K = K (.pointer (some ⟨b, o + 2, none⟩)) w := X_ok (run_field_117_2 b o w)
theorem run_field_134_0 (b o : Nat) (w : World) : Sem.run Tryz.prog (Instr.fieldAt 134 (.pointer (some ⟨b, o, none⟩)) 0) w = .ok (.pointer (some ⟨b, o, none⟩)) w := by kernel_rfl
theorem X_field_134_0 (b o : Nat) : X Tryz.prog (Instr.fieldAt 134 (.pointer (some ⟨b, o, none⟩)) 0) w K = K (.pointer (some ⟨b, o, none⟩)) w := X_ok (run_field_134_0 b o w)
theorem XP_field_134_0 (b o : Nat) : XP Tryz.prog (Instr.fieldAt 134 (.pointer (some ⟨b, o, none⟩)) 0) w K = K (.pointer (some ⟨b, o, none⟩)) w := XP_ok (fun w' => run_field_134_0 b o w')
theorem run_field_134_1 (b o : Nat) (w : World) : Sem.run Tryz.prog (Instr.fieldAt 134 (.pointer (some ⟨b, o, none⟩)) 1) w = .ok (.pointer (some ⟨b, o + 1, none⟩)) w := by kernel_rfl
theorem XP_field_134_1 (b o : Nat) : XP Tryz.prog (Instr.fieldAt 134 (.pointer (some ⟨b, o, none⟩)) 1) w K = K (.pointer (some ⟨b, o + 1, none⟩)) w := XP_ok (fun w' => run_field_134_1 b o w')
theorem run_field_134_2 (b o : Nat) (w : World) : Sem.run Tryz.prog (Instr.fieldAt 134 (.pointer (some ⟨b, o, none⟩)) 2) w = .ok (.pointer (some ⟨b, o + 2, none⟩)) w := by kernel_rfl
theorem XP_field_134_2 (b o : Nat) : XP Tryz.prog (Instr.fieldAt 134 (.pointer (some ⟨b, o, none⟩)) 2) w K = K (.pointer (some ⟨b, o + 2, none⟩)) w := XP_ok (fun w' => run_field_134_2 b o w')
theorem run_field_134_3 (b o : Nat) (w : World) : Sem.run Tryz.prog (Instr.fieldAt 134 (.pointer (some ⟨b, o, none⟩)) 3) w = .ok (.pointer (some ⟨b, o + 3, none⟩)) w := by kernel_rfl
theorem X_field_134_3 (b o : Nat) : X Tryz.prog (Instr.fieldAt 134 (.pointer (some ⟨b, o, none⟩)) 3) w K = K (.pointer (some ⟨b, o + 3, none⟩)) w := X_ok (run_field_134_3 b o w)
theorem run_field_134_4 (b o : Nat) (w : World) : Sem.run Tryz.prog (Instr.fieldAt 134 (.pointer (some ⟨b, o, none⟩)) 4) w = .ok (.pointer (some ⟨b, o + 4, none⟩)) w := by kernel_rfl
theorem X_field_134_4 (b o : Nat) : X Tryz.prog (Instr.fieldAt 134 (.pointer (some ⟨b, o, none⟩)) 4) w K = K (.pointer (some ⟨b, o + 4, none⟩)) w := X_ok (run_field_134_4 b o w)
theorem run_field_139_0 (b o : Nat) (w : World) : Sem.run Tryz.prog (Instr.fieldAt 139 (.pointer (some ⟨b, o, none⟩)) 0) w = .ok (.pointer (some ⟨b, o, none⟩)) w := by kernel_rfl
theorem X_field_139_0 (b o : Nat) : X Tryz.prog (Instr.fieldAt 139 (.pointer (some ⟨b, o, none⟩)) 0) w K = K (.pointer (some ⟨b, o, none⟩)) w := X_ok (run_field_139_0 b o w)
theorem XP_field_139_0 (b o : Nat) : XP Tryz.prog (Instr.fieldAt 139 (.pointer (some ⟨b, o, none⟩)) 0) w K = K (.pointer (some ⟨b, o, none⟩)) w := XP_ok (fun w' => run_field_139_0 b o w')
theorem run_field_139_1 (b o : Nat) (w : World) : Sem.run Tryz.prog (Instr.fieldAt 139 (.pointer (some ⟨b, o, none⟩)) 1) w = .ok (.pointer (some ⟨b, o + 8, none⟩)) w := by kernel_rfl
theorem X_field_139_1 (b o : Nat) : X Tryz.prog (Instr.fieldAt 139 (.pointer (some ⟨b, o, none⟩)) 1) w K = K (.pointer (some ⟨b, o + 8, none⟩)) w := X_ok (run_field_139_1 b o w)
theorem run_field_139_2 (b o : Nat) (w : World) : Sem.run Tryz.prog (Instr.fieldAt 139 (.pointer (some ⟨b, o, none⟩)) 2) w = .ok (.pointer (some ⟨b, o + 72, none⟩)) w := by kernel_rfl
theorem X_field_139_2 (b o : Nat) : X Tryz.prog (Instr.fieldAt 139 (.pointer (some ⟨b, o, none⟩)) 2) w K = K (.pointer (some ⟨b, o + 72, none⟩)) w := X_ok (run_field_139_2 b o w)
theorem XP_field_139_2 (b o : Nat) : XP Tryz.prog (Instr.fieldAt 139 (.pointer (some ⟨b, o, none⟩)) 2) w K = K (.pointer (some ⟨b, o + 72, none⟩)) w := XP_ok (fun w' => run_field_139_2 b o w')
theorem run_field_146_0 (b o : Nat) (w : World) : Sem.run Tryz.prog (Instr.fieldAt 146 (.pointer (some ⟨b, o, none⟩)) 0) w = .ok (.pointer (some ⟨b, o, none⟩)) w := by kernel_rfl
theorem XP_field_146_0 (b o : Nat) : XP Tryz.prog (Instr.fieldAt 146 (.pointer (some ⟨b, o, none⟩)) 0) w K = K (.pointer (some ⟨b, o, none⟩)) w := XP_ok (fun w' => run_field_146_0 b o w')
theorem run_field_146_1 (b o : Nat) (w : World) : Sem.run Tryz.prog (Instr.fieldAt 146 (.pointer (some ⟨b, o, none⟩)) 1) w = .ok (.pointer (some ⟨b, o + 1, none⟩)) w := by kernel_rfl
theorem XP_field_146_1 (b o : Nat) : XP Tryz.prog (Instr.fieldAt 146 (.pointer (some ⟨b, o, none⟩)) 1) w K = K (.pointer (some ⟨b, o + 1, none⟩)) w := XP_ok (fun w' => run_field_146_1 b o w')
theorem run_field_146_2 (b o : Nat) (w : World) : Sem.run Tryz.prog (Instr.fieldAt 146 (.pointer (some ⟨b, o, none⟩)) 2) w = .ok (.pointer (some ⟨b, o + 2, none⟩)) w := by kernel_rfl
theorem X_field_146_2 (b o : Nat) : X Tryz.prog (Instr.fieldAt 146 (.pointer (some ⟨b, o, none⟩)) 2) w K = K (.pointer (some ⟨b, o + 2, none⟩)) w := X_ok (run_field_146_2 b o w)
theorem XP_field_146_2 (b o : Nat) : XP Tryz.prog (Instr.fieldAt 146 (.pointer (some ⟨b, o, none⟩)) 2) w K = K (.pointer (some ⟨b, o + 2, none⟩)) w := XP_ok (fun w' => run_field_146_2 b o w')
theorem run_field_162_1 (b o : Nat) (w : World) : Sem.run Tryz.prog (Instr.fieldAt 162 (.pointer (some ⟨b, o, none⟩)) 1) w = .ok (.pointer (some ⟨b, o + 1, none⟩)) w := by kernel_rfl
theorem X_field_162_1 (b o : Nat) : X Tryz.prog (Instr.fieldAt 162 (.pointer (some ⟨b, o, none⟩)) 1) w K = K (.pointer (some ⟨b, o + 1, none⟩)) w := X_ok (run_field_162_1 b o w)
theorem XP_field_162_1 (b o : Nat) : XP Tryz.prog (Instr.fieldAt 162 (.pointer (some ⟨b, o, none⟩)) 1) w K = K (.pointer (some ⟨b, o + 1, none⟩)) w := XP_ok (fun w' => run_field_162_1 b o w')
theorem run_field_165_0 (b o : Nat) (w : World) : Sem.run Tryz.prog (Instr.fieldAt 165 (.pointer (some ⟨b, o, none⟩)) 0) w = .ok (.pointer (some ⟨b, o, none⟩)) w := by kernel_rfl
theorem X_field_165_0 (b o : Nat) : X Tryz.prog (Instr.fieldAt 165 (.pointer (some ⟨b, o, none⟩)) 0) w K = K (.pointer (some ⟨b, o, none⟩)) w := X_ok (run_field_165_0 b o w)
theorem XP_field_165_0 (b o : Nat) : XP Tryz.prog (Instr.fieldAt 165 (.pointer (some ⟨b, o, none⟩)) 0) w K = K (.pointer (some ⟨b, o, none⟩)) w := XP_ok (fun w' => run_field_165_0 b o w')
theorem run_field_165_1 (b o : Nat) (w : World) : Sem.run Tryz.prog (Instr.fieldAt 165 (.pointer (some ⟨b, o, none⟩)) 1) w = .ok (.pointer (some ⟨b, o + 4, none⟩)) w := by kernel_rfl
theorem X_field_165_1 (b o : Nat) : X Tryz.prog (Instr.fieldAt 165 (.pointer (some ⟨b, o, none⟩)) 1) w K = K (.pointer (some ⟨b, o + 4, none⟩)) w := X_ok (run_field_165_1 b o w)
theorem XP_field_165_1 (b o : Nat) : XP Tryz.prog (Instr.fieldAt 165 (.pointer (some ⟨b, o, none⟩)) 1) w K = K (.pointer (some ⟨b, o + 4, none⟩)) w := XP_ok (fun w' => run_field_165_1 b o w')
theorem run_field_165_2 (b o : Nat) (w : World) : Sem.run Tryz.prog (Instr.fieldAt 165 (.pointer (some ⟨b, o, none⟩)) 2) w = .ok (.pointer (some ⟨b, o + 5, none⟩)) w := by kernel_rfl
theorem X_field_165_2 (b o : Nat) : X Tryz.prog (Instr.fieldAt 165 (.pointer (some ⟨b, o, none⟩)) 2) w K = K (.pointer (some ⟨b, o + 5, none⟩)) w := X_ok (run_field_165_2 b o w)
theorem XP_field_165_2 (b o : Nat) : XP Tryz.prog (Instr.fieldAt 165 (.pointer (some ⟨b, o, none⟩)) 2) w K = K (.pointer (some ⟨b, o + 5, none⟩)) w := XP_ok (fun w' => run_field_165_2 b o w')
theorem run_field_167_0 (b o : Nat) (w : World) : Sem.run Tryz.prog (Instr.fieldAt 167 (.pointer (some ⟨b, o, none⟩)) 0) w = .ok (.pointer (some ⟨b, o, none⟩)) w := by kernel_rfl
theorem X_field_167_0 (b o : Nat) : X Tryz.prog (Instr.fieldAt 167 (.pointer (some ⟨b, o, none⟩)) 0) w K = K (.pointer (some ⟨b, o, none⟩)) w := X_ok (run_field_167_0 b o w)
theorem run_field_167_1 (b o : Nat) (w : World) : Sem.run Tryz.prog (Instr.fieldAt 167 (.pointer (some ⟨b, o, none⟩)) 1) w = .ok (.pointer (some ⟨b, o + 7, none⟩)) w := by kernel_rfl
theorem X_field_167_1 (b o : Nat) : X Tryz.prog (Instr.fieldAt 167 (.pointer (some ⟨b, o, none⟩)) 1) w K = K (.pointer (some ⟨b, o + 7, none⟩)) w := X_ok (run_field_167_1 b o w)
theorem run_field_172_0 (b o : Nat) (w : World) : Sem.run Tryz.prog (Instr.fieldAt 172 (.pointer (some ⟨b, o, none⟩)) 0) w = .ok (.pointer (some ⟨b, o, none⟩)) w := by kernel_rfl
theorem X_field_172_0 (b o : Nat) : X Tryz.prog (Instr.fieldAt 172 (.pointer (some ⟨b, o, none⟩)) 0) w K = K (.pointer (some ⟨b, o, none⟩)) w := X_ok (run_field_172_0 b o w)
theorem run_field_172_1 (b o : Nat) (w : World) : Sem.run Tryz.prog (Instr.fieldAt 172 (.pointer (some ⟨b, o, none⟩)) 1) w = .ok (.pointer (some ⟨b, o + 1, none⟩)) w := by kernel_rfl
theorem X_field_172_1 (b o : Nat) : X Tryz.prog (Instr.fieldAt 172 (.pointer (some ⟨b, o, none⟩)) 1) w K = K (.pointer (some ⟨b, o + 1, none⟩)) w := X_ok (run_field_172_1 b o w)
theorem run_field_172_2 (b o : Nat) (w : World) : Sem.run Tryz.prog (Instr.fieldAt 172 (.pointer (some ⟨b, o, none⟩)) 2) w = .ok (.pointer (some ⟨b, o + 2, none⟩)) w := by kernel_rfl
theorem X_field_172_2 (b o : Nat) : X Tryz.prog (Instr.fieldAt 172 (.pointer (some ⟨b, o, none⟩)) 2) w K = K (.pointer (some ⟨b, o + 2, none⟩)) w := X_ok (run_field_172_2 b o w)
theorem run_field_175_0 (b o : Nat) (w : World) : Sem.run Tryz.prog (Instr.fieldAt 175 (.pointer (some ⟨b, o, none⟩)) 0) w = .ok (.pointer (some ⟨b, o, none⟩)) w := by kernel_rfl
theorem X_field_175_0 (b o : Nat) : X Tryz.prog (Instr.fieldAt 175 (.pointer (some ⟨b, o, none⟩)) 0) w K = K (.pointer (some ⟨b, o, none⟩)) w := X_ok (run_field_175_0 b o w)
theorem XP_field_175_0 (b o : Nat) : XP Tryz.prog (Instr.fieldAt 175 (.pointer (some ⟨b, o, none⟩)) 0) w K = K (.pointer (some ⟨b, o, none⟩)) w := XP_ok (fun w' => run_field_175_0 b o w')
theorem run_field_175_1 (b o : Nat) (w : World) : Sem.run Tryz.prog (Instr.fieldAt 175 (.pointer (some ⟨b, o, none⟩)) 1) w = .ok (.pointer (some ⟨b, o + 1, none⟩)) w := by kernel_rfl
theorem X_field_175_1 (b o : Nat) : X Tryz.prog (Instr.fieldAt 175 (.pointer (some ⟨b, o, none⟩)) 1) w K = K (.pointer (some ⟨b, o + 1, none⟩)) w := X_ok (run_field_175_1 b o w)
theorem XP_field_175_1 (b o : Nat) : XP Tryz.prog (Instr.fieldAt 175 (.pointer (some ⟨b, o, none⟩)) 1) w K = K (.pointer (some ⟨b, o + 1, none⟩)) w := XP_ok (fun w' => run_field_175_1 b o w')
theorem run_field_175_2 (b o : Nat) (w : World) : Sem.run Tryz.prog (Instr.fieldAt 175 (.pointer (some ⟨b, o, none⟩)) 2) w = .ok (.pointer (some ⟨b, o + 2, none⟩)) w := by kernel_rfl
theorem X_field_175_2 (b o : Nat) : X Tryz.prog (Instr.fieldAt 175 (.pointer (some ⟨b, o, none⟩)) 2) w K = K (.pointer (some ⟨b, o + 2, none⟩)) w := X_ok (run_field_175_2 b o w)
theorem XP_field_175_2 (b o : Nat) : XP Tryz.prog (Instr.fieldAt 175 (.pointer (some ⟨b, o, none⟩)) 2) w K = K (.pointer (some ⟨b, o + 2, none⟩)) w := XP_ok (fun w' => run_field_175_2 b o w')
theorem run_field_184_0 (b o : Nat) (w : World) : Sem.run Tryz.prog (Instr.fieldAt 184 (.pointer (some ⟨b, o, none⟩)) 0) w = .ok (.pointer (some ⟨b, o, none⟩)) w := by kernel_rfl
theorem X_field_184_0 (b o : Nat) : X Tryz.prog (Instr.fieldAt 184 (.pointer (some ⟨b, o, none⟩)) 0) w K = K (.pointer (some ⟨b, o, none⟩)) w := X_ok (run_field_184_0 b o w)
theorem XP_field_184_0 (b o : Nat) : XP Tryz.prog (Instr.fieldAt 184 (.pointer (some ⟨b, o, none⟩)) 0) w K = K (.pointer (some ⟨b, o, none⟩)) w := XP_ok (fun w' => run_field_184_0 b o w')
theorem run_field_184_1 (b o : Nat) (w : World) : Sem.run Tryz.prog (Instr.fieldAt 184 (.pointer (some ⟨b, o, none⟩)) 1) w = .ok (.pointer (some ⟨b, o + 33, none⟩)) w := by kernel_rfl
theorem X_field_184_1 (b o : Nat) : X Tryz.prog (Instr.fieldAt 184 (.pointer (some ⟨b, o, none⟩)) 1) w K = K (.pointer (some ⟨b, o + 33, none⟩)) w := X_ok (run_field_184_1 b o w)
theorem XP_field_184_1 (b o : Nat) : XP Tryz.prog (Instr.fieldAt 184 (.pointer (some ⟨b, o, none⟩)) 1) w K = K (.pointer (some ⟨b, o + 33, none⟩)) w := XP_ok (fun w' => run_field_184_1 b o w')
theorem run_field_209_0 (b o : Nat) (w : World) : Sem.run Tryz.prog (Instr.fieldAt 209 (.pointer (some ⟨b, o, none⟩)) 0) w = .ok (.pointer (some ⟨b, o, none⟩)) w := by kernel_rfl
theorem X_field_209_0 (b o : Nat) : X Tryz.prog (Instr.fieldAt 209 (.pointer (some ⟨b, o, none⟩)) 0) w K = K (.pointer (some ⟨b, o, none⟩)) w := X_ok (run_field_209_0 b o w)
theorem XP_field_209_0 (b o : Nat) : XP Tryz.prog (Instr.fieldAt 209 (.pointer (some ⟨b, o, none⟩)) 0) w K = K (.pointer (some ⟨b, o, none⟩)) w := XP_ok (fun w' => run_field_209_0 b o w')
theorem run_field_209_1 (b o : Nat) (w : World) : Sem.run Tryz.prog (Instr.fieldAt 209 (.pointer (some ⟨b, o, none⟩)) 1) w = .ok (.pointer (some ⟨b, o + 1, none⟩)) w := by kernel_rfl
theorem X_field_209_1 (b o : Nat) : X Tryz.prog (Instr.fieldAt 209 (.pointer (some ⟨b, o, none⟩)) 1) w K = K (.pointer (some ⟨b, o + 1, none⟩)) w := X_ok (run_field_209_1 b o w)
theorem XP_field_209_1 (b o : Nat) : XP Tryz.prog (Instr.fieldAt 209 (.pointer (some ⟨b, o, none⟩)) 1) w K = K (.pointer (some ⟨b, o + 1, none⟩)) w := XP_ok (fun w' => run_field_209_1 b o w')
theorem X_eql_nil_24 (a b : Operand) (p : Option Addr) : X Tryz.prog (binOpG .eql 24 a b (.pointer p) (.pointer none)) w K = K (.bool p.isNone) w := X_ok (run_eql_nil Tryz.underlying24 a b p w)
theorem XP_eql_nil_24 (a b : Operand) (p : Option Addr) : XP Tryz.prog (binOpG .eql 24 a b (.pointer p) (.pointer none)) w K = K (.bool p.isNone) w := XP_ok (fun w' => run_eql_nil Tryz.underlying24 a b p w')
theorem X_neq_nil_24 (a b : Operand) (p : Option Addr) : X Tryz.prog (binOpG .neq 24 a b (.pointer p) (.pointer none)) w K = K (.bool p.isSome) w := X_ok (run_neq_nil Tryz.underlying24 a b p w)
theorem XP_neq_nil_24 (a b : Operand) (p : Option Addr) : XP Tryz.prog (binOpG .neq 24 a b (.pointer p) (.pointer none)) w K = K (.bool p.isSome) w := XP_ok (fun w' => run_neq_nil Tryz.underlying24 a b p w')
theorem X_eql_nil_54 (a b : Operand) (p : Option Addr) : X Tryz.prog (binOpG .eql 54 a b (.pointer p) (.pointer none)) w K = K (.bool p.isNone) w := X_ok (run_eql_nil Tryz.underlying54 a b p w)
theorem XP_eql_nil_54 (a b : Operand) (p : Option Addr) : XP Tryz.prog (binOpG .eql 54 a b (.pointer p) (.pointer none)) w K = K (.bool p.isNone) w := XP_ok (fun w' => run_eql_nil Tryz.underlying54 a b p w')
theorem X_neq_nil_54 (a b : Operand) (p : Option Addr) : X Tryz.prog (binOpG .neq 54 a b (.pointer p) (.pointer none)) w K = K (.bool p.isSome) w := X_ok (run_neq_nil Tryz.underlying54 a b p w)
theorem XP_neq_nil_54 (a b : Operand) (p : Option Addr) : XP Tryz.prog (binOpG .neq 54 a b (.pointer p) (.pointer none)) w K = K (.bool p.isSome) w := XP_ok (fun w' => run_neq_nil Tryz.underlying54 a b p w')
theorem X_eql_nil_57 (a b : Operand) (p : Option Addr) : X Tryz.prog (binOpG .eql 57 a b (.pointer p) (.pointer none)) w K = K (.bool p.isNone) w := X_ok (run_eql_nil Tryz.underlying57 a b p w)
theorem XP_eql_nil_57 (a b : Operand) (p : Option Addr) : XP Tryz.prog (binOpG .eql 57 a b (.pointer p) (.pointer none)) w K = K (.bool p.isNone) w := XP_ok (fun w' => run_eql_nil Tryz.underlying57 a b p w')
theorem X_neq_nil_57 (a b : Operand) (p : Option Addr) : X Tryz.prog (binOpG .neq 57 a b (.pointer p) (.pointer none)) w K = K (.bool p.isSome) w := X_ok (run_neq_nil Tryz.underlying57 a b p w)
theorem XP_neq_nil_57 (a b : Operand) (p : Option Addr) : XP Tryz.prog (binOpG .neq 57 a b (.pointer p) (.pointer none)) w K = K (.bool p.isSome) w := XP_ok (fun w' => run_neq_nil Tryz.underlying57 a b p w')
theorem X_eql_nil_68 (a b : Operand) (p : Option Addr) : X Tryz.prog (binOpG .eql 68 a b (.pointer p) (.pointer none)) w K = K (.bool p.isNone) w := X_ok (run_eql_nil Tryz.underlying68 a b p w)
theorem XP_eql_nil_68 (a b : Operand) (p : Option Addr) : XP Tryz.prog (binOpG .eql 68 a b (.pointer p) (.pointer none)) w K = K (.bool p.isNone) w := XP_ok (fun w' => run_eql_nil Tryz.underlying68 a b p w')
theorem X_neq_nil_68 (a b : Operand) (p : Option Addr) : X Tryz.prog (binOpG .neq 68 a b (.pointer p) (.pointer none)) w K = K (.bool p.isSome) w := X_ok (run_neq_nil Tryz.underlying68 a b p w)
theorem XP_neq_nil_68 (a b : Operand) (p : Option Addr) : XP Tryz.prog (binOpG .neq 68 a b (.pointer p) (.pointer none)) w K = K (.bool p.isSome) w := XP_ok (fun w' => run_neq_nil Tryz.underlying68 a b p w')
theorem X_eql_nil_69 (a b : Operand) (p : Option Addr) : X Tryz.prog (binOpG .eql 69 a b (.pointer p) (.pointer none)) w K = K (.bool p.isNone) w := X_ok (run_eql_nil Tryz.underlying69 a b p w)
theorem XP_eql_nil_69 (a b : Operand) (p : Option Addr) : XP Tryz.prog (binOpG .eql 69 a b (.pointer p) (.pointer none)) w K = K (.bool p.isNone) w := XP_ok (fun w' => run_eql_nil Tryz.underlying69 a b p w')
theorem X_neq_nil_69 (a b : Operand) (p : Option Addr) : X Tryz.prog (binOpG .neq 69 a b (.pointer p) (.pointer none)) w K = K (.bool p.isSome) w := X_ok (run_neq_nil Tryz.underlying69 a b p w)
theorem XP_neq_nil_69 (a b : Operand) (p : Option Addr) : XP Tryz.prog (binOpG .neq 69 a b (.pointer p) (.pointer none)) w K = K (.bool p.isSome) w := XP_ok (fun w' => run_neq_nil Tryz.underlying69 a b p w')
theorem X_eql_nil_97 (a b : Operand) (p : Option Addr) : X Tryz.prog (binOpG .eql 97 a b (.pointer p) (.pointer none)) w K = K (.bool p.isNone) w := X_ok (run_eql_nil Tryz.underlying97 a b p w)
theorem XP_eql_nil_97 (a b : Operand) (p : Option Addr) : XP Tryz.prog (binOpG .eql 97 a b (.pointer p) (.pointer none)) w K = K (.bool p.isNone) w := XP_ok (fun w' => run_eql_nil Tryz.underlying97 a b p w')
theorem X_neq_nil_97 (a b : Operand) (p : Option Addr) : X Tryz.prog (binOpG .neq 97 a b (.pointer p) (.pointer none)) w K = K (.bool p.isSome) w := X_ok (run_neq_nil Tryz.underlying97 a b p w)
theorem XP_neq_nil_97 (a b : Operand) (p : Option Addr) : XP Tryz.prog (binOpG .neq 97 a b (.pointer p) (.pointer none)) w K = K (.bool p.isSome) w := XP_ok (fun w' => run_neq_nil Tryz.underlying97 a b p w')
theorem X_eql_nil_101 (a b : Operand) (p : Option Addr) : X Tryz.prog (binOpG .eql 101 a b (.pointer p) (.pointer none)) w K = K (.bool p.isNone) w := X_ok (run_eql_nil Tryz.underlying101 a b p w)
theorem XP_eql_nil_101 (a b : Operand) (p : Option Addr) : XP Tryz.prog (binOpG .eql 101 a b (.pointer p) (.pointer none)) w K = K (.bool p.isNone) w := XP_ok (fun w' => run_eql_nil Tryz.underlying101 a b p w')
theorem X_neq_nil_101 (a b : Operand) (p : Option Addr) : X Tryz.prog (binOpG .neq 101 a b (.pointer p) (.pointer none)) w K = K (.bool p.isSome) w := X_ok (run_neq_nil Tryz.underlying101 a b p w)
theorem XP_neq_nil_101 (a b : Operand) (p : Option Addr) : XP Tryz.prog (binOpG .neq 101 a b (.pointer p) (.pointer none)) w K = K (.bool p.isSome) w := XP_ok (fun w' => run_neq_nil Tryz.underlying101 a b p w')
theorem X_eql_nil_120 (a b : Operand) (p : Option Addr) : X Tryz.prog (binOpG .eql 120 a b (.pointer p) (.pointer none)) w K = K (.bool p.isNone) w := X_ok (run_eql_nil Tryz.underlying120 a b p w)
theorem XP_eql_nil_120 (a b : Operand) (p : Option Addr) : XP Tryz.prog (binOpG .eql 120 a b (.pointer p) (.pointer none)) w K = K (.bool p.isNone) w := XP_ok (fun w' => run_eql_nil Tryz.underlying120 a b p w')
theorem X_neq_nil_120 (a b : Operand) (p : Option Addr) : X Tryz.prog (binOpG .neq 120 a b (.pointer p) (.pointer none)) w K = K (.bool p.isSome) w := X_ok (run_neq_nil Tryz.underlying120 a b p w)
theorem XP_neq_nil_120 (a b : Operand) (p : Option Addr) : XP Tryz.prog (binOpG .neq 120 a b (.pointer p) (.pointer none)) w K = K (.bool p.isSome) w := XP_ok (fun w' => run_neq_nil Tryz.underlying120 a b p w')
theorem X_eql_nil_127 (a b : Operand) (p : Option Addr) : X Tryz.prog (binOpG .eql 127 a b (.pointer p) (.pointer none)) w K = K (.bool p.isNone) w := X_ok (run_eql_nil Tryz.underlying127 a b p w)
theorem XP_eql_nil_127 (a b : Operand) (p : Option Addr) : XP Tryz.prog (binOpG .eql 127 a b (.pointer p) (.pointer none)) w K = K (.bool p.isNone) w := XP_ok (fun w' => run_eql_nil Tryz.underlying127 a b p w')
theorem X_neq_nil_127 (a b : Operand) (p : Option Addr) : X Tryz.prog (binOpG .neq 127 a b (.pointer p) (.pointer none)) w K = K (.bool p.isSome) w := X_ok (run_neq_nil Tryz.underlying127 a b p w)
theorem XP_neq_nil_127 (a b : Operand) (p : Option Addr) : XP Tryz.prog (binOpG .neq 127 a b (.pointer p) (.pointer none)) w K = K (.bool p.isSome) w := XP_ok (fun w' => run_neq_nil Tryz.underlying127 a b p w')
theorem X_eql_nil_130 (a b : Operand) (p : Option Addr) : X Tryz.prog (binOpG .eql 130 a b (.pointer p) (.pointer none)) w K = K (.bool p.isNone) w := X_ok (run_eql_nil Tryz.underlying130 a b p w)
theorem XP_eql_nil_130 (a b : Operand) (p : Option Addr) : XP Tryz.prog (binOpG .eql 130 a b (.pointer p) (.pointer none)) w K = K (.bool p.isNone) w := XP_ok (fun w' => run_eql_nil Tryz.underlying130 a b p w')
theorem X_neq_nil_130 (a b : Operand) (p : Option Addr) : X Tryz.prog (binOpG .neq 130 a b (.pointer p) (.pointer none)) w K = K (.bool p.isSome) w := X_ok (run_neq_nil Tryz.underlying130 a b p w)
theorem XP_neq_nil_130 (a b : Operand) (p : Option Addr) : XP Tryz.prog (binOpG .neq 130 a b (.pointer p) (.pointer none)) w K = K (.bool p.isSome) w := XP_ok (fun w' => run_neq_nil Tryz.underlying130 a b p w')
theorem X_eql_nil_185 (a b : Operand) (p : Option Addr) : X Tryz.prog (binOpG .eql 185 a b (.pointer p) (.pointer none)) w K = K (.bool p.isNone) w := X_ok (run_eql_nil Tryz.underlying185 a b p w)
theorem XP_eql_nil_185 (a b : Operand) (p : Option Addr) : XP Tryz.prog (binOpG .eql 185 a b (.pointer p) (.pointer none)) w K = K (.bool p.isNone) w := XP_ok (fun w' => run_eql_nil Tryz.underlying185 a b p w')
theorem X_neq_nil_185 (a b : Operand) (p : Option Addr) : X Tryz.prog (binOpG .neq 185 a b (.pointer p) (.pointer none)) w K = K (.bool p.isSome) w := X_ok (run_neq_nil Tryz.underlying185 a b p w)
theorem XP_neq_nil_185 (a b : Operand) (p : Option Addr) : XP Tryz.prog (binOpG .neq 185 a b (.pointer p) (.pointer none)) w K = K (.bool p.isSome) w := XP_ok (fun w' => run_neq_nil Tryz.underlying185 a b p w')
theorem X_eql_bool_4 (a b : Operand) (x y : Bool) : X Tryz.prog (binOpG .eql 4 a b (.bool x) (.bool y)) w K = K (.bool (x == y)) w := X_ok (Go.Sh.run_eql_bool Tryz.underlying4 a b x y w)
end
set_option linter.defProp false in
def ST := And.intro (And.intro (And.intro (And.intro (And.intro (And.intro (@agg_3) (@sz_3)) (And.intro (@info_3) (@agg_5))) (And.intro (And.intro (@sz_5) (@info_5)) (And.intro (@agg_28) (@sz_28)))) (And.intro (And.intro (And.intro (@info_28) (@agg_31)) (And.intro (@sz_31) (@info_31))) (And.intro (And.intro (@agg_34) (@sz_34)) (And.intro (@info_34) (And.intro (@agg_37) (@sz_37)))))) (And.intro (And.intro (And.intro (And.intro (@info_37) (@agg_185)) (And.intro (@sz_185) (@info_185))) (And.intro (And.intro (@agg_209) (@sz_209)) (And.intro (@info_209) (And.intro (@agg_224) (@sz_224))))) (And.intro (And.intro (And.intro (@info_224) (@X_len_28)) (And.intro (@XP_len_28) (@X_conv_3_5))) (And.intro (And.intro (@XP_conv_3_5) (@XR_conv_3_5)) (And.intro (@X_conv_3_31) (And.intro (@XP_conv_3_31) (@XR_conv_3_31))))))) (And.intro (And.intro (And.intro (And.intro (And.intro (@X_conv_3_37) (@XP_conv_3_37)) (And.intro (@XR_conv_3_37) (@X_conv_5_3))) (And.intro (And.intro (@XP_conv_5_3) (@XR_conv_5_3)) (And.intro (@X_conv_5_31) (@XP_conv_5_31)))) (And.intro (And.intro (And.intro (@XR_conv_5_31) (@X_conv_5_37)) (And.intro (@XP_conv_5_37) (@XR_conv_5_37))) (And.intro (And.intro (@X_conv_31_5) (@XP_conv_31_5)) (And.intro (@XR_conv_31_5) (And.intro (@X_conv_31_37) (@XP_conv_31_37)))))) (And.intro (And.intro (And.intro (And.intro (@XR_conv_31_37) (@X_conv_37_3)) (And.intro (@XP_conv_37_3) (@XR_conv_37_3))) (And.intro (And.intro (@X_conv_37_5) (@XP_conv_37_5)) (And.intro (@XR_conv_37_5) (And.intro (@X_conv_37_31) (@XP_conv_37_31))))) (And.intro (And.intro (And.intro (@XR_conv_37_31) (@X_field_209_0)) (And.intro (@XP_field_209_0) (@X_field_209_1))) (And.intro (And.intro (@XP_field_209_1) (@X_eql_nil_185)) (And.intro (@XP_eql_nil_185) (And.intro (@X_neq_nil_185) (@XP_neq_nil_185)))))))
end Go.Proofs.YtcigpjejbkngfaaGreatDoor
end
section
namespace Go.Sh
open Go
def envOf (a : Act) : Env := fun t => a.tmps.getD t undef
theorem ev_envOf (a : Act) (x : Operand) : ev (envOf a) x = a.eval x := by cases x <;> rfl
theorem ev_envOf' (a : Act) : ev (envOf a) = a.eval := funext (ev_envOf a)
theorem envOf_put (a : Act) (d : Option Nat) (v : Value) (h : ∀ t, d = some t → t < a.tmps.size) : envOf (a.put d v) = updO (envOf a) d v := by
  cases d with
  | none => rfl
  | some d =>
    have hd := h d rfl
    funext t
    by_cases e : t = d
    · subst e; simp [envOf, Act.put, updO, upd, hd]
    · simp [envOf, Act.put, updO, upd, e, Array.getElem?_setIfInBounds_ne (Ne.symm e)]
theorem put_size (a : Act) (d : Option Nat) (v : Value) : (a.put d v).tmps.size = a.tmps.size := by cases d <;> simp [Act.put]
theorem put_defers (a : Act) (d : Option Nat) (v : Value) : (a.put d v).defers = a.defers := by cases d <;> rfl
theorem map_list {α β : Type} (xs : Array α) (f : α → β) : (xs.toList.map f).toArray = xs.map f := by
  apply Array.ext'
  simp
theorem upon_value {P : Program} {o : Oper} {a : Act} {w : World} {next : Act → World → Prop} {Q : Exit → Act → World → Prop} {s : Sem Value} {K : Value → World → Prop}
    (he : execOp a.eval o = (do pure (.value (← s)))) (h : X P s w K) (hk : ∀ v w', K v w' → next (a.put o.dst v) w') : o.wp P a w next Q := by
  obtain ⟨v, w', hr, hK⟩ := X_iff.1 h
  unfold Oper.wp
  rw [he]
  simp only [Sem.run_bind, hr, Result.andThen_ok, Sem.run_pure, Oper.upon]
  exact hk _ _ hK
theorem upon_unit {P : Program} {o : Oper} {a : Act} {w : World} {next : Act → World → Prop} {Q : Exit → Act → World → Prop} {s : Sem Unit} {K : World → Prop}
    (he : execOp a.eval o = (do s; pure .skip)) (h : XU P s w K) (hk : ∀ w', K w' → next (a.put o.dst undef) w') : o.wp P a w next Q := by
  obtain ⟨w', hr, hK⟩ := XU_iff.1 h
  unfold Oper.wp
  rw [he]
  simp only [Sem.run_bind, hr, Result.andThen_ok, Sem.run_pure, Oper.upon]
  exact hk _ hK
theorem X_of_no {P : Program} {s : Sem Value} {K : Value → World → Prop} {w : World} {why : String} (e : s = stuck why) (h : X P s w K) : False := by
  obtain ⟨v, w', hr, _⟩ := X_iff.1 h
  subst e
  simp [stuck] at hr
theorem enter_of_callFunc {P : Program} {f : FuncId} {args : Array Value} {w : World} (h : callOk P f = true) : (callFunc f args).run P w = .ok (.enter f args) w := by
  unfold callOk at h
  cases hf : P.funcs[f]? with
  | none => simp [hf] at h
  | some fn =>
    simp only [hf, Bool.and_eq_true, Bool.not_eq_true'] at h
    have h1 : ¬ (fn.name == "runtime.NumGoroutine") = true := by rw [h.1]; simp
    have h2 : ¬ fn.body.isNone = true := by cases hb : fn.body <;> simp_all
    unfold callFunc
    simp only [program, Sem.run_bind, Sem.run, Result.andThen_ok, hf]
    rw [if_neg h1, if_neg h2]
    rfl
theorem calls_wp {P : Program} {o : Oper} {a : Act} {w : World} {next : Act → World → Prop} {Q : Exit → Act → World → Prop} {f : FuncId} {args : Array Value} {K : Value → World → Prop}
    (he : (execOp a.eval o).run P w = (callFunc f args).run P w) (h : CALL P f args w K) (hk : ∀ v w', K v w' → next (a.put o.dst v) w') : o.wp P a w next Q := by
  unfold Oper.wp
  rw [he]
  rcases h with h | ⟨v, w', h1, h2⟩
  · rw [enter_of_callFunc h.1]
    simp only [Oper.upon]
    refine h.2.mono fun e w' hh => ?_
    cases e with
    | returned v => exact hk _ _ hh
    | panicked c => exact hh.elim
    | outgrown => exact hh.elim
  · rw [h1]
    exact hk _ _ h2
theorem nilS_eq {P : Program} {v : Value} {K : Value → World → Prop} {w : World} (h : X P (nilS v) w K) {a : Act} {o : Oper} {x : Operand} (ho : o.op = .nilCheck x) (hv : a.eval x = v) {next : Act → World → Prop} {Q : Exit → Act → World → Prop}
    (hk : ∀ v w', K v w' → next (a.put o.dst v) w') : o.wp P a w next Q := by
  obtain ⟨u, w', hr, hK⟩ := X_iff.1 h
  unfold Oper.wp execOp
  simp only [ho, hv]
  cases v with
  | pointer p =>
    cases p with
    | none => simp [nilS, runtimePanic, program, Sem.run, goPanic] at hr
    | some p =>
      simp only [nilS, Sem.run_pure, Result.ok.injEq] at hr
      obtain ⟨rfl, rfl⟩ := hr
      exact hk _ _ hK
  | nilIface => simp [nilS, runtimePanic, program, Sem.run, goPanic] at hr
  | nilFunc => simp [nilS, runtimePanic, program, Sem.run, goPanic] at hr
  | func fn first captured =>
    cases fn with
    | method name => simp [nilS, stuck, Sem.run] at hr
    | _ =>
      simp only [nilS, Sem.run_pure, Result.ok.injEq] at hr
      obtain ⟨rfl, rfl⟩ := hr
      exact hk _ _ hK
  | _ =>
    simp only [nilS, Sem.run_pure, Result.ok.injEq] at hr
    obtain ⟨rfl, rfl⟩ := hr
    exact hk _ _ hK
theorem binOpS_run {P : Program} (op : BinOp) (t : TypeId) (x y : Operand) (a b : Value) (w : World) : (binOpS op t x y a b).run P w = (do eqGuard op t x y a b; binOp op t a b : Sem Value).run P w := by
  cases op <;> first | rfl | (simp only [binOpS, eqGuard]; rfl)
theorem resolve_value {P : Program} {ρ : Operand → Value} {c : Call} {t : TypeId} {x : Operand} (hc : c.callee = .value x) {f : FuncId} {first captured : Array Value} (hx : ρ x = .func (.func f) first captured) (w : World) :
    (do let d ← resolve ρ c t; invoke d.target d.args : Sem Next).run P w = (callFunc f (first ++ c.args.map ρ ++ captured)).run P w := by
  simp only [resolve, hc, hx, Deferred.ofValue, Sem.run_bind, Sem.run_pure, Result.andThen_ok, invoke]
theorem resolve_builtin {P : Program} {ρ : Operand → Value} {c : Call} {t : TypeId} {b : Builtin} (hc : c.callee = .builtin b) (w : World) {v : Value} {w' : World}
    (h : (builtinSem b c.argTypes t (c.args.map ρ)).run P w = .ok v w') :
    (do let d ← resolve ρ c t; invoke d.target d.args : Sem Next).run P w = .ok (.value v) w' := by
  simp only [resolve, hc, Sem.run_bind, Sem.run_pure, Result.andThen_ok, invoke, builtin]
  cases b <;> simp only [builtinSem] at h <;> first
    | (simp only [Sem.run_bind, h, Result.andThen_ok, Sem.run_pure]; done)
    | (simp [stuck] at h; done)
theorem stepS_sound {P : Program} {o : Oper} {a : Act} {w : World} {next : Act → World → Prop} {Q : Exit → Act → World → Prop} {K : Value → World → Prop}
    (h : stepS P (envOf a) o w K) (hk : ∀ v w', K v w' → next (a.put o.dst v) w') : o.wp P a w next Q := by
  unfold stepS at h
  rw [ev_envOf'] at h
  have hm : ∀ (xs : Array Operand), (xs.toList.map a.eval).toArray = xs.map a.eval := fun xs => map_list xs _
  have hp : ∀ (ps : Array (Nat × Operand)), (ps.toList.map fun p => (p.1, a.eval p.2)).toArray = ps.map fun (i, x) => (i, a.eval x) := fun ps => map_list ps _
  cases hop : o.op with
  | move x => simp only [hop] at h; exact upon_value (s := pure (a.eval x)) (by unfold execOp; simp only [hop]; rfl) (X_iff.2 ⟨_, _, rfl, h⟩) hk
  | assign x => simp only [hop] at h; exact upon_value (s := pure (a.eval x)) (by unfold execOp; simp only [hop]; rfl) (X_iff.2 ⟨_, _, rfl, h⟩) hk
  | store t x y => simp only [hop] at h; exact upon_unit (by unfold execOp; simp only [hop]) h (fun w' hw => hk _ _ hw)
  | mapUpdate t m k x => simp only [hop] at h; exact upon_unit (by unfold execOp; simp only [hop]) h (fun w' hw => hk _ _ hw)
  | insert t m k x => simp only [hop] at h; exact upon_unit (by unfold execOp; simp only [hop]) h (fun w' hw => hk _ _ hw)
  | call c =>
    simp only [hop] at h
    unfold callS at h
    rw [ev_envOf', hm] at h
    cases hc : c.callee with
    | value x =>
      have key : ∀ f first captured, a.eval x = .func (.func f) first captured → CALL P f (first ++ c.args.map a.eval ++ captured) w K → o.wp P a w next Q := by
        intro f first captured hx hcall
        refine calls_wp ?_ hcall hk
        unfold execOp
        simp only [hop]
        exact resolve_value hc hx w
      cases x with
      | func f =>
        simp only [hc] at h
        exact key f #[] #[] rfl (by simpa using h)
      | tmp t =>
        simp only [hc, closS] at h
        split at h
        · rename_i f first captured hx
          exact key _ _ _ hx h
        · exact h.elim
      | const v =>
        simp only [hc, closS] at h
        split at h
        · rename_i f first captured hx
          exact key _ _ _ hx h
        · exact h.elim
      | global g => simp only [hc, closS, Act.eval] at h
    | invoke r m => simp only [hc] at h
    | builtin b =>
      simp only [hc] at h
      obtain ⟨v, w', hr, hK⟩ := X_iff.1 h
      unfold Oper.wp execOp
      simp only [hop]
      rw [resolve_builtin hc w hr]
      exact hk _ _ hK
  | nilCheck x =>
    simp only [hop, opSem, ev_envOf'] at h
    exact nilS_eq h hop rfl hk
  | pick c x y =>
    simp only [hop, opSem, ev_envOf'] at h
    obtain ⟨v, w', hr, hK⟩ := X_iff.1 h
    unfold Oper.wp execOp
    simp only [hop]
    simp only [pickS, Sem.run_bind] at hr ⊢
    generalize (asBool (a.eval c)).run P w = r at hr ⊢
    cases r with
    | ok b w1 =>
      simp only [Result.andThen_ok, Sem.run_pure, Result.ok.injEq] at hr
      obtain ⟨rfl, rfl⟩ := hr
      exact hk _ _ hK
    | halt x w1 => simp [Result.andThen] at hr
  | binOp op t x y u =>
    simp only [hop, opSem, ev_envOf'] at h
    obtain ⟨v, w', hr, hK⟩ := X_iff.1 h
    rw [binOpS_run] at hr
    exact upon_value (s := do eqGuard op t x y (a.eval x) (a.eval y); binOp op t (a.eval x) (a.eval y)) (by unfold execOp; simp only [hop]) (X_iff.2 ⟨v, w', hr, hK⟩) hk
  | _ =>
    simp only [hop, opSem, ev_envOf', hm, hp] at h
    first
      | exact (X_of_no rfl h).elim
      | exact upon_value (by unfold execOp; simp only [hop]) h hk
theorem yielded_gval {ops : Array Oper} {a : Act} {j : Nat} {b : Bool} : yielded ops a.tmps j = some b ↔ gval ops (envOf a) j = .bool b := by
  unfold yielded gval envOf
  cases hd : (ops[j]?).bind (·.dst) with
  | none => simp [undef]
  | some d =>
    simp only [Option.bind_some]
    cases ht : a.tmps[d]? with
    | none => simp [ht, undef, Array.getD_eq_getD_getElem?]
    | some v => simp only [Array.getD_eq_getD_getElem?, ht, Option.getD_some]; cases v <;> simp
theorem yielded_none {ops : Array Oper} {a : Act} {j : Nat} (h : ∀ b, gval ops (envOf a) j ≠ .bool b) : yielded ops a.tmps j = none := by
  cases hy : yielded ops a.tmps j with
  | none => rfl
  | some b => exact absurd (yielded_gval.1 hy) (h b)
theorem wanted_none {o : Oper} {y : Nat → Option Bool} (h : o.guard = none) : Region.wanted o y = true := by simp [Region.wanted, h]
theorem gstep_cases {ops : Array Oper} {a : Act} {o : Oper} {j : Nat} {want : Bool} (hg : o.guard = some (j, want)) {S : World → (Value → World → Prop) → Prop} {K : Value → World → Prop} {w : World}
    (h : gstep (gval ops (envOf a) j) want S w K) : (Region.wanted o (yielded ops a.tmps) = true ∧ S w K) ∨ (Region.wanted o (yielded ops a.tmps) = false ∧ K undef w) := by
  unfold gstep at h
  split at h
  · rename_i b hb
    have hy := yielded_gval.2 hb
    split at h
    · rename_i e; subst e
      exact .inl ⟨by simp [Region.wanted, hg, hy], h⟩
    · rename_i e
      exact .inr ⟨by simp [Region.wanted, hg, hy, e], h⟩
  · rename_i hne
    have hy := yielded_none (ops := ops) (a := a) (j := j) (fun b hb => hne b hb)
    exact .inr ⟨by simp [Region.wanted, hg, hy], h⟩
def liftQ (n : Nat) (Q : Exit → Env → World → Prop) : Exit → Act → World → Prop
  | .panic _, _, _ => False
  | .outgrown, _, _ => False
  | e, a, w => a.tmps.size = n ∧ a.defers = [] ∧ Q e (envOf a) w
theorem opsS_sound {P : Program} {n : Nat} {ops : Array Oper} {Q : Exit → Env → World → Prop} : ∀ (l : List Oper) (a : Act) (w : World), (∀ o ∈ l, dstOk n o = true) → a.tmps.size = n → a.defers = [] →
    opsS P ops (Q .normal) l (envOf a) w → wpList P ops (liftQ n Q) l a w := by
  intro l
  induction l with
  | nil => intro a w _ hn hd h; exact ⟨hn, hd, h⟩
  | cons o rest ih =>
    intro a w hl hn hd h
    have hdst : ∀ t, o.dst = some t → t < a.tmps.size := by
      intro t ht
      have := hl o (by simp)
      simp only [dstOk, ht, decide_eq_true_eq] at this
      exact hn ▸ this
    have next : ∀ v w', opsS P ops (Q .normal) rest (updO (envOf a) o.dst v) w' → wpList P ops (liftQ n Q) rest (a.put o.dst v) w' := by
      intro v w' hh
      refine ih _ _ (fun o ho => hl o (by simp [ho])) (by rw [put_size]; exact hn) (by rw [put_defers]; exact hd) ?_
      rw [envOf_put a o.dst v hdst]
      exact hh
    unfold opsS stepG at h
    unfold wpList
    cases hg : o.guard with
    | none =>
      simp only [hg] at h
      rw [if_pos (wanted_none hg)]
      exact .inl (stepS_sound h next)
    | some jw =>
      obtain ⟨j, want⟩ := jw
      simp only [hg] at h
      rcases gstep_cases hg h with ⟨hw, hs⟩ | ⟨hw, hs⟩
      · rw [if_pos hw]; exact .inl (stepS_sound hs next)
      · rw [if_neg (by simp [hw])]; exact next _ _ hs
def wpAnyR (P : Program) (ops : Array Oper) (Q : Exit → Act → World → Prop) (R : World → World → Prop) : Nat → Array Bool → Act → World → Prop
  | 0, listed, a, w => Region.ready .any ops listed = [] ∧ Q .normal a w
  | fuel + 1, listed, a, w =>
    (Region.ready .any ops listed = [] → Q .normal a w) ∧
    ∀ i ∈ Region.ready .any ops listed, wpOp P ops Q i (fun a' w' => (chkB ops listed i = true → R w w') ∧ wpAnyR P ops Q R fuel (listed.setIfInBounds i true) a' w') a w
section
variable {P : Program} {ops : Array Oper} {Q : Exit → Act → World → Prop} {R : World → World → Prop}
theorem wpAny_of_R : ∀ (fuel : Nat) (listed : Array Bool) (a : Act) (w : World), wpAnyR P ops Q R fuel listed a w → wpAny P .any ops Q fuel listed a w
  | 0, _, _, _, h => h
  | fuel + 1, _, _, _, h => ⟨h.1, fun i hi => wpOp_mono (fun a' w' h' => wpAny_of_R fuel _ a' w' h'.2) (h.2 i hi)⟩
theorem chkB_mono {listed : Array Bool} {i j : Nat} (h : chkB ops listed j = true) : chkB ops (listed.setIfInBounds i true) j = true := by
  unfold chkB at *
  cases hj : ops[j]? with
  | none => simp [hj] at h
  | some oj =>
    simp only [hj, List.any_eq_true, List.mem_range, Bool.and_eq_true] at h ⊢
    obtain ⟨k, hk, ⟨h1, h2⟩, h3⟩ := h
    exact ⟨k, hk, ⟨getD_set_true h1, h2⟩, h3⟩
theorem chkB_reader {listed : Array Bool} {i j : Nat} {oj : Oper} (hj : ops[j]? = some oj) (hi : readsB ops i = true) (hlt : i < listed.size) (hno : ∀ e ∈ oj.after, Region.binds .any e = true → e.on ≠ i) :
    chkB ops (listed.setIfInBounds i true) j = true := by
  unfold chkB
  simp only [hj, List.any_eq_true, List.mem_range, Bool.and_eq_true]
  have hio : i < ops.size := by
    unfold readsB at hi
    cases h : ops[i]? with
    | none => simp [h] at hi
    | some o => exact (Array.getElem?_eq_some_iff.1 h).1
  refine ⟨i, hio, ⟨by simp [hlt], hi⟩, ?_⟩
  unfold waitsB
  simp only [Bool.not_eq_true', Bool.eq_false_iff, ne_eq, Array.any_eq_true', Bool.and_eq_true, beq_iff_eq, not_exists, not_and]
  exact fun e he hb => hno e he hb
theorem lt_of_ready {i : Nat} {listed : Array Bool} (h : i ∈ Region.ready .any ops listed) : i < listed.size := by
  have h0 := (mem_ready.1 h).1
  rcases Nat.lt_or_ge i listed.size with h' | h'
  · exact h'
  · simp [Array.getElem?_eq_none h'] at h0
theorem yieldsIf_weaken {S S' : World → Prop} {o : Oper} {v : Value} {a : Act} (hs : ∀ w, S' w → S w) (h : YieldsIf P ops S o v a) : YieldsIf P ops S' o v a :=
  h.imp (fun ⟨a, b⟩ => ⟨a, fun w hw => b w (hs w hw)⟩) id
theorem takeR {i : Nat} {oi : Oper} {v : Value} (fr : Frame? R) (hi : ops[i]? = some oi) (hsel : ∀ (j : Nat) (o : Oper) cs b, ops[j]? = some o → o.op ≠ .select cs b)
    (hQ : ∀ c a w, Q (.panic c) (a.put oi.dst v) w → Q (.panic c) a w) (hrd : readsB ops i = true) :
    ∀ (fuel : Nat) (listed : Array Bool) (a : Act) (w : World),
      (∀ j oj, ops[j]? = some oj → j ≠ i → listed.getD j true = false → (∀ e ∈ oj.after, Region.binds .any e = true → e.on ≠ i) → oi.apart ops oj = true) →
      i ∈ Region.ready .any ops listed → YieldsIf P ops (R w) oi v a →
      wpAnyR P ops Q R fuel (listed.setIfInBounds i true) (a.put oi.dst v) w → wpAnyR P ops Q R (fuel + 1) listed a w := by
  intro fuel
  induction fuel with
  | zero =>
    intro listed a w _ hr hy H
    refine ⟨fun h => (by rw [h] at hr; cases hr), fun j hj => ?_⟩
    by_cases hji : j = i
    · subst hji; exact hy.wpOp hi (fr.refl w) ⟨fun _ => fr.refl w, H⟩
    · have := ready_mono hj hji
      rw [H.1] at this
      cases this
  | succ fuel ih =>
    intro listed a w hfree hr hy H
    refine ⟨fun h => (by rw [h] at hr; cases hr), fun j hj => ?_⟩
    by_cases hji : j = i
    · subst hji; exact hy.wpOp hi (fr.refl w) ⟨fun _ => fr.refl w, H⟩
    · have h1 := H.2 j (ready_mono hj hji)
      obtain ⟨hjun, oj, hoj, hall⟩ := mem_ready.1 hj
      have hnot : ∀ e ∈ oj.after, Region.binds .any e = true → e.on ≠ i := fun e he hb heq => by
        have h1 := hall e he hb
        have h0 := (mem_ready.1 hr).1
        rw [heq] at h1
        rcases Nat.lt_or_ge i listed.size with h' | h'
        · simp [h'] at h0 h1; rw [h0] at h1; cases h1
        · simp [Array.getElem?_eq_none h'] at h1
      have h2 := wpOp_putIf hoj (hfree j oj hoj hji hjun hnot) (fun cs b => hsel i oi cs b hi) (fun cs b => hsel j oj cs b hoj) hQ hy h1
      have hfree' : ∀ k ok, ops[k]? = some ok → k ≠ i → (listed.setIfInBounds j true).getD k true = false →
          (∀ e ∈ ok.after, Region.binds .any e = true → e.on ≠ i) → oi.apart ops ok = true := fun k ok hk hki hun hno => by
        refine hfree k ok hk hki ?_ hno
        by_cases hjk : j = k
        · subst hjk; exact hjun
        · rw [getD_set_ne true hjk] at hun; exact hun
      have hchk := chkB_reader (listed := listed) hoj hrd (lt_of_ready hr) hnot
      refine wpOp_mono (fun a' w' h3 => ⟨fun _ => h3.2.1 hchk, ih (listed.setIfInBounds j true) a' w' hfree' (ready_mono hr (Ne.symm hji))
        (yieldsIf_weaken (fun w2 hw2 => fr.trans _ _ _ (h3.2.1 hchk) hw2) h3.1) ?_⟩) h2
      rw [Array.setIfInBounds_comm _ _ hji]
      exact h3.2.2
theorem takeP {i : Nat} {oi : Oper} {v : Value} (fr : Frame? R) (hi : ops[i]? = some oi) (hsel : ∀ (j : Nat) (o : Oper) cs b, ops[j]? = some o → o.op ≠ .select cs b)
    (hQ : ∀ c a w, Q (.panic c) (a.put oi.dst v) w → Q (.panic c) a w) :
    ∀ (fuel : Nat) (listed : Array Bool) (a : Act) (w : World),
      (∀ j oj, ops[j]? = some oj → j ≠ i → listed.getD j true = false → (∀ e ∈ oj.after, Region.binds .any e = true → e.on ≠ i) → oi.apart ops oj = true) →
      i ∈ Region.ready .any ops listed → Yields P ops oi v a →
      wpAnyR P ops Q R fuel (listed.setIfInBounds i true) (a.put oi.dst v) w → wpAnyR P ops Q R (fuel + 1) listed a w := by
  intro fuel
  induction fuel with
  | zero =>
    intro listed a w _ hr hy H
    refine ⟨fun h => (by rw [h] at hr; cases hr), fun j hj => ?_⟩
    by_cases hji : j = i
    · subst hji; exact hy.wpOp hi ⟨fun _ => fr.refl w, H⟩
    · have := ready_mono hj hji
      rw [H.1] at this
      cases this
  | succ fuel ih =>
    intro listed a w hfree hr hy H
    refine ⟨fun h => (by rw [h] at hr; cases hr), fun j hj => ?_⟩
    by_cases hji : j = i
    · subst hji; exact hy.wpOp hi ⟨fun _ => fr.refl w, H⟩
    · have h1 := H.2 j (ready_mono hj hji)
      obtain ⟨hjun, oj, hoj, hall⟩ := mem_ready.1 hj
      have hnot : ∀ e ∈ oj.after, Region.binds .any e = true → e.on ≠ i := fun e he hb heq => by
        have h1 := hall e he hb
        have h0 := (mem_ready.1 hr).1
        rw [heq] at h1
        rcases Nat.lt_or_ge i listed.size with h' | h'
        · simp [h'] at h0 h1; rw [h0] at h1; cases h1
        · simp [Array.getElem?_eq_none h'] at h1
      have h2 := wpOp_put hoj (hfree j oj hoj hji hjun hnot) (fun cs b => hsel i oi cs b hi) (fun cs b => hsel j oj cs b hoj) hQ hy h1
      have hfree' : ∀ k ok, ops[k]? = some ok → k ≠ i → (listed.setIfInBounds j true).getD k true = false →
          (∀ e ∈ ok.after, Region.binds .any e = true → e.on ≠ i) → oi.apart ops ok = true := fun k ok hk hki hun hno => by
        refine hfree k ok hk hki ?_ hno
        by_cases hjk : j = k
        · subst hjk; exact hjun
        · rw [getD_set_ne true hjk] at hun; exact hun
      refine wpOp_mono (fun a' w' h3 => ⟨fun hc => h3.2.1 (chkB_mono hc), ih (listed.setIfInBounds j true) a' w' hfree' (ready_mono hr (Ne.symm hji)) h3.1 ?_⟩) h2
      rw [Array.setIfInBounds_comm _ _ hji]
      exact h3.2.2
end
theorem semOf_run {P : Program} {a : Act} {o : Oper} {w w' : World} {v : Value} (hk : kindOf o ≠ 2) (h : (semOf (envOf a) o).run P w = .ok v w') : (execOp a.eval o).run P w = .ok (.value v) w' := by
  -- one that is carried out as a step is carried out so
  have key : ∀ (K : Value → World → Prop), X P (semOf (envOf a) o) w K → stepS P (envOf a) o w K := by
    intro K hX
    unfold stepS
    unfold semOf at hX
    cases hop : o.op with
    | move x => simp only [hop, opSem] at hX ⊢; obtain ⟨v, w', hr, hK⟩ := X_iff.1 hX; simp only [Sem.run_pure, Result.ok.injEq] at hr; obtain ⟨rfl, rfl⟩ := hr; exact hK
    | assign x => simp only [hop, opSem] at hX ⊢; obtain ⟨v, w', hr, hK⟩ := X_iff.1 hX; simp only [Sem.run_pure, Result.ok.injEq] at hr; obtain ⟨rfl, rfl⟩ := hr; exact hK
    | store t x y => simp [kindOf, hop] at hk
    | mapUpdate t m k x => simp [kindOf, hop] at hk
    | insert t m k x => simp [kindOf, hop] at hk
    | call c =>
      obtain ⟨callee, args, ts⟩ := c
      cases callee with
      | value x => simp [kindOf, hop] at hk
      | invoke r m => simp [kindOf, hop] at hk
      | builtin b => simp only [hop] at hX ⊢; exact hX
    | _ => simp only [hop] at hX ⊢; exact hX
  have h1 : stepS P (envOf a) o w (fun u w2 => u = v ∧ w2 = w') := key _ (X_iff.2 ⟨v, w', h, rfl, rfl⟩)
  -- a step with no effect beyond its value
  by_cases hc : ∃ c, o.op = .call c
  · obtain ⟨c, hop⟩ := hc
    obtain ⟨callee, args, ts⟩ := c
    cases callee with
    | value x => simp [kindOf, hop] at hk
    | invoke r m => simp [kindOf, hop] at hk
    | builtin b =>
      unfold execOp
      simp only [hop]
      refine resolve_builtin rfl w ?_
      rw [← map_list]
      simpa only [semOf, hop, ev_envOf'] using h
  · have hq : o.wp P a w (fun a' w2 => True) (fun _ _ _ => False) := stepS_sound h1 (fun _ _ _ => trivial)
    clear hq
    have hp : ∀ (ps : Array (Nat × Operand)), (ps.toList.map fun p => (p.1, a.eval p.2)).toArray = ps.map fun (i, x) => (i, a.eval x) := fun ps => map_list ps _
    cases hop : o.op with
    | call c => exact absurd ⟨c, hop⟩ hc
    | binOp op t x y u =>
      simp only [semOf, hop, opSem, ev_envOf'] at h
      rw [binOpS_run] at h
      unfold execOp
      simp only [hop]
      rw [Sem.run_bind, h]
      rfl
    | nilCheck x =>
      simp only [semOf, hop, opSem, ev_envOf'] at h
      unfold execOp
      simp only [hop]
      cases hv : a.eval x with
      | pointer p =>
        cases p with
        | none => simp [hv, nilS, runtimePanic, program, Sem.run, goPanic] at h
        | some p => simpa [hv, nilS] using h
      | nilIface => simp [hv, nilS, runtimePanic, program, Sem.run, goPanic] at h
      | nilFunc => simp [hv, nilS, runtimePanic, program, Sem.run, goPanic] at h
      | func fn first captured =>
        cases fn with
        | method name => simp [hv, nilS, stuck] at h
        | _ => simpa [hv, nilS] using h
      | _ => simpa [hv, nilS] using h
    | _ =>
      simp only [semOf, hop, opSem, ev_envOf', map_list, hp] at h
      first
        | (simp [kindOf, hop] at hk; done)
        | (simp [stuck] at h; done)
        | (unfold execOp
           simp only [hop]
           first
             | (simp only [Sem.run_bind, h, Result.andThen_ok, Sem.run_pure]; done)
             | (simp only [Sem.run_pure, Result.ok.injEq] at h ⊢; obtain ⟨rfl, rfl⟩ := h; exact ⟨rfl, rfl⟩)
             | (simp only [pickS, binOpG, Sem.run_bind] at h ⊢; generalize hr : Sem.run P _ w = r at h ⊢; cases r <;> simp_all [Result.andThen])
             | skip)
theorem takeS_yields {P : Program} {R : World → World → Prop} {a : Act} {o : Oper} {w : World} {K : Value → World → Prop} (hk : kindOf o ≠ 2) (h : takeS P R (envOf a) o w K) :
    ∃ v, K v w ∧ ((∀ w', (execOp a.eval o).run P w' = .ok (.value v) w') ∨ (kindOf o = 1 ∧ ∀ w', R w w' → (execOp a.eval o).run P w' = .ok (.value v) w')) := by
  have step : ∀ {K : Value → World → Prop}, (match kindOf o with | 0 => XP P (semOf (envOf a) o) w K | _ => XR P R (semOf (envOf a) o) w K) →
      ∃ v, K v w ∧ ((∀ w', (execOp a.eval o).run P w' = .ok (.value v) w') ∨ (kindOf o = 1 ∧ ∀ w', R w w' → (execOp a.eval o).run P w' = .ok (.value v) w')) := by
    intro K h
    by_cases h0 : kindOf o = 0
    · simp only [h0] at h
      obtain ⟨v, hv, hK⟩ := XP_iff.1 h
      exact ⟨v, hK, .inl fun w' => semOf_run hk (hv w')⟩
    · have h1 : kindOf o = 1 := by
        have : kindOf o = 0 ∨ kindOf o = 1 ∨ kindOf o = 2 := by
          unfold kindOf
          repeat' split
          all_goals simp
        omega
      simp only [h1] at h
      obtain ⟨v, hv, hK⟩ := XR_imp h
      exact ⟨v, hK, .inr ⟨h1, fun w' hw => semOf_run hk (hv w' hw)⟩⟩
  unfold takeS at h
  cases hop : o.op with
  | move x =>
    simp only [hop] at h
    refine ⟨_, h, .inl fun w' => ?_⟩
    unfold execOp
    simp only [hop, Sem.run_pure, ev_envOf]
  | assign x =>
    simp only [hop] at h
    refine ⟨_, h, .inl fun w' => ?_⟩
    unfold execOp
    simp only [hop, Sem.run_pure, ev_envOf]
  | _ => simp only [hop] at h; exact step h
def leftOf (l : Array Bool) : Nat := l.toList.countP (fun b => !b)
theorem countP_set_true : ∀ (l : List Bool) (i : Nat), l[i]? = some false → (l.set i true).countP (fun b => !b) + 1 = l.countP (fun b => !b)
  | [], i, h => by simp at h
  | b :: l, 0, h => by
    simp at h
    subst h
    simp
  | b :: l, i + 1, h => by
    have := countP_set_true l i (by simpa using h)
    simp only [List.set_cons_succ, List.countP_cons]
    omega
theorem leftOf_set {l : Array Bool} {i : Nat} (hlt : i < l.size) (h : l.getD i true = false) : leftOf (l.setIfInBounds i true) + 1 = leftOf l := by
  unfold leftOf
  have e : (l.setIfInBounds i true).toList = l.toList.set i true := by simp
  rw [e]
  refine countP_set_true _ _ ?_
  rw [Array.getElem?_toList]
  simpa [Array.getD_eq_getD_getElem?, Array.getElem?_eq_getElem hlt] using h
theorem leftOf_zero {l : Array Bool} (h : leftOf l = 0) (j : Nat) : l.getD j true = true := by
  unfold leftOf at h
  rw [List.countP_eq_zero] at h
  rw [Array.getD_eq_getD_getElem?]
  cases hj : l[j]? with
  | none => rfl
  | some b =>
    have := h b (by rw [← Array.getElem?_toList] at hj; exact List.mem_of_getElem? hj)
    simpa using this
theorem anyS_sound {P : Program} {R : World → World → Prop} (fr : Frame? R) {n : Nat} {ops : Array Oper} {Q : Exit → Env → World → Prop} (hops : ops.all (dstOk n) = true) (hsel : noSel ops = true) :
    ∀ (fuel : Nat) (listed : Array Bool) (a : Act) (w : World), a.tmps.size = n → a.defers = [] → (fuel = 0 → Region.ready .any ops listed = []) → listed.size = ops.size →
      leftOf listed ≤ fuel →
      anyS P R ops (Q .normal) fuel listed (envOf a) w → wpAnyR P ops (liftQ n Q) R fuel listed a w := by
  intro fuel
  induction fuel with
  | zero =>
    intro listed a w hn hd h0 _ _ h
    exact ⟨h0 rfl, hn, hd, h⟩
  | succ fuel ih =>
    intro listed a w hn hd _ hls hcount h
    have hQ : ∀ (o : Oper) (v : Value) (c : List PanicEntry) (a : Act) (w : World), liftQ n Q (.panic c) (a.put o.dst v) w → liftQ n Q (.panic c) a w := fun _ _ _ _ _ h => h.elim
    -- one more is laid: fewer are left
    have hless : ∀ i, i ∈ Region.ready .any ops listed → leftOf (listed.setIfInBounds i true) ≤ fuel := by
      intro i hi
      have := leftOf_set (lt_of_ready hi) (mem_ready.1 hi).1
      omega
    have hend : ∀ i, i ∈ Region.ready .any ops listed → (fuel = 0 → Region.ready .any ops (listed.setIfInBounds i true) = []) := by
      intro i hi h0
      have hc := hless i hi
      cases hr : Region.ready .any ops (listed.setIfInBounds i true) with
      | nil => rfl
      | cons j l =>
        have hj : j ∈ Region.ready .any ops (listed.setIfInBounds i true) := by rw [hr]; simp
        have h1 := (mem_ready.1 hj).1
        rw [leftOf_zero (by omega)] at h1
        cases h1
    have hdst : ∀ (i : Nat) (o : Oper), ops[i]? = some o → ∀ t, o.dst = some t → t < a.tmps.size := by
      intro i o ho t ht
      have := Array.all_eq_true_iff_forall_mem.1 hops o (Array.mem_of_getElem? ho)
      simp only [dstOk, ht, decide_eq_true_eq] at this
      exact hn ▸ this
    have next : ∀ (i : Nat) (o : Oper) (v : Value) (w' : World), i ∈ Region.ready .any ops listed → ops[i]? = some o →
        anyS P R ops (Q .normal) fuel (listed.setIfInBounds i true) (updO (envOf a) (ops.getD i default).dst v) w' → wpAnyR P ops (liftQ n Q) R fuel (listed.setIfInBounds i true) (a.put o.dst v) w' := by
      intro i o v w' hi ho hh
      have e : ops.getD i default = o := by simp [Array.getD_eq_getD_getElem?, ho]
      rw [e, ← envOf_put a o.dst v (hdst i o ho)] at hh
      exact ih _ _ _ (by rw [put_size]; exact hn) (by rw [put_defers]; exact hd) (hend i hi) (by simpa using hls) (hless i hi) hh
    unfold anyS at h
    cases hrd : Region.ready .any ops listed with
    | nil =>
      simp only [hrd] at h
      refine ⟨fun _ => ⟨hn, hd, h⟩, fun i hi => ?_⟩
      rw [hrd] at hi
      cases hi
    | cons i0 l =>
      simp only [hrd] at h
      cases hf : (i0 :: l).find? (canTake ops listed) with
      | some i =>
        simp only [hf] at h
        have hi : i ∈ Region.ready .any ops listed := by rw [hrd]; exact List.mem_of_find?_eq_some hf
        have hcan : canTake ops listed i = true := List.find?_some hf
        obtain ⟨_, o, ho, _⟩ := mem_ready.1 hi
        simp only [canTake, ho, Bool.and_eq_true, bne_iff_ne, ne_eq] at hcan
        obtain ⟨hk, hfree⟩ := hcan
        have e : ops.getD i default = o := by simp [Array.getD_eq_getD_getElem?, ho]
        -- the value that it yields
        have hy : ∃ v : Value, anyS P R ops (Q .normal) fuel (listed.setIfInBounds i true) (updO (envOf a) (ops.getD i default).dst v) w ∧ (Yields P ops o v a ∨ (kindOf o = 1 ∧ YieldsIf P ops (R w) o v a)) := by
          have fromS : ∀ {K : Value → World → Prop}, takeS P R (envOf a) o w K → Region.wanted o (yielded ops a.tmps) = true → ∃ v, K v w ∧ (Yields P ops o v a ∨ (kindOf o = 1 ∧ YieldsIf P ops (R w) o v a)) := by
            intro K hs hw
            obtain ⟨v, hK, hv⟩ := takeS_yields hk hs
            rcases hv with hv | ⟨h1, hv⟩
            · exact ⟨v, hK, .inl (.inl ⟨hw, hv⟩)⟩
            · exact ⟨v, hK, .inr ⟨h1, .inl ⟨hw, hv⟩⟩⟩
          unfold takeG at h
          rw [e] at h ⊢
          cases hg : o.guard with
          | none =>
            simp only [hg] at h
            exact fromS h (wanted_none hg)
          | some jw =>
            obtain ⟨j, want⟩ := jw
            simp only [hg] at h
            rcases gstep_cases hg h with ⟨hw, hs⟩ | ⟨hw, hs⟩
            · exact fromS hs hw
            · exact ⟨undef, hs, .inl (.inr ⟨hw, rfl⟩)⟩
        obtain ⟨v, hK, hy⟩ := hy
        have hn2 := next i o v w hi ho hK
        rcases hy with hy | ⟨h1, hy⟩
        · exact takeP fr ho (Region.noSelect_spec hsel) (hQ o v) fuel listed a w (Region.free_spec ho hfree) hi hy hn2
        · exact takeR fr ho (Region.noSelect_spec hsel) (hQ o v) (by simp [readsB, ho, h1]) fuel listed a w (Region.free_spec ho hfree) hi hy hn2
      | none =>
        simp only [hf] at h
        refine ⟨fun h0 => (by rw [hrd] at h0; cases h0), fun i hi => ?_⟩
        have hall : ∀ (l : List Nat) (f : Nat → Prop), allL f l → ∀ i ∈ l, f i := by
          intro l
          induction l with
          | nil => intro f _ i hi; cases hi
          | cons x l ihl =>
            intro f hl i hi
            cases l with
            | nil => rcases List.mem_cons.1 hi with rfl | hi <;> first | exact hl | cases hi
            | cons y l =>
              rcases List.mem_cons.1 hi with rfl | hi
              · exact hl.1
              · exact ihl f hl.2 i hi
        have hs := hall _ _ h i (by rw [← hrd]; exact hi)
        obtain ⟨_, o, ho, _⟩ := mem_ready.1 hi
        have e : ops.getD i default = o := by simp [Array.getD_eq_getD_getElem?, ho]
        have split : ∀ v w', andIf (chkB ops listed i) (R w w') (anyS P R ops (Q .normal) fuel (listed.setIfInBounds i true) (updO (envOf a) (ops.getD i default).dst v) w') →
            (chkB ops listed i = true → R w w') ∧ wpAnyR P ops (liftQ n Q) R fuel (listed.setIfInBounds i true) (a.put o.dst v) w' := by
          intro v w' hh
          unfold andIf at hh
          split at hh
          · exact ⟨fun _ => hh.1, next i o v w' hi ho hh.2⟩
          · rename_i hc
            exact ⟨fun h' => (by rw [hc] at h'; cases h'), next i o v w' hi ho hh⟩
        unfold wpOp
        simp only [ho]
        unfold stepG at hs
        simp only [e] at hs split
        cases hg : o.guard with
        | none =>
          simp only [hg] at hs
          rw [if_pos (wanted_none hg)]
          exact .inl (stepS_sound hs split)
        | some jw =>
          obtain ⟨j, want⟩ := jw
          simp only [hg] at hs
          rcases gstep_cases hg hs with ⟨hw, hs⟩ | ⟨hw, hs⟩
          · rw [if_pos hw]; exact .inl (stepS_sound hs split)
          · rw [if_neg (by simp [hw])]; exact split _ _ hs
theorem drawS_sound {P : Program} (hm : P.follows .mixedOrders = true) {n id : Nat} {ops : Array Oper} {Q : Exit → Env → World → Prop} (hops : ops.all (dstOk n) = true) (hsel : noSel ops = true) {a : Act} {w : World}
    (hn : a.tmps.size = n) (hd : a.defers = []) (h : drawS P ops (Q .normal) (envOf a) w) : (Code.region id ops true).wp P (liftQ n Q) a w := by
  obtain ⟨R, fr, h⟩ := h
  refine wp_region_any hm (wpAny_of_R (R := R) _ _ _ _ (anyS_sound fr hops hsel _ _ _ _ hn hd ?_ (by simp) ?_ h))
  · intro h0
    have : ops = #[] := Array.eq_empty_of_size_eq_zero h0
    subst this
    rfl
  · simp [leftOf, List.countP_replicate]
theorem lift_then {n : Nat} {K : Env → World → Prop} {Q : Exit → Env → World → Prop} {e : Exit} {a : Act} {w : World} (h : liftQ n (thenS K Q) e a w) :
    Exit.then (fun a w => a.tmps.size = n ∧ a.defers = [] ∧ K (envOf a) w) (liftQ n Q) e a w := by
  cases e <;> exact h
theorem lift_block {n id : Nat} {Q : Exit → Env → World → Prop} {e : Exit} {a : Act} {w : World} (h : liftQ n (inBlockS id Q) e a w) : Exit.inBlock id (liftQ n Q) e a w := by
  cases e with
  | exit id' =>
    obtain ⟨h1, h2, h3⟩ := h
    unfold Exit.inBlock
    simp only [inBlockS] at h3 ⊢
    split
    · rename_i e; rw [if_pos e] at h3; exact ⟨h1, h2, h3⟩
    · rename_i e; rw [if_neg e] at h3; exact ⟨h1, h2, h3⟩
  | _ => exact h
theorem sh_sound {P : Program} (hm : P.follows .mixedOrders = true) {n : Nat} : ∀ (c : Code) (Q : Exit → Env → World → Prop) (a : Act) (w : World), codeOk n c = true → a.tmps.size = n → a.defers = [] →
    sh P c Q (envOf a) w → c.wp P (liftQ n Q) a w := by
  intro c
  induction c with
  | skip => intro Q a w _ hn hd h; exact wp_skip ⟨hn, hd, h⟩
  | region id ops draw =>
    intro Q a w hok hn hd h
    simp only [codeOk, Bool.and_eq_true, Bool.or_eq_true, Bool.not_eq_true'] at hok
    cases draw with
    | false =>
      refine wp_region_list (opsS_sound ops.toList a w (fun o ho => ?_) hn hd h)
      exact Array.all_eq_true_iff_forall_mem.1 hok.1 o (by simpa using ho)
    | true => exact drawS_sound hm hok.1 (hok.2.resolve_left (by simp)) hn hd h
  | seq x y ihx ihy =>
    intro Q a w hok hn hd h
    simp only [codeOk, Bool.and_eq_true] at hok
    refine wp_seq (Code.wp_mono (fun e a w hq => ?_) (ihx _ a w hok.1 hn hd h))
    have := lift_then hq
    cases e with
    | normal => exact ihy _ _ _ hok.2 this.1 this.2.1 this.2.2
    | _ => exact this
  | cond c x y ihx ihy =>
    intro Q a w hok hn hd h
    simp only [codeOk, Bool.and_eq_true] at hok
    simp only [sh, condS, ev_envOf] at h
    split at h
    · rename_i hc; exact wp_cond_true hc (ihx _ _ _ hok.1 hn hd h)
    · rename_i hc; exact wp_cond_false hc (ihy _ _ _ hok.2 hn hd h)
    · exact h.elim
  | block id x ih =>
    intro Q a w hok hn hd h
    exact wp_block (Code.wp_mono (fun e a w hq => lift_block hq) (ih _ a w hok hn hd h))
  | loop x ih =>
    intro Q a w hok hn hd h
    obtain ⟨I, μ, h0, hround⟩ := h
    refine wp_loop (fun a w => a.tmps.size = n ∧ a.defers = [] ∧ I (envOf a) w) (fun a w => μ (envOf a) w) ⟨hn, hd, h0⟩ ?_
    intro a w ⟨hn, hd, hI⟩
    refine Code.wp_mono (fun e a w hq => ?_) (ih _ a w hok hn hd (hround _ _ hI))
    have := lift_then hq
    cases e with
    | normal => exact ⟨⟨this.1, this.2.1, this.2.2.1⟩, this.2.2.2⟩
    | _ => exact this
  | exit id => intro Q a w _ hn hd h; exact wp_exit ⟨hn, hd, h⟩
  | ret => intro Q a w _ hn hd h; exact wp_ret ⟨hn, hd, h⟩
  | _ => intro Q a w _ _ _ h; exact h.elim
theorem resS_run {P : Program} {a : Act} {w : World} :
    ∀ (rs : List ResultVar) (K : List Value → Prop), resS P (envOf a) w rs K →
      ∃ vs, K vs ∧ ∀ f : ResultVar → Sem Value, (∀ u, f (.tmp u) = pure (a.tmps.getD u undef)) → (∀ x t, f (.cell x t) = (do loadVar t (← asAddr (a.tmps.getD x undef)))) → (rs.mapM f).run P w = .ok vs w := by
  intro rs
  induction rs with
  | nil => intro K h; exact ⟨[], h, fun f _ _ => by simp⟩
  | cons r rs ih =>
    intro K h
    cases r with
    | tmp t =>
      obtain ⟨vs, hK, hr⟩ := ih _ h
      refine ⟨_, hK, fun f hf hc => ?_⟩
      rw [List.mapM_cons, hf]
      simp only [Sem.run_bind, Sem.run_pure, Result.andThen_ok, hr f hf hc]
      rfl
    | cell x t =>
      obtain ⟨v, w', hv, ew, h⟩ := onR_iff.1 h
      subst ew
      obtain ⟨vs, hK, hr⟩ := ih _ h
      refine ⟨v :: vs, hK, fun f hf hc => ?_⟩
      have hv' : (f (.cell x t)).run P w' = .ok v w' := by rw [hc]; exact hv
      rw [List.mapM_cons]
      simp only [Sem.run_bind, hv', Result.andThen_ok, hr f hf hc, Sem.run_pure]
theorem oneS_cases {K : Value → Prop} {vs : List Value} (h : oneS K vs) : K (if h : vs.toArray.size = 1 then vs.toArray[0]'(by omega) else .tuple vs.toArray) := by
  match vs, h with
  | [], h => exact h
  | [v], h => exact h
  | v :: u :: vs, h => rw [dif_neg (by simp)]; exact h
theorem retS_post {P : Program} {n : Nat} {fn : Func} {K : Value → World → Prop} {e : Exit} {a : Act} {w : World} (h : liftQ n (retS P fn.results K) e a w) :
    bodyPost P fn (fun | .returned v, w' => K v w' | _, _ => False) e a w := by
  have main : a.defers = [] → resS P (envOf a) w fn.results.toList (oneS fun v => K v w) → a.defers = [] ∧ ∃ v, (results fn a.tmps).run P w = .ok v w ∧ K v w := by
    intro hd h
    refine ⟨hd, ?_⟩
    unfold results
    rw [Array.mapM_eq_mapM_toList]
    simp only [Sem.run_bind, Sem.run_map]
    obtain ⟨vs, hK, hr⟩ := resS_run (P := P) (a := a) (w := w) _ _ h
    rw [hr]
    · exact ⟨_, rfl, oneS_cases hK⟩
    · intro u; rfl
    · intro x t; rfl
  cases e with
  | normal => exact main h.2.1 h.2.2
  | ret => exact main h.2.1 h.2.2
  | panic c => exact h.elim
  | outgrown => exact h.elim
  | exit id => exact h.2.2.elim
  | goto l => exact h.2.2.elim
theorem call_of_sh {P : Program} (hm : P.follows .mixedOrders = true) {f : FuncId} {fn : Func} {c : Code} {args : Array Value} {K : Value → World → Prop} {w : World}
    (hf : P.funcs[f]? = some fn) (hb : fn.body = some c) (hnm : (fn.name == "runtime.NumGoroutine") = false) (hok : codeOk fn.ntmps c = true) (hargs : args.size ≤ fn.ntmps)
    (h : sh P c (retS P fn.results K) (env0 args) w) : CALL P f args w K := by
  refine .inl ⟨by simp [callOk, hf, hnm, hb], calls_of_wp hf hb ?_⟩
  refine Code.wp_mono (fun e a w hq => retS_post hq) (sh_sound hm (n := fn.ntmps) c _ _ w hok (by simp; omega) rfl ?_)
  have e : envOf { tmps := args ++ Array.replicate (fn.ntmps - args.size) undef, defers := [] } = env0 args := by
    funext t
    unfold envOf env0
    simp only [Array.getD_eq_getD_getElem?]
    by_cases ht : t < args.size
    · simp [Array.getElem?_append_left ht]
    · rw [Array.getElem?_append_right (by omega), Array.getElem?_eq_none (xs := args) (by omega)]
      by_cases h2 : t - args.size < fn.ntmps - args.size
      · simp [h2]
      · rw [Array.getElem?_eq_none (by simp; omega)]
  rw [e]
  exact h
theorem call_of_eq {P : Program} (hm : P.follows .mixedOrders = true) {f : FuncId} {fn : Func} {c : Code} {args : Array Value} {K : Value → World → Prop} {w : World} {B : Prop}
    (hf : P.funcs[f]? = some fn) (hb : fn.body = some c) (hnm : (fn.name == "runtime.NumGoroutine") = false) (hok : codeOk fn.ntmps c = true) (hargs : args.size ≤ fn.ntmps)
    (e : sh P c (retS P fn.results K) (env0 args) w = B) (h : B) : CALL P f args w K := call_of_sh hm hf hb hnm hok hargs (by rw [e]; exact h)
end Go.Sh
end
