/- GT: a part of the proofs over this seat: what stands in its theorems holds for every input that they name. -/
import Derived.Test.YtemnchkebhclpaaProg
import Derived.Test.YtemnchkebhclpaaGB
import Derived.KernelRfl
section
namespace Go.Proofs.Ytemnchkebhclpaa
open Go Go.Eng
theorem mixed : Try.prog.follows .mixedOrders = true := by kernel_rfl
abbrev T_int64 : TypeId := 2
theorem one_int64 : oneB Try.prog 2 = true := by kernel_rfl
theorem siz_int64 : (Try.prog.info? 2).map (·.size) = some 1 := by kernel_rfl
theorem int_int64 : intB Try.prog 2 .i64 = true := by kernel_rfl
theorem z_int64 : (Try.prog.info? 2).bind (·.zero) = some (.int .i64 0) := by kernel_rfl
abbrev T_int : TypeId := 3
theorem one_int : oneB Try.prog 3 = true := by kernel_rfl
theorem siz_int : (Try.prog.info? 3).map (·.size) = some 1 := by kernel_rfl
theorem int_int : intB Try.prog 3 .i64 = true := by kernel_rfl
theorem z_int : (Try.prog.info? 3).bind (·.zero) = some (.int .i64 0) := by kernel_rfl
abbrev T_bool : TypeId := 4
theorem one_bool : oneB Try.prog 4 = true := by kernel_rfl
theorem siz_bool : (Try.prog.info? 4).map (·.size) = some 1 := by kernel_rfl
theorem und_bool : Try.prog.underlying 4 = some .bool := by kernel_rfl
theorem z_bool : (Try.prog.info? 4).bind (·.zero) = some (.bool false) := by kernel_rfl
abbrev T_byte : TypeId := 5
theorem one_byte : oneB Try.prog 5 = true := by kernel_rfl
theorem siz_byte : (Try.prog.info? 5).map (·.size) = some 1 := by kernel_rfl
theorem int_byte : intB Try.prog 5 .u8 = true := by kernel_rfl
theorem z_byte : (Try.prog.info? 5).bind (·.zero) = some (.int .u8 0) := by kernel_rfl
abbrev T_string : TypeId := 9
theorem one_string : oneB Try.prog 9 = true := by kernel_rfl
theorem siz_string : (Try.prog.info? 9).map (·.size) = some 1 := by kernel_rfl
theorem str_string : strB Try.prog 9 = true := by kernel_rfl
theorem z_string : (Try.prog.info? 9).bind (·.zero) = some (.string ⟨#[]⟩) := by kernel_rfl
abbrev T_uintptr : TypeId := 12
theorem one_uintptr : oneB Try.prog 12 = true := by kernel_rfl
theorem siz_uintptr : (Try.prog.info? 12).map (·.size) = some 1 := by kernel_rfl
theorem int_uintptr : intB Try.prog 12 .u64 = true := by kernel_rfl
theorem z_uintptr : (Try.prog.info? 12).bind (·.zero) = some (.int .u64 0) := by kernel_rfl
abbrev T_int32 : TypeId := 21
theorem one_int32 : oneB Try.prog 21 = true := by kernel_rfl
theorem siz_int32 : (Try.prog.info? 21).map (·.size) = some 1 := by kernel_rfl
theorem int_int32 : intB Try.prog 21 .i32 = true := by kernel_rfl
theorem z_int32 : (Try.prog.info? 21).bind (·.zero) = some (.int .i32 0) := by kernel_rfl
abbrev T_LRaw : TypeId := 22
theorem one_LRaw : oneB Try.prog 22 = true := by kernel_rfl
theorem siz_LRaw : (Try.prog.info? 22).map (·.size) = some 1 := by kernel_rfl
theorem sl_LRaw : sliceB Try.prog 22 57 4 = true := by kernel_rfl
theorem len_LRaw : lenB Try.prog 22 = true := by kernel_rfl
theorem ap_LRaw : apB Try.prog 22 57 4 32 = true := by kernel_rfl
theorem z_LRaw : (Try.prog.info? 22).bind (·.zero) = some (.slice none 0 0) := by kernel_rfl
abbrev T_LEntry : TypeId := 23
theorem one_LEntry : oneB Try.prog 23 = true := by kernel_rfl
theorem siz_LEntry : (Try.prog.info? 23).map (·.size) = some 1 := by kernel_rfl
theorem sl_LEntry : sliceB Try.prog 23 30 7 = true := by kernel_rfl
theorem len_LEntry : lenB Try.prog 23 = true := by kernel_rfl
theorem ap_LEntry : apB Try.prog 23 30 7 64 = true := by kernel_rfl
theorem z_LEntry : (Try.prog.info? 23).bind (·.zero) = some (.slice none 0 0) := by kernel_rfl
abbrev T_Errno : TypeId := 26
theorem one_Errno : oneB Try.prog 26 = true := by kernel_rfl
theorem siz_Errno : (Try.prog.info? 26).map (·.size) = some 1 := by kernel_rfl
theorem int_Errno : intB Try.prog 26 .i64 = true := by kernel_rfl
theorem z_Errno : (Try.prog.info? 26).bind (·.zero) = some (.int .i64 0) := by kernel_rfl
abbrev T_Entry : TypeId := 30
theorem agg_Entry : aggB Try.prog 30 7 = true := by kernel_rfl
theorem siz_Entry : (Try.prog.info? 30).map (·.size) = some 7 := by kernel_rfl
theorem st_Entry : structB Try.prog 30 [(0, 1), (1, 1), (2, 1), (3, 1), (4, 1), (5, 1), (6, 1)] = true := by kernel_rfl
theorem fd_Entry_0 : fieldB Try.prog 30 0 0 = true := by kernel_rfl
theorem fd_Entry_1 : fieldB Try.prog 30 1 1 = true := by kernel_rfl
theorem fd_Entry_2 : fieldB Try.prog 30 2 2 = true := by kernel_rfl
theorem fd_Entry_3 : fieldB Try.prog 30 3 3 = true := by kernel_rfl
theorem fd_Entry_4 : fieldB Try.prog 30 4 4 = true := by kernel_rfl
theorem fd_Entry_5 : fieldB Try.prog 30 5 5 = true := by kernel_rfl
theorem fd_Entry_6 : fieldB Try.prog 30 6 6 = true := by kernel_rfl
theorem z_Entry : (Try.prog.info? 30).bind (·.zero) = some (.agg #[.int .i64 0, .int .i64 0, .int .i64 0, .int .i64 0, .int .i64 0, .bool false, .string ⟨#[]⟩]) := by kernel_rfl
abbrev T_Lbyte : TypeId := 37
theorem one_Lbyte : oneB Try.prog 37 = true := by kernel_rfl
theorem siz_Lbyte : (Try.prog.info? 37).map (·.size) = some 1 := by kernel_rfl
theorem sl_Lbyte : sliceB Try.prog 37 5 1 = true := by kernel_rfl
theorem len_Lbyte : lenB Try.prog 37 = true := by kernel_rfl
theorem ap_Lbyte : apB Try.prog 37 5 1 1 = true := by kernel_rfl
theorem z_Lbyte : (Try.prog.info? 37).bind (·.zero) = some (.slice none 0 0) := by kernel_rfl
abbrev T_LTxn : TypeId := 44
theorem one_LTxn : oneB Try.prog 44 = true := by kernel_rfl
theorem siz_LTxn : (Try.prog.info? 44).map (·.size) = some 1 := by kernel_rfl
theorem sl_LTxn : sliceB Try.prog 44 150 7 = true := by kernel_rfl
theorem len_LTxn : lenB Try.prog 44 = true := by kernel_rfl
theorem ap_LTxn : apB Try.prog 44 150 7 80 = true := by kernel_rfl
theorem z_LTxn : (Try.prog.info? 44).bind (·.zero) = some (.slice none 0 0) := by kernel_rfl
abbrev T_Coord : TypeId := 46
theorem agg_Coord : aggB Try.prog 46 4 = true := by kernel_rfl
theorem siz_Coord : (Try.prog.info? 46).map (·.size) = some 4 := by kernel_rfl
theorem st_Coord : structB Try.prog 46 [(0, 1), (1, 1), (2, 1), (3, 1)] = true := by kernel_rfl
theorem fd_Coord_0 : fieldB Try.prog 46 0 0 = true := by kernel_rfl
theorem fd_Coord_1 : fieldB Try.prog 46 1 1 = true := by kernel_rfl
theorem fd_Coord_2 : fieldB Try.prog 46 2 2 = true := by kernel_rfl
theorem fd_Coord_3 : fieldB Try.prog 46 3 3 = true := by kernel_rfl
theorem z_Coord : (Try.prog.info? 46).bind (·.zero) = some (.agg #[.int .i64 0, .int .i64 0, .int .i64 0, .slice none 0 0]) := by kernel_rfl
abbrev T_Raw : TypeId := 57
theorem agg_Raw : aggB Try.prog 57 4 = true := by kernel_rfl
theorem siz_Raw : (Try.prog.info? 57).map (·.size) = some 4 := by kernel_rfl
theorem st_Raw : structB Try.prog 57 [(0, 1), (1, 1), (2, 1), (3, 1)] = true := by kernel_rfl
theorem fd_Raw_0 : fieldB Try.prog 57 0 0 = true := by kernel_rfl
theorem fd_Raw_1 : fieldB Try.prog 57 1 1 = true := by kernel_rfl
theorem fd_Raw_2 : fieldB Try.prog 57 2 2 = true := by kernel_rfl
theorem fd_Raw_3 : fieldB Try.prog 57 3 3 = true := by kernel_rfl
theorem z_Raw : (Try.prog.info? 57).bind (·.zero) = some (.agg #[.int .i64 0, .int .i64 0, .int .i64 0, .int .i64 0]) := by kernel_rfl
abbrev T_Lstring : TypeId := 63
theorem one_Lstring : oneB Try.prog 63 = true := by kernel_rfl
theorem siz_Lstring : (Try.prog.info? 63).map (·.size) = some 1 := by kernel_rfl
theorem sl_Lstring : sliceB Try.prog 63 9 1 = true := by kernel_rfl
theorem len_Lstring : lenB Try.prog 63 = true := by kernel_rfl
theorem ap_Lstring : apB Try.prog 63 9 1 16 = true := by kernel_rfl
theorem z_Lstring : (Try.prog.info? 63).bind (·.zero) = some (.slice none 0 0) := by kernel_rfl
abbrev T_LErrno : TypeId := 68
theorem one_LErrno : oneB Try.prog 68 = true := by kernel_rfl
theorem siz_LErrno : (Try.prog.info? 68).map (·.size) = some 1 := by kernel_rfl
theorem sl_LErrno : sliceB Try.prog 68 26 1 = true := by kernel_rfl
theorem len_LErrno : lenB Try.prog 68 = true := by kernel_rfl
theorem ap_LErrno : apB Try.prog 68 26 1 8 = true := by kernel_rfl
theorem z_LErrno : (Try.prog.info? 68).bind (·.zero) = some (.slice none 0 0) := by kernel_rfl
abbrev T_Log : TypeId := 70
theorem agg_Log : aggB Try.prog 70 2 = true := by kernel_rfl
theorem siz_Log : (Try.prog.info? 70).map (·.size) = some 2 := by kernel_rfl
theorem st_Log : structB Try.prog 70 [(0, 1), (1, 1)] = true := by kernel_rfl
theorem fd_Log_0 : fieldB Try.prog 70 0 0 = true := by kernel_rfl
theorem fd_Log_1 : fieldB Try.prog 70 1 1 = true := by kernel_rfl
theorem z_Log : (Try.prog.info? 70).bind (·.zero) = some (.agg #[.slice none 0 0, .int .i64 0]) := by kernel_rfl
abbrev T_LMember : TypeId := 82
theorem one_LMember : oneB Try.prog 82 = true := by kernel_rfl
theorem siz_LMember : (Try.prog.info? 82).map (·.size) = some 1 := by kernel_rfl
theorem sl_LMember : sliceB Try.prog 82 91 3 = true := by kernel_rfl
theorem len_LMember : lenB Try.prog 82 = true := by kernel_rfl
theorem ap_LMember : apB Try.prog 82 91 3 48 = true := by kernel_rfl
theorem z_LMember : (Try.prog.info? 82).bind (·.zero) = some (.slice none 0 0) := by kernel_rfl
abbrev T_LOffset : TypeId := 83
theorem one_LOffset : oneB Try.prog 83 = true := by kernel_rfl
theorem siz_LOffset : (Try.prog.info? 83).map (·.size) = some 1 := by kernel_rfl
theorem sl_LOffset : sliceB Try.prog 83 174 2 = true := by kernel_rfl
theorem len_LOffset : lenB Try.prog 83 = true := by kernel_rfl
theorem ap_LOffset : apB Try.prog 83 174 2 16 = true := by kernel_rfl
theorem z_LOffset : (Try.prog.info? 83).bind (·.zero) = some (.slice none 0 0) := by kernel_rfl
abbrev T_Group : TypeId := 85
theorem agg_Group : aggB Try.prog 85 5 = true := by kernel_rfl
theorem siz_Group : (Try.prog.info? 85).map (·.size) = some 5 := by kernel_rfl
theorem st_Group : structB Try.prog 85 [(0, 1), (1, 1), (2, 1), (3, 1), (4, 1)] = true := by kernel_rfl
theorem fd_Group_0 : fieldB Try.prog 85 0 0 = true := by kernel_rfl
theorem fd_Group_1 : fieldB Try.prog 85 1 1 = true := by kernel_rfl
theorem fd_Group_2 : fieldB Try.prog 85 2 2 = true := by kernel_rfl
theorem fd_Group_3 : fieldB Try.prog 85 3 3 = true := by kernel_rfl
theorem fd_Group_4 : fieldB Try.prog 85 4 4 = true := by kernel_rfl
theorem z_Group : (Try.prog.info? 85).bind (·.zero) = some (.agg #[.int .i64 0, .int .i64 0, .int .i64 0, .slice none 0 0, .slice none 0 0]) := by kernel_rfl
abbrev T_Lint : TypeId := 89
theorem one_Lint : oneB Try.prog 89 = true := by kernel_rfl
theorem siz_Lint : (Try.prog.info? 89).map (·.size) = some 1 := by kernel_rfl
theorem sl_Lint : sliceB Try.prog 89 3 1 = true := by kernel_rfl
theorem len_Lint : lenB Try.prog 89 = true := by kernel_rfl
theorem ap_Lint : apB Try.prog 89 3 1 8 = true := by kernel_rfl
theorem z_Lint : (Try.prog.info? 89).bind (·.zero) = some (.slice none 0 0) := by kernel_rfl
abbrev T_Member : TypeId := 91
theorem agg_Member : aggB Try.prog 91 3 = true := by kernel_rfl
theorem siz_Member : (Try.prog.info? 91).map (·.size) = some 3 := by kernel_rfl
theorem st_Member : structB Try.prog 91 [(0, 1), (1, 1), (2, 1)] = true := by kernel_rfl
theorem fd_Member_0 : fieldB Try.prog 91 0 0 = true := by kernel_rfl
theorem fd_Member_1 : fieldB Try.prog 91 1 1 = true := by kernel_rfl
theorem fd_Member_2 : fieldB Try.prog 91 2 2 = true := by kernel_rfl
theorem z_Member : (Try.prog.info? 91).bind (·.zero) = some (.agg #[.string ⟨#[]⟩, .int .i64 0, .slice none 0 0]) := by kernel_rfl
abbrev T_Lbool : TypeId := 106
theorem one_Lbool : oneB Try.prog 106 = true := by kernel_rfl
theorem siz_Lbool : (Try.prog.info? 106).map (·.size) = some 1 := by kernel_rfl
theorem sl_Lbool : sliceB Try.prog 106 4 1 = true := by kernel_rfl
theorem len_Lbool : lenB Try.prog 106 = true := by kernel_rfl
theorem ap_Lbool : apB Try.prog 106 4 1 1 = true := by kernel_rfl
theorem z_Lbool : (Try.prog.info? 106).bind (·.zero) = some (.slice none 0 0) := by kernel_rfl
abbrev T_LReplica : TypeId := 107
theorem one_LReplica : oneB Try.prog 107 = true := by kernel_rfl
theorem siz_LReplica : (Try.prog.info? 107).map (·.size) = some 1 := by kernel_rfl
theorem sl_LReplica : sliceB Try.prog 107 119 4 = true := by kernel_rfl
theorem len_LReplica : lenB Try.prog 107 = true := by kernel_rfl
theorem ap_LReplica : apB Try.prog 107 119 4 48 = true := by kernel_rfl
theorem z_LReplica : (Try.prog.info? 107).bind (·.zero) = some (.slice none 0 0) := by kernel_rfl
abbrev T_Part : TypeId := 109
theorem agg_Part : aggB Try.prog 109 7 = true := by kernel_rfl
theorem siz_Part : (Try.prog.info? 109).map (·.size) = some 7 := by kernel_rfl
theorem st_Part : structB Try.prog 109 [(0, 1), (1, 1), (2, 1), (3, 1), (4, 1), (5, 1), (6, 1)] = true := by kernel_rfl
theorem fd_Part_0 : fieldB Try.prog 109 0 0 = true := by kernel_rfl
theorem fd_Part_1 : fieldB Try.prog 109 1 1 = true := by kernel_rfl
theorem fd_Part_2 : fieldB Try.prog 109 2 2 = true := by kernel_rfl
theorem fd_Part_3 : fieldB Try.prog 109 3 3 = true := by kernel_rfl
theorem fd_Part_4 : fieldB Try.prog 109 4 4 = true := by kernel_rfl
theorem fd_Part_5 : fieldB Try.prog 109 5 5 = true := by kernel_rfl
theorem fd_Part_6 : fieldB Try.prog 109 6 6 = true := by kernel_rfl
theorem z_Part : (Try.prog.info? 109).bind (·.zero) = some (.agg #[.int .i64 0, .int .i64 0, .slice none 0 0, .slice none 0 0, .slice none 0 0, .int .i64 0, .int .i64 0]) := by kernel_rfl
abbrev T_Replica : TypeId := 119
theorem agg_Replica : aggB Try.prog 119 4 = true := by kernel_rfl
theorem siz_Replica : (Try.prog.info? 119).map (·.size) = some 4 := by kernel_rfl
theorem st_Replica : structB Try.prog 119 [(0, 1), (1, 2), (3, 1)] = true := by kernel_rfl
theorem fd_Replica_0 : fieldB Try.prog 119 0 0 = true := by kernel_rfl
theorem fd_Replica_1 : fieldB Try.prog 119 1 1 = true := by kernel_rfl
theorem fd_Replica_2 : fieldB Try.prog 119 2 3 = true := by kernel_rfl
theorem z_Replica : (Try.prog.info? 119).bind (·.zero) = some (.agg #[.bool false, .slice none 0 0, .int .i64 0, .int .i64 0]) := by kernel_rfl
abbrev T_LLEntry : TypeId := 128
theorem one_LLEntry : oneB Try.prog 128 = true := by kernel_rfl
theorem siz_LLEntry : (Try.prog.info? 128).map (·.size) = some 1 := by kernel_rfl
theorem sl_LLEntry : sliceB Try.prog 128 23 1 = true := by kernel_rfl
theorem len_LLEntry : lenB Try.prog 128 = true := by kernel_rfl
theorem ap_LLEntry : apB Try.prog 128 23 1 24 = true := by kernel_rfl
theorem z_LLEntry : (Try.prog.info? 128).bind (·.zero) = some (.slice none 0 0) := by kernel_rfl
abbrev T_Pproducer : TypeId := 137
theorem one_Pproducer : oneB Try.prog 137 = true := by kernel_rfl
theorem siz_Pproducer : (Try.prog.info? 137).map (·.size) = some 1 := by kernel_rfl
theorem ptr_Pproducer : ptrB Try.prog 137 = true := by kernel_rfl
theorem z_Pproducer : (Try.prog.info? 137).bind (·.zero) = some (.pointer none) := by kernel_rfl
abbrev T_producer : TypeId := 141
theorem agg_producer : aggB Try.prog 141 4 = true := by kernel_rfl
theorem siz_producer : (Try.prog.info? 141).map (·.size) = some 4 := by kernel_rfl
theorem st_producer : structB Try.prog 141 [(0, 1), (1, 1), (2, 1), (3, 1)] = true := by kernel_rfl
theorem fd_producer_0 : fieldB Try.prog 141 0 0 = true := by kernel_rfl
theorem fd_producer_1 : fieldB Try.prog 141 1 1 = true := by kernel_rfl
theorem fd_producer_2 : fieldB Try.prog 141 2 2 = true := by kernel_rfl
theorem fd_producer_3 : fieldB Try.prog 141 3 3 = true := by kernel_rfl
theorem z_producer : (Try.prog.info? 141).bind (·.zero) = some (.agg #[.int .i64 0, .int .i64 0, .int .i64 0, .int .i64 0]) := by kernel_rfl
abbrev T_uint : TypeId := 143
theorem one_uint : oneB Try.prog 143 = true := by kernel_rfl
theorem siz_uint : (Try.prog.info? 143).map (·.size) = some 1 := by kernel_rfl
theorem int_uint : intB Try.prog 143 .u64 = true := by kernel_rfl
theorem z_uint : (Try.prog.info? 143).bind (·.zero) = some (.int .u64 0) := by kernel_rfl
abbrev T_Txn : TypeId := 150
theorem agg_Txn : aggB Try.prog 150 7 = true := by kernel_rfl
theorem siz_Txn : (Try.prog.info? 150).map (·.size) = some 7 := by kernel_rfl
theorem st_Txn : structB Try.prog 150 [(0, 1), (1, 1), (2, 1), (3, 1), (4, 1), (5, 1), (6, 1)] = true := by kernel_rfl
theorem fd_Txn_0 : fieldB Try.prog 150 0 0 = true := by kernel_rfl
theorem fd_Txn_1 : fieldB Try.prog 150 1 1 = true := by kernel_rfl
theorem fd_Txn_2 : fieldB Try.prog 150 2 2 = true := by kernel_rfl
theorem fd_Txn_3 : fieldB Try.prog 150 3 3 = true := by kernel_rfl
theorem fd_Txn_4 : fieldB Try.prog 150 4 4 = true := by kernel_rfl
theorem fd_Txn_5 : fieldB Try.prog 150 5 5 = true := by kernel_rfl
theorem fd_Txn_6 : fieldB Try.prog 150 6 6 = true := by kernel_rfl
theorem z_Txn : (Try.prog.info? 150).bind (·.zero) = some (.agg #[.string ⟨#[]⟩, .int .i64 0, .int .i64 0, .int .i64 0, .slice none 0 0, .int .i64 0, .int .i64 0]) := by kernel_rfl
abbrev T_PTxn : TypeId := 151
theorem one_PTxn : oneB Try.prog 151 = true := by kernel_rfl
theorem siz_PTxn : (Try.prog.info? 151).map (·.size) = some 1 := by kernel_rfl
theorem ptr_PTxn : ptrB Try.prog 151 = true := by kernel_rfl
theorem z_PTxn : (Try.prog.info? 151).bind (·.zero) = some (.pointer none) := by kernel_rfl
abbrev T_PReplica : TypeId := 170
theorem one_PReplica : oneB Try.prog 170 = true := by kernel_rfl
theorem siz_PReplica : (Try.prog.info? 170).map (·.size) = some 1 := by kernel_rfl
theorem ptr_PReplica : ptrB Try.prog 170 = true := by kernel_rfl
theorem z_PReplica : (Try.prog.info? 170).bind (·.zero) = some (.pointer none) := by kernel_rfl
abbrev T_Offset : TypeId := 174
theorem agg_Offset : aggB Try.prog 174 2 = true := by kernel_rfl
theorem siz_Offset : (Try.prog.info? 174).map (·.size) = some 2 := by kernel_rfl
theorem st_Offset : structB Try.prog 174 [(0, 1), (1, 1)] = true := by kernel_rfl
theorem fd_Offset_0 : fieldB Try.prog 174 0 0 = true := by kernel_rfl
theorem fd_Offset_1 : fieldB Try.prog 174 1 1 = true := by kernel_rfl
theorem z_Offset : (Try.prog.info? 174).bind (·.zero) = some (.agg #[.int .i64 0, .int .i64 0]) := by kernel_rfl
abbrev T_Preader : TypeId := 186
theorem one_Preader : oneB Try.prog 186 = true := by kernel_rfl
theorem siz_Preader : (Try.prog.info? 186).map (·.size) = some 1 := by kernel_rfl
theorem ptr_Preader : ptrB Try.prog 186 = true := by kernel_rfl
theorem z_Preader : (Try.prog.info? 186).bind (·.zero) = some (.pointer none) := by kernel_rfl
abbrev T_reader : TypeId := 188
theorem agg_reader : aggB Try.prog 188 2 = true := by kernel_rfl
theorem siz_reader : (Try.prog.info? 188).map (·.size) = some 2 := by kernel_rfl
theorem st_reader : structB Try.prog 188 [(0, 1), (1, 1)] = true := by kernel_rfl
theorem fd_reader_0 : fieldB Try.prog 188 0 0 = true := by kernel_rfl
theorem fd_reader_1 : fieldB Try.prog 188 1 1 = true := by kernel_rfl
theorem z_reader : (Try.prog.info? 188).bind (·.zero) = some (.agg #[.slice none 0 0, .bool false]) := by kernel_rfl
abbrev T_LLbyte : TypeId := 191
theorem one_LLbyte : oneB Try.prog 191 = true := by kernel_rfl
theorem siz_LLbyte : (Try.prog.info? 191).map (·.size) = some 1 := by kernel_rfl
theorem sl_LLbyte : sliceB Try.prog 191 37 1 = true := by kernel_rfl
theorem len_LLbyte : lenB Try.prog 191 = true := by kernel_rfl
theorem ap_LLbyte : apB Try.prog 191 37 1 24 = true := by kernel_rfl
theorem z_LLbyte : (Try.prog.info? 191).bind (·.zero) = some (.slice none 0 0) := by kernel_rfl
abbrev T_LLint : TypeId := 192
theorem one_LLint : oneB Try.prog 192 = true := by kernel_rfl
theorem siz_LLint : (Try.prog.info? 192).map (·.size) = some 1 := by kernel_rfl
theorem sl_LLint : sliceB Try.prog 192 89 1 = true := by kernel_rfl
theorem len_LLint : lenB Try.prog 192 = true := by kernel_rfl
theorem ap_LLint : apB Try.prog 192 89 1 24 = true := by kernel_rfl
theorem z_LLint : (Try.prog.info? 192).bind (·.zero) = some (.slice none 0 0) := by kernel_rfl
abbrev T_sortedHint : TypeId := 201
theorem one_sortedHint : oneB Try.prog 201 = true := by kernel_rfl
theorem siz_sortedHint : (Try.prog.info? 201).map (·.size) = some 1 := by kernel_rfl
theorem int_sortedHint : intB Try.prog 201 .i64 = true := by kernel_rfl
theorem z_sortedHint : (Try.prog.info? 201).bind (·.zero) = some (.int .i64 0) := by kernel_rfl
abbrev T_uint32 : TypeId := 208
theorem one_uint32 : oneB Try.prog 208 = true := by kernel_rfl
theorem siz_uint32 : (Try.prog.info? 208).map (·.size) = some 1 := by kernel_rfl
theorem int_uint32 : intB Try.prog 208 .u32 = true := by kernel_rfl
theorem z_uint32 : (Try.prog.info? 208).bind (·.zero) = some (.int .u32 0) := by kernel_rfl
abbrev T_uint64 : TypeId := 210
theorem one_uint64 : oneB Try.prog 210 = true := by kernel_rfl
theorem siz_uint64 : (Try.prog.info? 210).map (·.size) = some 1 := by kernel_rfl
theorem int_uint64 : intB Try.prog 210 .u64 = true := by kernel_rfl
theorem z_uint64 : (Try.prog.info? 210).bind (·.zero) = some (.int .u64 0) := by kernel_rfl
abbrev T_xorshift : TypeId := 213
theorem one_xorshift : oneB Try.prog 213 = true := by kernel_rfl
theorem siz_xorshift : (Try.prog.info? 213).map (·.size) = some 1 := by kernel_rfl
theorem int_xorshift : intB Try.prog 213 .u64 = true := by kernel_rfl
theorem z_xorshift : (Try.prog.info? 213).bind (·.zero) = some (.int .u64 0) := by kernel_rfl
abbrev T_Pint : TypeId := 217
theorem one_Pint : oneB Try.prog 217 = true := by kernel_rfl
theorem siz_Pint : (Try.prog.info? 217).map (·.size) = some 1 := by kernel_rfl
theorem ptr_Pint : ptrB Try.prog 217 = true := by kernel_rfl
theorem z_Pint : (Try.prog.info? 217).bind (·.zero) = some (.pointer none) := by kernel_rfl
abbrev T_Pxorshift : TypeId := 221
theorem one_Pxorshift : oneB Try.prog 221 = true := by kernel_rfl
theorem siz_Pxorshift : (Try.prog.info? 221).map (·.size) = some 1 := by kernel_rfl
theorem ptr_Pxorshift : ptrB Try.prog 221 = true := by kernel_rfl
theorem z_Pxorshift : (Try.prog.info? 221).bind (·.zero) = some (.pointer none) := by kernel_rfl
abbrev T_Pbyte : TypeId := 234
theorem one_Pbyte : oneB Try.prog 234 = true := by kernel_rfl
theorem siz_Pbyte : (Try.prog.info? 234).map (·.size) = some 1 := by kernel_rfl
theorem ptr_Pbyte : ptrB Try.prog 234 = true := by kernel_rfl
theorem z_Pbyte : (Try.prog.info? 234).bind (·.zero) = some (.pointer none) := by kernel_rfl
abbrev i_tailracekeep_TwiceSame : FuncId := 3
theorem fn_tailracekeep_TwiceSame : Try.prog.funcs[(3 : Nat)]? = some Try.f3 := Try.func3
theorem cb_tailracekeep_TwiceSame : callB Try.prog 3 = true := by kernel_rfl
abbrev i_tailracekeep_StableAhead : FuncId := 4
theorem fn_tailracekeep_StableAhead : Try.prog.funcs[(4 : Nat)]? = some Try.f4 := Try.func4
theorem cb_tailracekeep_StableAhead : callB Try.prog 4 = true := by kernel_rfl
abbrev i_tailracekeep_EntryFixed : FuncId := 5
theorem fn_tailracekeep_EntryFixed : Try.prog.funcs[(5 : Nat)]? = some Try.f5 := Try.func5
theorem cb_tailracekeep_EntryFixed : callB Try.prog 5 = true := by kernel_rfl
abbrev i_tailracekeep_CoordPids : FuncId := 6
theorem fn_tailracekeep_CoordPids : Try.prog.funcs[(6 : Nat)]? = some Try.f6 := Try.func6
theorem cb_tailracekeep_CoordPids : callB Try.prog 6 = true := by kernel_rfl
abbrev i_tailracekeep_OnceEach : FuncId := 7
theorem fn_tailracekeep_OnceEach : Try.prog.funcs[(7 : Nat)]? = some Try.f7 := Try.func7
theorem cb_tailracekeep_OnceEach : callB Try.prog 7 = true := by kernel_rfl
abbrev i_tailracekeep_EntrySpoilt : FuncId := 8
theorem fn_tailracekeep_EntrySpoilt : Try.prog.funcs[(8 : Nat)]? = some Try.f8 := Try.func8
theorem cb_tailracekeep_EntrySpoilt : callB Try.prog 8 = true := by kernel_rfl
abbrev i_tailracekeep_EntryBack : FuncId := 9
theorem fn_tailracekeep_EntryBack : Try.prog.funcs[(9 : Nat)]? = some Try.f9 := Try.func9
theorem cb_tailracekeep_EntryBack : callB Try.prog 9 = true := by kernel_rfl
abbrev i_tailracekeep_ReadPages : FuncId := 10
theorem fn_tailracekeep_ReadPages : Try.prog.funcs[(10 : Nat)]? = some Try.f10 := Try.func10
theorem cb_tailracekeep_ReadPages : callB Try.prog 10 = true := by kernel_rfl
abbrev i_tailracekeep_ReadDone : FuncId := 11
theorem fn_tailracekeep_ReadDone : Try.prog.funcs[(11 : Nat)]? = some Try.f11 := Try.func11
theorem cb_tailracekeep_ReadDone : callB Try.prog 11 = true := by kernel_rfl
abbrev i_tailracekeep_EntryBad : FuncId := 12
theorem fn_tailracekeep_EntryBad : Try.prog.funcs[(12 : Nat)]? = some Try.f12 := Try.func12
theorem cb_tailracekeep_EntryBad : callB Try.prog 12 = true := by kernel_rfl
abbrev i_tailracekeep_EntryTorn : FuncId := 13
theorem fn_tailracekeep_EntryTorn : Try.prog.funcs[(13 : Nat)]? = some Try.f13 := Try.func13
theorem cb_tailracekeep_EntryTorn : callB Try.prog 13 = true := by kernel_rfl
abbrev i_tailracekeep_LogGrows : FuncId := 14
theorem fn_tailracekeep_LogGrows : Try.prog.funcs[(14 : Nat)]? = some Try.f14 := Try.func14
theorem cb_tailracekeep_LogGrows : callB Try.prog 14 = true := by kernel_rfl
abbrev i_tailracekeep_LogCrashes : FuncId := 15
theorem fn_tailracekeep_LogCrashes : Try.prog.funcs[(15 : Nat)]? = some Try.f15 := Try.func15
theorem cb_tailracekeep_LogCrashes : callB Try.prog 15 = true := by kernel_rfl
abbrev i_tailracekeep_LogCuts : FuncId := 16
theorem fn_tailracekeep_LogCuts : Try.prog.funcs[(16 : Nat)]? = some Try.f16 := Try.func16
theorem cb_tailracekeep_LogCuts : callB Try.prog 16 = true := by kernel_rfl
abbrev i_tailracekeep_GroupOrder : FuncId := 17
theorem fn_tailracekeep_GroupOrder : Try.prog.funcs[(17 : Nat)]? = some Try.f17 := Try.func17
theorem cb_tailracekeep_GroupOrder : callB Try.prog 17 = true := by kernel_rfl
abbrev i_tailracekeep_CoordWaits : FuncId := 18
theorem fn_tailracekeep_CoordWaits : Try.prog.funcs[(18 : Nat)]? = some Try.f18 := Try.func18
theorem cb_tailracekeep_CoordWaits : callB Try.prog 18 = true := by kernel_rfl
abbrev i_tailracekeep_GroupSilent : FuncId := 19
theorem fn_tailracekeep_GroupSilent : Try.prog.funcs[(19 : Nat)]? = some Try.f19 := Try.func19
theorem cb_tailracekeep_GroupSilent : callB Try.prog 19 = true := by kernel_rfl
abbrev i_tailracekeep_CoordGood : FuncId := 20
theorem fn_tailracekeep_CoordGood : Try.prog.funcs[(20 : Nat)]? = some Try.f20 := Try.func20
theorem cb_tailracekeep_CoordGood : callB Try.prog 20 = true := by kernel_rfl
abbrev i_tailracekeep_CoordFences : FuncId := 21
theorem fn_tailracekeep_CoordFences : Try.prog.funcs[(21 : Nat)]? = some Try.f21 := Try.func21
theorem cb_tailracekeep_CoordFences : callB Try.prog 21 = true := by kernel_rfl
abbrev i_tailracekeep_PartFew : FuncId := 22
theorem fn_tailracekeep_PartFew : Try.prog.funcs[(22 : Nat)]? = some Try.f22 := Try.func22
theorem cb_tailracekeep_PartFew : callB Try.prog 22 = true := by kernel_rfl
abbrev i_tailracekeep_PartCatches : FuncId := 23
theorem fn_tailracekeep_PartCatches : Try.prog.funcs[(23 : Nat)]? = some Try.f23 := Try.func23
theorem cb_tailracekeep_PartCatches : callB Try.prog 23 = true := by kernel_rfl
abbrev i_tailracekeep_GroupGood : FuncId := 24
theorem fn_tailracekeep_GroupGood : Try.prog.funcs[(24 : Nat)]? = some Try.f24 := Try.func24
theorem cb_tailracekeep_GroupGood : callB Try.prog 24 = true := by kernel_rfl
abbrev i_tailracekeep_GroupShares : FuncId := 25
theorem fn_tailracekeep_GroupShares : Try.prog.funcs[(25 : Nat)]? = some Try.f25 := Try.func25
theorem cb_tailracekeep_GroupShares : callB Try.prog 25 = true := by kernel_rfl
abbrev i_tailracekeep_GroupGoesOn : FuncId := 26
theorem fn_tailracekeep_GroupGoesOn : Try.prog.funcs[(26 : Nat)]? = some Try.f26 := Try.func26
theorem cb_tailracekeep_GroupGoesOn : callB Try.prog 26 = true := by kernel_rfl
abbrev i_tailracekeep_PartLed : FuncId := 27
theorem fn_tailracekeep_PartLed : Try.prog.funcs[(27 : Nat)]? = some Try.f27 := Try.func27
theorem cb_tailracekeep_PartLed : callB Try.prog 27 = true := by kernel_rfl
abbrev i_tailracekeep_PartGood : FuncId := 28
theorem fn_tailracekeep_PartGood : Try.prog.funcs[(28 : Nat)]? = some Try.f28 := Try.func28
theorem cb_tailracekeep_PartGood : callB Try.prog 28 = true := by kernel_rfl
abbrev i_tailracekeep_PartCalm : FuncId := 29
theorem fn_tailracekeep_PartCalm : Try.prog.funcs[(29 : Nat)]? = some Try.f29 := Try.func29
theorem cb_tailracekeep_PartCalm : callB Try.prog 29 = true := by kernel_rfl
abbrev i_tailracekeep_PartKept : FuncId := 30
theorem fn_tailracekeep_PartKept : Try.prog.funcs[(30 : Nat)]? = some Try.f30 := Try.func30
theorem cb_tailracekeep_PartKept : callB Try.prog 30 = true := by kernel_rfl
abbrev i_tailracekeep_PartAlike : FuncId := 31
theorem fn_tailracekeep_PartAlike : Try.prog.funcs[(31 : Nat)]? = some Try.f31 := Try.func31
theorem cb_tailracekeep_PartAlike : callB Try.prog 31 = true := by kernel_rfl
abbrev i_tailracekeep_ReadsKept : FuncId := 32
theorem fn_tailracekeep_ReadsKept : Try.prog.funcs[(32 : Nat)]? = some Try.f32 := Try.func32
theorem cb_tailracekeep_ReadsKept : callB Try.prog 32 = true := by kernel_rfl
abbrev i_tailracekeep_CoordStays : FuncId := 33
theorem fn_tailracekeep_CoordStays : Try.prog.funcs[(33 : Nat)]? = some Try.f33 := Try.func33
theorem cb_tailracekeep_CoordStays : callB Try.prog 33 = true := by kernel_rfl
abbrev i_tailracekeep_sent : FuncId := 34
theorem fn_tailracekeep_sent : Try.prog.funcs[(34 : Nat)]? = some Try.f34 := Try.func34
theorem cb_tailracekeep_sent : callB Try.prog 34 = true := by kernel_rfl
abbrev i_tailracekeep_many : FuncId := 35
theorem fn_tailracekeep_many : Try.prog.funcs[(35 : Nat)]? = some Try.f35 := Try.func35
theorem cb_tailracekeep_many : callB Try.prog 35 = true := by kernel_rfl
abbrev i_view_Check : FuncId := 36
theorem fn_view_Check : Try.prog.funcs[(36 : Nat)]? = some Try.f36 := Try.func36
theorem cb_view_Check : callB Try.prog 36 = true := by kernel_rfl
abbrev i_tailracekeep_picked : FuncId := 37
theorem fn_tailracekeep_picked : Try.prog.funcs[(37 : Nat)]? = some Try.f37 := Try.func37
theorem cb_tailracekeep_picked : callB Try.prog 37 = true := by kernel_rfl
abbrev i_slices_ContainsFunc_LEntry_Entry : FuncId := 38
theorem fn_slices_ContainsFunc_LEntry_Entry : Try.prog.funcs[(38 : Nat)]? = some Try.f38 := Try.func38
theorem cb_slices_ContainsFunc_LEntry_Entry : callB Try.prog 38 = true := by kernel_rfl
abbrev i_tailracekeep_TwiceSame_c1 : FuncId := 39
theorem fn_tailracekeep_TwiceSame_c1 : Try.prog.funcs[(39 : Nat)]? = some Try.f39 := Try.func39
theorem cb_tailracekeep_TwiceSame_c1 : callB Try.prog 39 = true := by kernel_rfl
abbrev i_view_Stable : FuncId := 40
theorem fn_view_Stable : Try.prog.funcs[(40 : Nat)]? = some Try.f40 := Try.func40
theorem cb_view_Stable : callB Try.prog 40 = true := by kernel_rfl
abbrev i_tailracekeep_StableAhead_c1 : FuncId := 41
theorem fn_tailracekeep_StableAhead_c1 : Try.prog.funcs[(41 : Nat)]? = some Try.f41 := Try.func41
theorem cb_tailracekeep_StableAhead_c1 : callB Try.prog 41 = true := by kernel_rfl
abbrev i_tailracekeep_wireTells : FuncId := 42
theorem fn_tailracekeep_wireTells : Try.prog.funcs[(42 : Nat)]? = some Try.f42 := Try.func42
theorem cb_tailracekeep_wireTells : callB Try.prog 42 = true := by kernel_rfl
abbrev i_wire_Decode : FuncId := 43
theorem fn_wire_Decode : Try.prog.funcs[(43 : Nat)]? = some Try.f43 := Try.func43
theorem cb_wire_Decode : callB Try.prog 43 = true := by kernel_rfl
abbrev i_wire_Encode : FuncId := 44
theorem fn_wire_Encode : Try.prog.funcs[(44 : Nat)]? = some Try.f44 := Try.func44
theorem cb_wire_Encode : callB Try.prog 44 = true := by kernel_rfl
abbrev i_coord_New : FuncId := 45
theorem fn_coord_New : Try.prog.funcs[(45 : Nat)]? = some Try.f45 := Try.func45
theorem cb_coord_New : callB Try.prog 45 = true := by kernel_rfl
abbrev i_coord_Init : FuncId := 46
theorem fn_coord_Init : Try.prog.funcs[(46 : Nat)]? = some Try.f46 := Try.func46
theorem cb_coord_Init : callB Try.prog 46 = true := by kernel_rfl
abbrev i_tailracekeep_viewTells : FuncId := 47
theorem fn_tailracekeep_viewTells : Try.prog.funcs[(47 : Nat)]? = some Try.f47 := Try.func47
theorem cb_tailracekeep_viewTells : callB Try.prog 47 = true := by kernel_rfl
abbrev i_tailracekeep_Entry : FuncId := 48
theorem fn_tailracekeep_Entry : Try.prog.funcs[(48 : Nat)]? = some Try.f48 := Try.func48
theorem cb_tailracekeep_Entry : callB Try.prog 48 = true := by kernel_rfl
abbrev i_slices_Clone_Lbyte_byte : FuncId := 49
theorem fn_slices_Clone_Lbyte_byte : Try.prog.funcs[(49 : Nat)]? = some Try.f49 := Try.func49
theorem cb_slices_Clone_Lbyte_byte : callB Try.prog 49 = true := by kernel_rfl
abbrev i_wire_Check : FuncId := 50
theorem fn_wire_Check : Try.prog.funcs[(50 : Nat)]? = some Try.f50 := Try.func50
theorem cb_wire_Check : callB Try.prog 50 = true := by kernel_rfl
abbrev i_slices_Equal_LEntry_Entry : FuncId := 51
theorem fn_slices_Equal_LEntry_Entry : Try.prog.funcs[(51 : Nat)]? = some Try.f51 := Try.func51
theorem cb_slices_Equal_LEntry_Entry : callB Try.prog 51 = true := by kernel_rfl
abbrev i_view_Read : FuncId := 52
theorem fn_view_Read : Try.prog.funcs[(52 : Nat)]? = some Try.f52 := Try.func52
theorem cb_view_Read : callB Try.prog 52 = true := by kernel_rfl
abbrev i_slices_Equal_Lstring_string : FuncId := 53
theorem fn_slices_Equal_Lstring_string : Try.prog.funcs[(53 : Nat)]? = some Try.f53 := Try.func53
theorem cb_slices_Equal_Lstring_string : callB Try.prog 53 = true := by kernel_rfl
abbrev i_slices_IndexFunc_LEntry_Entry : FuncId := 54
theorem fn_slices_IndexFunc_LEntry_Entry : Try.prog.funcs[(54 : Nat)]? = some Try.f54 := Try.func54
theorem cb_slices_IndexFunc_LEntry_Entry : callB Try.prog 54 = true := by kernel_rfl
abbrev i_tailracekeep_ReadDone_c1 : FuncId := 55
theorem fn_tailracekeep_ReadDone_c1 : Try.prog.funcs[(55 : Nat)]? = some Try.f55 := Try.func55
theorem cb_tailracekeep_ReadDone_c1 : callB Try.prog 55 = true := by kernel_rfl
abbrev i_seg_Append : FuncId := 56
theorem fn_seg_Append : Try.prog.funcs[(56 : Nat)]? = some Try.f56 := Try.func56
theorem cb_seg_Append : callB Try.prog 56 = true := by kernel_rfl
abbrev i_tailracekeep_logOf : FuncId := 57
theorem fn_tailracekeep_logOf : Try.prog.funcs[(57 : Nat)]? = some Try.f57 := Try.func57
theorem cb_tailracekeep_logOf : callB Try.prog 57 = true := by kernel_rfl
abbrev i_seg_Sync : FuncId := 58
theorem fn_seg_Sync : Try.prog.funcs[(58 : Nat)]? = some Try.f58 := Try.func58
theorem cb_seg_Sync : callB Try.prog 58 = true := by kernel_rfl
abbrev i_seg_Entries : FuncId := 59
theorem fn_seg_Entries : Try.prog.funcs[(59 : Nat)]? = some Try.f59 := Try.func59
theorem cb_seg_Entries : callB Try.prog 59 = true := by kernel_rfl
abbrev i_seg_Check : FuncId := 60
theorem fn_seg_Check : Try.prog.funcs[(60 : Nat)]? = some Try.f60 := Try.func60
theorem cb_seg_Check : callB Try.prog 60 = true := by kernel_rfl
abbrev i_seg_Crash : FuncId := 61
theorem fn_seg_Crash : Try.prog.funcs[(61 : Nat)]? = some Try.f61 := Try.func61
theorem cb_seg_Crash : callB Try.prog 61 = true := by kernel_rfl
abbrev i_seg_Cut : FuncId := 62
theorem fn_seg_Cut : Try.prog.funcs[(62 : Nat)]? = some Try.f62 := Try.func62
theorem cb_seg_Cut : callB Try.prog 62 = true := by kernel_rfl
abbrev i_slices_Clone_LEntry_Entry : FuncId := 63
theorem fn_slices_Clone_LEntry_Entry : Try.prog.funcs[(63 : Nat)]? = some Try.f63 := Try.func63
theorem cb_slices_Clone_LEntry_Entry : callB Try.prog 63 = true := by kernel_rfl
abbrev i_group_New : FuncId := 64
theorem fn_group_New : Try.prog.funcs[(64 : Nat)]? = some Try.f64 := Try.func64
theorem cb_group_New : callB Try.prog 64 = true := by kernel_rfl
abbrev i_group_Join : FuncId := 65
theorem fn_group_Join : Try.prog.funcs[(65 : Nat)]? = some Try.f65 := Try.func65
theorem cb_group_Join : callB Try.prog 65 = true := by kernel_rfl
abbrev i_slices_IndexFunc_LMember_Member : FuncId := 66
theorem fn_slices_IndexFunc_LMember_Member : Try.prog.funcs[(66 : Nat)]? = some Try.f66 := Try.func66
theorem cb_slices_IndexFunc_LMember_Member : callB Try.prog 66 = true := by kernel_rfl
abbrev i_tailracekeep_GroupOrder_c1 : FuncId := 67
theorem fn_tailracekeep_GroupOrder_c1 : Try.prog.funcs[(67 : Nat)]? = some Try.f67 := Try.func67
theorem cb_tailracekeep_GroupOrder_c1 : callB Try.prog 67 = true := by kernel_rfl
abbrev i_slices_Equal_Lint_int : FuncId := 68
theorem fn_slices_Equal_Lint_int : Try.prog.funcs[(68 : Nat)]? = some Try.f68 := Try.func68
theorem cb_slices_Equal_Lint_int : callB Try.prog 68 = true := by kernel_rfl
abbrev i_coord_Add : FuncId := 69
theorem fn_coord_Add : Try.prog.funcs[(69 : Nat)]? = some Try.f69 := Try.func69
theorem cb_coord_Add : callB Try.prog 69 = true := by kernel_rfl
abbrev i_coord_Tick : FuncId := 70
theorem fn_coord_Tick : Try.prog.funcs[(70 : Nat)]? = some Try.f70 := Try.func70
theorem cb_coord_Tick : callB Try.prog 70 = true := by kernel_rfl
abbrev i_coord_End : FuncId := 71
theorem fn_coord_End : Try.prog.funcs[(71 : Nat)]? = some Try.f71 := Try.func71
theorem cb_coord_End : callB Try.prog 71 = true := by kernel_rfl
abbrev i_coord_Next : FuncId := 72
theorem fn_coord_Next : Try.prog.funcs[(72 : Nat)]? = some Try.f72 := Try.func72
theorem cb_coord_Next : callB Try.prog 72 = true := by kernel_rfl
abbrev i_group_Tick : FuncId := 73
theorem fn_group_Tick : Try.prog.funcs[(73 : Nat)]? = some Try.f73 := Try.func73
theorem cb_group_Tick : callB Try.prog 73 = true := by kernel_rfl
abbrev i_group_Beat : FuncId := 74
theorem fn_group_Beat : Try.prog.funcs[(74 : Nat)]? = some Try.f74 := Try.func74
theorem cb_group_Beat : callB Try.prog 74 = true := by kernel_rfl
abbrev i_tailracekeep_coordinated : FuncId := 75
theorem fn_tailracekeep_coordinated : Try.prog.funcs[(75 : Nat)]? = some Try.f75 := Try.func75
theorem cb_tailracekeep_coordinated : callB Try.prog 75 = true := by kernel_rfl
abbrev i_coord_Check : FuncId := 76
theorem fn_coord_Check : Try.prog.funcs[(76 : Nat)]? = some Try.f76 := Try.func76
theorem cb_coord_Check : callB Try.prog 76 = true := by kernel_rfl
abbrev i_coord_Copy : FuncId := 77
theorem fn_coord_Copy : Try.prog.funcs[(77 : Nat)]? = some Try.f77 := Try.func77
theorem cb_coord_Copy : callB Try.prog 77 = true := by kernel_rfl
abbrev i_part_New : FuncId := 78
theorem fn_part_New : Try.prog.funcs[(78 : Nat)]? = some Try.f78 := Try.func78
theorem cb_part_New : callB Try.prog 78 = true := by kernel_rfl
abbrev i_part_Elect : FuncId := 79
theorem fn_part_Elect : Try.prog.funcs[(79 : Nat)]? = some Try.f79 := Try.func79
theorem cb_part_Elect : callB Try.prog 79 = true := by kernel_rfl
abbrev i_part_Put : FuncId := 80
theorem fn_part_Put : Try.prog.funcs[(80 : Nat)]? = some Try.f80 := Try.func80
theorem cb_part_Put : callB Try.prog 80 = true := by kernel_rfl
abbrev i_part_Crash : FuncId := 81
theorem fn_part_Crash : Try.prog.funcs[(81 : Nat)]? = some Try.f81 := Try.func81
theorem cb_part_Crash : callB Try.prog 81 = true := by kernel_rfl
abbrev i_part_Shrink : FuncId := 82
theorem fn_part_Shrink : Try.prog.funcs[(82 : Nat)]? = some Try.f82 := Try.func82
theorem cb_part_Shrink : callB Try.prog 82 = true := by kernel_rfl
abbrev i_tailracekeep_word : FuncId := 83
theorem fn_tailracekeep_word : Try.prog.funcs[(83 : Nat)]? = some Try.f83 := Try.func83
theorem cb_tailracekeep_word : callB Try.prog 83 = true := by kernel_rfl
abbrev i_part_Sync : FuncId := 84
theorem fn_part_Sync : Try.prog.funcs[(84 : Nat)]? = some Try.f84 := Try.func84
theorem cb_part_Sync : callB Try.prog 84 = true := by kernel_rfl
abbrev i_part_Expand : FuncId := 85
theorem fn_part_Expand : Try.prog.funcs[(85 : Nat)]? = some Try.f85 := Try.func85
theorem cb_part_Expand : callB Try.prog 85 = true := by kernel_rfl
abbrev i_part_Fetch : FuncId := 86
theorem fn_part_Fetch : Try.prog.funcs[(86 : Nat)]? = some Try.f86 := Try.func86
theorem cb_part_Fetch : callB Try.prog 86 = true := by kernel_rfl
abbrev i_tailracekeep_grouped : FuncId := 87
theorem fn_tailracekeep_grouped : Try.prog.funcs[(87 : Nat)]? = some Try.f87 := Try.func87
theorem cb_tailracekeep_grouped : callB Try.prog 87 = true := by kernel_rfl
abbrev i_group_Check : FuncId := 88
theorem fn_group_Check : Try.prog.funcs[(88 : Nat)]? = some Try.f88 := Try.func88
theorem cb_group_Check : callB Try.prog 88 = true := by kernel_rfl
abbrev i_group_Copy : FuncId := 89
theorem fn_group_Copy : Try.prog.funcs[(89 : Nat)]? = some Try.f89 := Try.func89
theorem cb_group_Copy : callB Try.prog 89 = true := by kernel_rfl
abbrev i_tailracekeep_groupTells : FuncId := 90
theorem fn_tailracekeep_groupTells : Try.prog.funcs[(90 : Nat)]? = some Try.f90 := Try.func90
theorem cb_tailracekeep_groupTells : callB Try.prog 90 = true := by kernel_rfl
abbrev i_group_Store : FuncId := 91
theorem fn_group_Store : Try.prog.funcs[(91 : Nat)]? = some Try.f91 := Try.func91
theorem cb_group_Store : callB Try.prog 91 = true := by kernel_rfl
abbrev i_group_Where : FuncId := 92
theorem fn_group_Where : Try.prog.funcs[(92 : Nat)]? = some Try.f92 := Try.func92
theorem cb_group_Where : callB Try.prog 92 = true := by kernel_rfl
abbrev i_group_Leave : FuncId := 93
theorem fn_group_Leave : Try.prog.funcs[(93 : Nat)]? = some Try.f93 := Try.func93
theorem cb_group_Leave : callB Try.prog 93 = true := by kernel_rfl
abbrev i_slices_Contains_Lint_int : FuncId := 94
theorem fn_slices_Contains_Lint_int : Try.prog.funcs[(94 : Nat)]? = some Try.f94 := Try.func94
theorem cb_slices_Contains_Lint_int : callB Try.prog 94 = true := by kernel_rfl
abbrev i_part_Read : FuncId := 95
theorem fn_part_Read : Try.prog.funcs[(95 : Nat)]? = some Try.f95 := Try.func95
theorem cb_part_Read : callB Try.prog 95 = true := by kernel_rfl
abbrev i_tailracekeep_played : FuncId := 96
theorem fn_tailracekeep_played : Try.prog.funcs[(96 : Nat)]? = some Try.f96 := Try.func96
theorem cb_tailracekeep_played : callB Try.prog 96 = true := by kernel_rfl
abbrev i_part_Check : FuncId := 97
theorem fn_part_Check : Try.prog.funcs[(97 : Nat)]? = some Try.f97 := Try.func97
theorem cb_part_Check : callB Try.prog 97 = true := by kernel_rfl
abbrev i_part_Copy : FuncId := 98
theorem fn_part_Copy : Try.prog.funcs[(98 : Nat)]? = some Try.f98 := Try.func98
theorem cb_part_Copy : callB Try.prog 98 = true := by kernel_rfl
abbrev i_tailracekeep_partTells : FuncId := 99
theorem fn_tailracekeep_partTells : Try.prog.funcs[(99 : Nat)]? = some Try.f99 := Try.func99
theorem cb_tailracekeep_partTells : callB Try.prog 99 = true := by kernel_rfl
abbrev i_slices_Sort_Lint_int : FuncId := 100
theorem fn_slices_Sort_Lint_int : Try.prog.funcs[(100 : Nat)]? = some Try.f100 := Try.func100
theorem cb_slices_Sort_Lint_int : callB Try.prog 100 = true := by kernel_rfl
abbrev i_slices_Compact_Lint_int : FuncId := 101
theorem fn_slices_Compact_Lint_int : Try.prog.funcs[(101 : Nat)]? = some Try.f101 := Try.func101
theorem cb_slices_Compact_Lint_int : callB Try.prog 101 = true := by kernel_rfl
abbrev i_coord_Done : FuncId := 102
theorem fn_coord_Done : Try.prog.funcs[(102 : Nat)]? = some Try.f102 := Try.func102
theorem cb_coord_Done : callB Try.prog 102 = true := by kernel_rfl
abbrev i_view_replay : FuncId := 103
theorem fn_view_replay : Try.prog.funcs[(103 : Nat)]? = some Try.f103 := Try.func103
theorem cb_view_replay : callB Try.prog 103 = true := by kernel_rfl
abbrev i_wire_sum : FuncId := 104
theorem fn_wire_sum : Try.prog.funcs[(104 : Nat)]? = some Try.f104 := Try.func104
theorem cb_wire_sum : callB Try.prog 104 = true := by kernel_rfl
abbrev i_wire_body : FuncId := 105
theorem fn_wire_body : Try.prog.funcs[(105 : Nat)]? = some Try.f105 := Try.func105
theorem cb_wire_body : callB Try.prog 105 = true := by kernel_rfl
abbrev i_wire_number : FuncId := 106
theorem fn_wire_number : Try.prog.funcs[(106 : Nat)]? = some Try.f106 := Try.func106
theorem cb_wire_number : callB Try.prog 106 = true := by kernel_rfl
abbrev i_coord_find : FuncId := 107
theorem fn_coord_find : Try.prog.funcs[(107 : Nat)]? = some Try.f107 := Try.func107
theorem cb_coord_find : callB Try.prog 107 = true := by kernel_rfl
abbrev i_view_kept : FuncId := 108
theorem fn_view_kept : Try.prog.funcs[(108 : Nat)]? = some Try.f108 := Try.func108
theorem cb_view_kept : callB Try.prog 108 = true := by kernel_rfl
abbrev i_slices_Concat_Lbyte_byte : FuncId := 109
theorem fn_slices_Concat_Lbyte_byte : Try.prog.funcs[(109 : Nat)]? = some Try.f109 := Try.func109
theorem cb_slices_Concat_Lbyte_byte : callB Try.prog 109 = true := by kernel_rfl
abbrev i_group_find : FuncId := 110
theorem fn_group_find : Try.prog.funcs[(110 : Nat)]? = some Try.f110 := Try.func110
theorem cb_group_find : callB Try.prog 110 = true := by kernel_rfl
abbrev i_group_counted : FuncId := 111
theorem fn_group_counted : Try.prog.funcs[(111 : Nat)]? = some Try.f111 := Try.func111
theorem cb_group_counted : callB Try.prog 111 = true := by kernel_rfl
abbrev i_group_assigned : FuncId := 112
theorem fn_group_assigned : Try.prog.funcs[(112 : Nat)]? = some Try.f112 := Try.func112
theorem cb_group_assigned : callB Try.prog 112 = true := by kernel_rfl
abbrev i_coord_known : FuncId := 113
theorem fn_coord_known : Try.prog.funcs[(113 : Nat)]? = some Try.f113 := Try.func113
theorem cb_coord_known : callB Try.prog 113 = true := by kernel_rfl
abbrev i_slices_BinarySearch_Lint_int : FuncId := 114
theorem fn_slices_BinarySearch_Lint_int : Try.prog.funcs[(114 : Nat)]? = some Try.f114 := Try.func114
theorem cb_slices_BinarySearch_Lint_int : callB Try.prog 114 = true := by kernel_rfl
abbrev i_slices_Insert_Lint_int : FuncId := 115
theorem fn_slices_Insert_Lint_int : Try.prog.funcs[(115 : Nat)]? = some Try.f115 := Try.func115
theorem cb_slices_Insert_Lint_int : callB Try.prog 115 = true := by kernel_rfl
abbrev i_slices_DeleteFunc_LMember_Member : FuncId := 116
theorem fn_slices_DeleteFunc_LMember_Member : Try.prog.funcs[(116 : Nat)]? = some Try.f116 := Try.func116
theorem cb_slices_DeleteFunc_LMember_Member : callB Try.prog 116 = true := by kernel_rfl
abbrev i_group_Tick_c1 : FuncId := 117
theorem fn_group_Tick_c1 : Try.prog.funcs[(117 : Nat)]? = some Try.f117 := Try.func117
theorem cb_group_Tick_c1 : callB Try.prog 117 = true := by kernel_rfl
abbrev i_group_here : FuncId := 118
theorem fn_group_here : Try.prog.funcs[(118 : Nat)]? = some Try.f118 := Try.func118
theorem cb_group_here : callB Try.prog 118 = true := by kernel_rfl
abbrev i_tailracekeep_name : FuncId := 119
theorem fn_tailracekeep_name : Try.prog.funcs[(119 : Nat)]? = some Try.f119 := Try.func119
theorem cb_tailracekeep_name : callB Try.prog 119 = true := by kernel_rfl
abbrev i_coord_number : FuncId := 120
theorem fn_coord_number : Try.prog.funcs[(120 : Nat)]? = some Try.f120 := Try.func120
theorem cb_coord_number : callB Try.prog 120 = true := by kernel_rfl
abbrev i_coord_txn : FuncId := 121
theorem fn_coord_txn : Try.prog.funcs[(121 : Nat)]? = some Try.f121 := Try.func121
theorem cb_coord_txn : callB Try.prog 121 = true := by kernel_rfl
abbrev i_slices_ContainsFunc_LTxn_Txn : FuncId := 122
theorem fn_slices_ContainsFunc_LTxn_Txn : Try.prog.funcs[(122 : Nat)]? = some Try.f122 := Try.func122
theorem cb_slices_ContainsFunc_LTxn_Txn : callB Try.prog 122 = true := by kernel_rfl
abbrev i_coord_Check_c1 : FuncId := 123
theorem fn_coord_Check_c1 : Try.prog.funcs[(123 : Nat)]? = some Try.f123 := Try.func123
theorem cb_coord_Check_c1 : callB Try.prog 123 = true := by kernel_rfl
abbrev i_slices_Clone_LTxn_Txn : FuncId := 124
theorem fn_slices_Clone_LTxn_Txn : Try.prog.funcs[(124 : Nat)]? = some Try.f124 := Try.func124
theorem cb_slices_Clone_LTxn_Txn : callB Try.prog 124 = true := by kernel_rfl
abbrev i_slices_Clone_Lint_int : FuncId := 125
theorem fn_slices_Clone_Lint_int : Try.prog.funcs[(125 : Nat)]? = some Try.f125 := Try.func125
theorem cb_slices_Clone_Lint_int : callB Try.prog 125 = true := by kernel_rfl
abbrev i_part_at : FuncId := 126
theorem fn_part_at : Try.prog.funcs[(126 : Nat)]? = some Try.f126 := Try.func126
theorem cb_part_at : callB Try.prog 126 = true := by kernel_rfl
abbrev i_part_ends : FuncId := 127
theorem fn_part_ends : Try.prog.funcs[(127 : Nat)]? = some Try.f127 := Try.func127
theorem cb_part_ends : callB Try.prog 127 = true := by kernel_rfl
abbrev i_part_advance : FuncId := 128
theorem fn_part_advance : Try.prog.funcs[(128 : Nat)]? = some Try.f128 := Try.func128
theorem cb_part_advance : callB Try.prog 128 = true := by kernel_rfl
abbrev i_part_led : FuncId := 129
theorem fn_part_led : Try.prog.funcs[(129 : Nat)]? = some Try.f129 := Try.func129
theorem cb_part_led : callB Try.prog 129 = true := by kernel_rfl
abbrev i_group_name : FuncId := 130
theorem fn_group_name : Try.prog.funcs[(130 : Nat)]? = some Try.f130 := Try.func130
theorem cb_group_name : callB Try.prog 130 = true := by kernel_rfl
abbrev i_slices_ContainsFunc_LMember_Member : FuncId := 131
theorem fn_slices_ContainsFunc_LMember_Member : Try.prog.funcs[(131 : Nat)]? = some Try.f131 := Try.func131
theorem cb_slices_ContainsFunc_LMember_Member : callB Try.prog 131 = true := by kernel_rfl
abbrev i_group_Check_c1 : FuncId := 132
theorem fn_group_Check_c1 : Try.prog.funcs[(132 : Nat)]? = some Try.f132 := Try.func132
theorem cb_group_Check_c1 : callB Try.prog 132 = true := by kernel_rfl
abbrev i_slices_Clone_LMember_Member : FuncId := 133
theorem fn_slices_Clone_LMember_Member : Try.prog.funcs[(133 : Nat)]? = some Try.f133 := Try.func133
theorem cb_slices_Clone_LMember_Member : callB Try.prog 133 = true := by kernel_rfl
abbrev i_slices_Clone_LOffset_Offset : FuncId := 134
theorem fn_slices_Clone_LOffset_Offset : Try.prog.funcs[(134 : Nat)]? = some Try.f134 := Try.func134
theorem cb_slices_Clone_LOffset_Offset : callB Try.prog 134 = true := by kernel_rfl
abbrev i_slices_Insert_LOffset_Offset : FuncId := 135
theorem fn_slices_Insert_LOffset_Offset : Try.prog.funcs[(135 : Nat)]? = some Try.f135 := Try.func135
theorem cb_slices_Insert_LOffset_Offset : callB Try.prog 135 = true := by kernel_rfl
abbrev i_slices_Delete_LMember_Member : FuncId := 136
theorem fn_slices_Delete_LMember_Member : Try.prog.funcs[(136 : Nat)]? = some Try.f136 := Try.func136
theorem cb_slices_Delete_LMember_Member : callB Try.prog 136 = true := by kernel_rfl
abbrev i_slices_Index_Lint_int : FuncId := 137
theorem fn_slices_Index_Lint_int : Try.prog.funcs[(137 : Nat)]? = some Try.f137 := Try.func137
theorem cb_slices_Index_Lint_int : callB Try.prog 137 = true := by kernel_rfl
abbrev i_part_Rise : FuncId := 138
theorem fn_part_Rise : Try.prog.funcs[(138 : Nat)]? = some Try.f138 := Try.func138
theorem cb_part_Rise : callB Try.prog 138 = true := by kernel_rfl
abbrev i_part_Wipe : FuncId := 139
theorem fn_part_Wipe : Try.prog.funcs[(139 : Nat)]? = some Try.f139 := Try.func139
theorem cb_part_Wipe : callB Try.prog 139 = true := by kernel_rfl
abbrev i_slices_Contains_Lbool_bool : FuncId := 140
theorem fn_slices_Contains_Lbool_bool : Try.prog.funcs[(140 : Nat)]? = some Try.f140 := Try.func140
theorem cb_slices_Contains_Lbool_bool : callB Try.prog 140 = true := by kernel_rfl
abbrev i_slices_Clone_Lbool_bool : FuncId := 141
theorem fn_slices_Clone_Lbool_bool : Try.prog.funcs[(141 : Nat)]? = some Try.f141 := Try.func141
theorem cb_slices_Clone_Lbool_bool : callB Try.prog 141 = true := by kernel_rfl
abbrev i_slices_Clone_LReplica_Replica : FuncId := 142
theorem fn_slices_Clone_LReplica_Replica : Try.prog.funcs[(142 : Nat)]? = some Try.f142 := Try.func142
theorem cb_slices_Clone_LReplica_Replica : callB Try.prog 142 = true := by kernel_rfl
abbrev i_slices_pdqsortOrdered_int : FuncId := 143
theorem fn_slices_pdqsortOrdered_int : Try.prog.funcs[(143 : Nat)]? = some Try.f143 := Try.func143
theorem cb_slices_pdqsortOrdered_int : callB Try.prog 143 = true := by kernel_rfl
abbrev i_math_bits_Len : FuncId := 144
theorem fn_math_bits_Len : Try.prog.funcs[(144 : Nat)]? = some Try.f144 := Try.func144
theorem cb_math_bits_Len : callB Try.prog 144 = true := by kernel_rfl
abbrev i_slices_Delete_Lint_int : FuncId := 145
theorem fn_slices_Delete_Lint_int : Try.prog.funcs[(145 : Nat)]? = some Try.f145 := Try.func145
theorem cb_slices_Delete_Lint_int : callB Try.prog 145 = true := by kernel_rfl
abbrev i_wire_reader_number : FuncId := 146
theorem fn_wire_reader_number : Try.prog.funcs[(146 : Nat)]? = some Try.f146 := Try.func146
theorem cb_wire_reader_number : callB Try.prog 146 = true := by kernel_rfl
abbrev i_coord_name : FuncId := 147
theorem fn_coord_name : Try.prog.funcs[(147 : Nat)]? = some Try.f147 := Try.func147
theorem cb_coord_name : callB Try.prog 147 = true := by kernel_rfl
abbrev i_slices_IndexFunc_LTxn_Txn : FuncId := 148
theorem fn_slices_IndexFunc_LTxn_Txn : Try.prog.funcs[(148 : Nat)]? = some Try.f148 := Try.func148
theorem cb_slices_IndexFunc_LTxn_Txn : callB Try.prog 148 = true := by kernel_rfl
abbrev i_coord_find_c1 : FuncId := 149
theorem fn_coord_find_c1 : Try.prog.funcs[(149 : Nat)]? = some Try.f149 := Try.func149
theorem cb_coord_find_c1 : callB Try.prog 149 = true := by kernel_rfl
abbrev i_slices_Grow_Lbyte_byte : FuncId := 150
theorem fn_slices_Grow_Lbyte_byte : Try.prog.funcs[(150 : Nat)]? = some Try.f150 := Try.func150
theorem cb_slices_Grow_Lbyte_byte : callB Try.prog 150 = true := by kernel_rfl
abbrev i_group_find_c1 : FuncId := 151
theorem fn_group_find_c1 : Try.prog.funcs[(151 : Nat)]? = some Try.f151 := Try.func151
theorem cb_group_find_c1 : callB Try.prog 151 = true := by kernel_rfl
abbrev i_group_Assign : FuncId := 152
theorem fn_group_Assign : Try.prog.funcs[(152 : Nat)]? = some Try.f152 := Try.func152
theorem cb_group_Assign : callB Try.prog 152 = true := by kernel_rfl
abbrev i_cmp_Less_int : FuncId := 153
theorem fn_cmp_Less_int : Try.prog.funcs[(153 : Nat)]? = some Try.f153 := Try.func153
theorem cb_cmp_Less_int : callB Try.prog 153 = true := by kernel_rfl
abbrev i_slices_isNaN_int : FuncId := 154
theorem fn_slices_isNaN_int : Try.prog.funcs[(154 : Nat)]? = some Try.f154 := Try.func154
theorem cb_slices_isNaN_int : callB Try.prog 154 = true := by kernel_rfl
abbrev i_slices_overlaps_int : FuncId := 155
abbrev i_slices_rotateRight_int : FuncId := 156
theorem fn_slices_rotateRight_int : Try.prog.funcs[(156 : Nat)]? = some Try.f156 := Try.func156
theorem cb_slices_rotateRight_int : callB Try.prog 156 = true := by kernel_rfl
abbrev i_slices_ContainsFunc_Lbyte_byte : FuncId := 157
theorem fn_slices_ContainsFunc_Lbyte_byte : Try.prog.funcs[(157 : Nat)]? = some Try.f157 := Try.func157
theorem cb_slices_ContainsFunc_Lbyte_byte : callB Try.prog 157 = true := by kernel_rfl
abbrev i_group_name_c1 : FuncId := 158
theorem fn_group_name_c1 : Try.prog.funcs[(158 : Nat)]? = some Try.f158 := Try.func158
theorem cb_group_name_c1 : callB Try.prog 158 = true := by kernel_rfl
abbrev i_slices_overlaps_api_Offset : FuncId := 159
abbrev i_slices_rotateRight_api_Offset : FuncId := 160
theorem fn_slices_rotateRight_api_Offset : Try.prog.funcs[(160 : Nat)]? = some Try.f160 := Try.func160
theorem cb_slices_rotateRight_api_Offset : callB Try.prog 160 = true := by kernel_rfl
abbrev i_slices_Index_Lbool_bool : FuncId := 161
theorem fn_slices_Index_Lbool_bool : Try.prog.funcs[(161 : Nat)]? = some Try.f161 := Try.func161
theorem cb_slices_Index_Lbool_bool : callB Try.prog 161 = true := by kernel_rfl
abbrev i_slices_insertionSortOrdered_int : FuncId := 162
theorem fn_slices_insertionSortOrdered_int : Try.prog.funcs[(162 : Nat)]? = some Try.f162 := Try.func162
theorem cb_slices_insertionSortOrdered_int : callB Try.prog 162 = true := by kernel_rfl
abbrev i_slices_heapSortOrdered_int : FuncId := 163
theorem fn_slices_heapSortOrdered_int : Try.prog.funcs[(163 : Nat)]? = some Try.f163 := Try.func163
theorem cb_slices_heapSortOrdered_int : callB Try.prog 163 = true := by kernel_rfl
abbrev i_slices_breakPatternsOrdered_int : FuncId := 164
theorem fn_slices_breakPatternsOrdered_int : Try.prog.funcs[(164 : Nat)]? = some Try.f164 := Try.func164
theorem cb_slices_breakPatternsOrdered_int : callB Try.prog 164 = true := by kernel_rfl
abbrev i_slices_choosePivotOrdered_int : FuncId := 165
theorem fn_slices_choosePivotOrdered_int : Try.prog.funcs[(165 : Nat)]? = some Try.f165 := Try.func165
theorem cb_slices_choosePivotOrdered_int : callB Try.prog 165 = true := by kernel_rfl
abbrev i_slices_reverseRangeOrdered_int : FuncId := 166
theorem fn_slices_reverseRangeOrdered_int : Try.prog.funcs[(166 : Nat)]? = some Try.f166 := Try.func166
theorem cb_slices_reverseRangeOrdered_int : callB Try.prog 166 = true := by kernel_rfl
abbrev i_slices_partialInsertionSortOrdered_int : FuncId := 167
theorem fn_slices_partialInsertionSortOrdered_int : Try.prog.funcs[(167 : Nat)]? = some Try.f167 := Try.func167
theorem cb_slices_partialInsertionSortOrdered_int : callB Try.prog 167 = true := by kernel_rfl
abbrev i_slices_partitionEqualOrdered_int : FuncId := 168
theorem fn_slices_partitionEqualOrdered_int : Try.prog.funcs[(168 : Nat)]? = some Try.f168 := Try.func168
theorem cb_slices_partitionEqualOrdered_int : callB Try.prog 168 = true := by kernel_rfl
abbrev i_slices_partitionOrdered_int : FuncId := 169
theorem fn_slices_partitionOrdered_int : Try.prog.funcs[(169 : Nat)]? = some Try.f169 := Try.func169
theorem cb_slices_partitionOrdered_int : callB Try.prog 169 = true := by kernel_rfl
abbrev i_math_bits_Len32 : FuncId := 170
theorem fn_math_bits_Len32 : Try.prog.funcs[(170 : Nat)]? = some Try.f170 := Try.func170
theorem cb_math_bits_Len32 : callB Try.prog 170 = true := by kernel_rfl
abbrev i_math_bits_Len64 : FuncId := 171
theorem fn_math_bits_Len64 : Try.prog.funcs[(171 : Nat)]? = some Try.f171 := Try.func171
theorem cb_math_bits_Len64 : callB Try.prog 171 = true := by kernel_rfl
abbrev i_coord_name_c1 : FuncId := 172
theorem fn_coord_name_c1 : Try.prog.funcs[(172 : Nat)]? = some Try.f172 := Try.func172
theorem cb_coord_name_c1 : callB Try.prog 172 = true := by kernel_rfl
abbrev i_slices_SortStableFunc_Lint_int : FuncId := 173
theorem fn_slices_SortStableFunc_Lint_int : Try.prog.funcs[(173 : Nat)]? = some Try.f173 := Try.func173
theorem cb_slices_SortStableFunc_Lint_int : callB Try.prog 173 = true := by kernel_rfl
abbrev i_group_Assign_c1 : FuncId := 174
theorem fn_group_Assign_c1 : Try.prog.funcs[(174 : Nat)]? = some Try.f174 := Try.func174
theorem cb_group_Assign_c1 : callB Try.prog 174 = true := by kernel_rfl
abbrev i_cmp_isNaN_int : FuncId := 175
theorem fn_cmp_isNaN_int : Try.prog.funcs[(175 : Nat)]? = some Try.f175 := Try.func175
theorem cb_cmp_isNaN_int : callB Try.prog 175 = true := by kernel_rfl
abbrev i_slices_rotateLeft_int : FuncId := 176
theorem fn_slices_rotateLeft_int : Try.prog.funcs[(176 : Nat)]? = some Try.f176 := Try.func176
theorem cb_slices_rotateLeft_int : callB Try.prog 176 = true := by kernel_rfl
abbrev i_slices_IndexFunc_Lbyte_byte : FuncId := 177
theorem fn_slices_IndexFunc_Lbyte_byte : Try.prog.funcs[(177 : Nat)]? = some Try.f177 := Try.func177
theorem cb_slices_IndexFunc_Lbyte_byte : callB Try.prog 177 = true := by kernel_rfl
abbrev i_slices_rotateLeft_api_Offset : FuncId := 178
theorem fn_slices_rotateLeft_api_Offset : Try.prog.funcs[(178 : Nat)]? = some Try.f178 := Try.func178
theorem cb_slices_rotateLeft_api_Offset : callB Try.prog 178 = true := by kernel_rfl
abbrev i_slices_siftDownOrdered_int : FuncId := 179
theorem fn_slices_siftDownOrdered_int : Try.prog.funcs[(179 : Nat)]? = some Try.f179 := Try.func179
theorem cb_slices_siftDownOrdered_int : callB Try.prog 179 = true := by kernel_rfl
abbrev i_slices_nextPowerOfTwo : FuncId := 180
theorem fn_slices_nextPowerOfTwo : Try.prog.funcs[(180 : Nat)]? = some Try.f180 := Try.func180
theorem cb_slices_nextPowerOfTwo : callB Try.prog 180 = true := by kernel_rfl
abbrev i_slices_xorshift_Next : FuncId := 181
theorem fn_slices_xorshift_Next : Try.prog.funcs[(181 : Nat)]? = some Try.f181 := Try.func181
theorem cb_slices_xorshift_Next : callB Try.prog 181 = true := by kernel_rfl
abbrev i_slices_medianAdjacentOrdered_int : FuncId := 182
theorem fn_slices_medianAdjacentOrdered_int : Try.prog.funcs[(182 : Nat)]? = some Try.f182 := Try.func182
theorem cb_slices_medianAdjacentOrdered_int : callB Try.prog 182 = true := by kernel_rfl
abbrev i_slices_medianOrdered_int : FuncId := 183
theorem fn_slices_medianOrdered_int : Try.prog.funcs[(183 : Nat)]? = some Try.f183 := Try.func183
theorem cb_slices_medianOrdered_int : callB Try.prog 183 = true := by kernel_rfl
abbrev i_slices_stableCmpFunc_int : FuncId := 184
theorem fn_slices_stableCmpFunc_int : Try.prog.funcs[(184 : Nat)]? = some Try.f184 := Try.func184
theorem cb_slices_stableCmpFunc_int : callB Try.prog 184 = true := by kernel_rfl
abbrev i_slices_Reverse_Lint_int : FuncId := 185
theorem fn_slices_Reverse_Lint_int : Try.prog.funcs[(185 : Nat)]? = some Try.f185 := Try.func185
theorem cb_slices_Reverse_Lint_int : callB Try.prog 185 = true := by kernel_rfl
abbrev i_slices_Reverse_LOffset_Offset : FuncId := 186
theorem fn_slices_Reverse_LOffset_Offset : Try.prog.funcs[(186 : Nat)]? = some Try.f186 := Try.func186
theorem cb_slices_Reverse_LOffset_Offset : callB Try.prog 186 = true := by kernel_rfl
abbrev i_slices_order2Ordered_int : FuncId := 187
theorem fn_slices_order2Ordered_int : Try.prog.funcs[(187 : Nat)]? = some Try.f187 := Try.func187
theorem cb_slices_order2Ordered_int : callB Try.prog 187 = true := by kernel_rfl
abbrev i_slices_insertionSortCmpFunc_int : FuncId := 188
theorem fn_slices_insertionSortCmpFunc_int : Try.prog.funcs[(188 : Nat)]? = some Try.f188 := Try.func188
theorem cb_slices_insertionSortCmpFunc_int : callB Try.prog 188 = true := by kernel_rfl
abbrev i_slices_symMergeCmpFunc_int : FuncId := 189
theorem fn_slices_symMergeCmpFunc_int : Try.prog.funcs[(189 : Nat)]? = some Try.f189 := Try.func189
theorem cb_slices_symMergeCmpFunc_int : callB Try.prog 189 = true := by kernel_rfl
abbrev i_slices_rotateCmpFunc_int : FuncId := 190
theorem fn_slices_rotateCmpFunc_int : Try.prog.funcs[(190 : Nat)]? = some Try.f190 := Try.func190
theorem cb_slices_rotateCmpFunc_int : callB Try.prog 190 = true := by kernel_rfl
abbrev i_slices_swapRangeCmpFunc_int : FuncId := 191
theorem fn_slices_swapRangeCmpFunc_int : Try.prog.funcs[(191 : Nat)]? = some Try.f191 := Try.func191
theorem cb_slices_swapRangeCmpFunc_int : callB Try.prog 191 = true := by kernel_rfl
end Go.Proofs.Ytemnchkebhclpaa
end

section
namespace Go.Proofs.Ytemnchkebhclpaa
open Go Go.Eng Go.RowKit

structure Ent where
  epoch : Int
  pid : Int
  ver : Int
  seq : Int
  kind : Int
  txn : Bool
  text : ByteArray
  deriving DecidableEq

def Ent.c (e : Ent) : List Value := [.int .i64 e.epoch, .int .i64 e.pid, .int .i64 e.ver, .int .i64 e.seq, .int .i64 e.kind, .bool e.txn, .string e.text]
abbrev Ent.v (e : Ent) : Value := .agg e.c.toArray
def entL : Lay Ent := ⟨Ent.c, 7, fun _ => rfl, by decide, fun a u hu => by
  simp only [Ent.c, List.mem_cons, List.mem_nil_iff, or_false] at hu
  rcases hu with h | h | h | h | h | h | h <;> subst h <;> rfl⟩
def intL : Lay Int := ⟨fun n => [.int .i64 n], 1, fun _ => rfl, by decide, fun a u hu => by
  simp only [List.mem_cons, List.mem_nil_iff, or_false] at hu
  subst hu; rfl⟩
def byteL : Lay UInt8 := ⟨fun n => [.int .u8 n.toNat], 1, fun _ => rfl, by decide, fun a u hu => by
  simp only [List.mem_cons, List.mem_nil_iff, or_false] at hu
  subst hu; rfl⟩
def strL : Lay ByteArray := ⟨fun s => [.string s], 1, fun _ => rfl, by decide, fun a u hu => by
  simp only [List.mem_cons, List.mem_nil_iff, or_false] at hu
  subst hu; rfl⟩
end Go.Proofs.Ytemnchkebhclpaa
end
