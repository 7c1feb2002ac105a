import Derived.Test.YthjoehaglonjaaaGreatPvX
import Derived.Test.YthjoehaglonjaaaGreatProg
import Derived.KernelRfl
set_option maxRecDepth 100000
namespace Go.Proofs.YthjoehaglonjaaaGreat
open Go.PV
theorem tyU:(Tryz.prog.underlying 3 = some (.int .i64)) ∧
 (Tryz.prog.underlying 4 = some (.bool)) ∧
 (Tryz.prog.underlying 5 = some (.int .u8)) ∧
 (Tryz.prog.underlying 9 = some (.string)) ∧
 (Tryz.prog.underlying 22 = some (.slice 5)) ∧
 (Tryz.prog.underlying 24 = some (.pointer 59)) ∧
 (Tryz.prog.underlying 26 = some (.slice 38)) ∧
 (Tryz.prog.underlying 27 = some (.slice 69)) ∧
 (Tryz.prog.underlying 28 = some (.struct #[{ name := "Pieces",type:=26,offset:=0,embedded:=false,tag := "",pkgPath := "",byteOffset:=0 },{ name := "Conflicts",type:=27,offset:=1,embedded:=false,tag := "",pkgPath := "",byteOffset:=24 }])) ∧
 (Tryz.prog.underlying 29 = some (.struct #[{ name := "Pieces",type:=26,offset:=0,embedded:=false,tag := "",pkgPath := "",byteOffset:=0 },{ name := "Conflicts",type:=27,offset:=1,embedded:=false,tag := "",pkgPath := "",byteOffset:=24 }])) ∧
 (Tryz.prog.underlying 33 = some (.int .u64)) ∧
 (Tryz.prog.underlying 34 = some (.slice 46)) ∧
 (Tryz.prog.underlying 35 = some (.struct #[{ name := "Funcs",type:=34,offset:=0,embedded:=false,tag := "",pkgPath := "",byteOffset:=0 }])) ∧
 (Tryz.prog.underlying 36 = some (.struct #[{ name := "Funcs",type:=34,offset:=0,embedded:=false,tag := "",pkgPath := "",byteOffset:=0 }])) ∧
 (Tryz.prog.underlying 37 = some (.struct #[{ name := "Release",type:=3,offset:=0,embedded:=false,tag := "",pkgPath := "",byteOffset:=0 },{ name := "Machine",type:=3,offset:=1,embedded:=false,tag := "",pkgPath := "",byteOffset:=8 },{ name := "Number",type:=3,offset:=2,embedded:=false,tag := "",pkgPath := "",byteOffset:=16 },{ name := "Digest",type:=33,offset:=3,embedded:=false,tag := "",pkgPath := "",byteOffset:=24 },{ name := "Counts",type:=36,offset:=4,embedded:=false,tag := "",pkgPath := "",byteOffset:=32 }])) ∧
 (Tryz.prog.underlying 38 = some (.struct #[{ name := "Release",type:=3,offset:=0,embedded:=false,tag := "",pkgPath := "",byteOffset:=0 },{ name := "Machine",type:=3,offset:=1,embedded:=false,tag := "",pkgPath := "",byteOffset:=8 },{ name := "Number",type:=3,offset:=2,embedded:=false,tag := "",pkgPath := "",byteOffset:=16 },{ name := "Digest",type:=33,offset:=3,embedded:=false,tag := "",pkgPath := "",byteOffset:=24 },{ name := "Counts",type:=36,offset:=4,embedded:=false,tag := "",pkgPath := "",byteOffset:=32 }])) ∧
 (Tryz.prog.underlying 39 = some (.int .i64)) ∧
 (Tryz.prog.underlying 42 = some (.slice 3)) ∧
 (Tryz.prog.underlying 43 = some (.slice 65)) ∧
 (Tryz.prog.underlying 44 = some (.slice 82)) ∧
 (Tryz.prog.underlying 45 = some (.struct #[{ name := "Entries",type:=3,offset:=0,embedded:=false,tag := "",pkgPath := "",byteOffset:=0 },{ name := "Blocks",type:=42,offset:=1,embedded:=false,tag := "",pkgPath := "",byteOffset:=8 },{ name := "Edges",type:=43,offset:=2,embedded:=false,tag := "",pkgPath := "",byteOffset:=32 },{ name := "Sites",type:=44,offset:=3,embedded:=false,tag := "",pkgPath := "",byteOffset:=56 }])) ∧
 (Tryz.prog.underlying 46 = some (.struct #[{ name := "Entries",type:=3,offset:=0,embedded:=false,tag := "",pkgPath := "",byteOffset:=0 },{ name := "Blocks",type:=42,offset:=1,embedded:=false,tag := "",pkgPath := "",byteOffset:=8 },{ name := "Edges",type:=43,offset:=2,embedded:=false,tag := "",pkgPath := "",byteOffset:=32 },{ name := "Sites",type:=44,offset:=3,embedded:=false,tag := "",pkgPath := "",byteOffset:=56 }])) ∧
 (Tryz.prog.underlying 50 = some (.slice 29)) ∧
 (Tryz.prog.underlying 58 = some (.struct #[{ name := "l",type:=22,offset:=0,embedded:=false,tag := "",pkgPath := "warmpath/warmpathdraw",byteOffset:=0 },{ name := "at",type:=3,offset:=1,embedded:=false,tag := "",pkgPath := "warmpath/warmpathdraw",byteOffset:=24 }])) ∧
 (Tryz.prog.underlying 59 = some (.struct #[{ name := "l",type:=22,offset:=0,embedded:=false,tag := "",pkgPath := "warmpath/warmpathdraw",byteOffset:=0 },{ name := "at",type:=3,offset:=1,embedded:=false,tag := "",pkgPath := "warmpath/warmpathdraw",byteOffset:=24 }])) ∧
 (Tryz.prog.underlying 62 = some (.slice 36)) ∧
 (Tryz.prog.underlying 65 = some (.array 2 3)) ∧
 (Tryz.prog.underlying 67 = some (.pointer 46)) ∧
 (Tryz.prog.underlying 68 = some (.struct #[{ name := "Release",type:=3,offset:=0,embedded:=false,tag := "",pkgPath := "",byteOffset:=0 },{ name := "Machine",type:=3,offset:=1,embedded:=false,tag := "",pkgPath := "",byteOffset:=8 },{ name := "Number",type:=3,offset:=2,embedded:=false,tag := "",pkgPath := "",byteOffset:=16 }])) ∧
 (Tryz.prog.underlying 69 = some (.struct #[{ name := "Release",type:=3,offset:=0,embedded:=false,tag := "",pkgPath := "",byteOffset:=0 },{ name := "Machine",type:=3,offset:=1,embedded:=false,tag := "",pkgPath := "",byteOffset:=8 },{ name := "Number",type:=3,offset:=2,embedded:=false,tag := "",pkgPath := "",byteOffset:=16 }])) ∧
 (Tryz.prog.underlying 78 = some (.struct #[{ name := "Func",type:=3,offset:=0,embedded:=false,tag := "",pkgPath := "",byteOffset:=0 },{ name := "Count",type:=3,offset:=1,embedded:=false,tag := "",pkgPath := "",byteOffset:=8 }])) ∧
 (Tryz.prog.underlying 79 = some (.struct #[{ name := "Func",type:=3,offset:=0,embedded:=false,tag := "",pkgPath := "",byteOffset:=0 },{ name := "Count",type:=3,offset:=1,embedded:=false,tag := "",pkgPath := "",byteOffset:=8 }])) ∧
 (Tryz.prog.underlying 80 = some (.slice 79)) ∧
 (Tryz.prog.underlying 81 = some (.struct #[{ name := "Block",type:=3,offset:=0,embedded:=false,tag := "",pkgPath := "",byteOffset:=0 },{ name := "Instr",type:=3,offset:=1,embedded:=false,tag := "",pkgPath := "",byteOffset:=8 },{ name := "Targets",type:=80,offset:=2,embedded:=false,tag := "",pkgPath := "",byteOffset:=16 }])) ∧
 (Tryz.prog.underlying 82 = some (.struct #[{ name := "Block",type:=3,offset:=0,embedded:=false,tag := "",pkgPath := "",byteOffset:=0 },{ name := "Instr",type:=3,offset:=1,embedded:=false,tag := "",pkgPath := "",byteOffset:=8 },{ name := "Targets",type:=80,offset:=2,embedded:=false,tag := "",pkgPath := "",byteOffset:=16 }])) ∧
 (Tryz.prog.underlying 125 = some (.int .u64)) ∧
 (Tryz.prog.underlying 129 = some (.slice 27)) ∧
 (Tryz.prog.underlying 139 = some (.int .i64)) ∧
 (Tryz.prog.underlying 146 = some (.int .u32)) ∧
 (Tryz.prog.underlying 150 = some (.int .u64)) ∧
 (Tryz.prog.underlying 154 = some (.pointer 3)) ∧
 (Tryz.prog.underlying 156 = some (.pointer 150)) :=
 ⟨by kernel_rfl,by kernel_rfl,by kernel_rfl,by kernel_rfl,by kernel_rfl,by kernel_rfl,by kernel_rfl,by kernel_rfl,by kernel_rfl,by kernel_rfl,by kernel_rfl,by kernel_rfl,by kernel_rfl,by kernel_rfl,by kernel_rfl,by kernel_rfl,by kernel_rfl,by kernel_rfl,by kernel_rfl,by kernel_rfl,by kernel_rfl,by kernel_rfl,by kernel_rfl,by kernel_rfl,by kernel_rfl,by kernel_rfl,by kernel_rfl,by kernel_rfl,by kernel_rfl,by kernel_rfl,by kernel_rfl,by kernel_rfl,by kernel_rfl,by kernel_rfl,by kernel_rfl,by kernel_rfl,by kernel_rfl,by kernel_rfl,by kernel_rfl,by kernel_rfl,by kernel_rfl,by kernel_rfl⟩
theorem tyC:(Tryz.prog.cellsOf 3 = 1) ∧
 (Tryz.prog.cellsOf 4 = 1) ∧
 (Tryz.prog.cellsOf 5 = 1) ∧
 (Tryz.prog.cellsOf 9 = 1) ∧
 (Tryz.prog.cellsOf 22 = 1) ∧
 (Tryz.prog.cellsOf 24 = 1) ∧
 (Tryz.prog.cellsOf 26 = 1) ∧
 (Tryz.prog.cellsOf 27 = 1) ∧
 (Tryz.prog.cellsOf 28 = 2) ∧
 (Tryz.prog.cellsOf 29 = 2) ∧
 (Tryz.prog.cellsOf 33 = 1) ∧
 (Tryz.prog.cellsOf 34 = 1) ∧
 (Tryz.prog.cellsOf 35 = 1) ∧
 (Tryz.prog.cellsOf 36 = 1) ∧
 (Tryz.prog.cellsOf 37 = 5) ∧
 (Tryz.prog.cellsOf 38 = 5) ∧
 (Tryz.prog.cellsOf 39 = 1) ∧
 (Tryz.prog.cellsOf 42 = 1) ∧
 (Tryz.prog.cellsOf 43 = 1) ∧
 (Tryz.prog.cellsOf 44 = 1) ∧
 (Tryz.prog.cellsOf 45 = 4) ∧
 (Tryz.prog.cellsOf 46 = 4) ∧
 (Tryz.prog.cellsOf 50 = 1) ∧
 (Tryz.prog.cellsOf 58 = 2) ∧
 (Tryz.prog.cellsOf 59 = 2) ∧
 (Tryz.prog.cellsOf 62 = 1) ∧
 (Tryz.prog.cellsOf 65 = 2) ∧
 (Tryz.prog.cellsOf 67 = 1) ∧
 (Tryz.prog.cellsOf 68 = 3) ∧
 (Tryz.prog.cellsOf 69 = 3) ∧
 (Tryz.prog.cellsOf 78 = 2) ∧
 (Tryz.prog.cellsOf 79 = 2) ∧
 (Tryz.prog.cellsOf 80 = 1) ∧
 (Tryz.prog.cellsOf 81 = 3) ∧
 (Tryz.prog.cellsOf 82 = 3) ∧
 (Tryz.prog.cellsOf 125 = 1) ∧
 (Tryz.prog.cellsOf 129 = 1) ∧
 (Tryz.prog.cellsOf 139 = 1) ∧
 (Tryz.prog.cellsOf 146 = 1) ∧
 (Tryz.prog.cellsOf 150 = 1) ∧
 (Tryz.prog.cellsOf 154 = 1) ∧
 (Tryz.prog.cellsOf 156 = 1) :=
 ⟨by kernel_rfl,by kernel_rfl,by kernel_rfl,by kernel_rfl,by kernel_rfl,by kernel_rfl,by kernel_rfl,by kernel_rfl,by kernel_rfl,by kernel_rfl,by kernel_rfl,by kernel_rfl,by kernel_rfl,by kernel_rfl,by kernel_rfl,by kernel_rfl,by kernel_rfl,by kernel_rfl,by kernel_rfl,by kernel_rfl,by kernel_rfl,by kernel_rfl,by kernel_rfl,by kernel_rfl,by kernel_rfl,by kernel_rfl,by kernel_rfl,by kernel_rfl,by kernel_rfl,by kernel_rfl,by kernel_rfl,by kernel_rfl,by kernel_rfl,by kernel_rfl,by kernel_rfl,by kernel_rfl,by kernel_rfl,by kernel_rfl,by kernel_rfl,by kernel_rfl,by kernel_rfl,by kernel_rfl⟩
theorem tyB:(Tryz.prog.bytesOf 3 = 8) ∧
 (Tryz.prog.bytesOf 4 = 1) ∧
 (Tryz.prog.bytesOf 5 = 1) ∧
 (Tryz.prog.bytesOf 9 = 16) ∧
 (Tryz.prog.bytesOf 22 = 24) ∧
 (Tryz.prog.bytesOf 24 = 8) ∧
 (Tryz.prog.bytesOf 26 = 24) ∧
 (Tryz.prog.bytesOf 27 = 24) ∧
 (Tryz.prog.bytesOf 28 = 48) ∧
 (Tryz.prog.bytesOf 29 = 48) ∧
 (Tryz.prog.bytesOf 33 = 8) ∧
 (Tryz.prog.bytesOf 34 = 24) ∧
 (Tryz.prog.bytesOf 35 = 24) ∧
 (Tryz.prog.bytesOf 36 = 24) ∧
 (Tryz.prog.bytesOf 37 = 56) ∧
 (Tryz.prog.bytesOf 38 = 56) ∧
 (Tryz.prog.bytesOf 39 = 8) ∧
 (Tryz.prog.bytesOf 42 = 24) ∧
 (Tryz.prog.bytesOf 43 = 24) ∧
 (Tryz.prog.bytesOf 44 = 24) ∧
 (Tryz.prog.bytesOf 45 = 80) ∧
 (Tryz.prog.bytesOf 46 = 80) ∧
 (Tryz.prog.bytesOf 50 = 24) ∧
 (Tryz.prog.bytesOf 58 = 32) ∧
 (Tryz.prog.bytesOf 59 = 32) ∧
 (Tryz.prog.bytesOf 62 = 24) ∧
 (Tryz.prog.bytesOf 65 = 16) ∧
 (Tryz.prog.bytesOf 67 = 8) ∧
 (Tryz.prog.bytesOf 68 = 24) ∧
 (Tryz.prog.bytesOf 69 = 24) ∧
 (Tryz.prog.bytesOf 78 = 16) ∧
 (Tryz.prog.bytesOf 79 = 16) ∧
 (Tryz.prog.bytesOf 80 = 24) ∧
 (Tryz.prog.bytesOf 81 = 40) ∧
 (Tryz.prog.bytesOf 82 = 40) ∧
 (Tryz.prog.bytesOf 125 = 8) ∧
 (Tryz.prog.bytesOf 129 = 24) ∧
 (Tryz.prog.bytesOf 139 = 8) ∧
 (Tryz.prog.bytesOf 146 = 4) ∧
 (Tryz.prog.bytesOf 150 = 8) ∧
 (Tryz.prog.bytesOf 154 = 8) ∧
 (Tryz.prog.bytesOf 156 = 8) :=
 ⟨by kernel_rfl,by kernel_rfl,by kernel_rfl,by kernel_rfl,by kernel_rfl,by kernel_rfl,by kernel_rfl,by kernel_rfl,by kernel_rfl,by kernel_rfl,by kernel_rfl,by kernel_rfl,by kernel_rfl,by kernel_rfl,by kernel_rfl,by kernel_rfl,by kernel_rfl,by kernel_rfl,by kernel_rfl,by kernel_rfl,by kernel_rfl,by kernel_rfl,by kernel_rfl,by kernel_rfl,by kernel_rfl,by kernel_rfl,by kernel_rfl,by kernel_rfl,by kernel_rfl,by kernel_rfl,by kernel_rfl,by kernel_rfl,by kernel_rfl,by kernel_rfl,by kernel_rfl,by kernel_rfl,by kernel_rfl,by kernel_rfl,by kernel_rfl,by kernel_rfl,by kernel_rfl,by kernel_rfl⟩
theorem tyA:(aggT Tryz.prog 3 = false) ∧
 (aggT Tryz.prog 4 = false) ∧
 (aggT Tryz.prog 5 = false) ∧
 (aggT Tryz.prog 9 = false) ∧
 (aggT Tryz.prog 22 = false) ∧
 (aggT Tryz.prog 24 = false) ∧
 (aggT Tryz.prog 26 = false) ∧
 (aggT Tryz.prog 27 = false) ∧
 (aggT Tryz.prog 28 = true) ∧
 (aggT Tryz.prog 29 = true) ∧
 (aggT Tryz.prog 33 = false) ∧
 (aggT Tryz.prog 34 = false) ∧
 (aggT Tryz.prog 35 = true) ∧
 (aggT Tryz.prog 36 = true) ∧
 (aggT Tryz.prog 37 = true) ∧
 (aggT Tryz.prog 38 = true) ∧
 (aggT Tryz.prog 39 = false) ∧
 (aggT Tryz.prog 42 = false) ∧
 (aggT Tryz.prog 43 = false) ∧
 (aggT Tryz.prog 44 = false) ∧
 (aggT Tryz.prog 45 = true) ∧
 (aggT Tryz.prog 46 = true) ∧
 (aggT Tryz.prog 50 = false) ∧
 (aggT Tryz.prog 58 = true) ∧
 (aggT Tryz.prog 59 = true) ∧
 (aggT Tryz.prog 62 = false) ∧
 (aggT Tryz.prog 65 = true) ∧
 (aggT Tryz.prog 67 = false) ∧
 (aggT Tryz.prog 68 = true) ∧
 (aggT Tryz.prog 69 = true) ∧
 (aggT Tryz.prog 78 = true) ∧
 (aggT Tryz.prog 79 = true) ∧
 (aggT Tryz.prog 80 = false) ∧
 (aggT Tryz.prog 81 = true) ∧
 (aggT Tryz.prog 82 = true) ∧
 (aggT Tryz.prog 125 = false) ∧
 (aggT Tryz.prog 129 = false) ∧
 (aggT Tryz.prog 139 = false) ∧
 (aggT Tryz.prog 146 = false) ∧
 (aggT Tryz.prog 150 = false) ∧
 (aggT Tryz.prog 154 = false) ∧
 (aggT Tryz.prog 156 = false) :=
 ⟨by kernel_rfl,by kernel_rfl,by kernel_rfl,by kernel_rfl,by kernel_rfl,by kernel_rfl,by kernel_rfl,by kernel_rfl,by kernel_rfl,by kernel_rfl,by kernel_rfl,by kernel_rfl,by kernel_rfl,by kernel_rfl,by kernel_rfl,by kernel_rfl,by kernel_rfl,by kernel_rfl,by kernel_rfl,by kernel_rfl,by kernel_rfl,by kernel_rfl,by kernel_rfl,by kernel_rfl,by kernel_rfl,by kernel_rfl,by kernel_rfl,by kernel_rfl,by kernel_rfl,by kernel_rfl,by kernel_rfl,by kernel_rfl,by kernel_rfl,by kernel_rfl,by kernel_rfl,by kernel_rfl,by kernel_rfl,by kernel_rfl,by kernel_rfl,by kernel_rfl,by kernel_rfl,by kernel_rfl⟩
theorem tyI:(isIntT Tryz.prog 3 = some .i64) ∧
 (isIntT Tryz.prog 4 = none) ∧
 (isIntT Tryz.prog 5 = some .u8) ∧
 (isIntT Tryz.prog 9 = none) ∧
 (isIntT Tryz.prog 22 = none) ∧
 (isIntT Tryz.prog 24 = none) ∧
 (isIntT Tryz.prog 26 = none) ∧
 (isIntT Tryz.prog 27 = none) ∧
 (isIntT Tryz.prog 28 = none) ∧
 (isIntT Tryz.prog 29 = none) ∧
 (isIntT Tryz.prog 33 = some .u64) ∧
 (isIntT Tryz.prog 34 = none) ∧
 (isIntT Tryz.prog 35 = none) ∧
 (isIntT Tryz.prog 36 = none) ∧
 (isIntT Tryz.prog 37 = none) ∧
 (isIntT Tryz.prog 38 = none) ∧
 (isIntT Tryz.prog 39 = some .i64) ∧
 (isIntT Tryz.prog 42 = none) ∧
 (isIntT Tryz.prog 43 = none) ∧
 (isIntT Tryz.prog 44 = none) ∧
 (isIntT Tryz.prog 45 = none) ∧
 (isIntT Tryz.prog 46 = none) ∧
 (isIntT Tryz.prog 50 = none) ∧
 (isIntT Tryz.prog 58 = none) ∧
 (isIntT Tryz.prog 59 = none) ∧
 (isIntT Tryz.prog 62 = none) ∧
 (isIntT Tryz.prog 65 = none) ∧
 (isIntT Tryz.prog 67 = none) ∧
 (isIntT Tryz.prog 68 = none) ∧
 (isIntT Tryz.prog 69 = none) ∧
 (isIntT Tryz.prog 78 = none) ∧
 (isIntT Tryz.prog 79 = none) ∧
 (isIntT Tryz.prog 80 = none) ∧
 (isIntT Tryz.prog 81 = none) ∧
 (isIntT Tryz.prog 82 = none) ∧
 (isIntT Tryz.prog 125 = some .u64) ∧
 (isIntT Tryz.prog 129 = none) ∧
 (isIntT Tryz.prog 139 = some .i64) ∧
 (isIntT Tryz.prog 146 = some .u32) ∧
 (isIntT Tryz.prog 150 = some .u64) ∧
 (isIntT Tryz.prog 154 = none) ∧
 (isIntT Tryz.prog 156 = none) :=
 ⟨by kernel_rfl,by kernel_rfl,by kernel_rfl,by kernel_rfl,by kernel_rfl,by kernel_rfl,by kernel_rfl,by kernel_rfl,by kernel_rfl,by kernel_rfl,by kernel_rfl,by kernel_rfl,by kernel_rfl,by kernel_rfl,by kernel_rfl,by kernel_rfl,by kernel_rfl,by kernel_rfl,by kernel_rfl,by kernel_rfl,by kernel_rfl,by kernel_rfl,by kernel_rfl,by kernel_rfl,by kernel_rfl,by kernel_rfl,by kernel_rfl,by kernel_rfl,by kernel_rfl,by kernel_rfl,by kernel_rfl,by kernel_rfl,by kernel_rfl,by kernel_rfl,by kernel_rfl,by kernel_rfl,by kernel_rfl,by kernel_rfl,by kernel_rfl,by kernel_rfl,by kernel_rfl,by kernel_rfl⟩
theorem tyZ:(zeroCells Tryz.prog 3 = some [.int .i64 0]) ∧
 (zeroCells Tryz.prog 4 = some [.bool false]) ∧
 (zeroCells Tryz.prog 5 = some [.int .u8 0]) ∧
 (zeroCells Tryz.prog 9 = some [.str .empty]) ∧
 (zeroCells Tryz.prog 22 = some [.nils]) ∧
 (zeroCells Tryz.prog 24 = some [.nilp]) ∧
 (zeroCells Tryz.prog 26 = some [.nils]) ∧
 (zeroCells Tryz.prog 27 = some [.nils]) ∧
 (zeroCells Tryz.prog 28 = some [.nils,.nils]) ∧
 (zeroCells Tryz.prog 29 = some [.nils,.nils]) ∧
 (zeroCells Tryz.prog 33 = some [.int .u64 0]) ∧
 (zeroCells Tryz.prog 34 = some [.nils]) ∧
 (zeroCells Tryz.prog 35 = some [.nils]) ∧
 (zeroCells Tryz.prog 36 = some [.nils]) ∧
 (zeroCells Tryz.prog 37 = some [.int .i64 0,.int .i64 0,.int .i64 0,.int .u64 0,.nils]) ∧
 (zeroCells Tryz.prog 38 = some [.int .i64 0,.int .i64 0,.int .i64 0,.int .u64 0,.nils]) ∧
 (zeroCells Tryz.prog 39 = some [.int .i64 0]) ∧
 (zeroCells Tryz.prog 42 = some [.nils]) ∧
 (zeroCells Tryz.prog 43 = some [.nils]) ∧
 (zeroCells Tryz.prog 44 = some [.nils]) ∧
 (zeroCells Tryz.prog 45 = some [.int .i64 0,.nils,.nils,.nils]) ∧
 (zeroCells Tryz.prog 46 = some [.int .i64 0,.nils,.nils,.nils]) ∧
 (zeroCells Tryz.prog 50 = some [.nils]) ∧
 (zeroCells Tryz.prog 58 = some [.nils,.int .i64 0]) ∧
 (zeroCells Tryz.prog 59 = some [.nils,.int .i64 0]) ∧
 (zeroCells Tryz.prog 62 = some [.nils]) ∧
 (zeroCells Tryz.prog 65 = some [.int .i64 0,.int .i64 0]) ∧
 (zeroCells Tryz.prog 67 = some [.nilp]) ∧
 (zeroCells Tryz.prog 68 = some [.int .i64 0,.int .i64 0,.int .i64 0]) ∧
 (zeroCells Tryz.prog 69 = some [.int .i64 0,.int .i64 0,.int .i64 0]) ∧
 (zeroCells Tryz.prog 78 = some [.int .i64 0,.int .i64 0]) ∧
 (zeroCells Tryz.prog 79 = some [.int .i64 0,.int .i64 0]) ∧
 (zeroCells Tryz.prog 80 = some [.nils]) ∧
 (zeroCells Tryz.prog 81 = some [.int .i64 0,.int .i64 0,.nils]) ∧
 (zeroCells Tryz.prog 82 = some [.int .i64 0,.int .i64 0,.nils]) ∧
 (zeroCells Tryz.prog 125 = some [.int .u64 0]) ∧
 (zeroCells Tryz.prog 129 = some [.nils]) ∧
 (zeroCells Tryz.prog 139 = some [.int .i64 0]) ∧
 (zeroCells Tryz.prog 146 = some [.int .u32 0]) ∧
 (zeroCells Tryz.prog 150 = some [.int .u64 0]) ∧
 (zeroCells Tryz.prog 154 = some [.nilp]) ∧
 (zeroCells Tryz.prog 156 = some [.nilp]) :=
 ⟨by kernel_rfl,by kernel_rfl,by kernel_rfl,by kernel_rfl,by kernel_rfl,by kernel_rfl,by kernel_rfl,by kernel_rfl,by kernel_rfl,by kernel_rfl,by kernel_rfl,by kernel_rfl,by kernel_rfl,by kernel_rfl,by kernel_rfl,by kernel_rfl,by kernel_rfl,by kernel_rfl,by kernel_rfl,by kernel_rfl,by kernel_rfl,by kernel_rfl,by kernel_rfl,by kernel_rfl,by kernel_rfl,by kernel_rfl,by kernel_rfl,by kernel_rfl,by kernel_rfl,by kernel_rfl,by kernel_rfl,by kernel_rfl,by kernel_rfl,by kernel_rfl,by kernel_rfl,by kernel_rfl,by kernel_rfl,by kernel_rfl,by kernel_rfl,by kernel_rfl,by kernel_rfl,by kernel_rfl⟩
theorem tyF:((#[{ name := "Pieces",type:=26,offset:=0,embedded:=false,tag := "",pkgPath := "",byteOffset:=0 },{ name := "Conflicts",type:=27,offset:=1,embedded:=false,tag := "",pkgPath := "",byteOffset:=24 }]:Array Field).all (fun f=>(Tryz.prog.info? f.type).isSome) = true) ∧
 ((#[{ name := "Funcs",type:=34,offset:=0,embedded:=false,tag := "",pkgPath := "",byteOffset:=0 }]:Array Field).all (fun f=>(Tryz.prog.info? f.type).isSome) = true) ∧
 ((#[{ name := "Release",type:=3,offset:=0,embedded:=false,tag := "",pkgPath := "",byteOffset:=0 },{ name := "Machine",type:=3,offset:=1,embedded:=false,tag := "",pkgPath := "",byteOffset:=8 },{ name := "Number",type:=3,offset:=2,embedded:=false,tag := "",pkgPath := "",byteOffset:=16 },{ name := "Digest",type:=33,offset:=3,embedded:=false,tag := "",pkgPath := "",byteOffset:=24 },{ name := "Counts",type:=36,offset:=4,embedded:=false,tag := "",pkgPath := "",byteOffset:=32 }]:Array Field).all (fun f=>(Tryz.prog.info? f.type).isSome) = true) ∧
 ((#[{ name := "Entries",type:=3,offset:=0,embedded:=false,tag := "",pkgPath := "",byteOffset:=0 },{ name := "Blocks",type:=42,offset:=1,embedded:=false,tag := "",pkgPath := "",byteOffset:=8 },{ name := "Edges",type:=43,offset:=2,embedded:=false,tag := "",pkgPath := "",byteOffset:=32 },{ name := "Sites",type:=44,offset:=3,embedded:=false,tag := "",pkgPath := "",byteOffset:=56 }]:Array Field).all (fun f=>(Tryz.prog.info? f.type).isSome) = true) ∧
 ((#[{ name := "l",type:=22,offset:=0,embedded:=false,tag := "",pkgPath := "warmpath/warmpathdraw",byteOffset:=0 },{ name := "at",type:=3,offset:=1,embedded:=false,tag := "",pkgPath := "warmpath/warmpathdraw",byteOffset:=24 }]:Array Field).all (fun f=>(Tryz.prog.info? f.type).isSome) = true) ∧
 ((#[{ name := "Release",type:=3,offset:=0,embedded:=false,tag := "",pkgPath := "",byteOffset:=0 },{ name := "Machine",type:=3,offset:=1,embedded:=false,tag := "",pkgPath := "",byteOffset:=8 },{ name := "Number",type:=3,offset:=2,embedded:=false,tag := "",pkgPath := "",byteOffset:=16 }]:Array Field).all (fun f=>(Tryz.prog.info? f.type).isSome) = true) ∧
 ((#[{ name := "Func",type:=3,offset:=0,embedded:=false,tag := "",pkgPath := "",byteOffset:=0 },{ name := "Count",type:=3,offset:=1,embedded:=false,tag := "",pkgPath := "",byteOffset:=8 }]:Array Field).all (fun f=>(Tryz.prog.info? f.type).isSome) = true) ∧
 ((#[{ name := "Block",type:=3,offset:=0,embedded:=false,tag := "",pkgPath := "",byteOffset:=0 },{ name := "Instr",type:=3,offset:=1,embedded:=false,tag := "",pkgPath := "",byteOffset:=8 },{ name := "Targets",type:=80,offset:=2,embedded:=false,tag := "",pkgPath := "",byteOffset:=16 }]:Array Field).all (fun f=>(Tryz.prog.info? f.type).isSome) = true) :=
 ⟨by kernel_rfl,by kernel_rfl,by kernel_rfl,by kernel_rfl,by kernel_rfl,by kernel_rfl,by kernel_rfl,by kernel_rfl⟩
theorem tyP:(True) :=
 trivial
end Go.Proofs.YthjoehaglonjaaaGreat
