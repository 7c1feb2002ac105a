/- The facts on the types (printed by tyfacts.py). -/
import Derived.Test.YtijigploahapfaaPvX
import Derived.Test.YtijigploahapfaaProg
import Derived.KernelRfl
set_option maxRecDepth 100000
namespace Go.Proofs.Ytijigploahapfaa
open Go.PV
theorem tyU : (Try.prog.underlying 2 = some (.int .i64)) ∧
  (Try.prog.underlying 3 = some (.int .i64)) ∧
  (Try.prog.underlying 4 = some (.bool)) ∧
  (Try.prog.underlying 5 = some (.int .u8)) ∧
  (Try.prog.underlying 9 = some (.string)) ∧
  (Try.prog.underlying 12 = some (.int .u64)) ∧
  (Try.prog.underlying 13 = some (.struct #[{ name := "msg", type := 9, offset := 0, embedded := false, tag := "", pkgPath := "runtime", byteOffset := 0 }, { name := "addr", type := 12, offset := 1, embedded := false, tag := "", pkgPath := "runtime", byteOffset := 16 }])) ∧
  (Try.prog.underlying 21 = some (.int .i32)) ∧
  (Try.prog.underlying 22 = some (.slice 5)) ∧
  (Try.prog.underlying 24 = some (.slice 25)) ∧
  (Try.prog.underlying 25 = some (.int .u64)) ∧
  (Try.prog.underlying 28 = some (.slice 89)) ∧
  (Try.prog.underlying 29 = some (.slice 40)) ∧
  (Try.prog.underlying 30 = some (.struct #[{ name := "Globals", type := 28, offset := 0, embedded := false, tag := "", pkgPath := "", byteOffset := 0 }, { name := "Funcs", type := 29, offset := 1, embedded := false, tag := "", pkgPath := "", byteOffset := 24 }, { name := "Callable", type := 3, offset := 2, embedded := false, tag := "", pkgPath := "", byteOffset := 48 }, { name := "Counters", type := 3, offset := 3, embedded := false, tag := "", pkgPath := "", byteOffset := 56 }])) ∧
  (Try.prog.underlying 31 = some (.struct #[{ name := "Globals", type := 28, offset := 0, embedded := false, tag := "", pkgPath := "", byteOffset := 0 }, { name := "Funcs", type := 29, offset := 1, embedded := false, tag := "", pkgPath := "", byteOffset := 24 }, { name := "Callable", type := 3, offset := 2, embedded := false, tag := "", pkgPath := "", byteOffset := 48 }, { name := "Counters", type := 3, offset := 3, embedded := false, tag := "", pkgPath := "", byteOffset := 56 }])) ∧
  (Try.prog.underlying 33 = some (.pointer 91)) ∧
  (Try.prog.underlying 37 = some (.slice 31)) ∧
  (Try.prog.underlying 38 = some (.slice 47)) ∧
  (Try.prog.underlying 39 = some (.struct #[{ name := "Name", type := 9, offset := 0, embedded := false, tag := "", pkgPath := "", byteOffset := 0 }, { name := "Params", type := 3, offset := 1, embedded := false, tag := "", pkgPath := "", byteOffset := 16 }, { name := "Regs", type := 3, offset := 2, embedded := false, tag := "", pkgPath := "", byteOffset := 24 }, { name := "Blocks", type := 38, offset := 3, embedded := false, tag := "", pkgPath := "", byteOffset := 32 }])) ∧
  (Try.prog.underlying 40 = some (.struct #[{ name := "Name", type := 9, offset := 0, embedded := false, tag := "", pkgPath := "", byteOffset := 0 }, { name := "Params", type := 3, offset := 1, embedded := false, tag := "", pkgPath := "", byteOffset := 16 }, { name := "Regs", type := 3, offset := 2, embedded := false, tag := "", pkgPath := "", byteOffset := 24 }, { name := "Blocks", type := 38, offset := 3, embedded := false, tag := "", pkgPath := "", byteOffset := 32 }])) ∧
  (Try.prog.underlying 41 = some (.slice 83)) ∧
  (Try.prog.underlying 42 = some (.struct #[{ name := "Kind", type := 3, offset := 0, embedded := false, tag := "", pkgPath := "", byteOffset := 0 }, { name := "A", type := 3, offset := 1, embedded := false, tag := "", pkgPath := "", byteOffset := 8 }, { name := "To", type := 3, offset := 2, embedded := false, tag := "", pkgPath := "", byteOffset := 16 }, { name := "Else", type := 3, offset := 3, embedded := false, tag := "", pkgPath := "", byteOffset := 24 }])) ∧
  (Try.prog.underlying 43 = some (.struct #[{ name := "Kind", type := 3, offset := 0, embedded := false, tag := "", pkgPath := "", byteOffset := 0 }, { name := "A", type := 3, offset := 1, embedded := false, tag := "", pkgPath := "", byteOffset := 8 }, { name := "To", type := 3, offset := 2, embedded := false, tag := "", pkgPath := "", byteOffset := 16 }, { name := "Else", type := 3, offset := 3, embedded := false, tag := "", pkgPath := "", byteOffset := 24 }])) ∧
  (Try.prog.underlying 44 = some (.struct #[{ name := "Func", type := 3, offset := 0, embedded := false, tag := "", pkgPath := "", byteOffset := 0 }, { name := "Block", type := 3, offset := 1, embedded := false, tag := "", pkgPath := "", byteOffset := 8 }])) ∧
  (Try.prog.underlying 45 = some (.struct #[{ name := "Func", type := 3, offset := 0, embedded := false, tag := "", pkgPath := "", byteOffset := 0 }, { name := "Block", type := 3, offset := 1, embedded := false, tag := "", pkgPath := "", byteOffset := 8 }])) ∧
  (Try.prog.underlying 46 = some (.struct #[{ name := "Instrs", type := 41, offset := 0, embedded := false, tag := "", pkgPath := "", byteOffset := 0 }, { name := "Term", type := 43, offset := 1, embedded := false, tag := "", pkgPath := "", byteOffset := 24 }, { name := "Line", type := 3, offset := 5, embedded := false, tag := "", pkgPath := "", byteOffset := 56 }, { name := "Origin", type := 45, offset := 6, embedded := false, tag := "", pkgPath := "", byteOffset := 64 }])) ∧
  (Try.prog.underlying 47 = some (.struct #[{ name := "Instrs", type := 41, offset := 0, embedded := false, tag := "", pkgPath := "", byteOffset := 0 }, { name := "Term", type := 43, offset := 1, embedded := false, tag := "", pkgPath := "", byteOffset := 24 }, { name := "Line", type := 3, offset := 5, embedded := false, tag := "", pkgPath := "", byteOffset := 56 }, { name := "Origin", type := 45, offset := 6, embedded := false, tag := "", pkgPath := "", byteOffset := 64 }])) ∧
  (Try.prog.underlying 50 = some (.slice 51)) ∧
  (Try.prog.underlying 51 = some (.slice 3)) ∧
  (Try.prog.underlying 56 = some (.array 2 50)) ∧
  (Try.prog.underlying 57 = some (.slice 56)) ∧
  (Try.prog.underlying 58 = some (.int .i64)) ∧
  (Try.prog.underlying 67 = some (.slice 24)) ∧
  (Try.prog.underlying 68 = some (.slice 73)) ∧
  (Try.prog.underlying 69 = some (.struct #[{ name := "Name", type := 9, offset := 0, embedded := false, tag := "", pkgPath := "", byteOffset := 0 }, { name := "Print", type := 25, offset := 1, embedded := false, tag := "", pkgPath := "", byteOffset := 16 }, { name := "Blocks", type := 24, offset := 2, embedded := false, tag := "", pkgPath := "", byteOffset := 24 }, { name := "Rounds", type := 67, offset := 3, embedded := false, tag := "", pkgPath := "", byteOffset := 48 }, { name := "Next", type := 68, offset := 4, embedded := false, tag := "", pkgPath := "", byteOffset := 72 }])) ∧
  (Try.prog.underlying 70 = some (.struct #[{ name := "Name", type := 9, offset := 0, embedded := false, tag := "", pkgPath := "", byteOffset := 0 }, { name := "Print", type := 25, offset := 1, embedded := false, tag := "", pkgPath := "", byteOffset := 16 }, { name := "Blocks", type := 24, offset := 2, embedded := false, tag := "", pkgPath := "", byteOffset := 24 }, { name := "Rounds", type := 67, offset := 3, embedded := false, tag := "", pkgPath := "", byteOffset := 48 }, { name := "Next", type := 68, offset := 4, embedded := false, tag := "", pkgPath := "", byteOffset := 72 }])) ∧
  (Try.prog.underlying 71 = some (.slice 70)) ∧
  (Try.prog.underlying 73 = some (.array 2 3)) ∧
  (Try.prog.underlying 80 = some (.pointer 47)) ∧
  (Try.prog.underlying 81 = some (.pointer 83)) ∧
  (Try.prog.underlying 82 = some (.struct #[{ name := "Kind", type := 3, offset := 0, embedded := false, tag := "", pkgPath := "", byteOffset := 0 }, { name := "Op", type := 3, offset := 1, embedded := false, tag := "", pkgPath := "", byteOffset := 8 }, { name := "Dst", type := 3, offset := 2, embedded := false, tag := "", pkgPath := "", byteOffset := 16 }, { name := "A", type := 3, offset := 3, embedded := false, tag := "", pkgPath := "", byteOffset := 24 }, { name := "B", type := 3, offset := 4, embedded := false, tag := "", pkgPath := "", byteOffset := 32 }, { name := "Value", type := 3, offset := 5, embedded := false, tag := "", pkgPath := "", byteOffset := 40 }, { name := "Args", type := 51, offset := 6, embedded := false, tag := "", pkgPath := "", byteOffset := 48 }])) ∧
  (Try.prog.underlying 83 = some (.struct #[{ name := "Kind", type := 3, offset := 0, embedded := false, tag := "", pkgPath := "", byteOffset := 0 }, { name := "Op", type := 3, offset := 1, embedded := false, tag := "", pkgPath := "", byteOffset := 8 }, { name := "Dst", type := 3, offset := 2, embedded := false, tag := "", pkgPath := "", byteOffset := 16 }, { name := "A", type := 3, offset := 3, embedded := false, tag := "", pkgPath := "", byteOffset := 24 }, { name := "B", type := 3, offset := 4, embedded := false, tag := "", pkgPath := "", byteOffset := 32 }, { name := "Value", type := 3, offset := 5, embedded := false, tag := "", pkgPath := "", byteOffset := 40 }, { name := "Args", type := 51, offset := 6, embedded := false, tag := "", pkgPath := "", byteOffset := 48 }])) ∧
  (Try.prog.underlying 85 = some (.int .u16)) ∧
  (Try.prog.underlying 87 = some (.map 25 3)) ∧
  (Try.prog.underlying 88 = some (.struct #[{ name := "Name", type := 9, offset := 0, embedded := false, tag := "", pkgPath := "", byteOffset := 0 }, { name := "Size", type := 3, offset := 1, embedded := false, tag := "", pkgPath := "", byteOffset := 16 }])) ∧
  (Try.prog.underlying 89 = some (.struct #[{ name := "Name", type := 9, offset := 0, embedded := false, tag := "", pkgPath := "", byteOffset := 0 }, { name := "Size", type := 3, offset := 1, embedded := false, tag := "", pkgPath := "", byteOffset := 16 }])) ∧
  (Try.prog.underlying 90 = some (.struct #[{ name := "l", type := 22, offset := 0, embedded := false, tag := "", pkgPath := "warmpath/warmpathdraw", byteOffset := 0 }, { name := "at", type := 3, offset := 1, embedded := false, tag := "", pkgPath := "warmpath/warmpathdraw", byteOffset := 24 }])) ∧
  (Try.prog.underlying 91 = some (.struct #[{ name := "l", type := 22, offset := 0, embedded := false, tag := "", pkgPath := "warmpath/warmpathdraw", byteOffset := 0 }, { name := "at", type := 3, offset := 1, embedded := false, tag := "", pkgPath := "warmpath/warmpathdraw", byteOffset := 24 }])) ∧
  (Try.prog.underlying 92 = some (.pointer 40)) ∧
  (Try.prog.underlying 94 = some (.map 3 25)) ∧
  (Try.prog.underlying 95 = some (.map 3 25)) ∧
  (Try.prog.underlying 100 = some (.struct #[{ name := "list", type := 51, offset := 0, embedded := false, tag := "", pkgPath := "warmpath/warmpathref27", byteOffset := 0 }])) ∧
  (Try.prog.underlying 101 = some (.struct #[{ name := "list", type := 51, offset := 0, embedded := false, tag := "", pkgPath := "warmpath/warmpathref27", byteOffset := 0 }])) ∧
  (Try.prog.underlying 103 = some (.pointer 101)) ∧
  (Try.prog.underlying 105 = some (.pointer 152)) ∧
  (Try.prog.underlying 109 = some (.int .i16)) ∧
  (Try.prog.underlying 110 = some (.array 256 109)) ∧
  (Try.prog.underlying 146 = some (.slice 4)) ∧
  (Try.prog.underlying 151 = some (.array 256 110)) ∧
  (Try.prog.underlying 152 = some (.array 256 110)) ∧
  (Try.prog.underlying 159 = some (.slice 169)) ∧
  (Try.prog.underlying 160 = some (.struct #[{ name := "Globals", type := 28, offset := 0, embedded := false, tag := "", pkgPath := "", byteOffset := 0 }, { name := "Funcs", type := 159, offset := 1, embedded := false, tag := "", pkgPath := "", byteOffset := 24 }])) ∧
  (Try.prog.underlying 161 = some (.struct #[{ name := "Globals", type := 28, offset := 0, embedded := false, tag := "", pkgPath := "", byteOffset := 0 }, { name := "Funcs", type := 159, offset := 1, embedded := false, tag := "", pkgPath := "", byteOffset := 24 }])) ∧
  (Try.prog.underlying 165 = some (.int .u64)) ∧
  (Try.prog.underlying 166 = some (.slice 9)) ∧
  (Try.prog.underlying 167 = some (.slice 183)) ∧
  (Try.prog.underlying 168 = some (.struct #[{ name := "Name", type := 9, offset := 0, embedded := false, tag := "", pkgPath := "", byteOffset := 0 }, { name := "Line", type := 3, offset := 1, embedded := false, tag := "", pkgPath := "", byteOffset := 16 }, { name := "Params", type := 166, offset := 2, embedded := false, tag := "", pkgPath := "", byteOffset := 24 }, { name := "Body", type := 167, offset := 3, embedded := false, tag := "", pkgPath := "", byteOffset := 48 }])) ∧
  (Try.prog.underlying 169 = some (.struct #[{ name := "Name", type := 9, offset := 0, embedded := false, tag := "", pkgPath := "", byteOffset := 0 }, { name := "Line", type := 3, offset := 1, embedded := false, tag := "", pkgPath := "", byteOffset := 16 }, { name := "Params", type := 166, offset := 2, embedded := false, tag := "", pkgPath := "", byteOffset := 24 }, { name := "Body", type := 167, offset := 3, embedded := false, tag := "", pkgPath := "", byteOffset := 48 }])) ∧
  (Try.prog.underlying 170 = some (.pointer 173)) ∧
  (Try.prog.underlying 172 = some (.struct #[{ name := "p", type := 161, offset := 0, embedded := false, tag := "", pkgPath := "warmpath/warmpathref09", byteOffset := 0 }, { name := "locals", type := 166, offset := 2, embedded := false, tag := "", pkgPath := "warmpath/warmpathref09", byteOffset := 48 }, { name := "number", type := 3, offset := 3, embedded := false, tag := "", pkgPath := "warmpath/warmpathref09", byteOffset := 72 }, { name := "regs", type := 3, offset := 4, embedded := false, tag := "", pkgPath := "warmpath/warmpathref09", byteOffset := 80 }, { name := "blocks", type := 38, offset := 5, embedded := false, tag := "", pkgPath := "warmpath/warmpathref09", byteOffset := 88 }, { name := "at", type := 3, offset := 6, embedded := false, tag := "", pkgPath := "warmpath/warmpathref09", byteOffset := 112 }])) ∧
  (Try.prog.underlying 173 = some (.struct #[{ name := "p", type := 161, offset := 0, embedded := false, tag := "", pkgPath := "warmpath/warmpathref09", byteOffset := 0 }, { name := "locals", type := 166, offset := 2, embedded := false, tag := "", pkgPath := "warmpath/warmpathref09", byteOffset := 48 }, { name := "number", type := 3, offset := 3, embedded := false, tag := "", pkgPath := "warmpath/warmpathref09", byteOffset := 72 }, { name := "regs", type := 3, offset := 4, embedded := false, tag := "", pkgPath := "warmpath/warmpathref09", byteOffset := 80 }, { name := "blocks", type := 38, offset := 5, embedded := false, tag := "", pkgPath := "warmpath/warmpathref09", byteOffset := 88 }, { name := "at", type := 3, offset := 6, embedded := false, tag := "", pkgPath := "warmpath/warmpathref09", byteOffset := 112 }])) ∧
  (Try.prog.underlying 181 = some (.slice 198)) ∧
  (Try.prog.underlying 182 = some (.struct #[{ name := "Kind", type := 3, offset := 0, embedded := false, tag := "", pkgPath := "", byteOffset := 0 }, { name := "Line", type := 3, offset := 1, embedded := false, tag := "", pkgPath := "", byteOffset := 8 }, { name := "Name", type := 9, offset := 2, embedded := false, tag := "", pkgPath := "", byteOffset := 16 }, { name := "Exprs", type := 181, offset := 3, embedded := false, tag := "", pkgPath := "", byteOffset := 32 }, { name := "Then", type := 167, offset := 4, embedded := false, tag := "", pkgPath := "", byteOffset := 56 }, { name := "Else", type := 167, offset := 5, embedded := false, tag := "", pkgPath := "", byteOffset := 80 }])) ∧
  (Try.prog.underlying 183 = some (.struct #[{ name := "Kind", type := 3, offset := 0, embedded := false, tag := "", pkgPath := "", byteOffset := 0 }, { name := "Line", type := 3, offset := 1, embedded := false, tag := "", pkgPath := "", byteOffset := 8 }, { name := "Name", type := 9, offset := 2, embedded := false, tag := "", pkgPath := "", byteOffset := 16 }, { name := "Exprs", type := 181, offset := 3, embedded := false, tag := "", pkgPath := "", byteOffset := 32 }, { name := "Then", type := 167, offset := 4, embedded := false, tag := "", pkgPath := "", byteOffset := 56 }, { name := "Else", type := 167, offset := 5, embedded := false, tag := "", pkgPath := "", byteOffset := 80 }])) ∧
  (Try.prog.underlying 187 = some (.pointer 189)) ∧
  (Try.prog.underlying 188 = some (.struct #[{ name := "p", type := 161, offset := 0, embedded := false, tag := "", pkgPath := "warmpath/warmpathref06", byteOffset := 0 }, { name := "locals", type := 166, offset := 2, embedded := false, tag := "", pkgPath := "warmpath/warmpathref06", byteOffset := 48 }, { name := "line", type := 3, offset := 3, embedded := false, tag := "", pkgPath := "warmpath/warmpathref06", byteOffset := 72 }, { name := "e", type := 58, offset := 4, embedded := false, tag := "", pkgPath := "warmpath/warmpathref06", byteOffset := 80 }])) ∧
  (Try.prog.underlying 189 = some (.struct #[{ name := "p", type := 161, offset := 0, embedded := false, tag := "", pkgPath := "warmpath/warmpathref06", byteOffset := 0 }, { name := "locals", type := 166, offset := 2, embedded := false, tag := "", pkgPath := "warmpath/warmpathref06", byteOffset := 48 }, { name := "line", type := 3, offset := 3, embedded := false, tag := "", pkgPath := "warmpath/warmpathref06", byteOffset := 72 }, { name := "e", type := 58, offset := 4, embedded := false, tag := "", pkgPath := "warmpath/warmpathref06", byteOffset := 80 }])) ∧
  (Try.prog.underlying 191 = some (.pointer 193)) ∧
  (Try.prog.underlying 192 = some (.struct #[{ name := "c", type := 33, offset := 0, embedded := false, tag := "", pkgPath := "warmpath/warmpathdraw", byteOffset := 0 }, { name := "p", type := 161, offset := 1, embedded := false, tag := "", pkgPath := "warmpath/warmpathdraw", byteOffset := 8 }, { name := "locals", type := 166, offset := 3, embedded := false, tag := "", pkgPath := "warmpath/warmpathdraw", byteOffset := 56 }, { name := "budget", type := 3, offset := 4, embedded := false, tag := "", pkgPath := "warmpath/warmpathdraw", byteOffset := 80 }])) ∧
  (Try.prog.underlying 193 = some (.struct #[{ name := "c", type := 33, offset := 0, embedded := false, tag := "", pkgPath := "warmpath/warmpathdraw", byteOffset := 0 }, { name := "p", type := 161, offset := 1, embedded := false, tag := "", pkgPath := "warmpath/warmpathdraw", byteOffset := 8 }, { name := "locals", type := 166, offset := 3, embedded := false, tag := "", pkgPath := "warmpath/warmpathdraw", byteOffset := 56 }, { name := "budget", type := 3, offset := 4, embedded := false, tag := "", pkgPath := "warmpath/warmpathdraw", byteOffset := 80 }])) ∧
  (Try.prog.underlying 197 = some (.struct #[{ name := "Kind", type := 3, offset := 0, embedded := false, tag := "", pkgPath := "", byteOffset := 0 }, { name := "Op", type := 3, offset := 1, embedded := false, tag := "", pkgPath := "", byteOffset := 8 }, { name := "Value", type := 3, offset := 2, embedded := false, tag := "", pkgPath := "", byteOffset := 16 }, { name := "Line", type := 3, offset := 3, embedded := false, tag := "", pkgPath := "", byteOffset := 24 }, { name := "Name", type := 9, offset := 4, embedded := false, tag := "", pkgPath := "", byteOffset := 32 }, { name := "Args", type := 181, offset := 5, embedded := false, tag := "", pkgPath := "", byteOffset := 48 }])) ∧
  (Try.prog.underlying 198 = some (.struct #[{ name := "Kind", type := 3, offset := 0, embedded := false, tag := "", pkgPath := "", byteOffset := 0 }, { name := "Op", type := 3, offset := 1, embedded := false, tag := "", pkgPath := "", byteOffset := 8 }, { name := "Value", type := 3, offset := 2, embedded := false, tag := "", pkgPath := "", byteOffset := 16 }, { name := "Line", type := 3, offset := 3, embedded := false, tag := "", pkgPath := "", byteOffset := 24 }, { name := "Name", type := 9, offset := 4, embedded := false, tag := "", pkgPath := "", byteOffset := 32 }, { name := "Args", type := 181, offset := 5, embedded := false, tag := "", pkgPath := "", byteOffset := 48 }])) ∧
  (Try.prog.underlying 223 = some (.int .u32)) ∧
  (Try.prog.underlying 227 = some (.pointer 5)) :=
  ⟨by kernel_rfl, by kernel_rfl, by kernel_rfl, by kernel_rfl, by kernel_rfl, by kernel_rfl, by kernel_rfl, by kernel_rfl, by kernel_rfl, by kernel_rfl, by kernel_rfl, by kernel_rfl, by kernel_rfl, by kernel_rfl, by kernel_rfl, by kernel_rfl, by kernel_rfl, by kernel_rfl, by kernel_rfl, by kernel_rfl, by kernel_rfl, by kernel_rfl, by kernel_rfl, by kernel_rfl, by kernel_rfl, by kernel_rfl, by kernel_rfl, by kernel_rfl, by kernel_rfl, by kernel_rfl, by kernel_rfl, by kernel_rfl, by kernel_rfl, by kernel_rfl, by kernel_rfl, by kernel_rfl, by kernel_rfl, by kernel_rfl, by kernel_rfl, by kernel_rfl, by kernel_rfl, by kernel_rfl, by kernel_rfl, by kernel_rfl, by kernel_rfl, by kernel_rfl, by kernel_rfl, by kernel_rfl, by kernel_rfl, by kernel_rfl, by kernel_rfl, by kernel_rfl, by kernel_rfl, by kernel_rfl, by kernel_rfl, by kernel_rfl, by kernel_rfl, by kernel_rfl, by kernel_rfl, by kernel_rfl, by kernel_rfl, by kernel_rfl, by kernel_rfl, by kernel_rfl, by kernel_rfl, by kernel_rfl, by kernel_rfl, by kernel_rfl, by kernel_rfl, by kernel_rfl, by kernel_rfl, by kernel_rfl, by kernel_rfl, by kernel_rfl, by kernel_rfl, by kernel_rfl, by kernel_rfl, by kernel_rfl, by kernel_rfl, by kernel_rfl, by kernel_rfl, by kernel_rfl, by kernel_rfl, by kernel_rfl⟩
theorem tyC : (Try.prog.cellsOf 2 = 1) ∧
  (Try.prog.cellsOf 3 = 1) ∧
  (Try.prog.cellsOf 4 = 1) ∧
  (Try.prog.cellsOf 5 = 1) ∧
  (Try.prog.cellsOf 9 = 1) ∧
  (Try.prog.cellsOf 12 = 1) ∧
  (Try.prog.cellsOf 13 = 2) ∧
  (Try.prog.cellsOf 21 = 1) ∧
  (Try.prog.cellsOf 22 = 1) ∧
  (Try.prog.cellsOf 24 = 1) ∧
  (Try.prog.cellsOf 25 = 1) ∧
  (Try.prog.cellsOf 28 = 1) ∧
  (Try.prog.cellsOf 29 = 1) ∧
  (Try.prog.cellsOf 30 = 4) ∧
  (Try.prog.cellsOf 31 = 4) ∧
  (Try.prog.cellsOf 33 = 1) ∧
  (Try.prog.cellsOf 37 = 1) ∧
  (Try.prog.cellsOf 38 = 1) ∧
  (Try.prog.cellsOf 39 = 4) ∧
  (Try.prog.cellsOf 40 = 4) ∧
  (Try.prog.cellsOf 41 = 1) ∧
  (Try.prog.cellsOf 42 = 4) ∧
  (Try.prog.cellsOf 43 = 4) ∧
  (Try.prog.cellsOf 44 = 2) ∧
  (Try.prog.cellsOf 45 = 2) ∧
  (Try.prog.cellsOf 46 = 8) ∧
  (Try.prog.cellsOf 47 = 8) ∧
  (Try.prog.cellsOf 50 = 1) ∧
  (Try.prog.cellsOf 51 = 1) ∧
  (Try.prog.cellsOf 56 = 2) ∧
  (Try.prog.cellsOf 57 = 1) ∧
  (Try.prog.cellsOf 58 = 1) ∧
  (Try.prog.cellsOf 67 = 1) ∧
  (Try.prog.cellsOf 68 = 1) ∧
  (Try.prog.cellsOf 69 = 5) ∧
  (Try.prog.cellsOf 70 = 5) ∧
  (Try.prog.cellsOf 71 = 1) ∧
  (Try.prog.cellsOf 73 = 2) ∧
  (Try.prog.cellsOf 80 = 1) ∧
  (Try.prog.cellsOf 81 = 1) ∧
  (Try.prog.cellsOf 82 = 7) ∧
  (Try.prog.cellsOf 83 = 7) ∧
  (Try.prog.cellsOf 85 = 1) ∧
  (Try.prog.cellsOf 87 = 1) ∧
  (Try.prog.cellsOf 88 = 2) ∧
  (Try.prog.cellsOf 89 = 2) ∧
  (Try.prog.cellsOf 90 = 2) ∧
  (Try.prog.cellsOf 91 = 2) ∧
  (Try.prog.cellsOf 92 = 1) ∧
  (Try.prog.cellsOf 94 = 1) ∧
  (Try.prog.cellsOf 95 = 1) ∧
  (Try.prog.cellsOf 100 = 1) ∧
  (Try.prog.cellsOf 101 = 1) ∧
  (Try.prog.cellsOf 103 = 1) ∧
  (Try.prog.cellsOf 105 = 1) ∧
  (Try.prog.cellsOf 109 = 1) ∧
  (Try.prog.cellsOf 110 = 256) ∧
  (Try.prog.cellsOf 146 = 1) ∧
  (Try.prog.cellsOf 151 = 65536) ∧
  (Try.prog.cellsOf 152 = 65536) ∧
  (Try.prog.cellsOf 159 = 1) ∧
  (Try.prog.cellsOf 160 = 2) ∧
  (Try.prog.cellsOf 161 = 2) ∧
  (Try.prog.cellsOf 165 = 1) ∧
  (Try.prog.cellsOf 166 = 1) ∧
  (Try.prog.cellsOf 167 = 1) ∧
  (Try.prog.cellsOf 168 = 4) ∧
  (Try.prog.cellsOf 169 = 4) ∧
  (Try.prog.cellsOf 170 = 1) ∧
  (Try.prog.cellsOf 172 = 7) ∧
  (Try.prog.cellsOf 173 = 7) ∧
  (Try.prog.cellsOf 181 = 1) ∧
  (Try.prog.cellsOf 182 = 6) ∧
  (Try.prog.cellsOf 183 = 6) ∧
  (Try.prog.cellsOf 187 = 1) ∧
  (Try.prog.cellsOf 188 = 5) ∧
  (Try.prog.cellsOf 189 = 5) ∧
  (Try.prog.cellsOf 191 = 1) ∧
  (Try.prog.cellsOf 192 = 5) ∧
  (Try.prog.cellsOf 193 = 5) ∧
  (Try.prog.cellsOf 197 = 6) ∧
  (Try.prog.cellsOf 198 = 6) ∧
  (Try.prog.cellsOf 223 = 1) ∧
  (Try.prog.cellsOf 227 = 1) :=
  ⟨by kernel_rfl, by kernel_rfl, by kernel_rfl, by kernel_rfl, by kernel_rfl, by kernel_rfl, by kernel_rfl, by kernel_rfl, by kernel_rfl, by kernel_rfl, by kernel_rfl, by kernel_rfl, by kernel_rfl, by kernel_rfl, by kernel_rfl, by kernel_rfl, by kernel_rfl, by kernel_rfl, by kernel_rfl, by kernel_rfl, by kernel_rfl, by kernel_rfl, by kernel_rfl, by kernel_rfl, by kernel_rfl, by kernel_rfl, by kernel_rfl, by kernel_rfl, by kernel_rfl, by kernel_rfl, by kernel_rfl, by kernel_rfl, by kernel_rfl, by kernel_rfl, by kernel_rfl, by kernel_rfl, by kernel_rfl, by kernel_rfl, by kernel_rfl, by kernel_rfl, by kernel_rfl, by kernel_rfl, by kernel_rfl, by kernel_rfl, by kernel_rfl, by kernel_rfl, by kernel_rfl, by kernel_rfl, by kernel_rfl, by kernel_rfl, by kernel_rfl, by kernel_rfl, by kernel_rfl, by kernel_rfl, by kernel_rfl, by kernel_rfl, by kernel_rfl, by kernel_rfl, by kernel_rfl, by kernel_rfl, by kernel_rfl, by kernel_rfl, by kernel_rfl, by kernel_rfl, by kernel_rfl, by kernel_rfl, by kernel_rfl, by kernel_rfl, by kernel_rfl, by kernel_rfl, by kernel_rfl, by kernel_rfl, by kernel_rfl, by kernel_rfl, by kernel_rfl, by kernel_rfl, by kernel_rfl, by kernel_rfl, by kernel_rfl, by kernel_rfl, by kernel_rfl, by kernel_rfl, by kernel_rfl, by kernel_rfl⟩
theorem tyB : (Try.prog.bytesOf 2 = 8) ∧
  (Try.prog.bytesOf 3 = 8) ∧
  (Try.prog.bytesOf 4 = 1) ∧
  (Try.prog.bytesOf 5 = 1) ∧
  (Try.prog.bytesOf 9 = 16) ∧
  (Try.prog.bytesOf 12 = 8) ∧
  (Try.prog.bytesOf 13 = 24) ∧
  (Try.prog.bytesOf 21 = 4) ∧
  (Try.prog.bytesOf 22 = 24) ∧
  (Try.prog.bytesOf 24 = 24) ∧
  (Try.prog.bytesOf 25 = 8) ∧
  (Try.prog.bytesOf 28 = 24) ∧
  (Try.prog.bytesOf 29 = 24) ∧
  (Try.prog.bytesOf 30 = 64) ∧
  (Try.prog.bytesOf 31 = 64) ∧
  (Try.prog.bytesOf 33 = 8) ∧
  (Try.prog.bytesOf 37 = 24) ∧
  (Try.prog.bytesOf 38 = 24) ∧
  (Try.prog.bytesOf 39 = 56) ∧
  (Try.prog.bytesOf 40 = 56) ∧
  (Try.prog.bytesOf 41 = 24) ∧
  (Try.prog.bytesOf 42 = 32) ∧
  (Try.prog.bytesOf 43 = 32) ∧
  (Try.prog.bytesOf 44 = 16) ∧
  (Try.prog.bytesOf 45 = 16) ∧
  (Try.prog.bytesOf 46 = 80) ∧
  (Try.prog.bytesOf 47 = 80) ∧
  (Try.prog.bytesOf 50 = 24) ∧
  (Try.prog.bytesOf 51 = 24) ∧
  (Try.prog.bytesOf 56 = 48) ∧
  (Try.prog.bytesOf 57 = 24) ∧
  (Try.prog.bytesOf 58 = 8) ∧
  (Try.prog.bytesOf 67 = 24) ∧
  (Try.prog.bytesOf 68 = 24) ∧
  (Try.prog.bytesOf 69 = 96) ∧
  (Try.prog.bytesOf 70 = 96) ∧
  (Try.prog.bytesOf 71 = 24) ∧
  (Try.prog.bytesOf 73 = 16) ∧
  (Try.prog.bytesOf 80 = 8) ∧
  (Try.prog.bytesOf 81 = 8) ∧
  (Try.prog.bytesOf 82 = 72) ∧
  (Try.prog.bytesOf 83 = 72) ∧
  (Try.prog.bytesOf 85 = 2) ∧
  (Try.prog.bytesOf 87 = 8) ∧
  (Try.prog.bytesOf 88 = 24) ∧
  (Try.prog.bytesOf 89 = 24) ∧
  (Try.prog.bytesOf 90 = 32) ∧
  (Try.prog.bytesOf 91 = 32) ∧
  (Try.prog.bytesOf 92 = 8) ∧
  (Try.prog.bytesOf 94 = 8) ∧
  (Try.prog.bytesOf 95 = 8) ∧
  (Try.prog.bytesOf 100 = 24) ∧
  (Try.prog.bytesOf 101 = 24) ∧
  (Try.prog.bytesOf 103 = 8) ∧
  (Try.prog.bytesOf 105 = 8) ∧
  (Try.prog.bytesOf 109 = 2) ∧
  (Try.prog.bytesOf 110 = 512) ∧
  (Try.prog.bytesOf 146 = 24) ∧
  (Try.prog.bytesOf 151 = 131072) ∧
  (Try.prog.bytesOf 152 = 131072) ∧
  (Try.prog.bytesOf 159 = 24) ∧
  (Try.prog.bytesOf 160 = 48) ∧
  (Try.prog.bytesOf 161 = 48) ∧
  (Try.prog.bytesOf 165 = 8) ∧
  (Try.prog.bytesOf 166 = 24) ∧
  (Try.prog.bytesOf 167 = 24) ∧
  (Try.prog.bytesOf 168 = 72) ∧
  (Try.prog.bytesOf 169 = 72) ∧
  (Try.prog.bytesOf 170 = 8) ∧
  (Try.prog.bytesOf 172 = 120) ∧
  (Try.prog.bytesOf 173 = 120) ∧
  (Try.prog.bytesOf 181 = 24) ∧
  (Try.prog.bytesOf 182 = 104) ∧
  (Try.prog.bytesOf 183 = 104) ∧
  (Try.prog.bytesOf 187 = 8) ∧
  (Try.prog.bytesOf 188 = 88) ∧
  (Try.prog.bytesOf 189 = 88) ∧
  (Try.prog.bytesOf 191 = 8) ∧
  (Try.prog.bytesOf 192 = 88) ∧
  (Try.prog.bytesOf 193 = 88) ∧
  (Try.prog.bytesOf 197 = 72) ∧
  (Try.prog.bytesOf 198 = 72) ∧
  (Try.prog.bytesOf 223 = 4) ∧
  (Try.prog.bytesOf 227 = 8) :=
  ⟨by kernel_rfl, by kernel_rfl, by kernel_rfl, by kernel_rfl, by kernel_rfl, by kernel_rfl, by kernel_rfl, by kernel_rfl, by kernel_rfl, by kernel_rfl, by kernel_rfl, by kernel_rfl, by kernel_rfl, by kernel_rfl, by kernel_rfl, by kernel_rfl, by kernel_rfl, by kernel_rfl, by kernel_rfl, by kernel_rfl, by kernel_rfl, by kernel_rfl, by kernel_rfl, by kernel_rfl, by kernel_rfl, by kernel_rfl, by kernel_rfl, by kernel_rfl, by kernel_rfl, by kernel_rfl, by kernel_rfl, by kernel_rfl, by kernel_rfl, by kernel_rfl, by kernel_rfl, by kernel_rfl, by kernel_rfl, by kernel_rfl, by kernel_rfl, by kernel_rfl, by kernel_rfl, by kernel_rfl, by kernel_rfl, by kernel_rfl, by kernel_rfl, by kernel_rfl, by kernel_rfl, by kernel_rfl, by kernel_rfl, by kernel_rfl, by kernel_rfl, by kernel_rfl, by kernel_rfl, by kernel_rfl, by kernel_rfl, by kernel_rfl, by kernel_rfl, by kernel_rfl, by kernel_rfl, by kernel_rfl, by kernel_rfl, by kernel_rfl, by kernel_rfl, by kernel_rfl, by kernel_rfl, by kernel_rfl, by kernel_rfl, by kernel_rfl, by kernel_rfl, by kernel_rfl, by kernel_rfl, by kernel_rfl, by kernel_rfl, by kernel_rfl, by kernel_rfl, by kernel_rfl, by kernel_rfl, by kernel_rfl, by kernel_rfl, by kernel_rfl, by kernel_rfl, by kernel_rfl, by kernel_rfl, by kernel_rfl⟩
theorem tyA : (aggT Try.prog 2 = false) ∧
  (aggT Try.prog 3 = false) ∧
  (aggT Try.prog 4 = false) ∧
  (aggT Try.prog 5 = false) ∧
  (aggT Try.prog 9 = false) ∧
  (aggT Try.prog 12 = false) ∧
  (aggT Try.prog 13 = true) ∧
  (aggT Try.prog 21 = false) ∧
  (aggT Try.prog 22 = false) ∧
  (aggT Try.prog 24 = false) ∧
  (aggT Try.prog 25 = false) ∧
  (aggT Try.prog 28 = false) ∧
  (aggT Try.prog 29 = false) ∧
  (aggT Try.prog 30 = true) ∧
  (aggT Try.prog 31 = true) ∧
  (aggT Try.prog 33 = false) ∧
  (aggT Try.prog 37 = false) ∧
  (aggT Try.prog 38 = false) ∧
  (aggT Try.prog 39 = true) ∧
  (aggT Try.prog 40 = true) ∧
  (aggT Try.prog 41 = false) ∧
  (aggT Try.prog 42 = true) ∧
  (aggT Try.prog 43 = true) ∧
  (aggT Try.prog 44 = true) ∧
  (aggT Try.prog 45 = true) ∧
  (aggT Try.prog 46 = true) ∧
  (aggT Try.prog 47 = true) ∧
  (aggT Try.prog 50 = false) ∧
  (aggT Try.prog 51 = false) ∧
  (aggT Try.prog 56 = true) ∧
  (aggT Try.prog 57 = false) ∧
  (aggT Try.prog 58 = false) ∧
  (aggT Try.prog 67 = false) ∧
  (aggT Try.prog 68 = false) ∧
  (aggT Try.prog 69 = true) ∧
  (aggT Try.prog 70 = true) ∧
  (aggT Try.prog 71 = false) ∧
  (aggT Try.prog 73 = true) ∧
  (aggT Try.prog 80 = false) ∧
  (aggT Try.prog 81 = false) ∧
  (aggT Try.prog 82 = true) ∧
  (aggT Try.prog 83 = true) ∧
  (aggT Try.prog 85 = false) ∧
  (aggT Try.prog 87 = false) ∧
  (aggT Try.prog 88 = true) ∧
  (aggT Try.prog 89 = true) ∧
  (aggT Try.prog 90 = true) ∧
  (aggT Try.prog 91 = true) ∧
  (aggT Try.prog 92 = false) ∧
  (aggT Try.prog 94 = false) ∧
  (aggT Try.prog 95 = false) ∧
  (aggT Try.prog 100 = true) ∧
  (aggT Try.prog 101 = true) ∧
  (aggT Try.prog 103 = false) ∧
  (aggT Try.prog 105 = false) ∧
  (aggT Try.prog 109 = false) ∧
  (aggT Try.prog 110 = true) ∧
  (aggT Try.prog 146 = false) ∧
  (aggT Try.prog 151 = true) ∧
  (aggT Try.prog 152 = true) ∧
  (aggT Try.prog 159 = false) ∧
  (aggT Try.prog 160 = true) ∧
  (aggT Try.prog 161 = true) ∧
  (aggT Try.prog 165 = false) ∧
  (aggT Try.prog 166 = false) ∧
  (aggT Try.prog 167 = false) ∧
  (aggT Try.prog 168 = true) ∧
  (aggT Try.prog 169 = true) ∧
  (aggT Try.prog 170 = false) ∧
  (aggT Try.prog 172 = true) ∧
  (aggT Try.prog 173 = true) ∧
  (aggT Try.prog 181 = false) ∧
  (aggT Try.prog 182 = true) ∧
  (aggT Try.prog 183 = true) ∧
  (aggT Try.prog 187 = false) ∧
  (aggT Try.prog 188 = true) ∧
  (aggT Try.prog 189 = true) ∧
  (aggT Try.prog 191 = false) ∧
  (aggT Try.prog 192 = true) ∧
  (aggT Try.prog 193 = true) ∧
  (aggT Try.prog 197 = true) ∧
  (aggT Try.prog 198 = true) ∧
  (aggT Try.prog 223 = false) ∧
  (aggT Try.prog 227 = false) :=
  ⟨by kernel_rfl, by kernel_rfl, by kernel_rfl, by kernel_rfl, by kernel_rfl, by kernel_rfl, by kernel_rfl, by kernel_rfl, by kernel_rfl, by kernel_rfl, by kernel_rfl, by kernel_rfl, by kernel_rfl, by kernel_rfl, by kernel_rfl, by kernel_rfl, by kernel_rfl, by kernel_rfl, by kernel_rfl, by kernel_rfl, by kernel_rfl, by kernel_rfl, by kernel_rfl, by kernel_rfl, by kernel_rfl, by kernel_rfl, by kernel_rfl, by kernel_rfl, by kernel_rfl, by kernel_rfl, by kernel_rfl, by kernel_rfl, by kernel_rfl, by kernel_rfl, by kernel_rfl, by kernel_rfl, by kernel_rfl, by kernel_rfl, by kernel_rfl, by kernel_rfl, by kernel_rfl, by kernel_rfl, by kernel_rfl, by kernel_rfl, by kernel_rfl, by kernel_rfl, by kernel_rfl, by kernel_rfl, by kernel_rfl, by kernel_rfl, by kernel_rfl, by kernel_rfl, by kernel_rfl, by kernel_rfl, by kernel_rfl, by kernel_rfl, by kernel_rfl, by kernel_rfl, by kernel_rfl, by kernel_rfl, by kernel_rfl, by kernel_rfl, by kernel_rfl, by kernel_rfl, by kernel_rfl, by kernel_rfl, by kernel_rfl, by kernel_rfl, by kernel_rfl, by kernel_rfl, by kernel_rfl, by kernel_rfl, by kernel_rfl, by kernel_rfl, by kernel_rfl, by kernel_rfl, by kernel_rfl, by kernel_rfl, by kernel_rfl, by kernel_rfl, by kernel_rfl, by kernel_rfl, by kernel_rfl, by kernel_rfl⟩
theorem tyI : (isIntT Try.prog 2 = some .i64) ∧
  (isIntT Try.prog 3 = some .i64) ∧
  (isIntT Try.prog 4 = none) ∧
  (isIntT Try.prog 5 = some .u8) ∧
  (isIntT Try.prog 9 = none) ∧
  (isIntT Try.prog 12 = some .u64) ∧
  (isIntT Try.prog 13 = none) ∧
  (isIntT Try.prog 21 = some .i32) ∧
  (isIntT Try.prog 22 = none) ∧
  (isIntT Try.prog 24 = none) ∧
  (isIntT Try.prog 25 = some .u64) ∧
  (isIntT Try.prog 28 = none) ∧
  (isIntT Try.prog 29 = none) ∧
  (isIntT Try.prog 30 = none) ∧
  (isIntT Try.prog 31 = none) ∧
  (isIntT Try.prog 33 = none) ∧
  (isIntT Try.prog 37 = none) ∧
  (isIntT Try.prog 38 = none) ∧
  (isIntT Try.prog 39 = none) ∧
  (isIntT Try.prog 40 = none) ∧
  (isIntT Try.prog 41 = none) ∧
  (isIntT Try.prog 42 = none) ∧
  (isIntT Try.prog 43 = none) ∧
  (isIntT Try.prog 44 = none) ∧
  (isIntT Try.prog 45 = none) ∧
  (isIntT Try.prog 46 = none) ∧
  (isIntT Try.prog 47 = none) ∧
  (isIntT Try.prog 50 = none) ∧
  (isIntT Try.prog 51 = none) ∧
  (isIntT Try.prog 56 = none) ∧
  (isIntT Try.prog 57 = none) ∧
  (isIntT Try.prog 58 = some .i64) ∧
  (isIntT Try.prog 67 = none) ∧
  (isIntT Try.prog 68 = none) ∧
  (isIntT Try.prog 69 = none) ∧
  (isIntT Try.prog 70 = none) ∧
  (isIntT Try.prog 71 = none) ∧
  (isIntT Try.prog 73 = none) ∧
  (isIntT Try.prog 80 = none) ∧
  (isIntT Try.prog 81 = none) ∧
  (isIntT Try.prog 82 = none) ∧
  (isIntT Try.prog 83 = none) ∧
  (isIntT Try.prog 85 = some .u16) ∧
  (isIntT Try.prog 87 = none) ∧
  (isIntT Try.prog 88 = none) ∧
  (isIntT Try.prog 89 = none) ∧
  (isIntT Try.prog 90 = none) ∧
  (isIntT Try.prog 91 = none) ∧
  (isIntT Try.prog 92 = none) ∧
  (isIntT Try.prog 94 = none) ∧
  (isIntT Try.prog 95 = none) ∧
  (isIntT Try.prog 100 = none) ∧
  (isIntT Try.prog 101 = none) ∧
  (isIntT Try.prog 103 = none) ∧
  (isIntT Try.prog 105 = none) ∧
  (isIntT Try.prog 109 = some .i16) ∧
  (isIntT Try.prog 110 = none) ∧
  (isIntT Try.prog 146 = none) ∧
  (isIntT Try.prog 151 = none) ∧
  (isIntT Try.prog 152 = none) ∧
  (isIntT Try.prog 159 = none) ∧
  (isIntT Try.prog 160 = none) ∧
  (isIntT Try.prog 161 = none) ∧
  (isIntT Try.prog 165 = some .u64) ∧
  (isIntT Try.prog 166 = none) ∧
  (isIntT Try.prog 167 = none) ∧
  (isIntT Try.prog 168 = none) ∧
  (isIntT Try.prog 169 = none) ∧
  (isIntT Try.prog 170 = none) ∧
  (isIntT Try.prog 172 = none) ∧
  (isIntT Try.prog 173 = none) ∧
  (isIntT Try.prog 181 = none) ∧
  (isIntT Try.prog 182 = none) ∧
  (isIntT Try.prog 183 = none) ∧
  (isIntT Try.prog 187 = none) ∧
  (isIntT Try.prog 188 = none) ∧
  (isIntT Try.prog 189 = none) ∧
  (isIntT Try.prog 191 = none) ∧
  (isIntT Try.prog 192 = none) ∧
  (isIntT Try.prog 193 = none) ∧
  (isIntT Try.prog 197 = none) ∧
  (isIntT Try.prog 198 = none) ∧
  (isIntT Try.prog 223 = some .u32) ∧
  (isIntT Try.prog 227 = none) :=
  ⟨by kernel_rfl, by kernel_rfl, by kernel_rfl, by kernel_rfl, by kernel_rfl, by kernel_rfl, by kernel_rfl, by kernel_rfl, by kernel_rfl, by kernel_rfl, by kernel_rfl, by kernel_rfl, by kernel_rfl, by kernel_rfl, by kernel_rfl, by kernel_rfl, by kernel_rfl, by kernel_rfl, by kernel_rfl, by kernel_rfl, by kernel_rfl, by kernel_rfl, by kernel_rfl, by kernel_rfl, by kernel_rfl, by kernel_rfl, by kernel_rfl, by kernel_rfl, by kernel_rfl, by kernel_rfl, by kernel_rfl, by kernel_rfl, by kernel_rfl, by kernel_rfl, by kernel_rfl, by kernel_rfl, by kernel_rfl, by kernel_rfl, by kernel_rfl, by kernel_rfl, by kernel_rfl, by kernel_rfl, by kernel_rfl, by kernel_rfl, by kernel_rfl, by kernel_rfl, by kernel_rfl, by kernel_rfl, by kernel_rfl, by kernel_rfl, by kernel_rfl, by kernel_rfl, by kernel_rfl, by kernel_rfl, by kernel_rfl, by kernel_rfl, by kernel_rfl, by kernel_rfl, by kernel_rfl, by kernel_rfl, by kernel_rfl, by kernel_rfl, by kernel_rfl, by kernel_rfl, by kernel_rfl, by kernel_rfl, by kernel_rfl, by kernel_rfl, by kernel_rfl, by kernel_rfl, by kernel_rfl, by kernel_rfl, by kernel_rfl, by kernel_rfl, by kernel_rfl, by kernel_rfl, by kernel_rfl, by kernel_rfl, by kernel_rfl, by kernel_rfl, by kernel_rfl, by kernel_rfl, by kernel_rfl, by kernel_rfl⟩
theorem tyZ : (zeroCells Try.prog 2 = some [.int .i64 0]) ∧
  (zeroCells Try.prog 3 = some [.int .i64 0]) ∧
  (zeroCells Try.prog 4 = some [.bool false]) ∧
  (zeroCells Try.prog 5 = some [.int .u8 0]) ∧
  (zeroCells Try.prog 9 = some [.str .empty]) ∧
  (zeroCells Try.prog 12 = some [.int .u64 0]) ∧
  (zeroCells Try.prog 13 = some [.str .empty, .int .u64 0]) ∧
  (zeroCells Try.prog 21 = some [.int .i32 0]) ∧
  (zeroCells Try.prog 22 = some [.nils]) ∧
  (zeroCells Try.prog 24 = some [.nils]) ∧
  (zeroCells Try.prog 25 = some [.int .u64 0]) ∧
  (zeroCells Try.prog 28 = some [.nils]) ∧
  (zeroCells Try.prog 29 = some [.nils]) ∧
  (zeroCells Try.prog 30 = some [.nils, .nils, .int .i64 0, .int .i64 0]) ∧
  (zeroCells Try.prog 31 = some [.nils, .nils, .int .i64 0, .int .i64 0]) ∧
  (zeroCells Try.prog 33 = some [.nilp]) ∧
  (zeroCells Try.prog 37 = some [.nils]) ∧
  (zeroCells Try.prog 38 = some [.nils]) ∧
  (zeroCells Try.prog 39 = some [.str .empty, .int .i64 0, .int .i64 0, .nils]) ∧
  (zeroCells Try.prog 40 = some [.str .empty, .int .i64 0, .int .i64 0, .nils]) ∧
  (zeroCells Try.prog 41 = some [.nils]) ∧
  (zeroCells Try.prog 42 = some [.int .i64 0, .int .i64 0, .int .i64 0, .int .i64 0]) ∧
  (zeroCells Try.prog 43 = some [.int .i64 0, .int .i64 0, .int .i64 0, .int .i64 0]) ∧
  (zeroCells Try.prog 44 = some [.int .i64 0, .int .i64 0]) ∧
  (zeroCells Try.prog 45 = some [.int .i64 0, .int .i64 0]) ∧
  (zeroCells Try.prog 46 = some [.nils, .int .i64 0, .int .i64 0, .int .i64 0, .int .i64 0, .int .i64 0, .int .i64 0, .int .i64 0]) ∧
  (zeroCells Try.prog 47 = some [.nils, .int .i64 0, .int .i64 0, .int .i64 0, .int .i64 0, .int .i64 0, .int .i64 0, .int .i64 0]) ∧
  (zeroCells Try.prog 50 = some [.nils]) ∧
  (zeroCells Try.prog 51 = some [.nils]) ∧
  (zeroCells Try.prog 56 = some [.nils, .nils]) ∧
  (zeroCells Try.prog 57 = some [.nils]) ∧
  (zeroCells Try.prog 58 = some [.int .i64 0]) ∧
  (zeroCells Try.prog 67 = some [.nils]) ∧
  (zeroCells Try.prog 68 = some [.nils]) ∧
  (zeroCells Try.prog 69 = some [.str .empty, .int .u64 0, .nils, .nils, .nils]) ∧
  (zeroCells Try.prog 70 = some [.str .empty, .int .u64 0, .nils, .nils, .nils]) ∧
  (zeroCells Try.prog 71 = some [.nils]) ∧
  (zeroCells Try.prog 73 = some [.int .i64 0, .int .i64 0]) ∧
  (zeroCells Try.prog 80 = some [.nilp]) ∧
  (zeroCells Try.prog 81 = some [.nilp]) ∧
  (zeroCells Try.prog 82 = some [.int .i64 0, .int .i64 0, .int .i64 0, .int .i64 0, .int .i64 0, .int .i64 0, .nils]) ∧
  (zeroCells Try.prog 83 = some [.int .i64 0, .int .i64 0, .int .i64 0, .int .i64 0, .int .i64 0, .int .i64 0, .nils]) ∧
  (zeroCells Try.prog 85 = some [.int .u16 0]) ∧
  (zeroCells Try.prog 87 = some [.nilm]) ∧
  (zeroCells Try.prog 88 = some [.str .empty, .int .i64 0]) ∧
  (zeroCells Try.prog 89 = some [.str .empty, .int .i64 0]) ∧
  (zeroCells Try.prog 90 = some [.nils, .int .i64 0]) ∧
  (zeroCells Try.prog 91 = some [.nils, .int .i64 0]) ∧
  (zeroCells Try.prog 92 = some [.nilp]) ∧
  (zeroCells Try.prog 94 = some [.nilm]) ∧
  (zeroCells Try.prog 95 = some [.nilm]) ∧
  (zeroCells Try.prog 100 = some [.nils]) ∧
  (zeroCells Try.prog 101 = some [.nils]) ∧
  (zeroCells Try.prog 103 = some [.nilp]) ∧
  (zeroCells Try.prog 105 = some [.nilp]) ∧
  (zeroCells Try.prog 109 = some [.int .i16 0]) ∧
  (zeroCells Try.prog 146 = some [.nils]) ∧
  (zeroCells Try.prog 159 = some [.nils]) ∧
  (zeroCells Try.prog 160 = some [.nils, .nils]) ∧
  (zeroCells Try.prog 161 = some [.nils, .nils]) ∧
  (zeroCells Try.prog 165 = some [.int .u64 0]) ∧
  (zeroCells Try.prog 166 = some [.nils]) ∧
  (zeroCells Try.prog 167 = some [.nils]) ∧
  (zeroCells Try.prog 168 = some [.str .empty, .int .i64 0, .nils, .nils]) ∧
  (zeroCells Try.prog 169 = some [.str .empty, .int .i64 0, .nils, .nils]) ∧
  (zeroCells Try.prog 170 = some [.nilp]) ∧
  (zeroCells Try.prog 172 = some [.nils, .nils, .nils, .int .i64 0, .int .i64 0, .nils, .int .i64 0]) ∧
  (zeroCells Try.prog 173 = some [.nils, .nils, .nils, .int .i64 0, .int .i64 0, .nils, .int .i64 0]) ∧
  (zeroCells Try.prog 181 = some [.nils]) ∧
  (zeroCells Try.prog 182 = some [.int .i64 0, .int .i64 0, .str .empty, .nils, .nils, .nils]) ∧
  (zeroCells Try.prog 183 = some [.int .i64 0, .int .i64 0, .str .empty, .nils, .nils, .nils]) ∧
  (zeroCells Try.prog 187 = some [.nilp]) ∧
  (zeroCells Try.prog 188 = some [.nils, .nils, .nils, .int .i64 0, .int .i64 0]) ∧
  (zeroCells Try.prog 189 = some [.nils, .nils, .nils, .int .i64 0, .int .i64 0]) ∧
  (zeroCells Try.prog 191 = some [.nilp]) ∧
  (zeroCells Try.prog 192 = some [.nilp, .nils, .nils, .nils, .int .i64 0]) ∧
  (zeroCells Try.prog 193 = some [.nilp, .nils, .nils, .nils, .int .i64 0]) ∧
  (zeroCells Try.prog 197 = some [.int .i64 0, .int .i64 0, .int .i64 0, .int .i64 0, .str .empty, .nils]) ∧
  (zeroCells Try.prog 198 = some [.int .i64 0, .int .i64 0, .int .i64 0, .int .i64 0, .str .empty, .nils]) ∧
  (zeroCells Try.prog 223 = some [.int .u32 0]) ∧
  (zeroCells Try.prog 227 = some [.nilp]) :=
  ⟨by kernel_rfl, by kernel_rfl, by kernel_rfl, by kernel_rfl, by kernel_rfl, by kernel_rfl, by kernel_rfl, by kernel_rfl, by kernel_rfl, by kernel_rfl, by kernel_rfl, by kernel_rfl, by kernel_rfl, by kernel_rfl, by kernel_rfl, by kernel_rfl, by kernel_rfl, by kernel_rfl, by kernel_rfl, by kernel_rfl, by kernel_rfl, by kernel_rfl, by kernel_rfl, by kernel_rfl, by kernel_rfl, by kernel_rfl, by kernel_rfl, by kernel_rfl, by kernel_rfl, by kernel_rfl, by kernel_rfl, by kernel_rfl, by kernel_rfl, by kernel_rfl, by kernel_rfl, by kernel_rfl, by kernel_rfl, by kernel_rfl, by kernel_rfl, by kernel_rfl, by kernel_rfl, by kernel_rfl, by kernel_rfl, by kernel_rfl, by kernel_rfl, by kernel_rfl, by kernel_rfl, by kernel_rfl, by kernel_rfl, by kernel_rfl, by kernel_rfl, by kernel_rfl, by kernel_rfl, by kernel_rfl, by kernel_rfl, by kernel_rfl, by kernel_rfl, by kernel_rfl, by kernel_rfl, by kernel_rfl, by kernel_rfl, by kernel_rfl, by kernel_rfl, by kernel_rfl, by kernel_rfl, by kernel_rfl, by kernel_rfl, by kernel_rfl, by kernel_rfl, by kernel_rfl, by kernel_rfl, by kernel_rfl, by kernel_rfl, by kernel_rfl, by kernel_rfl, by kernel_rfl, by kernel_rfl, by kernel_rfl, by kernel_rfl, by kernel_rfl, by kernel_rfl⟩
theorem tyF : ((#[{ name := "msg", type := 9, offset := 0, embedded := false, tag := "", pkgPath := "runtime", byteOffset := 0 }, { name := "addr", type := 12, offset := 1, embedded := false, tag := "", pkgPath := "runtime", byteOffset := 16 }] : Array Field).all (fun f => (Try.prog.info? f.type).isSome) = true) ∧
  ((#[{ name := "Globals", type := 28, offset := 0, embedded := false, tag := "", pkgPath := "", byteOffset := 0 }, { name := "Funcs", type := 29, offset := 1, embedded := false, tag := "", pkgPath := "", byteOffset := 24 }, { name := "Callable", type := 3, offset := 2, embedded := false, tag := "", pkgPath := "", byteOffset := 48 }, { name := "Counters", type := 3, offset := 3, embedded := false, tag := "", pkgPath := "", byteOffset := 56 }] : Array Field).all (fun f => (Try.prog.info? f.type).isSome) = true) ∧
  ((#[{ name := "Name", type := 9, offset := 0, embedded := false, tag := "", pkgPath := "", byteOffset := 0 }, { name := "Params", type := 3, offset := 1, embedded := false, tag := "", pkgPath := "", byteOffset := 16 }, { name := "Regs", type := 3, offset := 2, embedded := false, tag := "", pkgPath := "", byteOffset := 24 }, { name := "Blocks", type := 38, offset := 3, embedded := false, tag := "", pkgPath := "", byteOffset := 32 }] : Array Field).all (fun f => (Try.prog.info? f.type).isSome) = true) ∧
  ((#[{ name := "Kind", type := 3, offset := 0, embedded := false, tag := "", pkgPath := "", byteOffset := 0 }, { name := "A", type := 3, offset := 1, embedded := false, tag := "", pkgPath := "", byteOffset := 8 }, { name := "To", type := 3, offset := 2, embedded := false, tag := "", pkgPath := "", byteOffset := 16 }, { name := "Else", type := 3, offset := 3, embedded := false, tag := "", pkgPath := "", byteOffset := 24 }] : Array Field).all (fun f => (Try.prog.info? f.type).isSome) = true) ∧
  ((#[{ name := "Func", type := 3, offset := 0, embedded := false, tag := "", pkgPath := "", byteOffset := 0 }, { name := "Block", type := 3, offset := 1, embedded := false, tag := "", pkgPath := "", byteOffset := 8 }] : Array Field).all (fun f => (Try.prog.info? f.type).isSome) = true) ∧
  ((#[{ name := "Instrs", type := 41, offset := 0, embedded := false, tag := "", pkgPath := "", byteOffset := 0 }, { name := "Term", type := 43, offset := 1, embedded := false, tag := "", pkgPath := "", byteOffset := 24 }, { name := "Line", type := 3, offset := 5, embedded := false, tag := "", pkgPath := "", byteOffset := 56 }, { name := "Origin", type := 45, offset := 6, embedded := false, tag := "", pkgPath := "", byteOffset := 64 }] : Array Field).all (fun f => (Try.prog.info? f.type).isSome) = true) ∧
  ((#[{ name := "Name", type := 9, offset := 0, embedded := false, tag := "", pkgPath := "", byteOffset := 0 }, { name := "Print", type := 25, offset := 1, embedded := false, tag := "", pkgPath := "", byteOffset := 16 }, { name := "Blocks", type := 24, offset := 2, embedded := false, tag := "", pkgPath := "", byteOffset := 24 }, { name := "Rounds", type := 67, offset := 3, embedded := false, tag := "", pkgPath := "", byteOffset := 48 }, { name := "Next", type := 68, offset := 4, embedded := false, tag := "", pkgPath := "", byteOffset := 72 }] : Array Field).all (fun f => (Try.prog.info? f.type).isSome) = true) ∧
  ((#[{ name := "Kind", type := 3, offset := 0, embedded := false, tag := "", pkgPath := "", byteOffset := 0 }, { name := "Op", type := 3, offset := 1, embedded := false, tag := "", pkgPath := "", byteOffset := 8 }, { name := "Dst", type := 3, offset := 2, embedded := false, tag := "", pkgPath := "", byteOffset := 16 }, { name := "A", type := 3, offset := 3, embedded := false, tag := "", pkgPath := "", byteOffset := 24 }, { name := "B", type := 3, offset := 4, embedded := false, tag := "", pkgPath := "", byteOffset := 32 }, { name := "Value", type := 3, offset := 5, embedded := false, tag := "", pkgPath := "", byteOffset := 40 }, { name := "Args", type := 51, offset := 6, embedded := false, tag := "", pkgPath := "", byteOffset := 48 }] : Array Field).all (fun f => (Try.prog.info? f.type).isSome) = true) ∧
  ((#[{ name := "Name", type := 9, offset := 0, embedded := false, tag := "", pkgPath := "", byteOffset := 0 }, { name := "Size", type := 3, offset := 1, embedded := false, tag := "", pkgPath := "", byteOffset := 16 }] : Array Field).all (fun f => (Try.prog.info? f.type).isSome) = true) ∧
  ((#[{ name := "l", type := 22, offset := 0, embedded := false, tag := "", pkgPath := "warmpath/warmpathdraw", byteOffset := 0 }, { name := "at", type := 3, offset := 1, embedded := false, tag := "", pkgPath := "warmpath/warmpathdraw", byteOffset := 24 }] : Array Field).all (fun f => (Try.prog.info? f.type).isSome) = true) ∧
  ((#[{ name := "list", type := 51, offset := 0, embedded := false, tag := "", pkgPath := "warmpath/warmpathref27", byteOffset := 0 }] : Array Field).all (fun f => (Try.prog.info? f.type).isSome) = true) ∧
  ((#[{ name := "Globals", type := 28, offset := 0, embedded := false, tag := "", pkgPath := "", byteOffset := 0 }, { name := "Funcs", type := 159, offset := 1, embedded := false, tag := "", pkgPath := "", byteOffset := 24 }] : Array Field).all (fun f => (Try.prog.info? f.type).isSome) = true) ∧
  ((#[{ name := "Name", type := 9, offset := 0, embedded := false, tag := "", pkgPath := "", byteOffset := 0 }, { name := "Line", type := 3, offset := 1, embedded := false, tag := "", pkgPath := "", byteOffset := 16 }, { name := "Params", type := 166, offset := 2, embedded := false, tag := "", pkgPath := "", byteOffset := 24 }, { name := "Body", type := 167, offset := 3, embedded := false, tag := "", pkgPath := "", byteOffset := 48 }] : Array Field).all (fun f => (Try.prog.info? f.type).isSome) = true) ∧
  ((#[{ name := "p", type := 161, offset := 0, embedded := false, tag := "", pkgPath := "warmpath/warmpathref09", byteOffset := 0 }, { name := "locals", type := 166, offset := 2, embedded := false, tag := "", pkgPath := "warmpath/warmpathref09", byteOffset := 48 }, { name := "number", type := 3, offset := 3, embedded := false, tag := "", pkgPath := "warmpath/warmpathref09", byteOffset := 72 }, { name := "regs", type := 3, offset := 4, embedded := false, tag := "", pkgPath := "warmpath/warmpathref09", byteOffset := 80 }, { name := "blocks", type := 38, offset := 5, embedded := false, tag := "", pkgPath := "warmpath/warmpathref09", byteOffset := 88 }, { name := "at", type := 3, offset := 6, embedded := false, tag := "", pkgPath := "warmpath/warmpathref09", byteOffset := 112 }] : Array Field).all (fun f => (Try.prog.info? f.type).isSome) = true) ∧
  ((#[{ name := "Kind", type := 3, offset := 0, embedded := false, tag := "", pkgPath := "", byteOffset := 0 }, { name := "Line", type := 3, offset := 1, embedded := false, tag := "", pkgPath := "", byteOffset := 8 }, { name := "Name", type := 9, offset := 2, embedded := false, tag := "", pkgPath := "", byteOffset := 16 }, { name := "Exprs", type := 181, offset := 3, embedded := false, tag := "", pkgPath := "", byteOffset := 32 }, { name := "Then", type := 167, offset := 4, embedded := false, tag := "", pkgPath := "", byteOffset := 56 }, { name := "Else", type := 167, offset := 5, embedded := false, tag := "", pkgPath := "", byteOffset := 80 }] : Array Field).all (fun f => (Try.prog.info? f.type).isSome) = true) ∧
  ((#[{ name := "p", type := 161, offset := 0, embedded := false, tag := "", pkgPath := "warmpath/warmpathref06", byteOffset := 0 }, { name := "locals", type := 166, offset := 2, embedded := false, tag := "", pkgPath := "warmpath/warmpathref06", byteOffset := 48 }, { name := "line", type := 3, offset := 3, embedded := false, tag := "", pkgPath := "warmpath/warmpathref06", byteOffset := 72 }, { name := "e", type := 58, offset := 4, embedded := false, tag := "", pkgPath := "warmpath/warmpathref06", byteOffset := 80 }] : Array Field).all (fun f => (Try.prog.info? f.type).isSome) = true) ∧
  ((#[{ name := "c", type := 33, offset := 0, embedded := false, tag := "", pkgPath := "warmpath/warmpathdraw", byteOffset := 0 }, { name := "p", type := 161, offset := 1, embedded := false, tag := "", pkgPath := "warmpath/warmpathdraw", byteOffset := 8 }, { name := "locals", type := 166, offset := 3, embedded := false, tag := "", pkgPath := "warmpath/warmpathdraw", byteOffset := 56 }, { name := "budget", type := 3, offset := 4, embedded := false, tag := "", pkgPath := "warmpath/warmpathdraw", byteOffset := 80 }] : Array Field).all (fun f => (Try.prog.info? f.type).isSome) = true) ∧
  ((#[{ name := "Kind", type := 3, offset := 0, embedded := false, tag := "", pkgPath := "", byteOffset := 0 }, { name := "Op", type := 3, offset := 1, embedded := false, tag := "", pkgPath := "", byteOffset := 8 }, { name := "Value", type := 3, offset := 2, embedded := false, tag := "", pkgPath := "", byteOffset := 16 }, { name := "Line", type := 3, offset := 3, embedded := false, tag := "", pkgPath := "", byteOffset := 24 }, { name := "Name", type := 9, offset := 4, embedded := false, tag := "", pkgPath := "", byteOffset := 32 }, { name := "Args", type := 181, offset := 5, embedded := false, tag := "", pkgPath := "", byteOffset := 48 }] : Array Field).all (fun f => (Try.prog.info? f.type).isSome) = true) :=
  ⟨by kernel_rfl, by kernel_rfl, by kernel_rfl, by kernel_rfl, by kernel_rfl, by kernel_rfl, by kernel_rfl, by kernel_rfl, by kernel_rfl, by kernel_rfl, by kernel_rfl, by kernel_rfl, by kernel_rfl, by kernel_rfl, by kernel_rfl, by kernel_rfl, by kernel_rfl, by kernel_rfl⟩
end Go.Proofs.Ytijigploahapfaa
