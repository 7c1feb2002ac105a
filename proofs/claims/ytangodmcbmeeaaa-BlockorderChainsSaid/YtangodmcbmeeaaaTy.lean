/- The facts on the types (printed by tyfacts.py). -/
import Derived.Test.YtangodmcbmeeaaaPvX
import Derived.Test.YtangodmcbmeeaaaProg
import Derived.KernelRfl
set_option maxRecDepth 100000
namespace Go.Proofs.Ytangodmcbmeeaaa
open Go.PV
theorem tyU : (Try.prog.underlying 2 = some (.int .i64)) ∧
  (Try.prog.underlying 3 = some (.int .i64)) ∧
  (Try.prog.underlying 4 = some (.bool)) ∧
  (Try.prog.underlying 5 = some (.int .u8)) ∧
  (Try.prog.underlying 9 = some (.string)) ∧
  (Try.prog.underlying 12 = some (.int .u64)) ∧
  (Try.prog.underlying 13 = some (.struct #[{ name := "msg", type := 9, offset := 0, embedded := false, tag := "", pkgPath := "runtime", byteOffset := 0 }, { name := "addr", type := 12, offset := 1, embedded := false, tag := "", pkgPath := "runtime", byteOffset := 16 }])) ∧
  (Try.prog.underlying 21 = some (.int .i32)) ∧
  (Try.prog.underlying 22 = some (.slice 5)) ∧
  (Try.prog.underlying 24 = some (.pointer 81)) ∧
  (Try.prog.underlying 26 = some (.slice 47)) ∧
  (Try.prog.underlying 27 = some (.struct #[{ name := "Name", type := 9, offset := 0, embedded := false, tag := "", pkgPath := "", byteOffset := 0 }, { name := "Params", type := 3, offset := 1, embedded := false, tag := "", pkgPath := "", byteOffset := 16 }, { name := "Regs", type := 3, offset := 2, embedded := false, tag := "", pkgPath := "", byteOffset := 24 }, { name := "Blocks", type := 26, offset := 3, embedded := false, tag := "", pkgPath := "", byteOffset := 32 }])) ∧
  (Try.prog.underlying 28 = some (.struct #[{ name := "Name", type := 9, offset := 0, embedded := false, tag := "", pkgPath := "", byteOffset := 0 }, { name := "Params", type := 3, offset := 1, embedded := false, tag := "", pkgPath := "", byteOffset := 16 }, { name := "Regs", type := 3, offset := 2, embedded := false, tag := "", pkgPath := "", byteOffset := 24 }, { name := "Blocks", type := 26, offset := 3, embedded := false, tag := "", pkgPath := "", byteOffset := 32 }])) ∧
  (Try.prog.underlying 29 = some (.slice 3)) ∧
  (Try.prog.underlying 30 = some (.slice 48)) ∧
  (Try.prog.underlying 31 = some (.slice 265)) ∧
  (Try.prog.underlying 32 = some (.struct #[{ name := "Entries", type := 3, offset := 0, embedded := false, tag := "", pkgPath := "", byteOffset := 0 }, { name := "Blocks", type := 29, offset := 1, embedded := false, tag := "", pkgPath := "", byteOffset := 8 }, { name := "Edges", type := 30, offset := 2, embedded := false, tag := "", pkgPath := "", byteOffset := 32 }, { name := "Sites", type := 31, offset := 3, embedded := false, tag := "", pkgPath := "", byteOffset := 56 }])) ∧
  (Try.prog.underlying 33 = some (.struct #[{ name := "Entries", type := 3, offset := 0, embedded := false, tag := "", pkgPath := "", byteOffset := 0 }, { name := "Blocks", type := 29, offset := 1, embedded := false, tag := "", pkgPath := "", byteOffset := 8 }, { name := "Edges", type := 30, offset := 2, embedded := false, tag := "", pkgPath := "", byteOffset := 32 }, { name := "Sites", type := 31, offset := 3, embedded := false, tag := "", pkgPath := "", byteOffset := 56 }])) ∧
  (Try.prog.underlying 36 = some (.int .i64)) ∧
  (Try.prog.underlying 41 = some (.slice 74)) ∧
  (Try.prog.underlying 42 = some (.struct #[{ name := "Kind", type := 3, offset := 0, embedded := false, tag := "", pkgPath := "", byteOffset := 0 }, { name := "A", type := 3, offset := 1, embedded := false, tag := "", pkgPath := "", byteOffset := 8 }, { name := "To", type := 3, offset := 2, embedded := false, tag := "", pkgPath := "", byteOffset := 16 }, { name := "Else", type := 3, offset := 3, embedded := false, tag := "", pkgPath := "", byteOffset := 24 }])) ∧
  (Try.prog.underlying 43 = some (.struct #[{ name := "Kind", type := 3, offset := 0, embedded := false, tag := "", pkgPath := "", byteOffset := 0 }, { name := "A", type := 3, offset := 1, embedded := false, tag := "", pkgPath := "", byteOffset := 8 }, { name := "To", type := 3, offset := 2, embedded := false, tag := "", pkgPath := "", byteOffset := 16 }, { name := "Else", type := 3, offset := 3, embedded := false, tag := "", pkgPath := "", byteOffset := 24 }])) ∧
  (Try.prog.underlying 44 = some (.struct #[{ name := "Func", type := 3, offset := 0, embedded := false, tag := "", pkgPath := "", byteOffset := 0 }, { name := "Block", type := 3, offset := 1, embedded := false, tag := "", pkgPath := "", byteOffset := 8 }])) ∧
  (Try.prog.underlying 45 = some (.struct #[{ name := "Func", type := 3, offset := 0, embedded := false, tag := "", pkgPath := "", byteOffset := 0 }, { name := "Block", type := 3, offset := 1, embedded := false, tag := "", pkgPath := "", byteOffset := 8 }])) ∧
  (Try.prog.underlying 46 = some (.struct #[{ name := "Instrs", type := 41, offset := 0, embedded := false, tag := "", pkgPath := "", byteOffset := 0 }, { name := "Term", type := 43, offset := 1, embedded := false, tag := "", pkgPath := "", byteOffset := 24 }, { name := "Line", type := 3, offset := 5, embedded := false, tag := "", pkgPath := "", byteOffset := 56 }, { name := "Origin", type := 45, offset := 6, embedded := false, tag := "", pkgPath := "", byteOffset := 64 }])) ∧
  (Try.prog.underlying 47 = some (.struct #[{ name := "Instrs", type := 41, offset := 0, embedded := false, tag := "", pkgPath := "", byteOffset := 0 }, { name := "Term", type := 43, offset := 1, embedded := false, tag := "", pkgPath := "", byteOffset := 24 }, { name := "Line", type := 3, offset := 5, embedded := false, tag := "", pkgPath := "", byteOffset := 56 }, { name := "Origin", type := 45, offset := 6, embedded := false, tag := "", pkgPath := "", byteOffset := 64 }])) ∧
  (Try.prog.underlying 48 = some (.array 2 3)) ∧
  (Try.prog.underlying 51 = some (.slice 90)) ∧
  (Try.prog.underlying 52 = some (.slice 28)) ∧
  (Try.prog.underlying 53 = some (.struct #[{ name := "Globals", type := 51, offset := 0, embedded := false, tag := "", pkgPath := "", byteOffset := 0 }, { name := "Funcs", type := 52, offset := 1, embedded := false, tag := "", pkgPath := "", byteOffset := 24 }, { name := "Callable", type := 3, offset := 2, embedded := false, tag := "", pkgPath := "", byteOffset := 48 }, { name := "Counters", type := 3, offset := 3, embedded := false, tag := "", pkgPath := "", byteOffset := 56 }])) ∧
  (Try.prog.underlying 54 = some (.struct #[{ name := "Globals", type := 51, offset := 0, embedded := false, tag := "", pkgPath := "", byteOffset := 0 }, { name := "Funcs", type := 52, offset := 1, embedded := false, tag := "", pkgPath := "", byteOffset := 24 }, { name := "Callable", type := 3, offset := 2, embedded := false, tag := "", pkgPath := "", byteOffset := 48 }, { name := "Counters", type := 3, offset := 3, embedded := false, tag := "", pkgPath := "", byteOffset := 56 }])) ∧
  (Try.prog.underlying 58 = some (.slice 54)) ∧
  (Try.prog.underlying 59 = some (.int .u64)) ∧
  (Try.prog.underlying 62 = some (.slice 59)) ∧
  (Try.prog.underlying 63 = some (.slice 62)) ∧
  (Try.prog.underlying 64 = some (.struct #[{ name := "Name", type := 9, offset := 0, embedded := false, tag := "", pkgPath := "", byteOffset := 0 }, { name := "Print", type := 59, offset := 1, embedded := false, tag := "", pkgPath := "", byteOffset := 16 }, { name := "Blocks", type := 62, offset := 2, embedded := false, tag := "", pkgPath := "", byteOffset := 24 }, { name := "Rounds", type := 63, offset := 3, embedded := false, tag := "", pkgPath := "", byteOffset := 48 }, { name := "Next", type := 30, offset := 4, embedded := false, tag := "", pkgPath := "", byteOffset := 72 }])) ∧
  (Try.prog.underlying 65 = some (.struct #[{ name := "Name", type := 9, offset := 0, embedded := false, tag := "", pkgPath := "", byteOffset := 0 }, { name := "Print", type := 59, offset := 1, embedded := false, tag := "", pkgPath := "", byteOffset := 16 }, { name := "Blocks", type := 62, offset := 2, embedded := false, tag := "", pkgPath := "", byteOffset := 24 }, { name := "Rounds", type := 63, offset := 3, embedded := false, tag := "", pkgPath := "", byteOffset := 48 }, { name := "Next", type := 30, offset := 4, embedded := false, tag := "", pkgPath := "", byteOffset := 72 }])) ∧
  (Try.prog.underlying 66 = some (.slice 65)) ∧
  (Try.prog.underlying 71 = some (.pointer 47)) ∧
  (Try.prog.underlying 72 = some (.pointer 74)) ∧
  (Try.prog.underlying 73 = some (.struct #[{ name := "Kind", type := 3, offset := 0, embedded := false, tag := "", pkgPath := "", byteOffset := 0 }, { name := "Op", type := 3, offset := 1, embedded := false, tag := "", pkgPath := "", byteOffset := 8 }, { name := "Dst", type := 3, offset := 2, embedded := false, tag := "", pkgPath := "", byteOffset := 16 }, { name := "A", type := 3, offset := 3, embedded := false, tag := "", pkgPath := "", byteOffset := 24 }, { name := "B", type := 3, offset := 4, embedded := false, tag := "", pkgPath := "", byteOffset := 32 }, { name := "Value", type := 3, offset := 5, embedded := false, tag := "", pkgPath := "", byteOffset := 40 }, { name := "Args", type := 29, offset := 6, embedded := false, tag := "", pkgPath := "", byteOffset := 48 }])) ∧
  (Try.prog.underlying 74 = some (.struct #[{ name := "Kind", type := 3, offset := 0, embedded := false, tag := "", pkgPath := "", byteOffset := 0 }, { name := "Op", type := 3, offset := 1, embedded := false, tag := "", pkgPath := "", byteOffset := 8 }, { name := "Dst", type := 3, offset := 2, embedded := false, tag := "", pkgPath := "", byteOffset := 16 }, { name := "A", type := 3, offset := 3, embedded := false, tag := "", pkgPath := "", byteOffset := 24 }, { name := "B", type := 3, offset := 4, embedded := false, tag := "", pkgPath := "", byteOffset := 32 }, { name := "Value", type := 3, offset := 5, embedded := false, tag := "", pkgPath := "", byteOffset := 40 }, { name := "Args", type := 29, offset := 6, embedded := false, tag := "", pkgPath := "", byteOffset := 48 }])) ∧
  (Try.prog.underlying 77 = some (.int .u16)) ∧
  (Try.prog.underlying 80 = some (.struct #[{ name := "l", type := 22, offset := 0, embedded := false, tag := "", pkgPath := "warmpath/warmpathdraw", byteOffset := 0 }, { name := "at", type := 3, offset := 1, embedded := false, tag := "", pkgPath := "warmpath/warmpathdraw", byteOffset := 24 }])) ∧
  (Try.prog.underlying 81 = some (.struct #[{ name := "l", type := 22, offset := 0, embedded := false, tag := "", pkgPath := "warmpath/warmpathdraw", byteOffset := 0 }, { name := "at", type := 3, offset := 1, embedded := false, tag := "", pkgPath := "warmpath/warmpathdraw", byteOffset := 24 }])) ∧
  (Try.prog.underlying 84 = some (.slice 4)) ∧
  (Try.prog.underlying 85 = some (.slice 88)) ∧
  (Try.prog.underlying 87 = some (.struct #[{ name := "from", type := 3, offset := 0, embedded := false, tag := "", pkgPath := "warmpath/blockorder", byteOffset := 0 }, { name := "to", type := 3, offset := 1, embedded := false, tag := "", pkgPath := "warmpath/blockorder", byteOffset := 8 }, { name := "count", type := 3, offset := 2, embedded := false, tag := "", pkgPath := "warmpath/blockorder", byteOffset := 16 }])) ∧
  (Try.prog.underlying 88 = some (.struct #[{ name := "from", type := 3, offset := 0, embedded := false, tag := "", pkgPath := "warmpath/blockorder", byteOffset := 0 }, { name := "to", type := 3, offset := 1, embedded := false, tag := "", pkgPath := "warmpath/blockorder", byteOffset := 8 }, { name := "count", type := 3, offset := 2, embedded := false, tag := "", pkgPath := "warmpath/blockorder", byteOffset := 16 }])) ∧
  (Try.prog.underlying 89 = some (.struct #[{ name := "Name", type := 9, offset := 0, embedded := false, tag := "", pkgPath := "", byteOffset := 0 }, { name := "Size", type := 3, offset := 1, embedded := false, tag := "", pkgPath := "", byteOffset := 16 }])) ∧
  (Try.prog.underlying 90 = some (.struct #[{ name := "Name", type := 9, offset := 0, embedded := false, tag := "", pkgPath := "", byteOffset := 0 }, { name := "Size", type := 3, offset := 1, embedded := false, tag := "", pkgPath := "", byteOffset := 16 }])) ∧
  (Try.prog.underlying 91 = some (.pointer 28)) ∧
  (Try.prog.underlying 93 = some (.map 3 59)) ∧
  (Try.prog.underlying 94 = some (.map 3 59)) ∧
  (Try.prog.underlying 99 = some (.struct #[{ name := "list", type := 29, offset := 0, embedded := false, tag := "", pkgPath := "warmpath/warmpathref27", byteOffset := 0 }])) ∧
  (Try.prog.underlying 100 = some (.struct #[{ name := "list", type := 29, offset := 0, embedded := false, tag := "", pkgPath := "warmpath/warmpathref27", byteOffset := 0 }])) ∧
  (Try.prog.underlying 102 = some (.pointer 100)) ∧
  (Try.prog.underlying 111 = some (.slice 29)) ∧
  (Try.prog.underlying 123 = some (.slice 124)) ∧
  (Try.prog.underlying 124 = some (.array 9 3)) ∧
  (Try.prog.underlying 125 = some (.array 9 124)) ∧
  (Try.prog.underlying 126 = some (.struct #[{ name := "n", type := 3, offset := 0, embedded := false, tag := "", pkgPath := "warmpath/blockorder", byteOffset := 0 }, { name := "weight", type := 125, offset := 1, embedded := false, tag := "", pkgPath := "warmpath/blockorder", byteOffset := 8 }, { name := "best", type := 123, offset := 82, embedded := false, tag := "", pkgPath := "warmpath/blockorder", byteOffset := 656 }])) ∧
  (Try.prog.underlying 127 = some (.struct #[{ name := "n", type := 3, offset := 0, embedded := false, tag := "", pkgPath := "warmpath/blockorder", byteOffset := 0 }, { name := "weight", type := 125, offset := 1, embedded := false, tag := "", pkgPath := "warmpath/blockorder", byteOffset := 8 }, { name := "best", type := 123, offset := 82, embedded := false, tag := "", pkgPath := "warmpath/blockorder", byteOffset := 656 }])) ∧
  (Try.prog.underlying 149 = some (.pointer 127)) ∧
  (Try.prog.underlying 152 = some (.int .u64)) ∧
  (Try.prog.underlying 162 = some (.int .i64)) ∧
  (Try.prog.underlying 171 = some (.int .u32)) ∧
  (Try.prog.underlying 176 = some (.slice 191)) ∧
  (Try.prog.underlying 177 = some (.struct #[{ name := "Globals", type := 51, offset := 0, embedded := false, tag := "", pkgPath := "", byteOffset := 0 }, { name := "Funcs", type := 176, offset := 1, embedded := false, tag := "", pkgPath := "", byteOffset := 24 }])) ∧
  (Try.prog.underlying 178 = some (.struct #[{ name := "Globals", type := 51, offset := 0, embedded := false, tag := "", pkgPath := "", byteOffset := 0 }, { name := "Funcs", type := 176, offset := 1, embedded := false, tag := "", pkgPath := "", byteOffset := 24 }])) ∧
  (Try.prog.underlying 182 = some (.int .u64)) ∧
  (Try.prog.underlying 186 = some (.pointer 3)) ∧
  (Try.prog.underlying 188 = some (.slice 9)) ∧
  (Try.prog.underlying 189 = some (.slice 209)) ∧
  (Try.prog.underlying 190 = some (.struct #[{ name := "Name", type := 9, offset := 0, embedded := false, tag := "", pkgPath := "", byteOffset := 0 }, { name := "Line", type := 3, offset := 1, embedded := false, tag := "", pkgPath := "", byteOffset := 16 }, { name := "Params", type := 188, offset := 2, embedded := false, tag := "", pkgPath := "", byteOffset := 24 }, { name := "Body", type := 189, offset := 3, embedded := false, tag := "", pkgPath := "", byteOffset := 48 }])) ∧
  (Try.prog.underlying 191 = some (.struct #[{ name := "Name", type := 9, offset := 0, embedded := false, tag := "", pkgPath := "", byteOffset := 0 }, { name := "Line", type := 3, offset := 1, embedded := false, tag := "", pkgPath := "", byteOffset := 16 }, { name := "Params", type := 188, offset := 2, embedded := false, tag := "", pkgPath := "", byteOffset := 24 }, { name := "Body", type := 189, offset := 3, embedded := false, tag := "", pkgPath := "", byteOffset := 48 }])) ∧
  (Try.prog.underlying 192 = some (.pointer 195)) ∧
  (Try.prog.underlying 194 = some (.struct #[{ name := "p", type := 178, offset := 0, embedded := false, tag := "", pkgPath := "warmpath/warmpathref09", byteOffset := 0 }, { name := "locals", type := 188, offset := 2, embedded := false, tag := "", pkgPath := "warmpath/warmpathref09", byteOffset := 48 }, { name := "number", type := 3, offset := 3, embedded := false, tag := "", pkgPath := "warmpath/warmpathref09", byteOffset := 72 }, { name := "regs", type := 3, offset := 4, embedded := false, tag := "", pkgPath := "warmpath/warmpathref09", byteOffset := 80 }, { name := "blocks", type := 26, offset := 5, embedded := false, tag := "", pkgPath := "warmpath/warmpathref09", byteOffset := 88 }, { name := "at", type := 3, offset := 6, embedded := false, tag := "", pkgPath := "warmpath/warmpathref09", byteOffset := 112 }])) ∧
  (Try.prog.underlying 195 = some (.struct #[{ name := "p", type := 178, offset := 0, embedded := false, tag := "", pkgPath := "warmpath/warmpathref09", byteOffset := 0 }, { name := "locals", type := 188, offset := 2, embedded := false, tag := "", pkgPath := "warmpath/warmpathref09", byteOffset := 48 }, { name := "number", type := 3, offset := 3, embedded := false, tag := "", pkgPath := "warmpath/warmpathref09", byteOffset := 72 }, { name := "regs", type := 3, offset := 4, embedded := false, tag := "", pkgPath := "warmpath/warmpathref09", byteOffset := 80 }, { name := "blocks", type := 26, offset := 5, embedded := false, tag := "", pkgPath := "warmpath/warmpathref09", byteOffset := 88 }, { name := "at", type := 3, offset := 6, embedded := false, tag := "", pkgPath := "warmpath/warmpathref09", byteOffset := 112 }])) ∧
  (Try.prog.underlying 202 = some (.pointer 182)) ∧
  (Try.prog.underlying 207 = some (.slice 225)) ∧
  (Try.prog.underlying 208 = some (.struct #[{ name := "Kind", type := 3, offset := 0, embedded := false, tag := "", pkgPath := "", byteOffset := 0 }, { name := "Line", type := 3, offset := 1, embedded := false, tag := "", pkgPath := "", byteOffset := 8 }, { name := "Name", type := 9, offset := 2, embedded := false, tag := "", pkgPath := "", byteOffset := 16 }, { name := "Exprs", type := 207, offset := 3, embedded := false, tag := "", pkgPath := "", byteOffset := 32 }, { name := "Then", type := 189, offset := 4, embedded := false, tag := "", pkgPath := "", byteOffset := 56 }, { name := "Else", type := 189, offset := 5, embedded := false, tag := "", pkgPath := "", byteOffset := 80 }])) ∧
  (Try.prog.underlying 209 = some (.struct #[{ name := "Kind", type := 3, offset := 0, embedded := false, tag := "", pkgPath := "", byteOffset := 0 }, { name := "Line", type := 3, offset := 1, embedded := false, tag := "", pkgPath := "", byteOffset := 8 }, { name := "Name", type := 9, offset := 2, embedded := false, tag := "", pkgPath := "", byteOffset := 16 }, { name := "Exprs", type := 207, offset := 3, embedded := false, tag := "", pkgPath := "", byteOffset := 32 }, { name := "Then", type := 189, offset := 4, embedded := false, tag := "", pkgPath := "", byteOffset := 56 }, { name := "Else", type := 189, offset := 5, embedded := false, tag := "", pkgPath := "", byteOffset := 80 }])) ∧
  (Try.prog.underlying 214 = some (.pointer 216)) ∧
  (Try.prog.underlying 215 = some (.struct #[{ name := "p", type := 178, offset := 0, embedded := false, tag := "", pkgPath := "warmpath/warmpathref06", byteOffset := 0 }, { name := "locals", type := 188, offset := 2, embedded := false, tag := "", pkgPath := "warmpath/warmpathref06", byteOffset := 48 }, { name := "line", type := 3, offset := 3, embedded := false, tag := "", pkgPath := "warmpath/warmpathref06", byteOffset := 72 }, { name := "e", type := 36, offset := 4, embedded := false, tag := "", pkgPath := "warmpath/warmpathref06", byteOffset := 80 }])) ∧
  (Try.prog.underlying 216 = some (.struct #[{ name := "p", type := 178, offset := 0, embedded := false, tag := "", pkgPath := "warmpath/warmpathref06", byteOffset := 0 }, { name := "locals", type := 188, offset := 2, embedded := false, tag := "", pkgPath := "warmpath/warmpathref06", byteOffset := 48 }, { name := "line", type := 3, offset := 3, embedded := false, tag := "", pkgPath := "warmpath/warmpathref06", byteOffset := 72 }, { name := "e", type := 36, offset := 4, embedded := false, tag := "", pkgPath := "warmpath/warmpathref06", byteOffset := 80 }])) ∧
  (Try.prog.underlying 218 = some (.pointer 220)) ∧
  (Try.prog.underlying 219 = some (.struct #[{ name := "c", type := 24, offset := 0, embedded := false, tag := "", pkgPath := "warmpath/warmpathdraw", byteOffset := 0 }, { name := "p", type := 178, offset := 1, embedded := false, tag := "", pkgPath := "warmpath/warmpathdraw", byteOffset := 8 }, { name := "locals", type := 188, offset := 3, embedded := false, tag := "", pkgPath := "warmpath/warmpathdraw", byteOffset := 56 }, { name := "budget", type := 3, offset := 4, embedded := false, tag := "", pkgPath := "warmpath/warmpathdraw", byteOffset := 80 }])) ∧
  (Try.prog.underlying 220 = some (.struct #[{ name := "c", type := 24, offset := 0, embedded := false, tag := "", pkgPath := "warmpath/warmpathdraw", byteOffset := 0 }, { name := "p", type := 178, offset := 1, embedded := false, tag := "", pkgPath := "warmpath/warmpathdraw", byteOffset := 8 }, { name := "locals", type := 188, offset := 3, embedded := false, tag := "", pkgPath := "warmpath/warmpathdraw", byteOffset := 56 }, { name := "budget", type := 3, offset := 4, embedded := false, tag := "", pkgPath := "warmpath/warmpathdraw", byteOffset := 80 }])) ∧
  (Try.prog.underlying 224 = some (.struct #[{ name := "Kind", type := 3, offset := 0, embedded := false, tag := "", pkgPath := "", byteOffset := 0 }, { name := "Op", type := 3, offset := 1, embedded := false, tag := "", pkgPath := "", byteOffset := 8 }, { name := "Value", type := 3, offset := 2, embedded := false, tag := "", pkgPath := "", byteOffset := 16 }, { name := "Line", type := 3, offset := 3, embedded := false, tag := "", pkgPath := "", byteOffset := 24 }, { name := "Name", type := 9, offset := 4, embedded := false, tag := "", pkgPath := "", byteOffset := 32 }, { name := "Args", type := 207, offset := 5, embedded := false, tag := "", pkgPath := "", byteOffset := 48 }])) ∧
  (Try.prog.underlying 225 = some (.struct #[{ name := "Kind", type := 3, offset := 0, embedded := false, tag := "", pkgPath := "", byteOffset := 0 }, { name := "Op", type := 3, offset := 1, embedded := false, tag := "", pkgPath := "", byteOffset := 8 }, { name := "Value", type := 3, offset := 2, embedded := false, tag := "", pkgPath := "", byteOffset := 16 }, { name := "Line", type := 3, offset := 3, embedded := false, tag := "", pkgPath := "", byteOffset := 24 }, { name := "Name", type := 9, offset := 4, embedded := false, tag := "", pkgPath := "", byteOffset := 32 }, { name := "Args", type := 207, offset := 5, embedded := false, tag := "", pkgPath := "", byteOffset := 48 }])) ∧
  (Try.prog.underlying 258 = some (.pointer 5)) ∧
  (Try.prog.underlying 263 = some (.slice 268)) ∧
  (Try.prog.underlying 264 = some (.struct #[{ name := "Block", type := 3, offset := 0, embedded := false, tag := "", pkgPath := "", byteOffset := 0 }, { name := "Instr", type := 3, offset := 1, embedded := false, tag := "", pkgPath := "", byteOffset := 8 }, { name := "Targets", type := 263, offset := 2, embedded := false, tag := "", pkgPath := "", byteOffset := 16 }])) ∧
  (Try.prog.underlying 265 = some (.struct #[{ name := "Block", type := 3, offset := 0, embedded := false, tag := "", pkgPath := "", byteOffset := 0 }, { name := "Instr", type := 3, offset := 1, embedded := false, tag := "", pkgPath := "", byteOffset := 8 }, { name := "Targets", type := 263, offset := 2, embedded := false, tag := "", pkgPath := "", byteOffset := 16 }])) ∧
  (Try.prog.underlying 267 = some (.struct #[{ name := "Func", type := 3, offset := 0, embedded := false, tag := "", pkgPath := "", byteOffset := 0 }, { name := "Count", type := 3, offset := 1, embedded := false, tag := "", pkgPath := "", byteOffset := 8 }])) ∧
  (Try.prog.underlying 268 = some (.struct #[{ name := "Func", type := 3, offset := 0, embedded := false, tag := "", pkgPath := "", byteOffset := 0 }, { name := "Count", type := 3, offset := 1, embedded := false, tag := "", pkgPath := "", byteOffset := 8 }])) :=
  ⟨by kernel_rfl, by kernel_rfl, by kernel_rfl, by kernel_rfl, by kernel_rfl, by kernel_rfl, by kernel_rfl, by kernel_rfl, by kernel_rfl, by kernel_rfl, by kernel_rfl, by kernel_rfl, by kernel_rfl, by kernel_rfl, by kernel_rfl, by kernel_rfl, by kernel_rfl, by kernel_rfl, by kernel_rfl, by kernel_rfl, by kernel_rfl, by kernel_rfl, by kernel_rfl, by kernel_rfl, by kernel_rfl, by kernel_rfl, by kernel_rfl, by kernel_rfl, by kernel_rfl, by kernel_rfl, by kernel_rfl, by kernel_rfl, by kernel_rfl, by kernel_rfl, by kernel_rfl, by kernel_rfl, by kernel_rfl, by kernel_rfl, by kernel_rfl, by kernel_rfl, by kernel_rfl, by kernel_rfl, by kernel_rfl, by kernel_rfl, by kernel_rfl, by kernel_rfl, by kernel_rfl, by kernel_rfl, by kernel_rfl, by kernel_rfl, by kernel_rfl, by kernel_rfl, by kernel_rfl, by kernel_rfl, by kernel_rfl, by kernel_rfl, by kernel_rfl, by kernel_rfl, by kernel_rfl, by kernel_rfl, by kernel_rfl, by kernel_rfl, by kernel_rfl, by kernel_rfl, by kernel_rfl, by kernel_rfl, by kernel_rfl, by kernel_rfl, by kernel_rfl, by kernel_rfl, by kernel_rfl, by kernel_rfl, by kernel_rfl, by kernel_rfl, by kernel_rfl, by kernel_rfl, by kernel_rfl, by kernel_rfl, by kernel_rfl, by kernel_rfl, by kernel_rfl, by kernel_rfl, by kernel_rfl, by kernel_rfl, by kernel_rfl, by kernel_rfl, by kernel_rfl, by kernel_rfl, by kernel_rfl, by kernel_rfl, by kernel_rfl, by kernel_rfl, by kernel_rfl, by kernel_rfl, by kernel_rfl, by kernel_rfl, by kernel_rfl⟩
theorem tyC : (Try.prog.cellsOf 2 = 1) ∧
  (Try.prog.cellsOf 3 = 1) ∧
  (Try.prog.cellsOf 4 = 1) ∧
  (Try.prog.cellsOf 5 = 1) ∧
  (Try.prog.cellsOf 9 = 1) ∧
  (Try.prog.cellsOf 12 = 1) ∧
  (Try.prog.cellsOf 13 = 2) ∧
  (Try.prog.cellsOf 21 = 1) ∧
  (Try.prog.cellsOf 22 = 1) ∧
  (Try.prog.cellsOf 24 = 1) ∧
  (Try.prog.cellsOf 26 = 1) ∧
  (Try.prog.cellsOf 27 = 4) ∧
  (Try.prog.cellsOf 28 = 4) ∧
  (Try.prog.cellsOf 29 = 1) ∧
  (Try.prog.cellsOf 30 = 1) ∧
  (Try.prog.cellsOf 31 = 1) ∧
  (Try.prog.cellsOf 32 = 4) ∧
  (Try.prog.cellsOf 33 = 4) ∧
  (Try.prog.cellsOf 36 = 1) ∧
  (Try.prog.cellsOf 41 = 1) ∧
  (Try.prog.cellsOf 42 = 4) ∧
  (Try.prog.cellsOf 43 = 4) ∧
  (Try.prog.cellsOf 44 = 2) ∧
  (Try.prog.cellsOf 45 = 2) ∧
  (Try.prog.cellsOf 46 = 8) ∧
  (Try.prog.cellsOf 47 = 8) ∧
  (Try.prog.cellsOf 48 = 2) ∧
  (Try.prog.cellsOf 51 = 1) ∧
  (Try.prog.cellsOf 52 = 1) ∧
  (Try.prog.cellsOf 53 = 4) ∧
  (Try.prog.cellsOf 54 = 4) ∧
  (Try.prog.cellsOf 58 = 1) ∧
  (Try.prog.cellsOf 59 = 1) ∧
  (Try.prog.cellsOf 62 = 1) ∧
  (Try.prog.cellsOf 63 = 1) ∧
  (Try.prog.cellsOf 64 = 5) ∧
  (Try.prog.cellsOf 65 = 5) ∧
  (Try.prog.cellsOf 66 = 1) ∧
  (Try.prog.cellsOf 71 = 1) ∧
  (Try.prog.cellsOf 72 = 1) ∧
  (Try.prog.cellsOf 73 = 7) ∧
  (Try.prog.cellsOf 74 = 7) ∧
  (Try.prog.cellsOf 77 = 1) ∧
  (Try.prog.cellsOf 80 = 2) ∧
  (Try.prog.cellsOf 81 = 2) ∧
  (Try.prog.cellsOf 84 = 1) ∧
  (Try.prog.cellsOf 85 = 1) ∧
  (Try.prog.cellsOf 87 = 3) ∧
  (Try.prog.cellsOf 88 = 3) ∧
  (Try.prog.cellsOf 89 = 2) ∧
  (Try.prog.cellsOf 90 = 2) ∧
  (Try.prog.cellsOf 91 = 1) ∧
  (Try.prog.cellsOf 93 = 1) ∧
  (Try.prog.cellsOf 94 = 1) ∧
  (Try.prog.cellsOf 99 = 1) ∧
  (Try.prog.cellsOf 100 = 1) ∧
  (Try.prog.cellsOf 102 = 1) ∧
  (Try.prog.cellsOf 111 = 1) ∧
  (Try.prog.cellsOf 123 = 1) ∧
  (Try.prog.cellsOf 124 = 9) ∧
  (Try.prog.cellsOf 125 = 81) ∧
  (Try.prog.cellsOf 126 = 83) ∧
  (Try.prog.cellsOf 127 = 83) ∧
  (Try.prog.cellsOf 149 = 1) ∧
  (Try.prog.cellsOf 152 = 1) ∧
  (Try.prog.cellsOf 162 = 1) ∧
  (Try.prog.cellsOf 171 = 1) ∧
  (Try.prog.cellsOf 176 = 1) ∧
  (Try.prog.cellsOf 177 = 2) ∧
  (Try.prog.cellsOf 178 = 2) ∧
  (Try.prog.cellsOf 182 = 1) ∧
  (Try.prog.cellsOf 186 = 1) ∧
  (Try.prog.cellsOf 188 = 1) ∧
  (Try.prog.cellsOf 189 = 1) ∧
  (Try.prog.cellsOf 190 = 4) ∧
  (Try.prog.cellsOf 191 = 4) ∧
  (Try.prog.cellsOf 192 = 1) ∧
  (Try.prog.cellsOf 194 = 7) ∧
  (Try.prog.cellsOf 195 = 7) ∧
  (Try.prog.cellsOf 202 = 1) ∧
  (Try.prog.cellsOf 207 = 1) ∧
  (Try.prog.cellsOf 208 = 6) ∧
  (Try.prog.cellsOf 209 = 6) ∧
  (Try.prog.cellsOf 214 = 1) ∧
  (Try.prog.cellsOf 215 = 5) ∧
  (Try.prog.cellsOf 216 = 5) ∧
  (Try.prog.cellsOf 218 = 1) ∧
  (Try.prog.cellsOf 219 = 5) ∧
  (Try.prog.cellsOf 220 = 5) ∧
  (Try.prog.cellsOf 224 = 6) ∧
  (Try.prog.cellsOf 225 = 6) ∧
  (Try.prog.cellsOf 258 = 1) ∧
  (Try.prog.cellsOf 263 = 1) ∧
  (Try.prog.cellsOf 264 = 3) ∧
  (Try.prog.cellsOf 265 = 3) ∧
  (Try.prog.cellsOf 267 = 2) ∧
  (Try.prog.cellsOf 268 = 2) :=
  ⟨by kernel_rfl, by kernel_rfl, by kernel_rfl, by kernel_rfl, by kernel_rfl, by kernel_rfl, by kernel_rfl, by kernel_rfl, by kernel_rfl, by kernel_rfl, by kernel_rfl, by kernel_rfl, by kernel_rfl, by kernel_rfl, by kernel_rfl, by kernel_rfl, by kernel_rfl, by kernel_rfl, by kernel_rfl, by kernel_rfl, by kernel_rfl, by kernel_rfl, by kernel_rfl, by kernel_rfl, by kernel_rfl, by kernel_rfl, by kernel_rfl, by kernel_rfl, by kernel_rfl, by kernel_rfl, by kernel_rfl, by kernel_rfl, by kernel_rfl, by kernel_rfl, by kernel_rfl, by kernel_rfl, by kernel_rfl, by kernel_rfl, by kernel_rfl, by kernel_rfl, by kernel_rfl, by kernel_rfl, by kernel_rfl, by kernel_rfl, by kernel_rfl, by kernel_rfl, by kernel_rfl, by kernel_rfl, by kernel_rfl, by kernel_rfl, by kernel_rfl, by kernel_rfl, by kernel_rfl, by kernel_rfl, by kernel_rfl, by kernel_rfl, by kernel_rfl, by kernel_rfl, by kernel_rfl, by kernel_rfl, by kernel_rfl, by kernel_rfl, by kernel_rfl, by kernel_rfl, by kernel_rfl, by kernel_rfl, by kernel_rfl, by kernel_rfl, by kernel_rfl, by kernel_rfl, by kernel_rfl, by kernel_rfl, by kernel_rfl, by kernel_rfl, by kernel_rfl, by kernel_rfl, by kernel_rfl, by kernel_rfl, by kernel_rfl, by kernel_rfl, by kernel_rfl, by kernel_rfl, by kernel_rfl, by kernel_rfl, by kernel_rfl, by kernel_rfl, by kernel_rfl, by kernel_rfl, by kernel_rfl, by kernel_rfl, by kernel_rfl, by kernel_rfl, by kernel_rfl, by kernel_rfl, by kernel_rfl, by kernel_rfl, by kernel_rfl⟩
theorem tyB : (Try.prog.bytesOf 2 = 8) ∧
  (Try.prog.bytesOf 3 = 8) ∧
  (Try.prog.bytesOf 4 = 1) ∧
  (Try.prog.bytesOf 5 = 1) ∧
  (Try.prog.bytesOf 9 = 16) ∧
  (Try.prog.bytesOf 12 = 8) ∧
  (Try.prog.bytesOf 13 = 24) ∧
  (Try.prog.bytesOf 21 = 4) ∧
  (Try.prog.bytesOf 22 = 24) ∧
  (Try.prog.bytesOf 24 = 8) ∧
  (Try.prog.bytesOf 26 = 24) ∧
  (Try.prog.bytesOf 27 = 56) ∧
  (Try.prog.bytesOf 28 = 56) ∧
  (Try.prog.bytesOf 29 = 24) ∧
  (Try.prog.bytesOf 30 = 24) ∧
  (Try.prog.bytesOf 31 = 24) ∧
  (Try.prog.bytesOf 32 = 80) ∧
  (Try.prog.bytesOf 33 = 80) ∧
  (Try.prog.bytesOf 36 = 8) ∧
  (Try.prog.bytesOf 41 = 24) ∧
  (Try.prog.bytesOf 42 = 32) ∧
  (Try.prog.bytesOf 43 = 32) ∧
  (Try.prog.bytesOf 44 = 16) ∧
  (Try.prog.bytesOf 45 = 16) ∧
  (Try.prog.bytesOf 46 = 80) ∧
  (Try.prog.bytesOf 47 = 80) ∧
  (Try.prog.bytesOf 48 = 16) ∧
  (Try.prog.bytesOf 51 = 24) ∧
  (Try.prog.bytesOf 52 = 24) ∧
  (Try.prog.bytesOf 53 = 64) ∧
  (Try.prog.bytesOf 54 = 64) ∧
  (Try.prog.bytesOf 58 = 24) ∧
  (Try.prog.bytesOf 59 = 8) ∧
  (Try.prog.bytesOf 62 = 24) ∧
  (Try.prog.bytesOf 63 = 24) ∧
  (Try.prog.bytesOf 64 = 96) ∧
  (Try.prog.bytesOf 65 = 96) ∧
  (Try.prog.bytesOf 66 = 24) ∧
  (Try.prog.bytesOf 71 = 8) ∧
  (Try.prog.bytesOf 72 = 8) ∧
  (Try.prog.bytesOf 73 = 72) ∧
  (Try.prog.bytesOf 74 = 72) ∧
  (Try.prog.bytesOf 77 = 2) ∧
  (Try.prog.bytesOf 80 = 32) ∧
  (Try.prog.bytesOf 81 = 32) ∧
  (Try.prog.bytesOf 84 = 24) ∧
  (Try.prog.bytesOf 85 = 24) ∧
  (Try.prog.bytesOf 87 = 24) ∧
  (Try.prog.bytesOf 88 = 24) ∧
  (Try.prog.bytesOf 89 = 24) ∧
  (Try.prog.bytesOf 90 = 24) ∧
  (Try.prog.bytesOf 91 = 8) ∧
  (Try.prog.bytesOf 93 = 8) ∧
  (Try.prog.bytesOf 94 = 8) ∧
  (Try.prog.bytesOf 99 = 24) ∧
  (Try.prog.bytesOf 100 = 24) ∧
  (Try.prog.bytesOf 102 = 8) ∧
  (Try.prog.bytesOf 111 = 24) ∧
  (Try.prog.bytesOf 123 = 24) ∧
  (Try.prog.bytesOf 124 = 72) ∧
  (Try.prog.bytesOf 125 = 648) ∧
  (Try.prog.bytesOf 126 = 680) ∧
  (Try.prog.bytesOf 127 = 680) ∧
  (Try.prog.bytesOf 149 = 8) ∧
  (Try.prog.bytesOf 152 = 8) ∧
  (Try.prog.bytesOf 162 = 8) ∧
  (Try.prog.bytesOf 171 = 4) ∧
  (Try.prog.bytesOf 176 = 24) ∧
  (Try.prog.bytesOf 177 = 48) ∧
  (Try.prog.bytesOf 178 = 48) ∧
  (Try.prog.bytesOf 182 = 8) ∧
  (Try.prog.bytesOf 186 = 8) ∧
  (Try.prog.bytesOf 188 = 24) ∧
  (Try.prog.bytesOf 189 = 24) ∧
  (Try.prog.bytesOf 190 = 72) ∧
  (Try.prog.bytesOf 191 = 72) ∧
  (Try.prog.bytesOf 192 = 8) ∧
  (Try.prog.bytesOf 194 = 120) ∧
  (Try.prog.bytesOf 195 = 120) ∧
  (Try.prog.bytesOf 202 = 8) ∧
  (Try.prog.bytesOf 207 = 24) ∧
  (Try.prog.bytesOf 208 = 104) ∧
  (Try.prog.bytesOf 209 = 104) ∧
  (Try.prog.bytesOf 214 = 8) ∧
  (Try.prog.bytesOf 215 = 88) ∧
  (Try.prog.bytesOf 216 = 88) ∧
  (Try.prog.bytesOf 218 = 8) ∧
  (Try.prog.bytesOf 219 = 88) ∧
  (Try.prog.bytesOf 220 = 88) ∧
  (Try.prog.bytesOf 224 = 72) ∧
  (Try.prog.bytesOf 225 = 72) ∧
  (Try.prog.bytesOf 258 = 8) ∧
  (Try.prog.bytesOf 263 = 24) ∧
  (Try.prog.bytesOf 264 = 40) ∧
  (Try.prog.bytesOf 265 = 40) ∧
  (Try.prog.bytesOf 267 = 16) ∧
  (Try.prog.bytesOf 268 = 16) :=
  ⟨by kernel_rfl, by kernel_rfl, by kernel_rfl, by kernel_rfl, by kernel_rfl, by kernel_rfl, by kernel_rfl, by kernel_rfl, by kernel_rfl, by kernel_rfl, by kernel_rfl, by kernel_rfl, by kernel_rfl, by kernel_rfl, by kernel_rfl, by kernel_rfl, by kernel_rfl, by kernel_rfl, by kernel_rfl, by kernel_rfl, by kernel_rfl, by kernel_rfl, by kernel_rfl, by kernel_rfl, by kernel_rfl, by kernel_rfl, by kernel_rfl, by kernel_rfl, by kernel_rfl, by kernel_rfl, by kernel_rfl, by kernel_rfl, by kernel_rfl, by kernel_rfl, by kernel_rfl, by kernel_rfl, by kernel_rfl, by kernel_rfl, by kernel_rfl, by kernel_rfl, by kernel_rfl, by kernel_rfl, by kernel_rfl, by kernel_rfl, by kernel_rfl, by kernel_rfl, by kernel_rfl, by kernel_rfl, by kernel_rfl, by kernel_rfl, by kernel_rfl, by kernel_rfl, by kernel_rfl, by kernel_rfl, by kernel_rfl, by kernel_rfl, by kernel_rfl, by kernel_rfl, by kernel_rfl, by kernel_rfl, by kernel_rfl, by kernel_rfl, by kernel_rfl, by kernel_rfl, by kernel_rfl, by kernel_rfl, by kernel_rfl, by kernel_rfl, by kernel_rfl, by kernel_rfl, by kernel_rfl, by kernel_rfl, by kernel_rfl, by kernel_rfl, by kernel_rfl, by kernel_rfl, by kernel_rfl, by kernel_rfl, by kernel_rfl, by kernel_rfl, by kernel_rfl, by kernel_rfl, by kernel_rfl, by kernel_rfl, by kernel_rfl, by kernel_rfl, by kernel_rfl, by kernel_rfl, by kernel_rfl, by kernel_rfl, by kernel_rfl, by kernel_rfl, by kernel_rfl, by kernel_rfl, by kernel_rfl, by kernel_rfl, by kernel_rfl⟩
theorem tyA : (aggT Try.prog 2 = false) ∧
  (aggT Try.prog 3 = false) ∧
  (aggT Try.prog 4 = false) ∧
  (aggT Try.prog 5 = false) ∧
  (aggT Try.prog 9 = false) ∧
  (aggT Try.prog 12 = false) ∧
  (aggT Try.prog 13 = true) ∧
  (aggT Try.prog 21 = false) ∧
  (aggT Try.prog 22 = false) ∧
  (aggT Try.prog 24 = false) ∧
  (aggT Try.prog 26 = false) ∧
  (aggT Try.prog 27 = true) ∧
  (aggT Try.prog 28 = true) ∧
  (aggT Try.prog 29 = false) ∧
  (aggT Try.prog 30 = false) ∧
  (aggT Try.prog 31 = false) ∧
  (aggT Try.prog 32 = true) ∧
  (aggT Try.prog 33 = true) ∧
  (aggT Try.prog 36 = false) ∧
  (aggT Try.prog 41 = false) ∧
  (aggT Try.prog 42 = true) ∧
  (aggT Try.prog 43 = true) ∧
  (aggT Try.prog 44 = true) ∧
  (aggT Try.prog 45 = true) ∧
  (aggT Try.prog 46 = true) ∧
  (aggT Try.prog 47 = true) ∧
  (aggT Try.prog 48 = true) ∧
  (aggT Try.prog 51 = false) ∧
  (aggT Try.prog 52 = false) ∧
  (aggT Try.prog 53 = true) ∧
  (aggT Try.prog 54 = true) ∧
  (aggT Try.prog 58 = false) ∧
  (aggT Try.prog 59 = false) ∧
  (aggT Try.prog 62 = false) ∧
  (aggT Try.prog 63 = false) ∧
  (aggT Try.prog 64 = true) ∧
  (aggT Try.prog 65 = true) ∧
  (aggT Try.prog 66 = false) ∧
  (aggT Try.prog 71 = false) ∧
  (aggT Try.prog 72 = false) ∧
  (aggT Try.prog 73 = true) ∧
  (aggT Try.prog 74 = true) ∧
  (aggT Try.prog 77 = false) ∧
  (aggT Try.prog 80 = true) ∧
  (aggT Try.prog 81 = true) ∧
  (aggT Try.prog 84 = false) ∧
  (aggT Try.prog 85 = false) ∧
  (aggT Try.prog 87 = true) ∧
  (aggT Try.prog 88 = true) ∧
  (aggT Try.prog 89 = true) ∧
  (aggT Try.prog 90 = true) ∧
  (aggT Try.prog 91 = false) ∧
  (aggT Try.prog 93 = false) ∧
  (aggT Try.prog 94 = false) ∧
  (aggT Try.prog 99 = true) ∧
  (aggT Try.prog 100 = true) ∧
  (aggT Try.prog 102 = false) ∧
  (aggT Try.prog 111 = false) ∧
  (aggT Try.prog 123 = false) ∧
  (aggT Try.prog 124 = true) ∧
  (aggT Try.prog 125 = true) ∧
  (aggT Try.prog 126 = true) ∧
  (aggT Try.prog 127 = true) ∧
  (aggT Try.prog 149 = false) ∧
  (aggT Try.prog 152 = false) ∧
  (aggT Try.prog 162 = false) ∧
  (aggT Try.prog 171 = false) ∧
  (aggT Try.prog 176 = false) ∧
  (aggT Try.prog 177 = true) ∧
  (aggT Try.prog 178 = true) ∧
  (aggT Try.prog 182 = false) ∧
  (aggT Try.prog 186 = false) ∧
  (aggT Try.prog 188 = false) ∧
  (aggT Try.prog 189 = false) ∧
  (aggT Try.prog 190 = true) ∧
  (aggT Try.prog 191 = true) ∧
  (aggT Try.prog 192 = false) ∧
  (aggT Try.prog 194 = true) ∧
  (aggT Try.prog 195 = true) ∧
  (aggT Try.prog 202 = false) ∧
  (aggT Try.prog 207 = false) ∧
  (aggT Try.prog 208 = true) ∧
  (aggT Try.prog 209 = true) ∧
  (aggT Try.prog 214 = false) ∧
  (aggT Try.prog 215 = true) ∧
  (aggT Try.prog 216 = true) ∧
  (aggT Try.prog 218 = false) ∧
  (aggT Try.prog 219 = true) ∧
  (aggT Try.prog 220 = true) ∧
  (aggT Try.prog 224 = true) ∧
  (aggT Try.prog 225 = true) ∧
  (aggT Try.prog 258 = false) ∧
  (aggT Try.prog 263 = false) ∧
  (aggT Try.prog 264 = true) ∧
  (aggT Try.prog 265 = true) ∧
  (aggT Try.prog 267 = true) ∧
  (aggT Try.prog 268 = true) :=
  ⟨by kernel_rfl, by kernel_rfl, by kernel_rfl, by kernel_rfl, by kernel_rfl, by kernel_rfl, by kernel_rfl, by kernel_rfl, by kernel_rfl, by kernel_rfl, by kernel_rfl, by kernel_rfl, by kernel_rfl, by kernel_rfl, by kernel_rfl, by kernel_rfl, by kernel_rfl, by kernel_rfl, by kernel_rfl, by kernel_rfl, by kernel_rfl, by kernel_rfl, by kernel_rfl, by kernel_rfl, by kernel_rfl, by kernel_rfl, by kernel_rfl, by kernel_rfl, by kernel_rfl, by kernel_rfl, by kernel_rfl, by kernel_rfl, by kernel_rfl, by kernel_rfl, by kernel_rfl, by kernel_rfl, by kernel_rfl, by kernel_rfl, by kernel_rfl, by kernel_rfl, by kernel_rfl, by kernel_rfl, by kernel_rfl, by kernel_rfl, by kernel_rfl, by kernel_rfl, by kernel_rfl, by kernel_rfl, by kernel_rfl, by kernel_rfl, by kernel_rfl, by kernel_rfl, by kernel_rfl, by kernel_rfl, by kernel_rfl, by kernel_rfl, by kernel_rfl, by kernel_rfl, by kernel_rfl, by kernel_rfl, by kernel_rfl, by kernel_rfl, by kernel_rfl, by kernel_rfl, by kernel_rfl, by kernel_rfl, by kernel_rfl, by kernel_rfl, by kernel_rfl, by kernel_rfl, by kernel_rfl, by kernel_rfl, by kernel_rfl, by kernel_rfl, by kernel_rfl, by kernel_rfl, by kernel_rfl, by kernel_rfl, by kernel_rfl, by kernel_rfl, by kernel_rfl, by kernel_rfl, by kernel_rfl, by kernel_rfl, by kernel_rfl, by kernel_rfl, by kernel_rfl, by kernel_rfl, by kernel_rfl, by kernel_rfl, by kernel_rfl, by kernel_rfl, by kernel_rfl, by kernel_rfl, by kernel_rfl, by kernel_rfl, by kernel_rfl⟩
theorem tyI : (isIntT Try.prog 2 = some .i64) ∧
  (isIntT Try.prog 3 = some .i64) ∧
  (isIntT Try.prog 4 = none) ∧
  (isIntT Try.prog 5 = some .u8) ∧
  (isIntT Try.prog 9 = none) ∧
  (isIntT Try.prog 12 = some .u64) ∧
  (isIntT Try.prog 13 = none) ∧
  (isIntT Try.prog 21 = some .i32) ∧
  (isIntT Try.prog 22 = none) ∧
  (isIntT Try.prog 24 = none) ∧
  (isIntT Try.prog 26 = none) ∧
  (isIntT Try.prog 27 = none) ∧
  (isIntT Try.prog 28 = none) ∧
  (isIntT Try.prog 29 = none) ∧
  (isIntT Try.prog 30 = none) ∧
  (isIntT Try.prog 31 = none) ∧
  (isIntT Try.prog 32 = none) ∧
  (isIntT Try.prog 33 = none) ∧
  (isIntT Try.prog 36 = some .i64) ∧
  (isIntT Try.prog 41 = none) ∧
  (isIntT Try.prog 42 = none) ∧
  (isIntT Try.prog 43 = none) ∧
  (isIntT Try.prog 44 = none) ∧
  (isIntT Try.prog 45 = none) ∧
  (isIntT Try.prog 46 = none) ∧
  (isIntT Try.prog 47 = none) ∧
  (isIntT Try.prog 48 = none) ∧
  (isIntT Try.prog 51 = none) ∧
  (isIntT Try.prog 52 = none) ∧
  (isIntT Try.prog 53 = none) ∧
  (isIntT Try.prog 54 = none) ∧
  (isIntT Try.prog 58 = none) ∧
  (isIntT Try.prog 59 = some .u64) ∧
  (isIntT Try.prog 62 = none) ∧
  (isIntT Try.prog 63 = none) ∧
  (isIntT Try.prog 64 = none) ∧
  (isIntT Try.prog 65 = none) ∧
  (isIntT Try.prog 66 = none) ∧
  (isIntT Try.prog 71 = none) ∧
  (isIntT Try.prog 72 = none) ∧
  (isIntT Try.prog 73 = none) ∧
  (isIntT Try.prog 74 = none) ∧
  (isIntT Try.prog 77 = some .u16) ∧
  (isIntT Try.prog 80 = none) ∧
  (isIntT Try.prog 81 = none) ∧
  (isIntT Try.prog 84 = none) ∧
  (isIntT Try.prog 85 = none) ∧
  (isIntT Try.prog 87 = none) ∧
  (isIntT Try.prog 88 = none) ∧
  (isIntT Try.prog 89 = none) ∧
  (isIntT Try.prog 90 = none) ∧
  (isIntT Try.prog 91 = none) ∧
  (isIntT Try.prog 93 = none) ∧
  (isIntT Try.prog 94 = none) ∧
  (isIntT Try.prog 99 = none) ∧
  (isIntT Try.prog 100 = none) ∧
  (isIntT Try.prog 102 = none) ∧
  (isIntT Try.prog 111 = none) ∧
  (isIntT Try.prog 123 = none) ∧
  (isIntT Try.prog 124 = none) ∧
  (isIntT Try.prog 125 = none) ∧
  (isIntT Try.prog 126 = none) ∧
  (isIntT Try.prog 127 = none) ∧
  (isIntT Try.prog 149 = none) ∧
  (isIntT Try.prog 152 = some .u64) ∧
  (isIntT Try.prog 162 = some .i64) ∧
  (isIntT Try.prog 171 = some .u32) ∧
  (isIntT Try.prog 176 = none) ∧
  (isIntT Try.prog 177 = none) ∧
  (isIntT Try.prog 178 = none) ∧
  (isIntT Try.prog 182 = some .u64) ∧
  (isIntT Try.prog 186 = none) ∧
  (isIntT Try.prog 188 = none) ∧
  (isIntT Try.prog 189 = none) ∧
  (isIntT Try.prog 190 = none) ∧
  (isIntT Try.prog 191 = none) ∧
  (isIntT Try.prog 192 = none) ∧
  (isIntT Try.prog 194 = none) ∧
  (isIntT Try.prog 195 = none) ∧
  (isIntT Try.prog 202 = none) ∧
  (isIntT Try.prog 207 = none) ∧
  (isIntT Try.prog 208 = none) ∧
  (isIntT Try.prog 209 = none) ∧
  (isIntT Try.prog 214 = none) ∧
  (isIntT Try.prog 215 = none) ∧
  (isIntT Try.prog 216 = none) ∧
  (isIntT Try.prog 218 = none) ∧
  (isIntT Try.prog 219 = none) ∧
  (isIntT Try.prog 220 = none) ∧
  (isIntT Try.prog 224 = none) ∧
  (isIntT Try.prog 225 = none) ∧
  (isIntT Try.prog 258 = none) ∧
  (isIntT Try.prog 263 = none) ∧
  (isIntT Try.prog 264 = none) ∧
  (isIntT Try.prog 265 = none) ∧
  (isIntT Try.prog 267 = none) ∧
  (isIntT Try.prog 268 = none) :=
  ⟨by kernel_rfl, by kernel_rfl, by kernel_rfl, by kernel_rfl, by kernel_rfl, by kernel_rfl, by kernel_rfl, by kernel_rfl, by kernel_rfl, by kernel_rfl, by kernel_rfl, by kernel_rfl, by kernel_rfl, by kernel_rfl, by kernel_rfl, by kernel_rfl, by kernel_rfl, by kernel_rfl, by kernel_rfl, by kernel_rfl, by kernel_rfl, by kernel_rfl, by kernel_rfl, by kernel_rfl, by kernel_rfl, by kernel_rfl, by kernel_rfl, by kernel_rfl, by kernel_rfl, by kernel_rfl, by kernel_rfl, by kernel_rfl, by kernel_rfl, by kernel_rfl, by kernel_rfl, by kernel_rfl, by kernel_rfl, by kernel_rfl, by kernel_rfl, by kernel_rfl, by kernel_rfl, by kernel_rfl, by kernel_rfl, by kernel_rfl, by kernel_rfl, by kernel_rfl, by kernel_rfl, by kernel_rfl, by kernel_rfl, by kernel_rfl, by kernel_rfl, by kernel_rfl, by kernel_rfl, by kernel_rfl, by kernel_rfl, by kernel_rfl, by kernel_rfl, by kernel_rfl, by kernel_rfl, by kernel_rfl, by kernel_rfl, by kernel_rfl, by kernel_rfl, by kernel_rfl, by kernel_rfl, by kernel_rfl, by kernel_rfl, by kernel_rfl, by kernel_rfl, by kernel_rfl, by kernel_rfl, by kernel_rfl, by kernel_rfl, by kernel_rfl, by kernel_rfl, by kernel_rfl, by kernel_rfl, by kernel_rfl, by kernel_rfl, by kernel_rfl, by kernel_rfl, by kernel_rfl, by kernel_rfl, by kernel_rfl, by kernel_rfl, by kernel_rfl, by kernel_rfl, by kernel_rfl, by kernel_rfl, by kernel_rfl, by kernel_rfl, by kernel_rfl, by kernel_rfl, by kernel_rfl, by kernel_rfl, by kernel_rfl, by kernel_rfl⟩
theorem tyZ : (zeroCells Try.prog 2 = some [.int .i64 0]) ∧
  (zeroCells Try.prog 3 = some [.int .i64 0]) ∧
  (zeroCells Try.prog 4 = some [.bool false]) ∧
  (zeroCells Try.prog 5 = some [.int .u8 0]) ∧
  (zeroCells Try.prog 9 = some [.str .empty]) ∧
  (zeroCells Try.prog 12 = some [.int .u64 0]) ∧
  (zeroCells Try.prog 13 = some [.str .empty, .int .u64 0]) ∧
  (zeroCells Try.prog 21 = some [.int .i32 0]) ∧
  (zeroCells Try.prog 22 = some [.nils]) ∧
  (zeroCells Try.prog 24 = some [.nilp]) ∧
  (zeroCells Try.prog 26 = some [.nils]) ∧
  (zeroCells Try.prog 27 = some [.str .empty, .int .i64 0, .int .i64 0, .nils]) ∧
  (zeroCells Try.prog 28 = some [.str .empty, .int .i64 0, .int .i64 0, .nils]) ∧
  (zeroCells Try.prog 29 = some [.nils]) ∧
  (zeroCells Try.prog 30 = some [.nils]) ∧
  (zeroCells Try.prog 31 = some [.nils]) ∧
  (zeroCells Try.prog 32 = some [.int .i64 0, .nils, .nils, .nils]) ∧
  (zeroCells Try.prog 33 = some [.int .i64 0, .nils, .nils, .nils]) ∧
  (zeroCells Try.prog 36 = some [.int .i64 0]) ∧
  (zeroCells Try.prog 41 = some [.nils]) ∧
  (zeroCells Try.prog 42 = some [.int .i64 0, .int .i64 0, .int .i64 0, .int .i64 0]) ∧
  (zeroCells Try.prog 43 = some [.int .i64 0, .int .i64 0, .int .i64 0, .int .i64 0]) ∧
  (zeroCells Try.prog 44 = some [.int .i64 0, .int .i64 0]) ∧
  (zeroCells Try.prog 45 = some [.int .i64 0, .int .i64 0]) ∧
  (zeroCells Try.prog 46 = some [.nils, .int .i64 0, .int .i64 0, .int .i64 0, .int .i64 0, .int .i64 0, .int .i64 0, .int .i64 0]) ∧
  (zeroCells Try.prog 47 = some [.nils, .int .i64 0, .int .i64 0, .int .i64 0, .int .i64 0, .int .i64 0, .int .i64 0, .int .i64 0]) ∧
  (zeroCells Try.prog 48 = some [.int .i64 0, .int .i64 0]) ∧
  (zeroCells Try.prog 51 = some [.nils]) ∧
  (zeroCells Try.prog 52 = some [.nils]) ∧
  (zeroCells Try.prog 53 = some [.nils, .nils, .int .i64 0, .int .i64 0]) ∧
  (zeroCells Try.prog 54 = some [.nils, .nils, .int .i64 0, .int .i64 0]) ∧
  (zeroCells Try.prog 58 = some [.nils]) ∧
  (zeroCells Try.prog 59 = some [.int .u64 0]) ∧
  (zeroCells Try.prog 62 = some [.nils]) ∧
  (zeroCells Try.prog 63 = some [.nils]) ∧
  (zeroCells Try.prog 64 = some [.str .empty, .int .u64 0, .nils, .nils, .nils]) ∧
  (zeroCells Try.prog 65 = some [.str .empty, .int .u64 0, .nils, .nils, .nils]) ∧
  (zeroCells Try.prog 66 = some [.nils]) ∧
  (zeroCells Try.prog 71 = some [.nilp]) ∧
  (zeroCells Try.prog 72 = some [.nilp]) ∧
  (zeroCells Try.prog 73 = some [.int .i64 0, .int .i64 0, .int .i64 0, .int .i64 0, .int .i64 0, .int .i64 0, .nils]) ∧
  (zeroCells Try.prog 74 = some [.int .i64 0, .int .i64 0, .int .i64 0, .int .i64 0, .int .i64 0, .int .i64 0, .nils]) ∧
  (zeroCells Try.prog 77 = some [.int .u16 0]) ∧
  (zeroCells Try.prog 80 = some [.nils, .int .i64 0]) ∧
  (zeroCells Try.prog 81 = some [.nils, .int .i64 0]) ∧
  (zeroCells Try.prog 84 = some [.nils]) ∧
  (zeroCells Try.prog 85 = some [.nils]) ∧
  (zeroCells Try.prog 87 = some [.int .i64 0, .int .i64 0, .int .i64 0]) ∧
  (zeroCells Try.prog 88 = some [.int .i64 0, .int .i64 0, .int .i64 0]) ∧
  (zeroCells Try.prog 89 = some [.str .empty, .int .i64 0]) ∧
  (zeroCells Try.prog 90 = some [.str .empty, .int .i64 0]) ∧
  (zeroCells Try.prog 91 = some [.nilp]) ∧
  (zeroCells Try.prog 93 = some [.nilm]) ∧
  (zeroCells Try.prog 94 = some [.nilm]) ∧
  (zeroCells Try.prog 99 = some [.nils]) ∧
  (zeroCells Try.prog 100 = some [.nils]) ∧
  (zeroCells Try.prog 102 = some [.nilp]) ∧
  (zeroCells Try.prog 111 = some [.nils]) ∧
  (zeroCells Try.prog 123 = some [.nils]) ∧
  (zeroCells Try.prog 124 = some [.int .i64 0, .int .i64 0, .int .i64 0, .int .i64 0, .int .i64 0, .int .i64 0, .int .i64 0, .int .i64 0, .int .i64 0]) ∧
  (zeroCells Try.prog 149 = some [.nilp]) ∧
  (zeroCells Try.prog 152 = some [.int .u64 0]) ∧
  (zeroCells Try.prog 162 = some [.int .i64 0]) ∧
  (zeroCells Try.prog 171 = some [.int .u32 0]) ∧
  (zeroCells Try.prog 176 = some [.nils]) ∧
  (zeroCells Try.prog 177 = some [.nils, .nils]) ∧
  (zeroCells Try.prog 178 = some [.nils, .nils]) ∧
  (zeroCells Try.prog 182 = some [.int .u64 0]) ∧
  (zeroCells Try.prog 186 = some [.nilp]) ∧
  (zeroCells Try.prog 188 = some [.nils]) ∧
  (zeroCells Try.prog 189 = some [.nils]) ∧
  (zeroCells Try.prog 190 = some [.str .empty, .int .i64 0, .nils, .nils]) ∧
  (zeroCells Try.prog 191 = some [.str .empty, .int .i64 0, .nils, .nils]) ∧
  (zeroCells Try.prog 192 = some [.nilp]) ∧
  (zeroCells Try.prog 194 = some [.nils, .nils, .nils, .int .i64 0, .int .i64 0, .nils, .int .i64 0]) ∧
  (zeroCells Try.prog 195 = some [.nils, .nils, .nils, .int .i64 0, .int .i64 0, .nils, .int .i64 0]) ∧
  (zeroCells Try.prog 202 = some [.nilp]) ∧
  (zeroCells Try.prog 207 = some [.nils]) ∧
  (zeroCells Try.prog 208 = some [.int .i64 0, .int .i64 0, .str .empty, .nils, .nils, .nils]) ∧
  (zeroCells Try.prog 209 = some [.int .i64 0, .int .i64 0, .str .empty, .nils, .nils, .nils]) ∧
  (zeroCells Try.prog 214 = some [.nilp]) ∧
  (zeroCells Try.prog 215 = some [.nils, .nils, .nils, .int .i64 0, .int .i64 0]) ∧
  (zeroCells Try.prog 216 = some [.nils, .nils, .nils, .int .i64 0, .int .i64 0]) ∧
  (zeroCells Try.prog 218 = some [.nilp]) ∧
  (zeroCells Try.prog 219 = some [.nilp, .nils, .nils, .nils, .int .i64 0]) ∧
  (zeroCells Try.prog 220 = some [.nilp, .nils, .nils, .nils, .int .i64 0]) ∧
  (zeroCells Try.prog 224 = some [.int .i64 0, .int .i64 0, .int .i64 0, .int .i64 0, .str .empty, .nils]) ∧
  (zeroCells Try.prog 225 = some [.int .i64 0, .int .i64 0, .int .i64 0, .int .i64 0, .str .empty, .nils]) ∧
  (zeroCells Try.prog 258 = some [.nilp]) ∧
  (zeroCells Try.prog 263 = some [.nils]) ∧
  (zeroCells Try.prog 264 = some [.int .i64 0, .int .i64 0, .nils]) ∧
  (zeroCells Try.prog 265 = some [.int .i64 0, .int .i64 0, .nils]) ∧
  (zeroCells Try.prog 267 = some [.int .i64 0, .int .i64 0]) ∧
  (zeroCells Try.prog 268 = some [.int .i64 0, .int .i64 0]) :=
  ⟨by kernel_rfl, by kernel_rfl, by kernel_rfl, by kernel_rfl, by kernel_rfl, by kernel_rfl, by kernel_rfl, by kernel_rfl, by kernel_rfl, by kernel_rfl, by kernel_rfl, by kernel_rfl, by kernel_rfl, by kernel_rfl, by kernel_rfl, by kernel_rfl, by kernel_rfl, by kernel_rfl, by kernel_rfl, by kernel_rfl, by kernel_rfl, by kernel_rfl, by kernel_rfl, by kernel_rfl, by kernel_rfl, by kernel_rfl, by kernel_rfl, by kernel_rfl, by kernel_rfl, by kernel_rfl, by kernel_rfl, by kernel_rfl, by kernel_rfl, by kernel_rfl, by kernel_rfl, by kernel_rfl, by kernel_rfl, by kernel_rfl, by kernel_rfl, by kernel_rfl, by kernel_rfl, by kernel_rfl, by kernel_rfl, by kernel_rfl, by kernel_rfl, by kernel_rfl, by kernel_rfl, by kernel_rfl, by kernel_rfl, by kernel_rfl, by kernel_rfl, by kernel_rfl, by kernel_rfl, by kernel_rfl, by kernel_rfl, by kernel_rfl, by kernel_rfl, by kernel_rfl, by kernel_rfl, by kernel_rfl, by kernel_rfl, by kernel_rfl, by kernel_rfl, by kernel_rfl, by kernel_rfl, by kernel_rfl, by kernel_rfl, by kernel_rfl, by kernel_rfl, by kernel_rfl, by kernel_rfl, by kernel_rfl, by kernel_rfl, by kernel_rfl, by kernel_rfl, by kernel_rfl, by kernel_rfl, by kernel_rfl, by kernel_rfl, by kernel_rfl, by kernel_rfl, by kernel_rfl, by kernel_rfl, by kernel_rfl, by kernel_rfl, by kernel_rfl, by kernel_rfl, by kernel_rfl, by kernel_rfl, by kernel_rfl, by kernel_rfl, by kernel_rfl, by kernel_rfl, by kernel_rfl⟩
theorem tyF : ((#[{ name := "msg", type := 9, offset := 0, embedded := false, tag := "", pkgPath := "runtime", byteOffset := 0 }, { name := "addr", type := 12, offset := 1, embedded := false, tag := "", pkgPath := "runtime", byteOffset := 16 }] : Array Field).all (fun f => (Try.prog.info? f.type).isSome) = true) ∧
  ((#[{ name := "Name", type := 9, offset := 0, embedded := false, tag := "", pkgPath := "", byteOffset := 0 }, { name := "Params", type := 3, offset := 1, embedded := false, tag := "", pkgPath := "", byteOffset := 16 }, { name := "Regs", type := 3, offset := 2, embedded := false, tag := "", pkgPath := "", byteOffset := 24 }, { name := "Blocks", type := 26, offset := 3, embedded := false, tag := "", pkgPath := "", byteOffset := 32 }] : Array Field).all (fun f => (Try.prog.info? f.type).isSome) = true) ∧
  ((#[{ name := "Entries", type := 3, offset := 0, embedded := false, tag := "", pkgPath := "", byteOffset := 0 }, { name := "Blocks", type := 29, offset := 1, embedded := false, tag := "", pkgPath := "", byteOffset := 8 }, { name := "Edges", type := 30, offset := 2, embedded := false, tag := "", pkgPath := "", byteOffset := 32 }, { name := "Sites", type := 31, offset := 3, embedded := false, tag := "", pkgPath := "", byteOffset := 56 }] : Array Field).all (fun f => (Try.prog.info? f.type).isSome) = true) ∧
  ((#[{ name := "Kind", type := 3, offset := 0, embedded := false, tag := "", pkgPath := "", byteOffset := 0 }, { name := "A", type := 3, offset := 1, embedded := false, tag := "", pkgPath := "", byteOffset := 8 }, { name := "To", type := 3, offset := 2, embedded := false, tag := "", pkgPath := "", byteOffset := 16 }, { name := "Else", type := 3, offset := 3, embedded := false, tag := "", pkgPath := "", byteOffset := 24 }] : Array Field).all (fun f => (Try.prog.info? f.type).isSome) = true) ∧
  ((#[{ name := "Func", type := 3, offset := 0, embedded := false, tag := "", pkgPath := "", byteOffset := 0 }, { name := "Block", type := 3, offset := 1, embedded := false, tag := "", pkgPath := "", byteOffset := 8 }] : Array Field).all (fun f => (Try.prog.info? f.type).isSome) = true) ∧
  ((#[{ name := "Instrs", type := 41, offset := 0, embedded := false, tag := "", pkgPath := "", byteOffset := 0 }, { name := "Term", type := 43, offset := 1, embedded := false, tag := "", pkgPath := "", byteOffset := 24 }, { name := "Line", type := 3, offset := 5, embedded := false, tag := "", pkgPath := "", byteOffset := 56 }, { name := "Origin", type := 45, offset := 6, embedded := false, tag := "", pkgPath := "", byteOffset := 64 }] : Array Field).all (fun f => (Try.prog.info? f.type).isSome) = true) ∧
  ((#[{ name := "Globals", type := 51, offset := 0, embedded := false, tag := "", pkgPath := "", byteOffset := 0 }, { name := "Funcs", type := 52, offset := 1, embedded := false, tag := "", pkgPath := "", byteOffset := 24 }, { name := "Callable", type := 3, offset := 2, embedded := false, tag := "", pkgPath := "", byteOffset := 48 }, { name := "Counters", type := 3, offset := 3, embedded := false, tag := "", pkgPath := "", byteOffset := 56 }] : Array Field).all (fun f => (Try.prog.info? f.type).isSome) = true) ∧
  ((#[{ name := "Name", type := 9, offset := 0, embedded := false, tag := "", pkgPath := "", byteOffset := 0 }, { name := "Print", type := 59, offset := 1, embedded := false, tag := "", pkgPath := "", byteOffset := 16 }, { name := "Blocks", type := 62, offset := 2, embedded := false, tag := "", pkgPath := "", byteOffset := 24 }, { name := "Rounds", type := 63, offset := 3, embedded := false, tag := "", pkgPath := "", byteOffset := 48 }, { name := "Next", type := 30, offset := 4, embedded := false, tag := "", pkgPath := "", byteOffset := 72 }] : Array Field).all (fun f => (Try.prog.info? f.type).isSome) = true) ∧
  ((#[{ name := "Kind", type := 3, offset := 0, embedded := false, tag := "", pkgPath := "", byteOffset := 0 }, { name := "Op", type := 3, offset := 1, embedded := false, tag := "", pkgPath := "", byteOffset := 8 }, { name := "Dst", type := 3, offset := 2, embedded := false, tag := "", pkgPath := "", byteOffset := 16 }, { name := "A", type := 3, offset := 3, embedded := false, tag := "", pkgPath := "", byteOffset := 24 }, { name := "B", type := 3, offset := 4, embedded := false, tag := "", pkgPath := "", byteOffset := 32 }, { name := "Value", type := 3, offset := 5, embedded := false, tag := "", pkgPath := "", byteOffset := 40 }, { name := "Args", type := 29, offset := 6, embedded := false, tag := "", pkgPath := "", byteOffset := 48 }] : Array Field).all (fun f => (Try.prog.info? f.type).isSome) = true) ∧
  ((#[{ name := "l", type := 22, offset := 0, embedded := false, tag := "", pkgPath := "warmpath/warmpathdraw", byteOffset := 0 }, { name := "at", type := 3, offset := 1, embedded := false, tag := "", pkgPath := "warmpath/warmpathdraw", byteOffset := 24 }] : Array Field).all (fun f => (Try.prog.info? f.type).isSome) = true) ∧
  ((#[{ name := "from", type := 3, offset := 0, embedded := false, tag := "", pkgPath := "warmpath/blockorder", byteOffset := 0 }, { name := "to", type := 3, offset := 1, embedded := false, tag := "", pkgPath := "warmpath/blockorder", byteOffset := 8 }, { name := "count", type := 3, offset := 2, embedded := false, tag := "", pkgPath := "warmpath/blockorder", byteOffset := 16 }] : Array Field).all (fun f => (Try.prog.info? f.type).isSome) = true) ∧
  ((#[{ name := "Name", type := 9, offset := 0, embedded := false, tag := "", pkgPath := "", byteOffset := 0 }, { name := "Size", type := 3, offset := 1, embedded := false, tag := "", pkgPath := "", byteOffset := 16 }] : Array Field).all (fun f => (Try.prog.info? f.type).isSome) = true) ∧
  ((#[{ name := "list", type := 29, offset := 0, embedded := false, tag := "", pkgPath := "warmpath/warmpathref27", byteOffset := 0 }] : Array Field).all (fun f => (Try.prog.info? f.type).isSome) = true) ∧
  ((#[{ name := "n", type := 3, offset := 0, embedded := false, tag := "", pkgPath := "warmpath/blockorder", byteOffset := 0 }, { name := "weight", type := 125, offset := 1, embedded := false, tag := "", pkgPath := "warmpath/blockorder", byteOffset := 8 }, { name := "best", type := 123, offset := 82, embedded := false, tag := "", pkgPath := "warmpath/blockorder", byteOffset := 656 }] : Array Field).all (fun f => (Try.prog.info? f.type).isSome) = true) ∧
  ((#[{ name := "Globals", type := 51, offset := 0, embedded := false, tag := "", pkgPath := "", byteOffset := 0 }, { name := "Funcs", type := 176, offset := 1, embedded := false, tag := "", pkgPath := "", byteOffset := 24 }] : Array Field).all (fun f => (Try.prog.info? f.type).isSome) = true) ∧
  ((#[{ name := "Name", type := 9, offset := 0, embedded := false, tag := "", pkgPath := "", byteOffset := 0 }, { name := "Line", type := 3, offset := 1, embedded := false, tag := "", pkgPath := "", byteOffset := 16 }, { name := "Params", type := 188, offset := 2, embedded := false, tag := "", pkgPath := "", byteOffset := 24 }, { name := "Body", type := 189, offset := 3, embedded := false, tag := "", pkgPath := "", byteOffset := 48 }] : Array Field).all (fun f => (Try.prog.info? f.type).isSome) = true) ∧
  ((#[{ name := "p", type := 178, offset := 0, embedded := false, tag := "", pkgPath := "warmpath/warmpathref09", byteOffset := 0 }, { name := "locals", type := 188, offset := 2, embedded := false, tag := "", pkgPath := "warmpath/warmpathref09", byteOffset := 48 }, { name := "number", type := 3, offset := 3, embedded := false, tag := "", pkgPath := "warmpath/warmpathref09", byteOffset := 72 }, { name := "regs", type := 3, offset := 4, embedded := false, tag := "", pkgPath := "warmpath/warmpathref09", byteOffset := 80 }, { name := "blocks", type := 26, offset := 5, embedded := false, tag := "", pkgPath := "warmpath/warmpathref09", byteOffset := 88 }, { name := "at", type := 3, offset := 6, embedded := false, tag := "", pkgPath := "warmpath/warmpathref09", byteOffset := 112 }] : Array Field).all (fun f => (Try.prog.info? f.type).isSome) = true) ∧
  ((#[{ name := "Kind", type := 3, offset := 0, embedded := false, tag := "", pkgPath := "", byteOffset := 0 }, { name := "Line", type := 3, offset := 1, embedded := false, tag := "", pkgPath := "", byteOffset := 8 }, { name := "Name", type := 9, offset := 2, embedded := false, tag := "", pkgPath := "", byteOffset := 16 }, { name := "Exprs", type := 207, offset := 3, embedded := false, tag := "", pkgPath := "", byteOffset := 32 }, { name := "Then", type := 189, offset := 4, embedded := false, tag := "", pkgPath := "", byteOffset := 56 }, { name := "Else", type := 189, offset := 5, embedded := false, tag := "", pkgPath := "", byteOffset := 80 }] : Array Field).all (fun f => (Try.prog.info? f.type).isSome) = true) ∧
  ((#[{ name := "p", type := 178, offset := 0, embedded := false, tag := "", pkgPath := "warmpath/warmpathref06", byteOffset := 0 }, { name := "locals", type := 188, offset := 2, embedded := false, tag := "", pkgPath := "warmpath/warmpathref06", byteOffset := 48 }, { name := "line", type := 3, offset := 3, embedded := false, tag := "", pkgPath := "warmpath/warmpathref06", byteOffset := 72 }, { name := "e", type := 36, offset := 4, embedded := false, tag := "", pkgPath := "warmpath/warmpathref06", byteOffset := 80 }] : Array Field).all (fun f => (Try.prog.info? f.type).isSome) = true) ∧
  ((#[{ name := "c", type := 24, offset := 0, embedded := false, tag := "", pkgPath := "warmpath/warmpathdraw", byteOffset := 0 }, { name := "p", type := 178, offset := 1, embedded := false, tag := "", pkgPath := "warmpath/warmpathdraw", byteOffset := 8 }, { name := "locals", type := 188, offset := 3, embedded := false, tag := "", pkgPath := "warmpath/warmpathdraw", byteOffset := 56 }, { name := "budget", type := 3, offset := 4, embedded := false, tag := "", pkgPath := "warmpath/warmpathdraw", byteOffset := 80 }] : Array Field).all (fun f => (Try.prog.info? f.type).isSome) = true) ∧
  ((#[{ name := "Kind", type := 3, offset := 0, embedded := false, tag := "", pkgPath := "", byteOffset := 0 }, { name := "Op", type := 3, offset := 1, embedded := false, tag := "", pkgPath := "", byteOffset := 8 }, { name := "Value", type := 3, offset := 2, embedded := false, tag := "", pkgPath := "", byteOffset := 16 }, { name := "Line", type := 3, offset := 3, embedded := false, tag := "", pkgPath := "", byteOffset := 24 }, { name := "Name", type := 9, offset := 4, embedded := false, tag := "", pkgPath := "", byteOffset := 32 }, { name := "Args", type := 207, offset := 5, embedded := false, tag := "", pkgPath := "", byteOffset := 48 }] : Array Field).all (fun f => (Try.prog.info? f.type).isSome) = true) ∧
  ((#[{ name := "Block", type := 3, offset := 0, embedded := false, tag := "", pkgPath := "", byteOffset := 0 }, { name := "Instr", type := 3, offset := 1, embedded := false, tag := "", pkgPath := "", byteOffset := 8 }, { name := "Targets", type := 263, offset := 2, embedded := false, tag := "", pkgPath := "", byteOffset := 16 }] : Array Field).all (fun f => (Try.prog.info? f.type).isSome) = true) ∧
  ((#[{ name := "Func", type := 3, offset := 0, embedded := false, tag := "", pkgPath := "", byteOffset := 0 }, { name := "Count", type := 3, offset := 1, embedded := false, tag := "", pkgPath := "", byteOffset := 8 }] : Array Field).all (fun f => (Try.prog.info? f.type).isSome) = true) :=
  ⟨by kernel_rfl, by kernel_rfl, by kernel_rfl, by kernel_rfl, by kernel_rfl, by kernel_rfl, by kernel_rfl, by kernel_rfl, by kernel_rfl, by kernel_rfl, by kernel_rfl, by kernel_rfl, by kernel_rfl, by kernel_rfl, by kernel_rfl, by kernel_rfl, by kernel_rfl, by kernel_rfl, by kernel_rfl, by kernel_rfl, by kernel_rfl, by kernel_rfl, by kernel_rfl⟩
theorem tyP : (zeroP Try.prog 59 = some (.int .u64 0)) :=
  by kernel_rfl
end Go.Proofs.Ytangodmcbmeeaaa
