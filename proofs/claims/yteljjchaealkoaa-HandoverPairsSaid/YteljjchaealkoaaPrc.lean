/- A part of the proof of handoverPairs_holds. Conditions: none. -/
import Derived.Test.YteljjchaealkoaaPrb
import Derived.Test.YteljjchaealkoaaProg
import Derived.KernelRfl
section
set_option linter.unusedVariables false
set_option linter.unusedSimpArgs false
set_option maxHeartbeats 4000000
set_option maxRecDepth 100000
namespace Px
open Go Go.RowKit Go.Proofs
theorem ze36 {P : Program} (H : P = Try.prog) : z8z P 36 = some [.slice none 0 0, .slice none 0 0, .slice none 0 0, .slice none 0 0, .slice none 0 0, .slice none 0 0, .slice none 0 0, .slice none 0 0, .slice none 0 0] := by subst H; kernel_rfl
theorem ze68 {P : Program} (H : P = Try.prog) : z8z P 68 = some [.int .i64 0, .int .i64 0, .int .i64 0] := by subst H; kernel_rfl
theorem zon {P : Program} (H : P = Try.prog) : z3c P 68 0 = some (0, 1) := by subst H; kernel_rfl
theorem zqm {P : Program} (H : P = Try.prog) : z3c P 68 2 = some (2, 1) := by subst H; kernel_rfl
theorem tb68 {P : Program} (H : P = Try.prog) : za6 P 68 = true := by subst H; kernel_rfl
theorem zv1 {P : Program} (H : P = Try.prog) : z3c P 68 1 = some (1, 1) := by subst H; kernel_rfl
theorem sl22 {P : Program} (H : P = Try.prog) : tsl P 22 = some (68, 3, 24) := by subst H; kernel_rfl
theorem ze25 {P : Program} (H : P = Try.prog) : z8z P 25 = some [.slice none 0 0, .slice none 0 0] := by subst H; kernel_rfl
theorem zw7 {P : Program} (H : P = Try.prog) : z3c P 25 0 = some (0, 1) := by subst H; kernel_rfl
theorem tb25 {P : Program} (H : P = Try.prog) : za6 P 25 = true := by subst H; kernel_rfl
theorem zxl {P : Program} (H : P = Try.prog) : z8z P 114 = some [.int .i64 0, .int .i64 0, .int .i64 0, .int .i64 0, .int .i64 0, .int .u64 0, .int .i64 0, .int .i64 0] := by subst H; kernel_rfl
theorem ztc {P : Program} (H : P = Try.prog) : z3c P 114 6 = some (6, 1) := by subst H; kernel_rfl
theorem zy1 {P : Program} (H : P = Try.prog) : za6 P 114 = true := by subst H; kernel_rfl
theorem sl26 {P : Program} (H : P = Try.prog) : tsl P 26 = some (114, 8, 64) := by subst H; kernel_rfl
theorem ze66 {P : Program} (H : P = Try.prog) : z8z P 66 = some [.int .i64 0, .int .i64 0, .int .i64 0, .int .i64 0, .int .i64 0] := by subst H; kernel_rfl
theorem tb66 {P : Program} (H : P = Try.prog) : za6 P 66 = true := by subst H; kernel_rfl
theorem sl27 {P : Program} (H : P = Try.prog) : tsl P 27 = some (66, 5, 40) := by subst H; kernel_rfl
theorem ze31 {P : Program} (H : P = Try.prog) : z8z P 31 = some [.slice none 0 0, .slice none 0 0, .slice none 0 0, .slice none 0 0] := by subst H; kernel_rfl
theorem zx8 {P : Program} (H : P = Try.prog) : z3c P 31 0 = some (0, 1) := by subst H; kernel_rfl
theorem zus {P : Program} (H : P = Try.prog) : z3c P 31 1 = some (1, 1) := by subst H; kernel_rfl
theorem tb31 {P : Program} (H : P = Try.prog) : za6 P 31 = true := by subst H; kernel_rfl
theorem zu0 {P : Program} (H : P = Try.prog) : z8z P 107 = some [.int .u64 0, .int .i64 0, .int .i64 0, .int .i64 0, .int .i64 0, .int .i64 0, .int .i64 0, .int .i64 0, .int .i64 0, .int .i64 0, .int .i64 0, .int .i64 0, .int .i64 0, .int .i64 0, .int .i64 0, .slice none 0 0] := by subst H; kernel_rfl
theorem zpz {P : Program} (H : P = Try.prog) : z3c P 107 0 = some (0, 1) := by subst H; kernel_rfl
theorem zwi {P : Program} (H : P = Try.prog) : za6 P 107 = true := by subst H; kernel_rfl
theorem sl34 {P : Program} (H : P = Try.prog) : tsl P 34 = some (107, 16, 144) := by subst H; kernel_rfl
theorem zun {P : Program} (H : P = Try.prog) : z3c P 36 0 = some (0, 2) := by subst H; kernel_rfl
theorem zvq {P : Program} (H : P = Try.prog) : z3c P 36 1 = some (2, 4) := by subst H; kernel_rfl
theorem zxj {P : Program} (H : P = Try.prog) : z3c P 36 4 = some (8, 1) := by subst H; kernel_rfl
theorem tb36 {P : Program} (H : P = Try.prog) : za6 P 36 = true := by subst H; kernel_rfl
theorem tl36 {P : Program} (H : P = Try.prog) : z4i P 36 = some (true, 9) := by subst H; kernel_rfl
theorem fn24 {P : Program} (H : P = Try.prog) : P.funcs[24]? = some Try.f24 := by subst H; exact Try.func24
theorem ze48 {P : Program} (H : P = Try.prog) : z8z P 48 = some [.int .i64 0, .int .i64 0, .int .i64 0, .int .i64 0, .int .i64 0, .int .i64 0, .int .i64 0, .int .i64 0, .int .i64 0, .int .i64 0, .int .i64 0, .int .i64 0, .int .i64 0, .int .i64 0, .int .i64 0, .int .i64 0, .int .i64 0, .int .i64 0, .int .i64 0, .string ⟨#[]⟩, .slice none 0 0] := by subst H; kernel_rfl
theorem ze43 {P : Program} (H : P = Try.prog) : z8z P 43 = some [.int .i64 0, .int .i64 0] := by subst H; kernel_rfl
theorem zi7 {P : Program} (H : P = Try.prog) : z3c P 43 1 = some (1, 1) := by subst H; kernel_rfl
theorem tb43 {P : Program} (H : P = Try.prog) : za6 P 43 = true := by subst H; kernel_rfl
theorem ze46 {P : Program} (H : P = Try.prog) : z8z P 46 = some [.int .i64 0, .int .i64 0, .int .i64 0, .int .i64 0, .int .i64 0, .int .i64 0, .int .i64 0, .int .i64 0, .int .i64 0, .int .i64 0, .int .i64 0, .int .i64 0, .int .i64 0, .int .i64 0, .string ⟨#[]⟩, .slice none 0 0] := by subst H; kernel_rfl
theorem zsv {P : Program} (H : P = Try.prog) : z3c P 46 0 = some (0, 1) := by subst H; kernel_rfl
theorem zs6 {P : Program} (H : P = Try.prog) : z3c P 46 3 = some (4, 1) := by subst H; kernel_rfl
theorem zwv {P : Program} (H : P = Try.prog) : z3c P 46 4 = some (5, 1) := by subst H; kernel_rfl
theorem zsq {P : Program} (H : P = Try.prog) : z3c P 46 6 = some (7, 1) := by subst H; kernel_rfl
theorem zs3 {P : Program} (H : P = Try.prog) : z3c P 46 8 = some (9, 1) := by subst H; kernel_rfl
theorem tb46 {P : Program} (H : P = Try.prog) : za6 P 46 = true := by subst H; kernel_rfl
theorem zsh {P : Program} (H : P = Try.prog) : z3c P 48 0 = some (0, 2) := by subst H; kernel_rfl
theorem zrx {P : Program} (H : P = Try.prog) : z3c P 48 3 = some (5, 16) := by subst H; kernel_rfl
theorem tb48 {P : Program} (H : P = Try.prog) : za6 P 48 = true := by subst H; kernel_rfl
theorem tl48 {P : Program} (H : P = Try.prog) : z4i P 48 = some (true, 21) := by subst H; kernel_rfl
theorem fn25 {P : Program} (H : P = Try.prog) : P.funcs[25]? = some Try.f25 := by subst H; exact Try.func25
theorem zn4 {P : Program} (H : P = Try.prog) : z3c P 43 0 = some (0, 1) := by subst H; kernel_rfl
theorem fn26 {P : Program} (H : P = Try.prog) : P.funcs[26]? = some Try.f26 := by subst H; exact Try.func26
theorem zf7 {P : Program} (H : P = Try.prog) : foff P 68 0 = some 0 := by subst H; kernel_rfl
theorem tl3 {P : Program} (H : P = Try.prog) : z4i P 3 = some (false, 1) := by subst H; kernel_rfl
theorem zd6 {P : Program} (H : P = Try.prog) : foff P 68 1 = some 1 := by subst H; kernel_rfl
theorem zd0 {P : Program} (H : P = Try.prog) : foff P 68 2 = some 2 := by subst H; kernel_rfl
theorem fn77 {P : Program} (H : P = Try.prog) : P.funcs[77]? = some Try.f77 := by subst H; exact Try.func77
theorem zat {P : Program} (H : P = Try.prog) : foff P 25 0 = some 0 := by subst H; kernel_rfl
theorem tl22 {P : Program} (H : P = Try.prog) : z4i P 22 = some (false, 1) := by subst H; kernel_rfl
theorem il22 {P : Program} (H : P = Try.prog) : isSl P 22 = true := by subst H; kernel_rfl
theorem zfi {P : Program} (H : P = Try.prog) : foff P 25 1 = some 1 := by subst H; kernel_rfl
theorem tl23 {P : Program} (H : P = Try.prog) : z4i P 23 = some (false, 1) := by subst H; kernel_rfl
theorem il23 {P : Program} (H : P = Try.prog) : isSl P 23 = true := by subst H; kernel_rfl
theorem ix22 {P : Program} (H : P = Try.prog) : tidx P 22 = some (false, 0, 3) := by subst H; kernel_rfl
theorem tl68 {P : Program} (H : P = Try.prog) : z4i P 68 = some (true, 3) := by subst H; kernel_rfl
theorem zvo {P : Program} (H : P = Try.prog) : FnOK P 77 := by subst H; exact ⟨Try.f77, Try.func77, by kernel_rfl, by kernel_rfl⟩
theorem ix23 {P : Program} (H : P = Try.prog) : tidx P 23 = some (false, 0, 5) := by subst H; kernel_rfl
theorem zp1 {P : Program} (H : P = Try.prog) : z4i P 124 = some (true, 5) := by subst H; kernel_rfl
theorem zwf {P : Program} (H : P = Try.prog) : z8z P 124 = some [.int .i64 0, .int .i64 0, .int .i64 0, .int .i64 0, .int .i64 0] := by subst H; kernel_rfl
theorem zhd {P : Program} (H : P = Try.prog) : foff P 124 0 = some 0 := by subst H; kernel_rfl
theorem zhb {P : Program} (H : P = Try.prog) : foff P 124 1 = some 1 := by subst H; kernel_rfl
theorem zhf {P : Program} (H : P = Try.prog) : foff P 124 2 = some 2 := by subst H; kernel_rfl
theorem zm2 {P : Program} (H : P = Try.prog) : foff P 124 4 = some 4 := by subst H; kernel_rfl
theorem zm5 {P : Program} (H : P = Try.prog) : foff P 124 3 = some 3 := by subst H; kernel_rfl
theorem fn57 {P : Program} (H : P = Try.prog) : P.funcs[57]? = some Try.f57 := by subst H; exact Try.func57
theorem fn59 {P : Program} (H : P = Try.prog) : P.funcs[59]? = some Try.f59 := by subst H; exact Try.func59
theorem zda {P : Program} (H : P = Try.prog) : foff P 31 0 = some 0 := by subst H; kernel_rfl
theorem tl26 {P : Program} (H : P = Try.prog) : z4i P 26 = some (false, 1) := by subst H; kernel_rfl
theorem il26 {P : Program} (H : P = Try.prog) : isSl P 26 = true := by subst H; kernel_rfl
theorem zcz {P : Program} (H : P = Try.prog) : foff P 31 1 = some 1 := by subst H; kernel_rfl
theorem tl27 {P : Program} (H : P = Try.prog) : z4i P 27 = some (false, 1) := by subst H; kernel_rfl
theorem il27 {P : Program} (H : P = Try.prog) : isSl P 27 = true := by subst H; kernel_rfl
theorem zjj {P : Program} (H : P = Try.prog) : foff P 31 2 = some 2 := by subst H; kernel_rfl
theorem tl28 {P : Program} (H : P = Try.prog) : z4i P 28 = some (false, 1) := by subst H; kernel_rfl
theorem il28 {P : Program} (H : P = Try.prog) : isSl P 28 = true := by subst H; kernel_rfl
theorem zlj {P : Program} (H : P = Try.prog) : foff P 31 3 = some 3 := by subst H; kernel_rfl
theorem tl29 {P : Program} (H : P = Try.prog) : z4i P 29 = some (false, 1) := by subst H; kernel_rfl
theorem il29 {P : Program} (H : P = Try.prog) : isSl P 29 = true := by subst H; kernel_rfl
theorem ze50 {P : Program} (H : P = Try.prog) : z8z P 50 = some [.int .i64 0] := by subst H; kernel_rfl
theorem tl50 {P : Program} (H : P = Try.prog) : z4i P 50 = some (false, 1) := by subst H; kernel_rfl
theorem ix26 {P : Program} (H : P = Try.prog) : tidx P 26 = some (false, 0, 8) := by subst H; kernel_rfl
theorem ztj {P : Program} (H : P = Try.prog) : z4i P 114 = some (true, 8) := by subst H; kernel_rfl
theorem zpv {P : Program} (H : P = Try.prog) : foff P 114 0 = some 0 := by subst H; kernel_rfl
theorem zox {P : Program} (H : P = Try.prog) : foff P 114 1 = some 1 := by subst H; kernel_rfl
theorem zp5 {P : Program} (H : P = Try.prog) : foff P 114 2 = some 2 := by subst H; kernel_rfl
theorem zqj {P : Program} (H : P = Try.prog) : foff P 114 4 = some 4 := by subst H; kernel_rfl
theorem sl96 {P : Program} (H : P = Try.prog) : tsl P 96 = some (3, 1, 8) := by subst H; kernel_rfl
theorem il96 {P : Program} (H : P = Try.prog) : isSl P 96 = true := by subst H; kernel_rfl
theorem ix96 {P : Program} (H : P = Try.prog) : tidx P 96 = some (false, 0, 1) := by subst H; kernel_rfl
theorem zax {P : Program} (H : P = Try.prog) : FnOK P 59 := by subst H; exact ⟨Try.f59, Try.func59, by kernel_rfl, by kernel_rfl⟩
theorem zhg {P : Program} (H : P = Try.prog) : FnOK P 78 := by subst H; exact ⟨Try.f78, Try.func78, by kernel_rfl, by kernel_rfl⟩
theorem fn78 {P : Program} (H : P = Try.prog) : P.funcs[78]? = some Try.f78 := by subst H; exact Try.func78
theorem zpt {P : Program} (H : P = Try.prog) : foff P 114 3 = some 3 := by subst H; kernel_rfl
theorem zp0 {P : Program} (H : P = Try.prog) : foff P 114 6 = some 6 := by subst H; kernel_rfl
theorem zou {P : Program} (H : P = Try.prog) : foff P 114 7 = some 7 := by subst H; kernel_rfl
theorem ix27 {P : Program} (H : P = Try.prog) : tidx P 27 = some (false, 0, 5) := by subst H; kernel_rfl
theorem tl66 {P : Program} (H : P = Try.prog) : z4i P 66 = some (true, 5) := by subst H; kernel_rfl
theorem zsa {P : Program} (H : P = Try.prog) : foff P 66 0 = some 0 := by subst H; kernel_rfl
theorem zsk {P : Program} (H : P = Try.prog) : foff P 66 1 = some 1 := by subst H; kernel_rfl
theorem zlc {P : Program} (H : P = Try.prog) : foff P 66 2 = some 2 := by subst H; kernel_rfl
theorem zse {P : Program} (H : P = Try.prog) : foff P 66 3 = some 3 := by subst H; kernel_rfl
theorem zrl {P : Program} (H : P = Try.prog) : foff P 66 4 = some 4 := by subst H; kernel_rfl
theorem ix28 {P : Program} (H : P = Try.prog) : tidx P 28 = some (false, 0, 3) := by subst H; kernel_rfl
theorem zqq {P : Program} (H : P = Try.prog) : z4i P 133 = some (true, 3) := by subst H; kernel_rfl
theorem zwb {P : Program} (H : P = Try.prog) : z8z P 133 = some [.int .i64 0, .int .i64 0, .int .i64 0] := by subst H; kernel_rfl
theorem zkg {P : Program} (H : P = Try.prog) : foff P 133 0 = some 0 := by subst H; kernel_rfl
theorem zkn {P : Program} (H : P = Try.prog) : foff P 133 1 = some 1 := by subst H; kernel_rfl
theorem zom {P : Program} (H : P = Try.prog) : foff P 133 2 = some 2 := by subst H; kernel_rfl
theorem zxy {P : Program} (H : P = Try.prog) : z8z P 147 = some ((List.replicate 4096 [.bool false]).flatten) := by subst H; kernel_rfl
theorem ix29 {P : Program} (H : P = Try.prog) : tidx P 29 = some (false, 0, 3) := by subst H; kernel_rfl
theorem zre {P : Program} (H : P = Try.prog) : z4i P 149 = some (true, 3) := by subst H; kernel_rfl
theorem zwk {P : Program} (H : P = Try.prog) : z8z P 149 = some [.int .i64 0, .int .i64 0, .int .i64 0] := by subst H; kernel_rfl
theorem zdk {P : Program} (H : P = Try.prog) : foff P 149 0 = some 0 := by subst H; kernel_rfl
theorem zd7 {P : Program} (H : P = Try.prog) : foff P 149 1 = some 1 := by subst H; kernel_rfl
theorem zpc {P : Program} (H : P = Try.prog) : foff P 149 2 = some 2 := by subst H; kernel_rfl
theorem z5h {P : Program} (H : P = Try.prog) : P.follows .mixedOrders = true := by subst H; kernel_rfl
theorem zwr {P : Program} (H : P = Try.prog) : tidx P 147 = some (true, 64, 64) := by subst H; kernel_rfl
theorem zw2 {P : Program} (H : P = Try.prog) : tidx P 146 = some (true, 64, 1) := by subst H; kernel_rfl
theorem tl4 {P : Program} (H : P = Try.prog) : z4i P 4 = some (false, 1) := by subst H; kernel_rfl
theorem fn58 {P : Program} (H : P = Try.prog) : P.funcs[58]? = some Try.f58 := by subst H; exact Try.func58
theorem zow {P : Program} (H : P = Try.prog) : foff P 105 0 = some 0 := by subst H; kernel_rfl
theorem zyh {P : Program} (H : P = Try.prog) : z4i P 103 = some (true, 14) := by subst H; kernel_rfl
theorem zy4 {P : Program} (H : P = Try.prog) : tarr P 103 = some (7, 62) := by subst H; kernel_rfl
theorem tl62 {P : Program} (H : P = Try.prog) : z4i P 62 = some (true, 2) := by subst H; kernel_rfl
theorem ze62 {P : Program} (H : P = Try.prog) : z8z P 62 = some [.int .i64 0, .int .i64 0] := by subst H; kernel_rfl
theorem zgc {P : Program} (H : P = Try.prog) : foff P 62 0 = some 0 := by subst H; kernel_rfl
theorem zjf {P : Program} (H : P = Try.prog) : foff P 62 1 = some 1 := by subst H; kernel_rfl
theorem zh8 {P : Program} (H : P = Try.prog) : foff P 105 1 = some 14 := by subst H; kernel_rfl
theorem tl96 {P : Program} (H : P = Try.prog) : z4i P 96 = some (false, 1) := by subst H; kernel_rfl
theorem fn60 {P : Program} (H : P = Try.prog) : P.funcs[60]? = some Try.f60 := by subst H; exact Try.func60
theorem zye {P : Program} (H : P = Try.prog) : P.funcs[101]? = some Try.f101 := by subst H; exact Try.func101
theorem us41 {P : Program} (H : P = Try.prog) : (P.underlying 41).isSome = true := by subst H; kernel_rfl
theorem un5 {P : Program} (H : P = Try.prog) : P.underlying 5 = some (.int .u8) := by subst H; kernel_rfl
theorem un9 {P : Program} (H : P = Try.prog) : P.underlying 9 = some .string := by subst H; kernel_rfl
theorem us5 {P : Program} (H : P = Try.prog) : (P.underlying 5).isSome = true := by subst H; kernel_rfl
theorem un3 {P : Program} (H : P = Try.prog) : P.underlying 3 = some (.int .i64) := by subst H; kernel_rfl
theorem fn96 {P : Program} (H : P = Try.prog) : P.funcs[96]? = some Try.f96 := by subst H; exact Try.func96
theorem zpw {P : Program} (H : P = Try.prog) : FnOK P 96 := by subst H; exact ⟨Try.f96, Try.func96, by kernel_rfl, by kernel_rfl⟩
theorem zy8 {P : Program} (H : P = Try.prog) : P.funcs[105]? = some Try.f105 := by subst H; exact Try.func105
theorem ztl {P : Program} (H : P = Try.prog) : FnOK P 105 := by subst H; exact ⟨Try.f105, Try.func105, by kernel_rfl, by kernel_rfl⟩
theorem us3 {P : Program} (H : P = Try.prog) : (P.underlying 3).isSome = true := by subst H; kernel_rfl
theorem zft {P : Program} (H : P = Try.prog) : P.underlying 159 = some (.int .u64) := by subst H; kernel_rfl
theorem zy6 {P : Program} (H : P = Try.prog) : P.funcs[102]? = some Try.f102 := by subst H; exact Try.func102
theorem zvh {P : Program} (H : P = Try.prog) : FnOK P 95 := by subst H; exact ⟨Try.f95, Try.func95, by kernel_rfl, by kernel_rfl⟩
theorem fn95 {P : Program} (H : P = Try.prog) : P.funcs[95]? = some Try.f95 := by subst H; exact Try.func95
theorem zop {P : Program} (H : P = Try.prog) : FnOK P 100 := by subst H; exact ⟨Try.f100, Try.func100, by kernel_rfl, by kernel_rfl⟩
theorem zvw {P : Program} (H : P = Try.prog) : P.funcs[100]? = some Try.f100 := by subst H; exact Try.func100
theorem tl41 {P : Program} (H : P = Try.prog) : z4i P 41 = some (false, 1) := by subst H; kernel_rfl
theorem zp9 {P : Program} (H : P = Try.prog) : FnOK P 101 := by subst H; exact ⟨Try.f101, Try.func101, by kernel_rfl, by kernel_rfl⟩
theorem zpb {P : Program} (H : P = Try.prog) : FnOK P 102 := by subst H; exact ⟨Try.f102, Try.func102, by kernel_rfl, by kernel_rfl⟩
theorem fn79 {P : Program} (H : P = Try.prog) : P.funcs[79]? = some Try.f79 := by subst H; exact Try.func79
theorem zvt {P : Program} (H : P = Try.prog) : FnOK P 79 := by subst H; exact ⟨Try.f79, Try.func79, by kernel_rfl, by kernel_rfl⟩
theorem fn61 {P : Program} (H : P = Try.prog) : P.funcs[61]? = some Try.f61 := by subst H; exact Try.func61
theorem zar {P : Program} (H : P = Try.prog) : foff P 36 0 = some 0 := by subst H; kernel_rfl
theorem tl25 {P : Program} (H : P = Try.prog) : z4i P 25 = some (true, 2) := by subst H; kernel_rfl
theorem zvg {P : Program} (H : P = Try.prog) : FnOK P 57 := by subst H; exact ⟨Try.f57, Try.func57, by kernel_rfl, by kernel_rfl⟩
theorem zde {P : Program} (H : P = Try.prog) : foff P 36 1 = some 2 := by subst H; kernel_rfl
theorem tl31 {P : Program} (H : P = Try.prog) : z4i P 31 = some (true, 4) := by subst H; kernel_rfl
theorem zvm {P : Program} (H : P = Try.prog) : FnOK P 58 := by subst H; exact ⟨Try.f58, Try.func58, by kernel_rfl, by kernel_rfl⟩
theorem zjx {P : Program} (H : P = Try.prog) : foff P 36 2 = some 6 := by subst H; kernel_rfl
theorem tl32 {P : Program} (H : P = Try.prog) : z4i P 32 = some (false, 1) := by subst H; kernel_rfl
theorem il32 {P : Program} (H : P = Try.prog) : isSl P 32 = true := by subst H; kernel_rfl
theorem zjp {P : Program} (H : P = Try.prog) : foff P 36 3 = some 7 := by subst H; kernel_rfl
theorem tl33 {P : Program} (H : P = Try.prog) : z4i P 33 = some (false, 1) := by subst H; kernel_rfl
theorem il33 {P : Program} (H : P = Try.prog) : isSl P 33 = true := by subst H; kernel_rfl
theorem zcx {P : Program} (H : P = Try.prog) : foff P 36 4 = some 8 := by subst H; kernel_rfl
theorem tl34 {P : Program} (H : P = Try.prog) : z4i P 34 = some (false, 1) := by subst H; kernel_rfl
theorem il34 {P : Program} (H : P = Try.prog) : isSl P 34 = true := by subst H; kernel_rfl
theorem ix32 {P : Program} (H : P = Try.prog) : tidx P 32 = some (false, 0, 3) := by subst H; kernel_rfl
theorem zrd {P : Program} (H : P = Try.prog) : z4i P 119 = some (true, 3) := by subst H; kernel_rfl
theorem zx5 {P : Program} (H : P = Try.prog) : z8z P 119 = some [.int .i64 0, .int .i64 0, .int .i64 0] := by subst H; kernel_rfl
theorem zqd {P : Program} (H : P = Try.prog) : foff P 119 0 = some 0 := by subst H; kernel_rfl
theorem zke {P : Program} (H : P = Try.prog) : foff P 119 1 = some 1 := by subst H; kernel_rfl
theorem zk4 {P : Program} (H : P = Try.prog) : foff P 119 2 = some 2 := by subst H; kernel_rfl
theorem ix33 {P : Program} (H : P = Try.prog) : tidx P 33 = some (false, 0, 1) := by subst H; kernel_rfl
theorem zvx {P : Program} (H : P = Try.prog) : z4i P 122 = some (true, 1) := by subst H; kernel_rfl
theorem zy2 {P : Program} (H : P = Try.prog) : z8z P 122 = some [.int .i64 0] := by subst H; kernel_rfl
theorem zki {P : Program} (H : P = Try.prog) : foff P 122 0 = some 0 := by subst H; kernel_rfl
theorem ix34 {P : Program} (H : P = Try.prog) : tidx P 34 = some (false, 0, 16) := by subst H; kernel_rfl
theorem zwz {P : Program} (H : P = Try.prog) : z4i P 107 = some (true, 16) := by subst H; kernel_rfl
theorem zm6 {P : Program} (H : P = Try.prog) : foff P 107 1 = some 1 := by subst H; kernel_rfl
theorem zuv {P : Program} (H : P = Try.prog) : z4i P 105 = some (true, 15) := by subst H; kernel_rfl
theorem zw3 {P : Program} (H : P = Try.prog) : FnOK P 60 := by subst H; exact ⟨Try.f60, Try.func60, by kernel_rfl, by kernel_rfl⟩
theorem zp6 {P : Program} (H : P = Try.prog) : foff P 107 0 = some 0 := by subst H; kernel_rfl
theorem zvd {P : Program} (H : P = Try.prog) : FnOK P 61 := by subst H; exact ⟨Try.f61, Try.func61, by kernel_rfl, by kernel_rfl⟩
theorem fn37 {P : Program} (H : P = Try.prog) : P.funcs[37]? = some Try.f37 := by subst H; exact Try.func37
theorem zlt {P : Program} (H : P = Try.prog) : foff P 46 1 = some 1 := by subst H; kernel_rfl
theorem tl43 {P : Program} (H : P = Try.prog) : z4i P 43 = some (true, 2) := by subst H; kernel_rfl
theorem zxx {P : Program} (H : P = Try.prog) : teq P 43 = some [0, 1] := by subst H; kernel_rfl
theorem eg43 {P : Program} (H : P = Try.prog) : P.eqGuardType P.depth 43 = false := by subst H; kernel_rfl
theorem zgi {P : Program} (H : P = Try.prog) : foff P 46 0 = some 0 := by subst H; kernel_rfl
theorem zaq {P : Program} (H : P = Try.prog) : foff P 43 0 = some 0 := by subst H; kernel_rfl
theorem zjw {P : Program} (H : P = Try.prog) : foff P 43 1 = some 1 := by subst H; kernel_rfl
theorem fn47 {P : Program} (H : P = Try.prog) : P.funcs[47]? = some Try.f47 := by subst H; exact Try.func47
theorem il44 {P : Program} (H : P = Try.prog) : isSl P 44 = true := by subst H; kernel_rfl
theorem tl46 {P : Program} (H : P = Try.prog) : z4i P 46 = some (true, 16) := by subst H; kernel_rfl
theorem zwg {P : Program} (H : P = Try.prog) : z8z P 137 = some [.slice none 0 0, .slice none 0 0, .slice none 0 0, .slice none 0 0, .slice none 0 0, .slice none 0 0, .slice none 0 0, .slice none 0 0, .slice none 0 0, .int .i64 0, .int .i64 0, .int .i64 0, .int .i64 0, .int .i64 0, .int .i64 0, .int .i64 0, .int .i64 0, .int .i64 0, .int .i64 0, .int .i64 0, .int .i64 0, .int .i64 0, .int .i64 0, .string ⟨#[]⟩, .slice none 0 0, .bool false] := by subst H; kernel_rfl
theorem zu8 {P : Program} (H : P = Try.prog) : z3c P 137 0 = some (0, 9) := by subst H; kernel_rfl
theorem zu3 {P : Program} (H : P = Try.prog) : z3c P 137 1 = some (9, 16) := by subst H; kernel_rfl
theorem ztu {P : Program} (H : P = Try.prog) : z3c P 137 2 = some (25, 1) := by subst H; kernel_rfl
theorem zxv {P : Program} (H : P = Try.prog) : za6 P 137 = true := by subst H; kernel_rfl
theorem zy7 {P : Program} (H : P = Try.prog) : z4i P 137 = some (true, 26) := by subst H; kernel_rfl
theorem zvn {P : Program} (H : P = Try.prog) : FnOK P 71 := by subst H; exact ⟨Try.f71, Try.func71, by kernel_rfl, by kernel_rfl⟩
theorem fn71 {P : Program} (H : P = Try.prog) : P.funcs[71]? = some Try.f71 := by subst H; exact Try.func71
theorem zc2 {P : Program} (H : P = Try.prog) : foff P 137 1 = some 9 := by subst H; kernel_rfl
theorem zwp {P : Program} (H : P = Try.prog) : FnOK P 84 := by subst H; exact ⟨Try.f84, Try.func84, by kernel_rfl, by kernel_rfl⟩
theorem fn84 {P : Program} (H : P = Try.prog) : P.funcs[84]? = some Try.f84 := by subst H; exact Try.func84
theorem zgg {P : Program} (H : P = Try.prog) : foff P 46 2 = some 3 := by subst H; kernel_rfl
theorem zmb {P : Program} (H : P = Try.prog) : foff P 137 0 = some 0 := by subst H; kernel_rfl
theorem zok {P : Program} (H : P = Try.prog) : FnOK P 85 := by subst H; exact ⟨Try.f85, Try.func85, by kernel_rfl, by kernel_rfl⟩
theorem fn85 {P : Program} (H : P = Try.prog) : P.funcs[85]? = some Try.f85 := by subst H; exact Try.func85
theorem zad {P : Program} (H : P = Try.prog) : foff P 137 2 = some 25 := by subst H; kernel_rfl
theorem zxg {P : Program} (H : P = Try.prog) : FnOK P 87 := by subst H; exact ⟨Try.f87, Try.func87, by kernel_rfl, by kernel_rfl⟩
theorem fn87 {P : Program} (H : P = Try.prog) : P.funcs[87]? = some Try.f87 := by subst H; exact Try.func87
theorem zc8 {P : Program} (H : P = Try.prog) : foff P 46 3 = some 4 := by subst H; kernel_rfl
theorem zdb {P : Program} (H : P = Try.prog) : foff P 46 4 = some 5 := by subst H; kernel_rfl
theorem zv7 {P : Program} (H : P = Try.prog) : FnOK P 86 := by subst H; exact ⟨Try.f86, Try.func86, by kernel_rfl, by kernel_rfl⟩
theorem fn86 {P : Program} (H : P = Try.prog) : P.funcs[86]? = some Try.f86 := by subst H; exact Try.func86
theorem zbx {P : Program} (H : P = Try.prog) : foff P 46 6 = some 7 := by subst H; kernel_rfl
theorem zjl {P : Program} (H : P = Try.prog) : foff P 46 8 = some 9 := by subst H; kernel_rfl
theorem zvp {P : Program} (H : P = Try.prog) : FnOK P 73 := by subst H; exact ⟨Try.f73, Try.func73, by kernel_rfl, by kernel_rfl⟩
theorem fn73 {P : Program} (H : P = Try.prog) : P.funcs[73]? = some Try.f73 := by subst H; exact Try.func73
theorem zxb {P : Program} (H : P = Try.prog) : foff P 46 5 = some 6 := by subst H; kernel_rfl
theorem zur {P : Program} (H : P = Try.prog) : foff P 46 7 = some 8 := by subst H; kernel_rfl
theorem zwo {P : Program} (H : P = Try.prog) : foff P 46 9 = some 10 := by subst H; kernel_rfl
theorem ztw {P : Program} (H : P = Try.prog) : foff P 46 10 = some 11 := by subst H; kernel_rfl
theorem zuc {P : Program} (H : P = Try.prog) : foff P 46 11 = some 12 := by subst H; kernel_rfl
theorem zt8 {P : Program} (H : P = Try.prog) : foff P 46 12 = some 13 := by subst H; kernel_rfl
theorem zwq {P : Program} (H : P = Try.prog) : z8z P 139 = some [.pointer none, .pointer none, .pointer none, .pointer none, .pointer none, .pointer none, .pointer none, .pointer none, .pointer none, .pointer none, .pointer none] := by subst H; kernel_rfl
theorem ztr {P : Program} (H : P = Try.prog) : z3c P 139 0 = some (0, 1) := by subst H; kernel_rfl
theorem zu4 {P : Program} (H : P = Try.prog) : z3c P 139 1 = some (1, 1) := by subst H; kernel_rfl
theorem zue {P : Program} (H : P = Try.prog) : z3c P 139 2 = some (2, 1) := by subst H; kernel_rfl
theorem ztv {P : Program} (H : P = Try.prog) : z3c P 139 3 = some (3, 1) := by subst H; kernel_rfl
theorem zuf {P : Program} (H : P = Try.prog) : z3c P 139 4 = some (4, 1) := by subst H; kernel_rfl
theorem ztk {P : Program} (H : P = Try.prog) : z3c P 139 5 = some (5, 1) := by subst H; kernel_rfl
theorem zu5 {P : Program} (H : P = Try.prog) : z3c P 139 6 = some (6, 1) := by subst H; kernel_rfl
theorem zt2 {P : Program} (H : P = Try.prog) : z3c P 139 7 = some (7, 1) := by subst H; kernel_rfl
theorem zua {P : Program} (H : P = Try.prog) : z3c P 139 8 = some (8, 1) := by subst H; kernel_rfl
theorem ztx {P : Program} (H : P = Try.prog) : z3c P 139 9 = some (9, 1) := by subst H; kernel_rfl
theorem zrk {P : Program} (H : P = Try.prog) : z3c P 139 10 = some (10, 1) := by subst H; kernel_rfl
theorem zy5 {P : Program} (H : P = Try.prog) : za6 P 139 = true := by subst H; kernel_rfl
theorem zxk {P : Program} (H : P = Try.prog) : z4i P 139 = some (true, 11) := by subst H; kernel_rfl
theorem zxo {P : Program} (H : P = Try.prog) : tarr P 139 = some (11, 138) := by subst H; kernel_rfl
theorem zxm {P : Program} (H : P = Try.prog) : z4i P 138 = some (false, 1) := by subst H; kernel_rfl
theorem zoi {P : Program} (H : P = Try.prog) : foff P 46 13 = some 14 := by subst H; kernel_rfl
theorem tl9 {P : Program} (H : P = Try.prog) : z4i P 9 = some (false, 1) := by subst H; kernel_rfl
theorem zps {P : Program} (H : P = Try.prog) : foff P 46 14 = some 15 := by subst H; kernel_rfl
theorem tl44 {P : Program} (H : P = Try.prog) : z4i P 44 = some (false, 1) := by subst H; kernel_rfl
theorem fn48 {P : Program} (H : P = Try.prog) : P.funcs[48]? = some Try.f48 := by subst H; exact Try.func48
theorem zn7 {P : Program} (H : P = Try.prog) : FnOK P 37 := by subst H; exact ⟨Try.f37, Try.func37, by kernel_rfl, by kernel_rfl⟩
theorem zv2 {P : Program} (H : P = Try.prog) : FnOK P 47 := by subst H; exact ⟨Try.f47, Try.func47, by kernel_rfl, by kernel_rfl⟩
theorem zwu {P : Program} (H : P = Try.prog) : FnOK P 48 := by subst H; exact ⟨Try.f48, Try.func48, by kernel_rfl, by kernel_rfl⟩
theorem fn21 {P : Program} (H : P = Try.prog) : P.funcs[21]? = some Try.f21 := by subst H; exact Try.func21
theorem il37 {P : Program} (H : P = Try.prog) : isSl P 37 = true := by subst H; kernel_rfl
theorem ix37 {P : Program} (H : P = Try.prog) : tidx P 37 = some (false, 0, 21) := by subst H; kernel_rfl
theorem z6x {P : Program} (H : P = Try.prog) : foff P 48 3 = some 5 := by subst H; kernel_rfl
theorem znb {P : Program} (H : P = Try.prog) : FnOK P 21 := by subst H; exact ⟨Try.f21, Try.func21, by kernel_rfl, by kernel_rfl⟩
theorem fn39 {P : Program} (H : P = Try.prog) : P.funcs[39]? = some Try.f39 := by subst H; exact Try.func39
theorem fn56 {P : Program} (H : P = Try.prog) : P.funcs[56]? = some Try.f56 := by subst H; exact Try.func56
theorem zs4 {P : Program} (H : P = Try.prog) : FnOK P 56 := by subst H; exact ⟨Try.f56, Try.func56, by kernel_rfl, by kernel_rfl⟩
theorem fn35 {P : Program} (H : P = Try.prog) : P.funcs[35]? = some Try.f35 := by subst H; exact Try.func35
theorem fn34 {P : Program} (H : P = Try.prog) : P.funcs[34]? = some Try.f34 := by subst H; exact Try.func34
theorem zji {P : Program} (H : P = Try.prog) : FnOK P 35 := by subst H; exact ⟨Try.f35, Try.func35, by kernel_rfl, by kernel_rfl⟩
theorem znl {P : Program} (H : P = Try.prog) : FnOK P 34 := by subst H; exact ⟨Try.f34, Try.func34, by kernel_rfl, by kernel_rfl⟩
theorem fn36 {P : Program} (H : P = Try.prog) : P.funcs[36]? = some Try.f36 := by subst H; exact Try.func36
theorem fn92 {P : Program} (H : P = Try.prog) : P.funcs[92]? = some Try.f92 := by subst H; exact Try.func92
theorem zxp {P : Program} (H : P = Try.prog) : P.funcs[104]? = some Try.f104 := by subst H; exact Try.func104
theorem zmo {P : Program} (H : P = Try.prog) : FnOK P 104 := by subst H; exact ⟨Try.f104, Try.func104, by kernel_rfl, by kernel_rfl⟩
theorem fn98 {P : Program} (H : P = Try.prog) : P.funcs[98]? = some Try.f98 := by subst H; exact Try.func98
theorem zgk {P : Program} (H : P = Try.prog) : (P.underlying 159).isSome = true := by subst H; kernel_rfl
theorem zv8 {P : Program} (H : P = Try.prog) : FnOK P 98 := by subst H; exact ⟨Try.f98, Try.func98, by kernel_rfl, by kernel_rfl⟩
theorem zn9 {P : Program} (H : P = Try.prog) : FnOK P 93 := by subst H; exact ⟨Try.f93, Try.func93, by kernel_rfl, by kernel_rfl⟩
theorem fn93 {P : Program} (H : P = Try.prog) : P.funcs[93]? = some Try.f93 := by subst H; exact Try.func93
theorem zrp {P : Program} (H : P = Try.prog) : FnOK P 92 := by subst H; exact ⟨Try.f92, Try.func92, by kernel_rfl, by kernel_rfl⟩
theorem fn74 {P : Program} (H : P = Try.prog) : P.funcs[74]? = some Try.f74 := by subst H; exact Try.func74
theorem zxh {P : Program} (H : P = Try.prog) : FnOK P 74 := by subst H; exact ⟨Try.f74, Try.func74, by kernel_rfl, by kernel_rfl⟩
theorem fn51 {P : Program} (H : P = Try.prog) : P.funcs[51]? = some Try.f51 := by subst H; exact Try.func51
theorem z9x {P : Program} (H : P = Try.prog) : foff P 48 0 = some 0 := by subst H; kernel_rfl
theorem fn53 {P : Program} (H : P = Try.prog) : P.funcs[53]? = some Try.f53 := by subst H; exact Try.func53
theorem fn54 {P : Program} (H : P = Try.prog) : P.funcs[54]? = some Try.f54 := by subst H; exact Try.func54
theorem tl37 {P : Program} (H : P = Try.prog) : z4i P 37 = some (false, 1) := by subst H; kernel_rfl
theorem znq {P : Program} (H : P = Try.prog) : FnOK P 39 := by subst H; exact ⟨Try.f39, Try.func39, by kernel_rfl, by kernel_rfl⟩
theorem zn3 {P : Program} (H : P = Try.prog) : FnOK P 36 := by subst H; exact ⟨Try.f36, Try.func36, by kernel_rfl, by kernel_rfl⟩
theorem fn52 {P : Program} (H : P = Try.prog) : P.funcs[52]? = some Try.f52 := by subst H; exact Try.func52
theorem zx2 {P : Program} (H : P = Try.prog) : FnOK P 52 := by subst H; exact ⟨Try.f52, Try.func52, by kernel_rfl, by kernel_rfl⟩
theorem zvl {P : Program} (H : P = Try.prog) : FnOK P 51 := by subst H; exact ⟨Try.f51, Try.func51, by kernel_rfl, by kernel_rfl⟩
theorem zw4 {P : Program} (H : P = Try.prog) : FnOK P 53 := by subst H; exact ⟨Try.f53, Try.func53, by kernel_rfl, by kernel_rfl⟩
theorem um95 {P : Program} (H : P = Try.prog) : P.underlying 95 = some (.map 3 4) := by subst H; kernel_rfl
theorem tz4 {P : Program} (H : P = Try.prog) : tz1 P 4 = some (.bool false) := by subst H; kernel_rfl
theorem zof {P : Program} (H : P = Try.prog) : FnOK P 54 := by subst H; exact ⟨Try.f54, Try.func54, by kernel_rfl, by kernel_rfl⟩
theorem ze89 {P : Program} (H : P = Try.prog) : z8z P 89 = some [.int .i64 0, .int .i64 0] := by subst H; kernel_rfl
theorem zuo {P : Program} (H : P = Try.prog) : z3c P 89 0 = some (0, 1) := by subst H; kernel_rfl
theorem zxd {P : Program} (H : P = Try.prog) : z3c P 89 1 = some (1, 1) := by subst H; kernel_rfl
theorem tb89 {P : Program} (H : P = Try.prog) : za6 P 89 = true := by subst H; kernel_rfl
theorem sl87 {P : Program} (H : P = Try.prog) : tsl P 87 = some (89, 2, 16) := by subst H; kernel_rfl
theorem fn31 {P : Program} (H : P = Try.prog) : P.funcs[31]? = some Try.f31 := by subst H; exact Try.func31
theorem ix53 {P : Program} (H : P = Try.prog) : tidx P 53 = some (false, 0, 10) := by subst H; kernel_rfl
theorem tl70 {P : Program} (H : P = Try.prog) : z4i P 70 = some (true, 10) := by subst H; kernel_rfl
theorem fn75 {P : Program} (H : P = Try.prog) : P.funcs[75]? = some Try.f75 := by subst H; exact Try.func75
theorem fn99 {P : Program} (H : P = Try.prog) : P.funcs[99]? = some Try.f99 := by subst H; exact Try.func99
theorem zq7 {P : Program} (H : P = Try.prog) : FnOK P 99 := by subst H; exact ⟨Try.f99, Try.func99, by kernel_rfl, by kernel_rfl⟩
theorem fn94 {P : Program} (H : P = Try.prog) : P.funcs[94]? = some Try.f94 := by subst H; exact Try.func94
theorem zw5 {P : Program} (H : P = Try.prog) : FnOK P 94 := by subst H; exact ⟨Try.f94, Try.func94, by kernel_rfl, by kernel_rfl⟩
theorem zn2 {P : Program} (H : P = Try.prog) : FnOK P 76 := by subst H; exact ⟨Try.f76, Try.func76, by kernel_rfl, by kernel_rfl⟩
theorem fn76 {P : Program} (H : P = Try.prog) : P.funcs[76]? = some Try.f76 := by subst H; exact Try.func76
theorem zsy {P : Program} (H : P = Try.prog) : FnOK P 75 := by subst H; exact ⟨Try.f75, Try.func75, by kernel_rfl, by kernel_rfl⟩
theorem fn55 {P : Program} (H : P = Try.prog) : P.funcs[55]? = some Try.f55 := by subst H; exact Try.func55
theorem il53 {P : Program} (H : P = Try.prog) : isSl P 53 = true := by subst H; kernel_rfl
theorem zvi {P : Program} (H : P = Try.prog) : FnOK P 55 := by subst H; exact ⟨Try.f55, Try.func55, by kernel_rfl, by kernel_rfl⟩
theorem fn32 {P : Program} (H : P = Try.prog) : P.funcs[32]? = some Try.f32 := by subst H; exact Try.func32
theorem ze0 {P : Program} (H : P = Try.prog) : foff P 70 4 = some 4 := by subst H; kernel_rfl
theorem znd {P : Program} (H : P = Try.prog) : foff P 70 0 = some 0 := by subst H; kernel_rfl
theorem zos {P : Program} (H : P = Try.prog) : foff P 70 6 = some 6 := by subst H; kernel_rfl
theorem fn33 {P : Program} (H : P = Try.prog) : P.funcs[33]? = some Try.f33 := by subst H; exact Try.func33
theorem zsi {P : Program} (H : P = Try.prog) : FnOK P 31 := by subst H; exact ⟨Try.f31, Try.func31, by kernel_rfl, by kernel_rfl⟩
theorem il87 {P : Program} (H : P = Try.prog) : isSl P 87 = true := by subst H; kernel_rfl
theorem ix87 {P : Program} (H : P = Try.prog) : tidx P 87 = some (false, 0, 2) := by subst H; kernel_rfl
theorem tl89 {P : Program} (H : P = Try.prog) : z4i P 89 = some (true, 2) := by subst H; kernel_rfl
theorem za89 {P : Program} (H : P = Try.prog) : z8z P 89 = some ((List.replicate 2 [.int .i64 0]).flatten) := by subst H; kernel_rfl
theorem ix89 {P : Program} (H : P = Try.prog) : tidx P 89 = some (true, 2, 1) := by subst H; kernel_rfl
theorem ze70 {P : Program} (H : P = Try.prog) : z8z P 70 = some [.int .i64 0, .int .i64 0, .int .i64 0, .int .i64 0, .int .i64 0, .int .i64 0, .int .i64 0, .int .i64 0, .int .i64 0, .int .i64 0] := by subst H; kernel_rfl
theorem zx9 {P : Program} (H : P = Try.prog) : z3c P 70 0 = some (0, 1) := by subst H; kernel_rfl
theorem zsb {P : Program} (H : P = Try.prog) : z3c P 70 1 = some (1, 1) := by subst H; kernel_rfl
theorem zuz {P : Program} (H : P = Try.prog) : z3c P 70 2 = some (2, 1) := by subst H; kernel_rfl
theorem zrw {P : Program} (H : P = Try.prog) : z3c P 70 3 = some (3, 1) := by subst H; kernel_rfl
theorem zro {P : Program} (H : P = Try.prog) : z3c P 70 4 = some (4, 1) := by subst H; kernel_rfl
theorem zsc {P : Program} (H : P = Try.prog) : z3c P 70 5 = some (5, 1) := by subst H; kernel_rfl
theorem zs5 {P : Program} (H : P = Try.prog) : z3c P 70 6 = some (6, 2) := by subst H; kernel_rfl
theorem zry {P : Program} (H : P = Try.prog) : z3c P 70 7 = some (8, 2) := by subst H; kernel_rfl
theorem tb70 {P : Program} (H : P = Try.prog) : za6 P 70 = true := by subst H; kernel_rfl
theorem sl53 {P : Program} (H : P = Try.prog) : tsl P 53 = some (70, 10, 80) := by subst H; kernel_rfl
theorem zv4 {P : Program} (H : P = Try.prog) : FnOK P 33 := by subst H; exact ⟨Try.f33, Try.func33, by kernel_rfl, by kernel_rfl⟩
theorem zxa {P : Program} (H : P = Try.prog) : FnOK P 32 := by subst H; exact ⟨Try.f32, Try.func32, by kernel_rfl, by kernel_rfl⟩
theorem fn13 {P : Program} (H : P = Try.prog) : P.funcs[13]? = some Try.f13 := by subst H; exact Try.func13
theorem fn29 {P : Program} (H : P = Try.prog) : P.funcs[29]? = some Try.f29 := by subst H; exact Try.func29
theorem ze64 {P : Program} (H : P = Try.prog) : z8z P 64 = some [.int .i64 0, .int .i64 0, .int .i64 0, .int .i64 0, .int .i64 0] := by subst H; kernel_rfl
theorem zqh {P : Program} (H : P = Try.prog) : z3c P 64 0 = some (0, 1) := by subst H; kernel_rfl
theorem tb64 {P : Program} (H : P = Try.prog) : za6 P 64 = true := by subst H; kernel_rfl
theorem sl49 {P : Program} (H : P = Try.prog) : tsl P 49 = some (64, 5, 40) := by subst H; kernel_rfl
theorem zkv {P : Program} (H : P = Try.prog) : FnOK P 13 := by subst H; exact ⟨Try.f13, Try.func13, by kernel_rfl, by kernel_rfl⟩
theorem il49 {P : Program} (H : P = Try.prog) : isSl P 49 = true := by subst H; kernel_rfl
theorem ix49 {P : Program} (H : P = Try.prog) : tidx P 49 = some (false, 0, 5) := by subst H; kernel_rfl
theorem tl64 {P : Program} (H : P = Try.prog) : z4i P 64 = some (true, 5) := by subst H; kernel_rfl
theorem zna {P : Program} (H : P = Try.prog) : foff P 70 2 = some 2 := by subst H; kernel_rfl
theorem zrm {P : Program} (H : P = Try.prog) : foff P 64 0 = some 0 := by subst H; kernel_rfl
theorem zje {P : Program} (H : P = Try.prog) : foff P 64 1 = some 1 := by subst H; kernel_rfl
theorem zn1 {P : Program} (H : P = Try.prog) : foff P 70 3 = some 3 := by subst H; kernel_rfl
theorem zs8 {P : Program} (H : P = Try.prog) : z3c P 62 0 = some (0, 1) := by subst H; kernel_rfl
theorem tb62 {P : Program} (H : P = Try.prog) : za6 P 62 = true := by subst H; kernel_rfl
theorem zsn {P : Program} (H : P = Try.prog) : foff P 70 7 = some 8 := by subst H; kernel_rfl
theorem zpx {P : Program} (H : P = Try.prog) : z3c P 64 1 = some (1, 2) := by subst H; kernel_rfl
theorem zrn {P : Program} (H : P = Try.prog) : z3c P 64 2 = some (3, 2) := by subst H; kernel_rfl
theorem fn30 {P : Program} (H : P = Try.prog) : P.funcs[30]? = some Try.f30 := by subst H; exact Try.func30
theorem zsm {P : Program} (H : P = Try.prog) : FnOK P 29 := by subst H; exact ⟨Try.f29, Try.func29, by kernel_rfl, by kernel_rfl⟩
theorem zsz {P : Program} (H : P = Try.prog) : FnOK P 30 := by subst H; exact ⟨Try.f30, Try.func30, by kernel_rfl, by kernel_rfl⟩
theorem fn12 {P : Program} (H : P = Try.prog) : P.funcs[12]? = some Try.f12 := by subst H; exact Try.func12
theorem fn18 {P : Program} (H : P = Try.prog) : P.funcs[18]? = some Try.f18 := by subst H; exact Try.func18
theorem eg70 {P : Program} (H : P = Try.prog) : P.eqGuardType P.depth 70 = false := by subst H; kernel_rfl
theorem fn16 {P : Program} (H : P = Try.prog) : P.funcs[16]? = some Try.f16 := by subst H; exact Try.func16
theorem eg64 {P : Program} (H : P = Try.prog) : P.eqGuardType P.depth 64 = false := by subst H; kernel_rfl
theorem fn15 {P : Program} (H : P = Try.prog) : P.funcs[15]? = some Try.f15 := by subst H; exact Try.func15
theorem ui3 {P : Program} (H : P = Try.prog) : P.underlying 3 = some (.int .i64) := by subst H; kernel_rfl
theorem ze3 {P : Program} (H : P = Try.prog) : z8z P 3 = some [.int .i64 0] := by subst H; kernel_rfl
theorem fn62 {P : Program} (H : P = Try.prog) : P.funcs[62]? = some Try.f62 := by subst H; exact Try.func62
theorem zww {P : Program} (H : P = Try.prog) : isSl P 125 = true := by subst H; kernel_rfl
theorem zvc {P : Program} (H : P = Try.prog) : tidx P 125 = some (false, 0, 1) := by subst H; kernel_rfl
theorem zwe {P : Program} (H : P = Try.prog) : FnOK P 62 := by subst H; exact ⟨Try.f62, Try.func62, by kernel_rfl, by kernel_rfl⟩
theorem fn38 {P : Program} (H : P = Try.prog) : P.funcs[38]? = some Try.f38 := by subst H; exact Try.func38
theorem ix55 {P : Program} (H : P = Try.prog) : tidx P 55 = some (false, 0, 2) := by subst H; kernel_rfl
theorem fn80 {P : Program} (H : P = Try.prog) : P.funcs[80]? = some Try.f80 := by subst H; exact Try.func80
theorem zyc {P : Program} (H : P = Try.prog) : P.funcs[103]? = some Try.f103 := by subst H; exact Try.func103
theorem zme {P : Program} (H : P = Try.prog) : FnOK P 103 := by subst H; exact ⟨Try.f103, Try.func103, by kernel_rfl, by kernel_rfl⟩
theorem fn97 {P : Program} (H : P = Try.prog) : P.funcs[97]? = some Try.f97 := by subst H; exact Try.func97
theorem zwt {P : Program} (H : P = Try.prog) : FnOK P 97 := by subst H; exact ⟨Try.f97, Try.func97, by kernel_rfl, by kernel_rfl⟩
theorem znr {P : Program} (H : P = Try.prog) : FnOK P 81 := by subst H; exact ⟨Try.f81, Try.func81, by kernel_rfl, by kernel_rfl⟩
theorem fn81 {P : Program} (H : P = Try.prog) : P.funcs[81]? = some Try.f81 := by subst H; exact Try.func81
theorem zsx {P : Program} (H : P = Try.prog) : FnOK P 80 := by subst H; exact ⟨Try.f80, Try.func80, by kernel_rfl, by kernel_rfl⟩
theorem fn63 {P : Program} (H : P = Try.prog) : P.funcs[63]? = some Try.f63 := by subst H; exact Try.func63
theorem il55 {P : Program} (H : P = Try.prog) : isSl P 55 = true := by subst H; kernel_rfl
theorem zvr {P : Program} (H : P = Try.prog) : FnOK P 63 := by subst H; exact ⟨Try.f63, Try.func63, by kernel_rfl, by kernel_rfl⟩
theorem fn40 {P : Program} (H : P = Try.prog) : P.funcs[40]? = some Try.f40 := by subst H; exact Try.func40
theorem zxw {P : Program} (H : P = Try.prog) : tsl P 125 = some (96, 1, 24) := by subst H; kernel_rfl
theorem zwj {P : Program} (H : P = Try.prog) : FnOK P 38 := by subst H; exact ⟨Try.f38, Try.func38, by kernel_rfl, by kernel_rfl⟩
theorem sl55 {P : Program} (H : P = Try.prog) : tsl P 55 = some (43, 2, 16) := by subst H; kernel_rfl
theorem zva {P : Program} (H : P = Try.prog) : FnOK P 40 := by subst H; exact ⟨Try.f40, Try.func40, by kernel_rfl, by kernel_rfl⟩
theorem fn14 {P : Program} (H : P = Try.prog) : P.funcs[14]? = some Try.f14 := by subst H; exact Try.func14
theorem fn17 {P : Program} (H : P = Try.prog) : P.funcs[17]? = some Try.f17 := by subst H; exact Try.func17
theorem zx1 {P : Program} (H : P = Try.prog) : FnOK P 24 := by subst H; exact ⟨Try.f24, Try.func24, by kernel_rfl, by kernel_rfl⟩
theorem zn6 {P : Program} (H : P = Try.prog) : FnOK P 25 := by subst H; exact ⟨Try.f25, Try.func25, by kernel_rfl, by kernel_rfl⟩
theorem znn {P : Program} (H : P = Try.prog) : FnOK P 26 := by subst H; exact ⟨Try.f26, Try.func26, by kernel_rfl, by kernel_rfl⟩
theorem sl37 {P : Program} (H : P = Try.prog) : tsl P 37 = some (48, 21, 192) := by subst H; kernel_rfl
theorem zss {P : Program} (H : P = Try.prog) : FnOK P 12 := by subst H; exact ⟨Try.f12, Try.func12, by kernel_rfl, by kernel_rfl⟩
theorem zsw {P : Program} (H : P = Try.prog) : FnOK P 18 := by subst H; exact ⟨Try.f18, Try.func18, by kernel_rfl, by kernel_rfl⟩
theorem zvf {P : Program} (H : P = Try.prog) : FnOK P 16 := by subst H; exact ⟨Try.f16, Try.func16, by kernel_rfl, by kernel_rfl⟩
theorem zrv {P : Program} (H : P = Try.prog) : z3c P 62 1 = some (1, 1) := by subst H; kernel_rfl
theorem zvz {P : Program} (H : P = Try.prog) : FnOK P 15 := by subst H; exact ⟨Try.f15, Try.func15, by kernel_rfl, by kernel_rfl⟩
theorem zsf {P : Program} (H : P = Try.prog) : FnOK P 14 := by subst H; exact ⟨Try.f14, Try.func14, by kernel_rfl, by kernel_rfl⟩
theorem zul {P : Program} (H : P = Try.prog) : FnOK P 17 := by subst H; exact ⟨Try.f17, Try.func17, by kernel_rfl, by kernel_rfl⟩
theorem fn9 {P : Program} (H : P = Try.prog) : P.funcs[9]? = some Try.f9 := by subst H; exact Try.func9
theorem fn27 {P : Program} (H : P = Try.prog) : P.funcs[27]? = some Try.f27 := by subst H; exact Try.func27
theorem fn28 {P : Program} (H : P = Try.prog) : P.funcs[28]? = some Try.f28 := by subst H; exact Try.func28
theorem zum {P : Program} (H : P = Try.prog) : FnOK P 27 := by subst H; exact ⟨Try.f27, Try.func27, by kernel_rfl, by kernel_rfl⟩
theorem zvb {P : Program} (H : P = Try.prog) : FnOK P 28 := by subst H; exact ⟨Try.f28, Try.func28, by kernel_rfl, by kernel_rfl⟩
theorem fn10 {P : Program} (H : P = Try.prog) : P.funcs[10]? = some Try.f10 := by subst H; exact Try.func10
theorem fn11 {P : Program} (H : P = Try.prog) : P.funcs[11]? = some Try.f11 := by subst H; exact Try.func11
theorem zy9 {P : Program} (H : P = Try.prog) : FnOK P 9 := by subst H; exact ⟨Try.f9, Try.func9, by kernel_rfl, by kernel_rfl⟩
theorem zwc {P : Program} (H : P = Try.prog) : FnOK P 10 := by subst H; exact ⟨Try.f10, Try.func10, by kernel_rfl, by kernel_rfl⟩
theorem zuw {P : Program} (H : P = Try.prog) : FnOK P 11 := by subst H; exact ⟨Try.f11, Try.func11, by kernel_rfl, by kernel_rfl⟩
theorem fn82 {P : Program} (H : P = Try.prog) : P.funcs[82]? = some Try.f82 := by subst H; exact Try.func82
theorem zgh {P : Program} (H : P = Try.prog) : FnOK P 82 := by subst H; exact ⟨Try.f82, Try.func82, by kernel_rfl, by kernel_rfl⟩
theorem fn64 {P : Program} (H : P = Try.prog) : P.funcs[64]? = some Try.f64 := by subst H; exact Try.func64
theorem fn65 {P : Program} (H : P = Try.prog) : P.funcs[65]? = some Try.f65 := by subst H; exact Try.func65
theorem zwa {P : Program} (H : P = Try.prog) : FnOK P 64 := by subst H; exact ⟨Try.f64, Try.func64, by kernel_rfl, by kernel_rfl⟩
theorem zup {P : Program} (H : P = Try.prog) : FnOK P 65 := by subst H; exact ⟨Try.f65, Try.func65, by kernel_rfl, by kernel_rfl⟩
theorem fn41 {P : Program} (H : P = Try.prog) : P.funcs[41]? = some Try.f41 := by subst H; exact Try.func41
theorem fn68 {P : Program} (H : P = Try.prog) : P.funcs[68]? = some Try.f68 := by subst H; exact Try.func68
theorem z9q {P : Program} (H : P = Try.prog) : FnOK P 68 := by subst H; exact ⟨Try.f68, Try.func68, by kernel_rfl, by kernel_rfl⟩
theorem fn66 {P : Program} (H : P = Try.prog) : P.funcs[66]? = some Try.f66 := by subst H; exact Try.func66
theorem fn67 {P : Program} (H : P = Try.prog) : P.funcs[67]? = some Try.f67 := by subst H; exact Try.func67
theorem sl76 {P : Program} (H : P = Try.prog) : tsl P 76 = some (4, 1, 1) := by subst H; kernel_rfl
theorem ze4 {P : Program} (H : P = Try.prog) : z8z P 4 = some [.bool false] := by subst H; kernel_rfl
theorem ix76 {P : Program} (H : P = Try.prog) : tidx P 76 = some (false, 0, 1) := by subst H; kernel_rfl
theorem fn69 {P : Program} (H : P = Try.prog) : P.funcs[69]? = some Try.f69 := by subst H; exact Try.func69
theorem zw9 {P : Program} (H : P = Try.prog) : FnOK P 66 := by subst H; exact ⟨Try.f66, Try.func66, by kernel_rfl, by kernel_rfl⟩
theorem zvv {P : Program} (H : P = Try.prog) : FnOK P 67 := by subst H; exact ⟨Try.f67, Try.func67, by kernel_rfl, by kernel_rfl⟩
theorem zx0 {P : Program} (H : P = Try.prog) : FnOK P 69 := by subst H; exact ⟨Try.f69, Try.func69, by kernel_rfl, by kernel_rfl⟩
theorem fn42 {P : Program} (H : P = Try.prog) : P.funcs[42]? = some Try.f42 := by subst H; exact Try.func42
theorem fn43 {P : Program} (H : P = Try.prog) : P.funcs[43]? = some Try.f43 := by subst H; exact Try.func43
theorem fn44 {P : Program} (H : P = Try.prog) : P.funcs[44]? = some Try.f44 := by subst H; exact Try.func44
theorem zyi {P : Program} (H : P = Try.prog) : tidx P 103 = some (true, 7, 2) := by subst H; kernel_rfl
theorem fn45 {P : Program} (H : P = Try.prog) : P.funcs[45]? = some Try.f45 := by subst H; exact Try.func45
theorem fn83 {P : Program} (H : P = Try.prog) : P.funcs[83]? = some Try.f83 := by subst H; exact Try.func83
theorem zso {P : Program} (H : P = Try.prog) : FnOK P 83 := by subst H; exact ⟨Try.f83, Try.func83, by kernel_rfl, by kernel_rfl⟩
theorem fn70 {P : Program} (H : P = Try.prog) : P.funcs[70]? = some Try.f70 := by subst H; exact Try.func70
theorem zuk {P : Program} (H : P = Try.prog) : FnOK P 70 := by subst H; exact ⟨Try.f70, Try.func70, by kernel_rfl, by kernel_rfl⟩
theorem fn46 {P : Program} (H : P = Try.prog) : P.funcs[46]? = some Try.f46 := by subst H; exact Try.func46
theorem zx4 {P : Program} (H : P = Try.prog) : FnOK P 41 := by subst H; exact ⟨Try.f41, Try.func41, by kernel_rfl, by kernel_rfl⟩
theorem zvj {P : Program} (H : P = Try.prog) : FnOK P 42 := by subst H; exact ⟨Try.f42, Try.func42, by kernel_rfl, by kernel_rfl⟩
theorem zxf {P : Program} (H : P = Try.prog) : FnOK P 43 := by subst H; exact ⟨Try.f43, Try.func43, by kernel_rfl, by kernel_rfl⟩
theorem zxe {P : Program} (H : P = Try.prog) : FnOK P 44 := by subst H; exact ⟨Try.f44, Try.func44, by kernel_rfl, by kernel_rfl⟩
theorem zv9 {P : Program} (H : P = Try.prog) : FnOK P 45 := by subst H; exact ⟨Try.f45, Try.func45, by kernel_rfl, by kernel_rfl⟩
theorem zwm {P : Program} (H : P = Try.prog) : FnOK P 46 := by subst H; exact ⟨Try.f46, Try.func46, by kernel_rfl, by kernel_rfl⟩
theorem fn19 {P : Program} (H : P = Try.prog) : P.funcs[19]? = some Try.f19 := by subst H; exact Try.func19
theorem fn20 {P : Program} (H : P = Try.prog) : P.funcs[20]? = some Try.f20 := by subst H; exact Try.func20
theorem fn22 {P : Program} (H : P = Try.prog) : P.funcs[22]? = some Try.f22 := by subst H; exact Try.func22
theorem zvk {P : Program} (H : P = Try.prog) : FnOK P 19 := by subst H; exact ⟨Try.f19, Try.func19, by kernel_rfl, by kernel_rfl⟩
theorem zpk {P : Program} (H : P = Try.prog) : FnOK P 20 := by subst H; exact ⟨Try.f20, Try.func20, by kernel_rfl, by kernel_rfl⟩
theorem zw0 {P : Program} (H : P = Try.prog) : foff P 70 1 = some 1 := by subst H; kernel_rfl
theorem zxc {P : Program} (H : P = Try.prog) : foff P 70 5 = some 5 := by subst H; kernel_rfl
theorem zuu {P : Program} (H : P = Try.prog) : FnOK P 22 := by subst H; exact ⟨Try.f22, Try.func22, by kernel_rfl, by kernel_rfl⟩
theorem fn6 {P : Program} (H : P = Try.prog) : P.funcs[6]? = some Try.f6 := by subst H; exact Try.func6
theorem znp {P : Program} (H : P = Try.prog) (w : World) (x y : Ref) : (Op.equal 43 (.agg [(.int .i64 x.fRailway), (.int .i64 x.fNo)].toArray) (.agg [(.int .i64 y.fRailway), (.int .i64 y.fNo)].toArray)).run P w = .ok (zdi x y) w :=
  ziv w (zxx H) (by subst H; kernel_rfl) rfl
theorem zmd {P : Program} (H : P = Try.prog) (w : World) (x y : z4) : (Op.equal 70 (.agg [(.int .i64 x.fWagon), (.int .i64 x.fPlace), (.int .i64 x.fFrom), (.int .i64 x.fTo), (.int .i64 x.fAt), (.int .i64 x.fCode), (.int .i64 x.fDeliver.fRailway), (.int .i64 x.fDeliver.fNo), (.int .i64 x.fReceive.fRailway), (.int .i64 x.fReceive.fNo)].toArray) (.agg [(.int .i64 y.fWagon), (.int .i64 y.fPlace), (.int .i64 y.fFrom), (.int .i64 y.fTo), (.int .i64 y.fAt), (.int .i64 y.fCode), (.int .i64 y.fDeliver.fRailway), (.int .i64 y.fDeliver.fNo), (.int .i64 y.fReceive.fRailway), (.int .i64 y.fReceive.fNo)].toArray)).run P w = .ok (zha x y) w :=
  zjk w (by subst H; kernel_rfl)
theorem zo5 {P : Program} (H : P = Try.prog) (w : World) (x y : z05) : (Op.equal 64 (.agg [(.int .i64 x.fRailway), (.int .i64 x.fSpan.fFrom), (.int .i64 x.fSpan.fTo), (.int .i64 x.fRef.fRailway), (.int .i64 x.fRef.fNo)].toArray) (.agg [(.int .i64 y.fRailway), (.int .i64 y.fSpan.fFrom), (.int .i64 y.fSpan.fTo), (.int .i64 y.fRef.fRailway), (.int .i64 y.fRef.fNo)].toArray)).run P w = .ok (zjg x y) w :=
  zjk w (by subst H; kernel_rfl)
end Px
end
section
set_option linter.unusedVariables false
set_option linter.unusedSimpArgs false
set_option maxHeartbeats 4000000
set_option maxRecDepth 100000
namespace Px
open Go Go.RowKit Go.Proofs
theorem zgr {P : Program} (H : P = Try.prog) (φ : Nat)  (r : (Pool)) (h : zcs φ  = some r) : z0z P 24 [] (fun x news => x = (agg (z2i r)) ∧ news = []) := by
 unfold zcs at h
 refine z0z.of_code' 15 (fn24 H) rfl rfl (Nat.le_of_ble_eq_true rfl) fun w0 base r0 wI => ?_
 refine cl [] [] rfl rfl rfl (cs (cr [0] rfl (n1 rfl (z38 _ (ze36 H) rfl fun b1 => rn (al [0] [0] rfl rfl rfl (sq (cs (cr [0, 1, 2, 3, 4, 5, 6, 7, 8, 9, 10, 11, 12, 13, 14] rfl (q1 rfl (z46 [.int .i64 0, .int .i64 0, .int .i64 0] [(0, [(iv .i64 2)]), (2, [(iv .i64 (-1))])] (out := [(iv .i64 2), (iv .i64 0), (iv .i64 (-1))]) (ze68 H) rfl (tb68 H) ⟨(zon H), Nat.le_of_ble_eq_true rfl, (Ce.one ct (One.eqv rfl)), ⟨(zqm H), Nat.le_of_ble_eq_true rfl, (Ce.one ct (One.eqv rfl)), trivial⟩⟩ rfl) (q1 rfl (z46 [.int .i64 0, .int .i64 0, .int .i64 0] [(0, [(iv .i64 2)]), (1, [(iv .i64 1)]), (2, [(iv .i64 (-1))])] (out := [(iv .i64 2), (iv .i64 1), (iv .i64 (-1))]) (ze68 H) rfl (tb68 H) ⟨(zon H), Nat.le_of_ble_eq_true rfl, (Ce.one ct (One.eqv rfl)), ⟨(zv1 H), Nat.le_of_ble_eq_true rfl, (Ce.one ct (One.eqv rfl)), ⟨(zqm H), Nat.le_of_ble_eq_true rfl, (Ce.one ct (One.eqv rfl)), trivial⟩⟩⟩ rfl) (q1 rfl (z46 [.int .i64 0, .int .i64 0, .int .i64 0] [(0, [(iv .i64 3)]), (2, [(iv .i64 1)])] (out := [(iv .i64 3), (iv .i64 0), (iv .i64 1)]) (ze68 H) rfl (tb68 H) ⟨(zon H), Nat.le_of_ble_eq_true rfl, (Ce.one ct (One.eqv rfl)), ⟨(zqm H), Nat.le_of_ble_eq_true rfl, (Ce.one ct (One.eqv rfl)), trivial⟩⟩ rfl) ?_)))))))))))
 refine n1 rfl (z2d (e := z4m) [(z8g.mk 2 0 (-1)), (z8g.mk 2 1 (-1)), (z8g.mk 3 0 1)] (sl22 H) zsu rfl (by decide) ⟨rfl, (Ce.agg (mv rfl)), ⟨rfl, (Ce.agg (mv rfl)), ⟨rfl, (Ce.agg (mv rfl)), trivial⟩⟩⟩ fun sv2 => q1 rfl (OpT.own1 1 rfl fun hs3 => (z46 [.slice none 0 0, .slice none 0 0] [(0, [(eqv sv2)])] (out := [(eqv sv2), (eqv (.slice none 0 0))]) (ze25 H) rfl (tb25 H) ⟨(zw7 H), Nat.le_of_ble_eq_true rfl, (Ce.one (mv rfl) (One.eqv hs3)), trivial⟩ rfl)) (q1 rfl (z46 [.int .i64 0, .int .i64 0, .int .i64 0, .int .i64 0, .int .i64 0, .int .u64 0, .int .i64 0, .int .i64 0] [(6, [(iv .i64 1)])] (out := [(iv .i64 0), (iv .i64 0), (iv .i64 0), (iv .i64 0), (iv .i64 0), (iv .u64 0), (iv .i64 1), (iv .i64 0)]) (zxl H) rfl (zy1 H) ⟨(ztc H), Nat.le_of_ble_eq_true rfl, (Ce.one ct (One.eqv rfl)), trivial⟩ rfl) (n1 rfl (z2d (e := z1a) [(z6c.mk 0 0 0 0 0 0 1 0)] (sl26 H) zjt rfl (by decide) ⟨rfl, (Ce.agg (mv rfl)), trivial⟩ fun sv4 => q1 rfl (z46 [.int .i64 0, .int .i64 0, .int .i64 0, .int .i64 0, .int .i64 0] [] (out := [(iv .i64 0), (iv .i64 0), (iv .i64 0), (iv .i64 0), (iv .i64 0)]) (ze66 H) rfl (tb66 H) trivial rfl) (n1 rfl (z2d (e := z6s) [(zd8.mk 0 0 0 0 0)] (sl27 H) zs7 rfl (by decide) ⟨rfl, (Ce.agg (mv rfl)), trivial⟩ fun sv5 => q1 rfl (OpT.own1 3 rfl fun hs7 => OpT.own1 2 rfl fun hs6 => (z46 [.slice none 0 0, .slice none 0 0, .slice none 0 0, .slice none 0 0] [(0, [(eqv sv4)]), (1, [(eqv sv5)])] (out := [(eqv sv4), (eqv sv5), (eqv (.slice none 0 0)), (eqv (.slice none 0 0))]) (ze31 H) rfl (tb31 H) ⟨(zx8 H), Nat.le_of_ble_eq_true rfl, (Ce.one (mv rfl) (One.eqv hs6)), ⟨(zus H), Nat.le_of_ble_eq_true rfl, (Ce.one (mv rfl) (One.eqv hs7)), trivial⟩⟩ rfl)) (q1 rfl (z46 [.int .u64 0, .int .i64 0, .int .i64 0, .int .i64 0, .int .i64 0, .int .i64 0, .int .i64 0, .int .i64 0, .int .i64 0, .int .i64 0, .int .i64 0, .int .i64 0, .int .i64 0, .int .i64 0, .int .i64 0, .slice none 0 0] [(0, [(iv .u64 4)])] (out := ([(iv .u64 4)] ++ arr 7 zko (fun _ => (Span.mk 0 0)) ++ [(eqv (.slice none 0 0))])) (zu0 H) rfl (zwi H) ⟨(zpz H), Nat.le_of_ble_eq_true rfl, (Ce.one ct (One.eqv rfl)), trivial⟩ rfl) (q1 rfl (z46 [.int .u64 0, .int .i64 0, .int .i64 0, .int .i64 0, .int .i64 0, .int .i64 0, .int .i64 0, .int .i64 0, .int .i64 0, .int .i64 0, .int .i64 0, .int .i64 0, .int .i64 0, .int .i64 0, .int .i64 0, .slice none 0 0] [(0, [(iv .u64 16)])] (out := ([(iv .u64 16)] ++ arr 7 zko (fun _ => (Span.mk 0 0)) ++ [(eqv (.slice none 0 0))])) (zu0 H) rfl (zwi H) ⟨(zpz H), Nat.le_of_ble_eq_true rfl, (Ce.one ct (One.eqv rfl)), trivial⟩ rfl) (n1 rfl (z2d (e := z1f) [(z2p.mk 4 (z2w.mk (fun _ => (Span.mk 0 0)) ([] : List Int))), (z2p.mk 16 (z2w.mk (fun _ => (Span.mk 0 0)) ([] : List Int)))] (sl34 H) zge rfl (by decide) ⟨rfl, (Ce.agg (Ev.ent (mv rfl) (Ent.agg ⟨Ent.refl, Ent.refl, Ent.refl, Ent.refl, Ent.refl, Ent.refl, Ent.refl, Ent.refl, Ent.refl, Ent.refl, Ent.refl, Ent.refl, Ent.refl, Ent.refl, Ent.refl, Ent.nil, trivial⟩))), ⟨rfl, (Ce.agg (Ev.ent (mv rfl) (Ent.agg ⟨Ent.refl, Ent.refl, Ent.refl, Ent.refl, Ent.refl, Ent.refl, Ent.refl, Ent.refl, Ent.refl, Ent.refl, Ent.refl, Ent.refl, Ent.refl, Ent.refl, Ent.refl, Ent.nil, trivial⟩))), trivial⟩⟩ fun sv8 => ?_))))))))))
 refine q1 rfl (OpT.own1 4 rfl fun hs9 => (z46 [.slice none 0 0, .slice none 0 0, .slice none 0 0, .slice none 0 0, .slice none 0 0, .slice none 0 0, .slice none 0 0, .slice none 0 0, .slice none 0 0] [(0, [(eqv sv2), (eqv (.slice none 0 0))]), (2, [(eqv sv4), (eqv sv5), (eqv (.slice none 0 0)), (eqv (.slice none 0 0))]), (8, [(eqv sv8)])] (out := [(eqv sv2), (eqv (.slice none 0 0)), (eqv sv4), (eqv sv5), (eqv (.slice none 0 0)), (eqv (.slice none 0 0)), (eqv (.slice none 0 0)), (eqv (.slice none 0 0)), (eqv sv8)]) (ze36 H) rfl (tb36 H) ⟨(zun H), Nat.le_of_ble_eq_true rfl, (Ce.agg (mv rfl)), ⟨(zvq H), Nat.le_of_ble_eq_true rfl, (Ce.agg (mv rfl)), ⟨(zxj H), Nat.le_of_ble_eq_true rfl, (Ce.one (mv rfl) (One.eqv hs9)), trivial⟩⟩⟩ rfl)) (n1 rfl (sto 0 (tl36 H) (mv rfl) (Ce.agg (mv rfl)) rfl rfl rfl rfl (rn (al [0] [0, 1, 2, 3, 4] rfl rfl rfl (sq (z2.ret (AtX.freeze 1 [] [(box b1 36 [(ro z4m 3 [(z8g.mk 2 0 (-1)), (z8g.mk 2 1 (-1)), (z8g.mk 3 0 1)]), (eqv (.slice none 0 0)), (eqv sv4), (eqv sv5), (eqv (.slice none 0 0)), (eqv (.slice none 0 0)), (eqv (.slice none 0 0)), (eqv (.slice none 0 0)), (eqv sv8)]), emp, (row 114 z1a 8 [(z6c.mk 0 0 0 0 0 0 1 0)] sv4), (row 66 z6s 5 [(zd8.mk 0 0 0 0 0)] sv5), (row 107 z1f 16 [(z2p.mk 4 (z2w.mk (fun _ => (Span.mk 0 0)) ([] : List Int))), (z2p.mk 16 (z2w.mk (fun _ => (Span.mk 0 0)) ([] : List Int)))] sv8)] rfl zsu trivial ⟨(FzH.box ⟨FzV.here, FzV.refl, FzV.refl, FzV.refl, FzV.refl, FzV.refl, FzV.refl, FzV.refl, FzV.refl, trivial⟩), FzH.emp, FzH.refl, FzH.refl, FzH.refl, trivial⟩ (AtX.freeze 2 [] [(box b1 36 [(ro z4m 3 [(z8g.mk 2 0 (-1)), (z8g.mk 2 1 (-1)), (z8g.mk 3 0 1)]), (eqv (.slice none 0 0)), (ro z1a 8 [(z6c.mk 0 0 0 0 0 0 1 0)]), (eqv sv5), (eqv (.slice none 0 0)), (eqv (.slice none 0 0)), (eqv (.slice none 0 0)), (eqv (.slice none 0 0)), (eqv sv8)]), emp, emp, (row 66 z6s 5 [(zd8.mk 0 0 0 0 0)] sv5), (row 107 z1f 16 [(z2p.mk 4 (z2w.mk (fun _ => (Span.mk 0 0)) ([] : List Int))), (z2p.mk 16 (z2w.mk (fun _ => (Span.mk 0 0)) ([] : List Int)))] sv8)] rfl zjt trivial ⟨(FzH.box ⟨FzV.refl, FzV.refl, FzV.here, FzV.refl, FzV.refl, FzV.refl, FzV.refl, FzV.refl, FzV.refl, trivial⟩), FzH.refl, FzH.emp, FzH.refl, FzH.refl, trivial⟩ (AtX.freeze 3 [] [(box b1 36 [(ro z4m 3 [(z8g.mk 2 0 (-1)), (z8g.mk 2 1 (-1)), (z8g.mk 3 0 1)]), (eqv (.slice none 0 0)), (ro z1a 8 [(z6c.mk 0 0 0 0 0 0 1 0)]), (ro z6s 5 [(zd8.mk 0 0 0 0 0)]), (eqv (.slice none 0 0)), (eqv (.slice none 0 0)), (eqv (.slice none 0 0)), (eqv (.slice none 0 0)), (eqv sv8)]), emp, emp, emp, (row 107 z1f 16 [(z2p.mk 4 (z2w.mk (fun _ => (Span.mk 0 0)) ([] : List Int))), (z2p.mk 16 (z2w.mk (fun _ => (Span.mk 0 0)) ([] : List Int)))] sv8)] rfl zs7 trivial ⟨(FzH.box ⟨FzV.refl, FzV.refl, FzV.refl, FzV.here, FzV.refl, FzV.refl, FzV.refl, FzV.refl, FzV.refl, trivial⟩), FzH.refl, FzH.refl, FzH.emp, FzH.refl, trivial⟩ ?_)))))))))
 refine AtX.freeze 4 [] [(box b1 36 [(ro z4m 3 [(z8g.mk 2 0 (-1)), (z8g.mk 2 1 (-1)), (z8g.mk 3 0 1)]), (eqv (.slice none 0 0)), (ro z1a 8 [(z6c.mk 0 0 0 0 0 0 1 0)]), (ro z6s 5 [(zd8.mk 0 0 0 0 0)]), (eqv (.slice none 0 0)), (eqv (.slice none 0 0)), (eqv (.slice none 0 0)), (eqv (.slice none 0 0)), (ro z1f 16 [(z2p.mk 4 (z2w.mk (fun _ => (Span.mk 0 0)) ([] : List Int))), (z2p.mk 16 (z2w.mk (fun _ => (Span.mk 0 0)) ([] : List Int)))])]), emp, emp, emp, emp] rfl zge trivial ⟨(FzH.box ⟨FzV.refl, FzV.refl, FzV.refl, FzV.refl, FzV.refl, FzV.refl, FzV.refl, FzV.refl, FzV.here, trivial⟩), FzH.refl, FzH.refl, FzH.refl, FzH.emp, trivial⟩ (AtX.le' [(0, (eqv (.pointer (some ⟨b1, 0, none⟩))))] [0, 1, 2, 3, 4] [(box b1 36 [(ro z4m 3 [(z8g.mk 2 0 (-1)), (z8g.mk 2 1 (-1)), (z8g.mk 3 0 1)]), (ro zbr 5 ([] : List Edge)), (ro z1a 8 [(z6c.mk 0 0 0 0 0 0 1 0)]), (ro z6s 5 [(zd8.mk 0 0 0 0 0)]), (ro zbs 3 ([] : List Swap)), (ro z9o 3 ([] : List Wash)), (ro z8b 3 ([] : List zev)), (ro z3k 1 ([] : List zcn)), (ro z1f 16 [(z2p.mk 4 (z2w.mk (fun _ => (Span.mk 0 0)) ([] : List Int))), (z2p.mk 16 (z2w.mk (fun _ => (Span.mk 0 0)) ([] : List Int)))])]), emp, emp, emp, emp] (sl rfl) ⟨⟨_, rfl, (EntH.box ⟨Ent.refl, Ent.nil, Ent.refl, Ent.refl, Ent.nil, Ent.nil, Ent.nil, Ent.nil, Ent.refl, trivial⟩)⟩, ⟨_, rfl, EntH.refl⟩, ⟨_, rfl, EntH.refl⟩, ⟨_, rfl, EntH.refl⟩, ⟨_, rfl, EntH.refl⟩, trivial⟩ rfl (AtX.ret' (agg [(ro z4m 3 [(z8g.mk 2 0 (-1)), (z8g.mk 2 1 (-1)), (z8g.mk 3 0 1)]), (ro zbr 5 ([] : List Edge)), (ro z1a 8 [(z6c.mk 0 0 0 0 0 0 1 0)]), (ro z6s 5 [(zd8.mk 0 0 0 0 0)]), (ro zbs 3 ([] : List Swap)), (ro z9o 3 ([] : List Wash)), (ro z8b 3 ([] : List zev)), (ro z3k 1 ([] : List zcn)), (ro z1f 16 [(z2p.mk 4 (z2w.mk (fun _ => (Span.mk 0 0)) ([] : List Int))), (z2p.mk 16 (z2w.mk (fun _ => (Span.mk 0 0)) ([] : List Int)))])]) (zq.one Try.results24 (.inr ⟨_, rfl, (tl36 H), ((Pt.box 0 (mv rfl) rfl rfl).take 9 (cs' := [(ro z4m 3 [(z8g.mk 2 0 (-1)), (z8g.mk 2 1 (-1)), (z8g.mk 3 0 1)]), (ro zbr 5 ([] : List Edge)), (ro z1a 8 [(z6c.mk 0 0 0 0 0 0 1 0)]), (ro z6s 5 [(zd8.mk 0 0 0 0 0)]), (ro zbs 3 ([] : List Swap)), (ro z9o 3 ([] : List Wash)), (ro z8b 3 ([] : List zev)), (ro z3k 1 ([] : List zcn)), (ro z1f 16 [(z2p.mk 4 (z2w.mk (fun _ => (Span.mk 0 0)) ([] : List Int))), (z2p.mk 16 (z2w.mk (fun _ => (Span.mk 0 0)) ([] : List Int)))])]) rfl)⟩)) [] [] trivial rfl ?_))
 obtain rfl := Option.some.inj h
 exact ⟨rfl, rfl⟩
theorem z9j {P : Program} (H : P = Try.prog) (φ : Nat) (v1 : Int) (v2 : Int) (v3 : Int) (r : (zo)) (h : z90 φ v1 v2 v3 = some r) : z0z P 25 [(iv .i64 v1), (iv .i64 v2), (iv .i64 v3)] (fun x news => x = (agg (zm r)) ∧ news = []) := by
 unfold z90 at h
 refine z0z.of_code' 13 (fn25 H) rfl rfl (Nat.le_of_ble_eq_true rfl) fun w0 base r0 wI => ?_
 refine cl [0, 1, 2] [] rfl rfl rfl (cs (cr [0] rfl (n1 rfl (z38 _ (ze48 H) rfl fun b4 => rn (al [0, 1, 2, 6] [0] rfl rfl rfl (sq (cs (cr [0, 1, 2, 3, 4, 5, 6] rfl (q1 rfl (z0 (mv rfl)) (q1 rfl (z46 [.int .i64 0, .int .i64 0] [(1, [(iv .i64 v1)])] (out := [(iv .i64 0), (iv .i64 v1)]) (ze43 H) rfl (tb43 H) ⟨(zi7 H), Nat.le_of_ble_eq_true rfl, (Ce.one (mv rfl) (One.eqv rfl)), trivial⟩ rfl) (q1 rfl (z0 (mv rfl)) ?_)))))))))))
 refine q1 rfl (z0 (mv rfl)) (q1 rfl (z46 [.int .i64 0, .int .i64 0, .int .i64 0, .int .i64 0, .int .i64 0, .int .i64 0, .int .i64 0, .int .i64 0, .int .i64 0, .int .i64 0, .int .i64 0, .int .i64 0, .int .i64 0, .int .i64 0, .string ⟨#[]⟩, .slice none 0 0] [(0, [(iv .i64 3)]), (4, [(iv .i64 2)]), (5, [(iv .i64 1)]), (7, [(iv .i64 v2)]), (9, [(iv .i64 v3)])] (out := [(iv .i64 3), (iv .i64 0), (iv .i64 0), (iv .i64 0), (iv .i64 2), (iv .i64 1), (iv .i64 0), (iv .i64 v2), (iv .i64 0), (iv .i64 v3), (iv .i64 0), (iv .i64 0), (iv .i64 0), (iv .i64 0), (eqv (.string (⟨#[]⟩))), (eqv (.slice none 0 0))]) (ze46 H) rfl (tb46 H) ⟨(zsv H), Nat.le_of_ble_eq_true rfl, (Ce.one ct (One.eqv rfl)), ⟨(zs6 H), Nat.le_of_ble_eq_true rfl, (Ce.one ct (One.eqv rfl)), ⟨(zwv H), Nat.le_of_ble_eq_true rfl, (Ce.one ct (One.eqv rfl)), ⟨(zsq H), Nat.le_of_ble_eq_true rfl, (Ce.one (mv rfl) (One.eqv rfl)), ⟨(zs3 H), Nat.le_of_ble_eq_true rfl, (Ce.one (mv rfl) (One.eqv rfl)), trivial⟩⟩⟩⟩⟩ rfl) (q1 rfl (z46 [.int .i64 0, .int .i64 0, .int .i64 0, .int .i64 0, .int .i64 0, .int .i64 0, .int .i64 0, .int .i64 0, .int .i64 0, .int .i64 0, .int .i64 0, .int .i64 0, .int .i64 0, .int .i64 0, .int .i64 0, .int .i64 0, .int .i64 0, .int .i64 0, .int .i64 0, .string ⟨#[]⟩, .slice none 0 0] [(0, [(iv .i64 0), (iv .i64 v1)]), (5, [(iv .i64 3), (iv .i64 0), (iv .i64 0), (iv .i64 0), (iv .i64 2), (iv .i64 1), (iv .i64 0), (iv .i64 v2), (iv .i64 0), (iv .i64 v3), (iv .i64 0), (iv .i64 0), (iv .i64 0), (iv .i64 0), (eqv (.string (⟨#[]⟩))), (eqv (.slice none 0 0))])] (out := [(iv .i64 0), (iv .i64 v1), (iv .i64 0), (iv .i64 0), (iv .i64 0), (iv .i64 3), (iv .i64 0), (iv .i64 0), (iv .i64 0), (iv .i64 2), (iv .i64 1), (iv .i64 0), (iv .i64 v2), (iv .i64 0), (iv .i64 v3), (iv .i64 0), (iv .i64 0), (iv .i64 0), (iv .i64 0), (eqv (.string (⟨#[]⟩))), (eqv (.slice none 0 0))]) (ze48 H) rfl (tb48 H) ⟨(zsh H), Nat.le_of_ble_eq_true rfl, (Ce.agg (mv rfl)), ⟨(zrx H), Nat.le_of_ble_eq_true rfl, (Ce.agg (mv rfl)), trivial⟩⟩ rfl) (n1 rfl (sto 0 (tl48 H) (mv rfl) (Ce.agg (mv rfl)) rfl rfl rfl rfl (rn (al [6] [0] rfl rfl rfl (sq (z2.ret (AtX.le' [(6, (eqv (.pointer (some ⟨b4, 0, none⟩))))] [0] [(box b4 48 [(iv .i64 0), (iv .i64 v1), (iv .i64 0), (iv .i64 0), (iv .i64 0), (iv .i64 3), (iv .i64 0), (iv .i64 0), (iv .i64 0), (iv .i64 2), (iv .i64 1), (iv .i64 0), (iv .i64 v2), (iv .i64 0), (iv .i64 v3), (iv .i64 0), (iv .i64 0), (iv .i64 0), (iv .i64 0), (eqv (.string (⟨#[]⟩))), (ro zbg 3 ([] : List Part))])] (sl rfl) ⟨⟨_, rfl, (EntH.box ⟨Ent.refl, Ent.refl, Ent.refl, Ent.refl, Ent.refl, Ent.refl, Ent.refl, Ent.refl, Ent.refl, Ent.refl, Ent.refl, Ent.refl, Ent.refl, Ent.refl, Ent.refl, Ent.refl, Ent.refl, Ent.refl, Ent.refl, Ent.refl, Ent.nil, trivial⟩)⟩, trivial⟩ rfl (AtX.ret' (agg [(iv .i64 0), (iv .i64 v1), (iv .i64 0), (iv .i64 0), (iv .i64 0), (iv .i64 3), (iv .i64 0), (iv .i64 0), (iv .i64 0), (iv .i64 2), (iv .i64 1), (iv .i64 0), (iv .i64 v2), (iv .i64 0), (iv .i64 v3), (iv .i64 0), (iv .i64 0), (iv .i64 0), (iv .i64 0), (eqv (.string (⟨#[]⟩))), (ro zbg 3 ([] : List Part))]) (zq.one Try.results25 (.inr ⟨_, rfl, (tl48 H), ((Pt.box 0 (mv rfl) rfl rfl).take 21 (cs' := [(iv .i64 0), (iv .i64 v1), (iv .i64 0), (iv .i64 0), (iv .i64 0), (iv .i64 3), (iv .i64 0), (iv .i64 0), (iv .i64 0), (iv .i64 2), (iv .i64 1), (iv .i64 0), (iv .i64 v2), (iv .i64 0), (iv .i64 v3), (iv .i64 0), (iv .i64 0), (iv .i64 0), (iv .i64 0), (eqv (.string (⟨#[]⟩))), (ro zbg 3 ([] : List Part))]) rfl)⟩)) [] [] trivial rfl ?_))))))))))
 obtain rfl := Option.some.inj h
 exact ⟨rfl, rfl⟩
theorem z9k {P : Program} (H : P = Try.prog) (φ : Nat) (v1 : Int) (v2 : Int) (v3 : Int) (r : (zo)) (h : z91 φ v1 v2 v3 = some r) : z0z P 26 [(iv .i64 v1), (iv .i64 v2), (iv .i64 v3)] (fun x news => x = (agg (zm r)) ∧ news = []) := by
 unfold z91 at h
 refine z0z.of_code' 13 (fn26 H) rfl rfl (Nat.le_of_ble_eq_true rfl) fun w0 base r0 wI => ?_
 refine cl [0, 1, 2] [] rfl rfl rfl (cs (cr [0] rfl (n1 rfl (z38 _ (ze48 H) rfl fun b4 => rn (al [0, 1, 2, 6] [0] rfl rfl rfl (sq (cs (cr [0, 1, 2, 3, 4, 5, 6] rfl (q1 rfl (z0 (mv rfl)) (q1 rfl (z46 [.int .i64 0, .int .i64 0] [(0, [(iv .i64 1)]), (1, [(iv .i64 v1)])] (out := [(iv .i64 1), (iv .i64 v1)]) (ze43 H) rfl (tb43 H) ⟨(zn4 H), Nat.le_of_ble_eq_true rfl, (Ce.one ct (One.eqv rfl)), ⟨(zi7 H), Nat.le_of_ble_eq_true rfl, (Ce.one (mv rfl) (One.eqv rfl)), trivial⟩⟩ rfl) (q1 rfl (z0 (mv rfl)) ?_)))))))))))
 refine q1 rfl (z0 (mv rfl)) (q1 rfl (z46 [.int .i64 0, .int .i64 0, .int .i64 0, .int .i64 0, .int .i64 0, .int .i64 0, .int .i64 0, .int .i64 0, .int .i64 0, .int .i64 0, .int .i64 0, .int .i64 0, .int .i64 0, .int .i64 0, .string ⟨#[]⟩, .slice none 0 0] [(0, [(iv .i64 4)]), (4, [(iv .i64 2)]), (7, [(iv .i64 v2)]), (9, [(iv .i64 v3)])] (out := [(iv .i64 4), (iv .i64 0), (iv .i64 0), (iv .i64 0), (iv .i64 2), (iv .i64 0), (iv .i64 0), (iv .i64 v2), (iv .i64 0), (iv .i64 v3), (iv .i64 0), (iv .i64 0), (iv .i64 0), (iv .i64 0), (eqv (.string (⟨#[]⟩))), (eqv (.slice none 0 0))]) (ze46 H) rfl (tb46 H) ⟨(zsv H), Nat.le_of_ble_eq_true rfl, (Ce.one ct (One.eqv rfl)), ⟨(zs6 H), Nat.le_of_ble_eq_true rfl, (Ce.one ct (One.eqv rfl)), ⟨(zsq H), Nat.le_of_ble_eq_true rfl, (Ce.one (mv rfl) (One.eqv rfl)), ⟨(zs3 H), Nat.le_of_ble_eq_true rfl, (Ce.one (mv rfl) (One.eqv rfl)), trivial⟩⟩⟩⟩ rfl) (q1 rfl (z46 [.int .i64 0, .int .i64 0, .int .i64 0, .int .i64 0, .int .i64 0, .int .i64 0, .int .i64 0, .int .i64 0, .int .i64 0, .int .i64 0, .int .i64 0, .int .i64 0, .int .i64 0, .int .i64 0, .int .i64 0, .int .i64 0, .int .i64 0, .int .i64 0, .int .i64 0, .string ⟨#[]⟩, .slice none 0 0] [(0, [(iv .i64 1), (iv .i64 v1)]), (5, [(iv .i64 4), (iv .i64 0), (iv .i64 0), (iv .i64 0), (iv .i64 2), (iv .i64 0), (iv .i64 0), (iv .i64 v2), (iv .i64 0), (iv .i64 v3), (iv .i64 0), (iv .i64 0), (iv .i64 0), (iv .i64 0), (eqv (.string (⟨#[]⟩))), (eqv (.slice none 0 0))])] (out := [(iv .i64 1), (iv .i64 v1), (iv .i64 0), (iv .i64 0), (iv .i64 0), (iv .i64 4), (iv .i64 0), (iv .i64 0), (iv .i64 0), (iv .i64 2), (iv .i64 0), (iv .i64 0), (iv .i64 v2), (iv .i64 0), (iv .i64 v3), (iv .i64 0), (iv .i64 0), (iv .i64 0), (iv .i64 0), (eqv (.string (⟨#[]⟩))), (eqv (.slice none 0 0))]) (ze48 H) rfl (tb48 H) ⟨(zsh H), Nat.le_of_ble_eq_true rfl, (Ce.agg (mv rfl)), ⟨(zrx H), Nat.le_of_ble_eq_true rfl, (Ce.agg (mv rfl)), trivial⟩⟩ rfl) (n1 rfl (sto 0 (tl48 H) (mv rfl) (Ce.agg (mv rfl)) rfl rfl rfl rfl (rn (al [6] [0] rfl rfl rfl (sq (z2.ret (AtX.le' [(6, (eqv (.pointer (some ⟨b4, 0, none⟩))))] [0] [(box b4 48 [(iv .i64 1), (iv .i64 v1), (iv .i64 0), (iv .i64 0), (iv .i64 0), (iv .i64 4), (iv .i64 0), (iv .i64 0), (iv .i64 0), (iv .i64 2), (iv .i64 0), (iv .i64 0), (iv .i64 v2), (iv .i64 0), (iv .i64 v3), (iv .i64 0), (iv .i64 0), (iv .i64 0), (iv .i64 0), (eqv (.string (⟨#[]⟩))), (ro zbg 3 ([] : List Part))])] (sl rfl) ⟨⟨_, rfl, (EntH.box ⟨Ent.refl, Ent.refl, Ent.refl, Ent.refl, Ent.refl, Ent.refl, Ent.refl, Ent.refl, Ent.refl, Ent.refl, Ent.refl, Ent.refl, Ent.refl, Ent.refl, Ent.refl, Ent.refl, Ent.refl, Ent.refl, Ent.refl, Ent.refl, Ent.nil, trivial⟩)⟩, trivial⟩ rfl (AtX.ret' (agg [(iv .i64 1), (iv .i64 v1), (iv .i64 0), (iv .i64 0), (iv .i64 0), (iv .i64 4), (iv .i64 0), (iv .i64 0), (iv .i64 0), (iv .i64 2), (iv .i64 0), (iv .i64 0), (iv .i64 v2), (iv .i64 0), (iv .i64 v3), (iv .i64 0), (iv .i64 0), (iv .i64 0), (iv .i64 0), (eqv (.string (⟨#[]⟩))), (ro zbg 3 ([] : List Part))]) (zq.one Try.results26 (.inr ⟨_, rfl, (tl48 H), ((Pt.box 0 (mv rfl) rfl rfl).take 21 (cs' := [(iv .i64 1), (iv .i64 v1), (iv .i64 0), (iv .i64 0), (iv .i64 0), (iv .i64 4), (iv .i64 0), (iv .i64 0), (iv .i64 0), (iv .i64 2), (iv .i64 0), (iv .i64 0), (iv .i64 v2), (iv .i64 0), (iv .i64 v3), (iv .i64 0), (iv .i64 0), (iv .i64 0), (iv .i64 0), (eqv (.string (⟨#[]⟩))), (ro zbg 3 ([] : List Part))]) rfl)⟩)) [] [] trivial rfl ?_))))))))))
 obtain rfl := Option.some.inj h
 exact ⟨rfl, rfl⟩
theorem zgs {P : Program} (H : P = Try.prog) (φ : Nat) (v1 : z8g) (r : (Bool)) (h : z9u φ v1 = some r) : z0z P 77 [(agg (z4m v1))] (fun x news => x = (bv r) ∧ news = []) := by
 unfold z9u at h
 refine z0z.of_code' 42 (fn77 H) rfl rfl (Nat.le_of_ble_eq_true rfl) fun w0 base r0 wI => ?_
 refine cl [0] [] rfl rfl rfl (cs (cr [0, 1] rfl (n1 rfl (z7i (Ce.agg (mv rfl)) fun b2 => q1 rfl (z1 ct) (rn (al [1] [0] rfl rfl rfl (sq (cs (cs (cr [0, 1, 2, 3, 4, 5, 6, 7, 8, 9, 10, 11, 12, 13, 14, 15, 16, 17] rfl (q1 rfl (z3 (zf7 H) (mv rfl)) ?_)))))))))))
 refine q1 rfl (lb (tl3 H) 0 (mv rfl) rfl rfl) (q1 rfl (z10 (mv rfl) ct) (q1 rfl (z0 (mv rfl)) (g1 rfl rfl (fun g3 => z3 (zf7 H) (mv rfl)) (g1 rfl rfl (fun g4 => lb (tl3 H) 0 (mc rfl g4) rfl rfl) (g1 rfl rfl (fun g5 => z49 (mc rfl g5) ct) (q1 rfl (opOr (mv rfl) ct (fun g6 => (mc rfl g6))) (q1 rfl (z0 (mv rfl)) (g1 rfl rfl (fun g7 => z3 (zd6 H) (mv rfl)) (g1 rfl rfl (fun g8 => lb (tl3 H) 0 (mc rfl g8) rfl rfl) (g1 rfl rfl (fun g9 => z10 (mc rfl g9) ct) (q1 rfl (opOr (mv rfl) ct (fun g10 => (mc rfl g10))) ?_)))))))))))
 refine q1 rfl (z0 (mv rfl)) (g1 rfl rfl (fun g11 => z3 (zd6 H) (mv rfl)) (g1 rfl rfl (fun g12 => lb (tl3 H) 0 (mc rfl g12) rfl rfl) (g1 rfl rfl (fun g13 => z9l (mc rfl g13) ct) (q1 rfl (opOr (mv rfl) ct (fun g14 => (mc rfl g14))) (rn (al [1, 20] [0] rfl rfl rfl (sq ?_)))))))
 refine cI h rfl (fun c15 h => ?_) (fun c15 h => ?_)
 ·
  refine cs (cr [0] rfl (q1 rfl (z1 ct) (rn (al [2] [] rfl rfl rfl (sq (z2.ret (AtX.then_ret (AtX.ret' (bv false) (zq.one Try.results77 rfl) [] [] trivial rfl ?_))))))))
  obtain rfl := Option.some.inj h
  exact ⟨rfl, rfl⟩
 ·
  refine z2.skip (al [1] [0] rfl rfl rfl (sq (cs (cs (cr [0, 1, 2] rfl (q1 rfl (z3 (zf7 H) (mv rfl)) (q1 rfl (lb (tl3 H) 0 (mv rfl) rfl rfl) (q1 rfl (z6g (mv rfl) ct) (rn (al [1, 23] [0] rfl rfl rfl (sq ?_)))))))))))
  refine cI h rfl (fun c16 h => ?_) (fun c16 h => ?_)
  ·
   refine cs (cr [0, 1, 2, 3] rfl (q1 rfl (z3 (zd0 H) (mv rfl)) (q1 rfl (lb (tl3 H) 0 (mv rfl) rfl rfl) (q1 rfl (z61 (mv rfl) ct) (q1 rfl (z1 (mv rfl)) (rn (al [2] [] rfl rfl rfl (sq (z2.ret (AtX.then_ret (AtX.ret' (bv (v1.fOther == (-1))) (zq.one Try.results77 rfl) [] [] trivial rfl ?_)))))))))))
   obtain rfl := Option.some.inj h
   exact ⟨rfl, rfl⟩
  ·
   refine z2.skip (al [1] [0] rfl rfl rfl (sq (cs (cr [0, 1, 2, 3, 4, 5, 6, 7, 8, 9, 10, 11, 12, 13, 14, 15] rfl (q1 rfl (z3 (zd0 H) (mv rfl)) (q1 rfl (lb (tl3 H) 0 (mv rfl) rfl rfl) (q1 rfl (z9l (mv rfl) ct) (q1 rfl (z0 (mv rfl)) (g1 rfl rfl (fun g17 => z3 (zd0 H) (mv rfl)) (g1 rfl rfl (fun g18 => lb (tl3 H) 0 (mc rfl g18) rfl rfl) (g1 rfl rfl (fun g19 => z10 (mc rfl g19) ct) ?_)))))))))))
   refine q1 rfl (z36 (mv rfl) (fun g20 => (mc rfl g20)) ct) (q1 rfl (z0 (mv rfl)) (g1 rfl rfl (fun g21 => z3 (zd0 H) (mv rfl)) (g1 rfl rfl (fun g22 => lb (tl3 H) 0 (mc rfl g22) rfl rfl) (g1 rfl rfl (fun g23 => z3 (zd6 H) (mv rfl)) (g1 rfl rfl (fun g24 => lb (tl3 H) 0 (mc rfl g24) rfl rfl) (g1 rfl rfl (fun g25 => z6g (mc rfl g25) (mc rfl g25)) (q1 rfl (z36 (mv rfl) (fun g26 => (mc rfl g26)) ct) (q1 rfl (z1 (mv rfl)) (rn (al [2] [] rfl rfl rfl (sq ?_)))))))))))
   refine z2.ret (AtX.ret' (bv ((decide (0 ≤ v1.fOther) && decide (v1.fOther < 16)) && (v1.fOther != v1.fRailway))) (zq.one Try.results77 rfl) [] [] trivial rfl ?_)
   obtain rfl := Option.some.inj h
   exact ⟨rfl, rfl⟩
theorem zgz {P : Program} (H : P = Try.prog) (φ : Nat) (v1 : z7s) (r : (Int)) (h : za5 φ v1 = some r) : z0z P 57 [(agg (zam v1))] (fun x news => x = (iv .i64 r) ∧ news = []) := by
 unfold za5 at h
 refine z0z.of_code' 84 (fn57 H) rfl rfl (Nat.le_of_ble_eq_true rfl) fun w0 base r0 wI => ?_
 refine cl [0] [] rfl rfl rfl (cs (cr [0, 1] rfl (n1 rfl (z7i (Ce.agg (mv rfl)) fun b2 => q1 rfl (z1 ct) (rn (al [1] [0] rfl rfl rfl (sq (cs (cr [0, 1, 2, 3] rfl (q1 rfl (z3 (zat H) (mv rfl)) (q1 rfl (lb (tl22 H) 0 (mv rfl) rfl rfl) ?_)))))))))))
 refine q1 rfl (z0x (il22 H) (mv rfl)) (q1 rfl (z1 (mv rfl)) (rn (al [1, 3] [0] rfl rfl rfl (sq (cs (cs (cr [0, 1, 2, 3, 4, 5, 6, 7] rfl (q1 rfl (z0 (mv rfl)) (q1 rfl (z49 (mv rfl) ct) (q1 rfl (z0 (mv rfl)) (g1 rfl rfl (fun g3 => z3 (zfi H) (mv rfl)) ?_)))))))))))
 refine g1 rfl rfl (fun g4 => lb (tl23 H) 0 (mc rfl g4) rfl rfl) (g1 rfl rfl (fun g5 => z0x (il23 H) (mc rfl g5)) (g1 rfl rfl (fun g6 => z49 (mc rfl g6) ct) (q1 rfl (opOr (mv rfl) ct (fun g7 => (mc rfl g7))) (rn (al [1, 3, 18] [0] rfl rfl rfl (sq ?_))))))
 refine cI h rfl (fun c8 h => ?_) (fun c8 h => ?_)
 ·
  refine cs (cr [0] rfl (q1 rfl (z1 ct) (rn (al [2] [] rfl rfl rfl (sq (z2.ret (AtX.then_ret (AtX.ret' (iv .i64 2) (zq.one Try.results57 rfl) [] [] trivial rfl ?_))))))))
  obtain rfl := Option.some.inj h
  exact ⟨rfl, rfl⟩
 ·
  refine z2.skip (al [1, 3] [0] rfl rfl rfl (sq (cs (cs (cr [0, 1, 2, 3] rfl (q1 rfl (z3 (zat H) (mv rfl)) (q1 rfl (lb (tl22 H) 0 (mv rfl) rfl rfl) (q1 rfl (z0x (il22 H) (mv rfl)) (q1 rfl (z0 ct) (rn (al [1, 3, 20, 21, 22] [0] rfl rfl rfl ?_)))))))))))
  refine sq ?_
  refine z2.join (fun z : Unit => (z4q φ v1)) r (fun z => ⟨zd.of [(1, (eqv (.pointer (some ⟨b2, 0, none⟩)))), (3, (iv .i64 (v1.fPlaces.length : Int)))], [(box b2 25 (zam v1))]⟩) (fun z h => ?_) (fun hJ9 => ?_)
  ·
   replace h : (z4q φ v1) = some r := h
   unfold z4q at h
   refine al [1, 3] [0] rfl rfl rfl (sq (cs (cs (cr [0, 1, 2, 3] rfl (q1 rfl (z3 (zfi H) (mv rfl)) (q1 rfl (lb (tl23 H) 0 (mv rfl) rfl rfl) (q1 rfl (z0x (il23 H) (mv rfl)) (q1 rfl (z0 ct) (rn (al [3, 31, 32, 33] [] rfl rfl rfl (sq ?_)))))))))))
   refine z2.join (fun z : Unit => (z4x φ)) r (fun z => ⟨zd.of [], []⟩) (fun z h => ?_) (fun hJ10 => ?_)
   ·
    replace h : (z4x φ) = some r := h
    unfold z4x at h
    refine al [] [] rfl rfl rfl (sq (cs (cr [0] rfl (q1 rfl (z1 ct) (rn (al [2] [] rfl rfl rfl (sq (z2.ret (AtX.ret' (iv .i64 0) (zq.one Try.results57 rfl) [] [] trivial rfl ?_)))))))))
    obtain rfl := Option.some.inj h
    exact ⟨rfl, rfl⟩
   ·
    refine z2.block ?_
    refine z2.to (z2.loop (fun n (z : Int) => z4y φ v1 (z4x φ) n z) r (fun z => ⟨zd.of [(3, (iv .i64 (v1.fPlaces.length : Int))), (31, (ro zbr 5 v1.fEdges)), (32, (iv .i64 (v1.fEdges.length : Int))), (33, (iv .i64 z))], []⟩) (fun z => rfl) (fun n12 v11 ih12 h => ?_) φ 0 h) [] (sl rfl) trivial rfl
    replace h : z4y φ v1 (z4x φ) (n12 + 1) v11 = some r := h
    rw [z4y] at h
    refine cs (cr [0] rfl (q1 rfl (z10 (mv rfl) (mv rfl)) (rn (al [3, 31, 32, 33, 34] [] rfl rfl rfl (sq (cs ?_))))))
    refine cI h rfl (fun c13 h => ?_) (fun c13 h => ?_)
    ·
     refine z2.skip (al [3, 31, 32, 33] [] rfl rfl rfl (sq (cs (z2.block (cs (cr [0, 1, 2, 3] rfl (ckE h fun h14 h => q1 rfl (zn (ix23 H) (mv rfl) (mv rfl) (h14).1 (z8 h14)) (q1 rfl (ln (zp1 H) (Pt.rop (mv rfl)) rfl) (n1 rfl (z38 _ (zwf H) rfl fun b15 => n1 rfl (sto 0 (zp1 H) (mv rfl) (Ce.agg (mv rfl)) rfl rfl rfl rfl ?_)))))))))))
     refine rn (al [3, 7, 31, 32, 33] [0] rfl rfl rfl (sq (cs (cr [0, 1, 2, 3, 4, 5, 6, 7, 8, 9, 10, 11, 12, 13, 14, 15, 16, 17, 18, 19, 20, 21, 22, 23, 24, 25, 26, 27, 28, 29, 30, 31, 32, 33, 34, 35, 36, 37, 38, 39, 40, 41, 42, 43, 44, 45] rfl (q1 rfl (z3 (zhd H) (mv rfl)) (q1 rfl (lb (tl3 H) 0 (mv rfl) rfl rfl) (q1 rfl (z3 (zhb H) (mv rfl)) (q1 rfl (lb (tl3 H) 0 (mv rfl) rfl rfl) (q1 rfl (z3 (zhf H) (mv rfl)) (q1 rfl (lb (tl3 H) 0 (mv rfl) rfl rfl) (q1 rfl (z3 (zm2 H) (mv rfl)) ?_)))))))))))
     refine q1 rfl (lb (tl3 H) 0 (mv rfl) rfl rfl) (q1 rfl (zve (n := [(gt v1.fEdges v11).fB, (gt v1.fEdges v11).fRailway, (gt v1.fEdges v11).fKm]) (mv rfl) ⟨(mv rfl), (mv rfl), (mv rfl), trivial⟩) (q1 rfl (z10 (mv rfl) ct) (q1 rfl (z0 (mv rfl)) (g1 rfl rfl (fun g16 => z3 (zhd H) (mv rfl)) (g1 rfl rfl (fun g17 => lb (tl3 H) 0 (mc rfl g17) rfl rfl) (g1 rfl rfl (fun g18 => z3 (zhb H) (mv rfl)) (g1 rfl rfl (fun g19 => lb (tl3 H) 0 (mc rfl g19) rfl rfl) (g1 rfl rfl (fun g20 => zoj (n := [(gt v1.fEdges v11).fB]) (mc rfl g20) ⟨(mc rfl g20), trivial⟩) (g1 rfl rfl (fun g21 => z0 (mv rfl)) (g1 rfl rfl (fun g22 => z9l (mc rfl g22) (mc rfl g22)) (q1 rfl (opOr (mv rfl) ct (fun g23 => (mc rfl g23))) ?_)))))))))))
     refine q1 rfl (z0 (mv rfl)) (g1 rfl rfl (fun g24 => z3 (zhd H) (mv rfl)) (g1 rfl rfl (fun g25 => lb (tl3 H) 0 (mc rfl g25) rfl rfl) (g1 rfl rfl (fun g26 => z3 (zhb H) (mv rfl)) (g1 rfl rfl (fun g27 => lb (tl3 H) 0 (mc rfl g27) rfl rfl) (g1 rfl rfl (fun g28 => z61 (mc rfl g28) (mc rfl g28)) (q1 rfl (opOr (mv rfl) ct (fun g29 => (mc rfl g29))) (q1 rfl (z0 (mv rfl)) (g1 rfl rfl (fun g30 => z3 (zhf H) (mv rfl)) (g1 rfl rfl (fun g31 => lb (tl3 H) 0 (mc rfl g31) rfl rfl) (g1 rfl rfl (fun g32 => z9l (mc rfl g32) ct) (q1 rfl (opOr (mv rfl) ct (fun g33 => (mc rfl g33))) ?_)))))))))))
     refine q1 rfl (z0 (mv rfl)) (g1 rfl rfl (fun g34 => z3 (zm5 H) (mv rfl)) (g1 rfl rfl (fun g35 => lb (tl3 H) 0 (mc rfl g35) rfl rfl) (g1 rfl rfl (fun g36 => z10 (mc rfl g36) ct) (q1 rfl (opOr (mv rfl) ct (fun g37 => (mc rfl g37))) (q1 rfl (z0 (mv rfl)) (g1 rfl rfl (fun g38 => z3 (zm5 H) (mv rfl)) (g1 rfl rfl (fun g39 => lb (tl3 H) 0 (mc rfl g39) rfl rfl) (g1 rfl rfl (fun g40 => z49 (mc rfl g40) ct) (q1 rfl (opOr (mv rfl) ct (fun g41 => (mc rfl g41))) (q1 rfl (z0 (mv rfl)) (g1 rfl rfl (fun g42 => z3 (zm2 H) (mv rfl)) ?_)))))))))))
     refine g1 rfl rfl (fun g43 => lb (tl3 H) 0 (mc rfl g43) rfl rfl) (g1 rfl rfl (fun g44 => z49 (mc rfl g44) ct) (q1 rfl (opOr (mv rfl) ct (fun g45 => (mc rfl g45))) (rn (al [3, 31, 32, 33, 82] [] rfl rfl rfl (sq ?_)))))
     refine cI h rfl (fun c46 h => ?_) (fun c46 h => ?_)
     ·
      refine cs (cr [0] rfl (q1 rfl (z1 ct) (rn (al [2] [] rfl rfl rfl (sq (z2.ret (AtX.in_ret (AtX.then_ret (AtX.then_ret (AtX.in_ret (AtX.then_ret ?_)))))))))))
      refine AtX.ret' (iv .i64 1) (zq.one Try.results57 rfl) [] [] trivial rfl ?_
      obtain rfl := Option.some.inj h
      exact ⟨rfl, rfl⟩
     ·
      refine z2.skip (AtX.in_normal (al [3, 31, 32, 33] [] rfl rfl rfl (sq (cr [0, 1] rfl (q1 rfl (z0g (mv rfl) ct) (q1 rfl (z0 (mv rfl)) (rn ?_)))))))
      exact AtX.to (ih12 (W (v11 + 1)) h) [] (sl rfl) trivial rfl
    ·
     refine z2.exit (AtX.then_exit (AtX.then_exit (AtX.in_hit ?_)))
     exact AtX.to (hJ10 () h) [] trivial trivial rfl
  ·
   refine z2.block ?_
   refine z2.to (z2.loop (fun n (z : Int) => z50 φ v1 (z4q φ v1) n z) r (fun z => ⟨zd.of [(1, (eqv (.pointer (some ⟨b2, 0, none⟩)))), (3, (iv .i64 (v1.fPlaces.length : Int))), (20, (ro z4m 3 v1.fPlaces)), (21, (iv .i64 (v1.fPlaces.length : Int))), (22, (iv .i64 z))], [(box b2 25 (zam v1))]⟩) (fun z => rfl) (fun n48 v47 ih48 h => ?_) φ 0 h) [0] (sl rfl) (ol rfl) rfl
   replace h : z50 φ v1 (z4q φ v1) (n48 + 1) v47 = some r := h
   rw [z50] at h
   refine cs (cr [0] rfl (q1 rfl (z10 (mv rfl) (mv rfl)) (rn (al [1, 3, 20, 21, 22, 23] [0] rfl rfl rfl (sq (cs ?_))))))
   refine cI h rfl (fun c49 h => ?_) (fun c49 h => ?_)
   ·
    refine z2.skip (al [1, 3, 20, 21, 22] [0] rfl rfl rfl (sq (cs (z2.block (cs (cr [0, 1, 2, 3] rfl (ckE h fun h50 h => q1 rfl (zn (ix22 H) (mv rfl) (mv rfl) (h50).1 (z8 h50)) (q1 rfl (ln (tl68 H) (Pt.rop (mv rfl)) rfl) (n1 rfl (z38 _ (ze68 H) rfl fun b51 => n1 rfl (sto 1 (tl68 H) (mv rfl) (Ce.agg (mv rfl)) rfl rfl rfl rfl ?_)))))))))))
    refine rn (al [1, 3, 5, 20, 21, 22] [0, 1] rfl rfl rfl (sq (cs (cr [0, 1, 2] rfl (q1 rfl (ln (tl68 H) ((Pt.box 1 (mv rfl) rfl rfl).take 3 (cs' := (z4m (gt v1.fPlaces v47))) rfl) rfl) (zp h fun y52 ey52 h => q1 rfl (oQ (zvo H) (zgs H φ (gt v1.fPlaces v47) _ ey52) z5 ⟨ef (mv rfl), trivial⟩) (q1 rfl (z79 (mv rfl)) (rn (al [1, 3, 20, 21, 22, 28] [0] rfl rfl rfl (sq ?_))))))))))
    refine cI h rfl (fun c53 h => ?_) (fun c53 h => ?_)
    ·
     refine cs (cr [0] rfl (q1 rfl (z1 ct) (rn (al [2] [] rfl rfl rfl (sq (z2.ret (AtX.in_ret (AtX.then_ret (AtX.then_ret (AtX.in_ret (AtX.then_ret ?_)))))))))))
     refine AtX.ret' (iv .i64 1) (zq.one Try.results57 rfl) [] [] trivial rfl ?_
     obtain rfl := Option.some.inj h
     exact ⟨rfl, rfl⟩
    ·
     refine z2.skip (AtX.in_normal (al [1, 3, 20, 21, 22] [0] rfl rfl rfl (sq (cr [0, 1] rfl (q1 rfl (z0g (mv rfl) ct) (q1 rfl (z0 (mv rfl)) (rn ?_)))))))
     exact AtX.to (ih48 (W (v47 + 1)) h) [0] (sl rfl) (ol rfl) rfl
   ·
    refine z2.exit (AtX.then_exit (AtX.then_exit (AtX.in_hit ?_)))
    exact AtX.to (hJ9 () h) [0] (sl rfl) (ol rfl) rfl
theorem z1s {P : Program} (H : P = Try.prog) (φ : Nat) (v1 : Int) (v2 : Int) (v3 : Int) (r : (Bool)) (h : z2k φ v1 v2 v3 = some r) : z0z P 59 [(iv .i64 v1), (iv .i64 v2), (iv .i64 v3)] (fun x news => x = (bv r) ∧ news = []) := by
 unfold z2k at h
 refine z0z.of_code' 15 (fn59 H) rfl rfl (Nat.le_of_ble_eq_true rfl) fun w0 base r0 wI => ?_
 refine cl [0, 1, 2] [] rfl rfl rfl (cs (cr [0] rfl (q1 rfl (z1 ct) (rn (al [0, 1, 2] [] rfl rfl rfl (sq (cs (cr [0, 1, 2, 3, 4, 5, 6, 7, 8] rfl (q1 rfl (z0 (mv rfl)) (q1 rfl (z0 (mv rfl)) (q1 rfl (z9l (mv rfl) (mv rfl)) ?_)))))))))))
 refine q1 rfl (z0 (mv rfl)) (g1 rfl rfl (fun g4 => z0 (mv rfl)) (g1 rfl rfl (fun g5 => z0 (mv rfl)) (g1 rfl rfl (fun g6 => zc4 (mc rfl g6) (mc rfl g6)) (q1 rfl (z36 (mv rfl) (fun g7 => (mc rfl g7)) ct) (q1 rfl (z1 (mv rfl)) (rn (al [6] [] rfl rfl rfl (sq (z2.ret (AtX.ret' (bv (decide (v2 ≤ v1) && decide (v1 ≤ v3))) (zq.one Try.results59 rfl) [] [] trivial rfl ?_))))))))))
 obtain rfl := Option.some.inj h
 exact ⟨rfl, rfl⟩
theorem zjb {P : Program} (H : P = Try.prog) (φ : Nat) (v1 : z8p) (r : (Int)) (h : zbe φ v1 = some r) : z0z P 58 [(agg (z78 v1))] (fun x news => x = (iv .i64 r) ∧ news = []) := by
 unfold zbe at h
 refine z0z.of_code' 206 (fn58 H) rfl rfl (Nat.le_of_ble_eq_true rfl) fun w0 base r0 wI => ?_
 refine cl [0] [] rfl rfl rfl (cs (cr [0, 1] rfl (n1 rfl (z7i (Ce.agg (mv rfl)) fun b2 => q1 rfl (z1 ct) (rn (al [1] [0] rfl rfl rfl (sq (cs (cs (cr [0, 1, 2, 3, 4, 5, 6, 7, 8, 9, 10, 11, 12, 13, 14, 15, 16, 17, 18, 19, 20, 21] rfl (q1 rfl (z3 (zda H) (mv rfl)) ?_)))))))))))
 refine q1 rfl (lb (tl26 H) 0 (mv rfl) rfl rfl) (q1 rfl (z0x (il26 H) (mv rfl)) (q1 rfl (z49 (mv rfl) ct) (q1 rfl (z0 (mv rfl)) (g1 rfl rfl (fun g3 => z3 (zcz H) (mv rfl)) (g1 rfl rfl (fun g4 => lb (tl27 H) 0 (mc rfl g4) rfl rfl) (g1 rfl rfl (fun g5 => z0x (il27 H) (mc rfl g5)) (g1 rfl rfl (fun g6 => z49 (mc rfl g6) ct) (q1 rfl (opOr (mv rfl) ct (fun g7 => (mc rfl g7))) (q1 rfl (z0 (mv rfl)) (g1 rfl rfl (fun g8 => z3 (zjj H) (mv rfl)) (g1 rfl rfl (fun g9 => lb (tl28 H) 0 (mc rfl g9) rfl rfl) ?_)))))))))))
 refine g1 rfl rfl (fun g10 => z0x (il28 H) (mc rfl g10)) (g1 rfl rfl (fun g11 => z49 (mc rfl g11) ct) (q1 rfl (opOr (mv rfl) ct (fun g12 => (mc rfl g12))) (q1 rfl (z0 (mv rfl)) (g1 rfl rfl (fun g13 => z3 (zlj H) (mv rfl)) (g1 rfl rfl (fun g14 => lb (tl29 H) 0 (mc rfl g14) rfl rfl) (g1 rfl rfl (fun g15 => z0x (il29 H) (mc rfl g15)) (g1 rfl rfl (fun g16 => z49 (mc rfl g16) ct) (q1 rfl (opOr (mv rfl) ct (fun g17 => (mc rfl g17))) (rn (al [1, 38] [0] rfl rfl rfl (sq ?_)))))))))))
 refine cI h rfl (fun c18 h => ?_) (fun c18 h => ?_)
 ·
  refine cs (cr [0] rfl (q1 rfl (z1 ct) (rn (al [2] [] rfl rfl rfl (sq (z2.ret (AtX.then_ret (AtX.ret' (iv .i64 2) (zq.one Try.results58 rfl) [] [] trivial rfl ?_))))))))
  obtain rfl := Option.some.inj h
  exact ⟨rfl, rfl⟩
 ·
  refine z2.skip (al [1] [0] rfl rfl rfl (sq (cs (cr [0, 1] rfl (n1 rfl (z38 _ (ze50 H) rfl fun b19 => n1 rfl (sto 1 (tl50 H) (mv rfl) (Ce.one ct (One.eqv rfl)) rfl rfl rfl rfl (rn (al [1, 3] [0, 1] rfl rfl rfl (sq (cs (cr [0, 1] rfl ?_))))))))))))
  refine q1 rfl (zfv (vs := #[(.pointer (some ⟨b19, 0, none⟩))]) (fun a r w hs => capN ⟨Ev.val (mv rfl) a r w hs, trivial⟩)) (q1 rfl (z1 (mv rfl)) (rn (al [1, 3, 4] [0, 1] rfl rfl rfl (sq (cs (cs (cr [0, 1, 2, 3] rfl (q1 rfl (z3 (zda H) (mv rfl)) (q1 rfl (lb (tl26 H) 0 (mv rfl) rfl rfl) (q1 rfl (z0x (il26 H) (mv rfl)) (q1 rfl (z0 ct) ?_)))))))))))
  refine rn (al [1, 3, 4, 41, 42, 43] [0, 1] rfl rfl rfl (sq ?_))
  refine z2.join (fun z : Int => (z2e φ v1) z) r (fun z => ⟨zd.of [(1, (eqv (.pointer (some ⟨b2, 0, none⟩)))), (3, (eqv (.pointer (some ⟨b19, 0, none⟩)))), (4, (eqv (.func (.func 78) #[] #[(.pointer (some ⟨b19, 0, none⟩))])))], [(box b2 31 (z78 v1)), (box b19 50 [(iv .i64 z)])]⟩) (fun v20 h => ?_) (fun hJ21 => ?_)
  ·
   replace h : (z2e φ v1) v20 = some r := h
   unfold z2e at h
   refine al [1, 3, 4] [0, 1] rfl rfl rfl (sq (cs (cs (cr [0, 1, 2, 3] rfl (q1 rfl (z3 (zcz H) (mv rfl)) (q1 rfl (lb (tl27 H) 0 (mv rfl) rfl rfl) (q1 rfl (z0x (il27 H) (mv rfl)) (q1 rfl (z0 ct) (rn (al [1, 3, 4, 83, 84, 85] [0, 1] rfl rfl rfl (sq ?_)))))))))))
   refine z2.join (fun z : Int => (z3w φ v1) z) r (fun z => ⟨zd.of [(1, (eqv (.pointer (some ⟨b2, 0, none⟩)))), (3, (eqv (.pointer (some ⟨b19, 0, none⟩)))), (4, (eqv (.func (.func 78) #[] #[(.pointer (some ⟨b19, 0, none⟩))])))], [(box b2 31 (z78 v1)), (box b19 50 [(iv .i64 z)])]⟩) (fun v22 h => ?_) (fun hJ23 => ?_)
   ·
    replace h : (z3w φ v1) v22 = some r := h
    unfold z3w at h
    refine al [1, 3, 4] [0, 1] rfl rfl rfl (sq (cs (cs (cr [0, 1, 2, 3] rfl (q1 rfl (z3 (zjj H) (mv rfl)) (q1 rfl (lb (tl28 H) 0 (mv rfl) rfl rfl) (q1 rfl (z0x (il28 H) (mv rfl)) (q1 rfl (z0 ct) (rn (al [1, 3, 4, 120, 121, 122] [0, 1] rfl rfl rfl (sq ?_)))))))))))
    refine z2.join (fun z : Int => (z5f φ v1) z) r (fun z => ⟨zd.of [(1, (eqv (.pointer (some ⟨b2, 0, none⟩)))), (3, (eqv (.pointer (some ⟨b19, 0, none⟩)))), (4, (eqv (.func (.func 78) #[] #[(.pointer (some ⟨b19, 0, none⟩))])))], [(box b2 31 (z78 v1)), (box b19 50 [(iv .i64 z)])]⟩) (fun v24 h => ?_) (fun hJ25 => ?_)
    ·
     replace h : (z5f φ v1) v24 = some r := h
     unfold z5f at h
     refine al [1, 3, 4] [0, 1] rfl rfl rfl (sq (cs (cr [0] rfl (n1 rfl (zkp (e := eB) false [.bool false] (zxy H) rfl rfl fun b26 => rn (al [1, 3, 4, 13] [0, 1, 2] rfl rfl rfl (sq (cs (cs (cr [0, 1, 2, 3] rfl (q1 rfl (z3 (zlj H) (mv rfl)) ?_)))))))))))
     refine q1 rfl (lb (tl29 H) 0 (mv rfl) rfl rfl) (q1 rfl (z0x (il29 H) (mv rfl)) (q1 rfl (z0 ct) (rn (al [3, 4, 13, 158, 159, 160] [1, 2] rfl rfl rfl (sq ?_)))))
     refine z2.join (fun z : Int => (z3b φ) z) r (fun z => ⟨zd.of [(3, (eqv (.pointer (some ⟨b19, 0, none⟩))))], [(box b19 50 [(iv .i64 z)])]⟩) (fun v27 h => ?_) (fun hJ28 => ?_)
     ·
      replace h : (z3b φ) v27 = some r := h
      unfold z3b at h
      refine al [3] [0] rfl rfl rfl (sq (cs (cr [0, 1] rfl (q1 rfl (lb (tl50 H) 0 (mv rfl) rfl rfl) (q1 rfl (z1 (mv rfl)) (rn (al [2] [] rfl rfl rfl (sq (z2.ret (AtX.ret' (iv .i64 v27) (zq.one Try.results58 rfl) [] [] trivial rfl ?_))))))))))
      obtain rfl := Option.some.inj h
      exact ⟨rfl, rfl⟩
     ·
      refine z2.block ?_
      refine z2.to (z2.loop (fun n (z : Int × Int × (Nat → Bool)) => z1x φ v1 (z3b φ) n z.1 z.2.1 z.2.2) r (fun z => ⟨zd.of [(3, (eqv (.pointer (some ⟨b19, 0, none⟩)))), (4, (eqv (.func (.func 78) #[] #[(.pointer (some ⟨b19, 0, none⟩))]))), (13, (eqv (.pointer (some ⟨b26, 0, none⟩)))), (158, (ro z9o 3 v1.fWashes)), (159, (iv .i64 (v1.fWashes.length : Int))), (160, (iv .i64 z.1))], [(box b19 50 [(iv .i64 z.2.1)]), (box b26 147 ([] ++ arr 4096 eB z.2.2 ++ []))]⟩) (fun z => rfl) (fun n32 z ih32 h => ?_) φ (0, v24, (fun _ => false)) h) [0, 1] (sl rfl) (ol rfl) rfl
      obtain ⟨v29, v30, v31⟩ := z
      replace h : z1x φ v1 (z3b φ) (n32 + 1) v29 v30 v31 = some r := h
      rw [z1x] at h
      refine cs (cr [0] rfl (q1 rfl (z10 (mv rfl) (mv rfl)) (rn (al [3, 4, 13, 158, 159, 160, 161] [0, 1] rfl rfl rfl (sq (cs ?_))))))
      refine cI h rfl (fun c33 h => ?_) (fun c33 h => ?_)
      ·
       refine z2.skip (al [3, 4, 13, 158, 159, 160] [0, 1] rfl rfl rfl (sq (cs (z2.block (cs (cr [0, 1, 2, 3] rfl (ckE h fun h34 h => q1 rfl (zn (ix29 H) (mv rfl) (mv rfl) (h34).1 (z8 h34)) (q1 rfl (ln (zre H) (Pt.rop (mv rfl)) rfl) (n1 rfl (z38 _ (zwk H) rfl fun b35 => n1 rfl (sto 2 (zre H) (mv rfl) (Ce.agg (mv rfl)) rfl rfl rfl rfl ?_)))))))))))
       refine rn (al [3, 4, 13, 15, 158, 159, 160] [0, 1, 2] rfl rfl rfl (sq (cs (cr [0, 1, 2, 3, 4, 5, 6, 7, 8, 9, 10, 11, 12, 13, 14, 15, 16, 17, 18, 19, 20] rfl (q1 rfl (z3 (zdk H) (mv rfl)) (q1 rfl (lb (tl3 H) 2 (mv rfl) rfl rfl) (zp h fun y36 ey36 h => q1 rfl (oQ (zax H) (z1s H φ ((gt v1.fWashes v29).fFrom) 0 63 _ ey36) z5 ⟨ef (mv rfl), ef ct, ef ct, trivial⟩) (q1 rfl (z0 (mv rfl)) (g1 rfl rfl (fun g37 => z3 (zd7 H) (mv rfl)) (g1 rfl rfl (fun g38 => lb (tl3 H) 2 (mc rfl g38) rfl rfl) ?_))))))))))
       refine zp h fun y40 ey40 h => g1 rfl rfl (fun g39 => oQ (zax H) (z1s H φ ((gt v1.fWashes v29).fTo) 0 63 _ (zy ey40 g39)) z5 ⟨ef (mc rfl g39), ef ct, ef ct, trivial⟩) (q1 rfl (z36 (mv rfl) (fun g41 => (mc rfl g41)) ct) (q1 rfl (z0 (mv rfl)) (g1 rfl rfl (fun g42 => z3 (zdk H) (mv rfl)) (g1 rfl rfl (fun g43 => lb (tl3 H) 2 (mc rfl g43) rfl rfl) (g1 rfl rfl (fun g44 => z3 (zd7 H) (mv rfl)) (g1 rfl rfl (fun g45 => lb (tl3 H) 2 (mc rfl g45) rfl rfl) (g1 rfl rfl (fun g46 => z6g (mc rfl g46) (mc rfl g46)) (q1 rfl (z36 (mv rfl) (fun g47 => (mc rfl g47)) ct) (q1 rfl (z0 (mv rfl)) (g1 rfl rfl (fun g48 => z3 (zpc H) (mv rfl)) ?_))))))))))
       refine g1 rfl rfl (fun g49 => lb (tl3 H) 2 (mc rfl g49) rfl rfl) (zp h fun y51 ey51 h => g1 rfl rfl (fun g50 => oQ (zax H) (z1s H φ ((gt v1.fWashes v29).fMinutes) 0 100000 _ (zy ey51 g50)) z5 ⟨ef (mc rfl g50), ef ct, ef ct, trivial⟩) (q1 rfl (z36 (mv rfl) (fun g52 => (mc rfl g52)) ct) (q1 rfl (z1 (mv rfl)) (rn (al [3, 4, 13, 15, 16, 158, 159, 160] [0, 1, 2] rfl rfl rfl (sq (cs (cr [0, 1, 2] rfl (q1 rfl (z0 (mv rfl)) (q1 rfl (z0 (mv rfl)) ?_))))))))))
       refine n1 rfl (z8k (zhg H) (mv rfl) (args := [(bv (((y36 && y40) && ((gt v1.fWashes v29).fFrom != (gt v1.fWashes v29).fTo)) && y51))]) ⟨(mv rfl), trivial⟩ (zau.of_code' 5 (fn78 H) rfl rfl (Nat.le_of_ble_eq_true rfl) fun r052 wI52 => cl [0, 1] [0, 1, 2] rfl rfl rfl (cs (cr [0, 1] rfl (q1 rfl (z0 (mv rfl)) (q1 rfl (z79 (mv rfl)) (rn (al [1, 4] [0, 1, 2] rfl rfl rfl (sq ?_)))))))))
       refine z2.join (fun z : Int => (z71 φ v1 v29 v31 (z1x φ v1 (z3b φ) n32) y36 y40 y51) z) r (fun z => ⟨zd.of [], [(box b19 50 [(iv .i64 z)]), (box b26 147 ([] ++ arr 4096 eB v31 ++ [])), (box b35 149 (z9o (gt v1.fWashes v29)))]⟩) (fun v53 h => ?_) (fun hJ54 => ?_)
       ·
        replace h : (z71 φ v1 v29 v31 (z1x φ v1 (z3b φ) n32) y36 y40 y51) v53 = some r := h
        unfold z71 at h
        refine AtX.fall' (eqv (.tuple #[])) (zq.zero Try.results78) [0, 1, 2] [(box b19 50 [(iv .i64 v53)]), (box b26 147 ([] ++ arr 4096 eB v31 ++ [])), (box b35 149 (z9o (gt v1.fWashes v29)))] (ol rfl) rfl (rn (al [3, 4, 13, 15, 16, 158, 159, 160] [0, 1, 2] rfl rfl rfl (sq (cs (cr [0] rfl (q1 rfl (z0 (mv rfl)) (rn (al [3, 4, 13, 15, 158, 159, 160, 187] [0, 1, 2] rfl rfl rfl (sq ?_)))))))))
        refine z2.join (fun z : Int × (Nat → Bool) => (z4l φ v29 (z1x φ v1 (z3b φ) n32)) z.1 z.2) r (fun z => ⟨zd.of [(3, (eqv (.pointer (some ⟨b19, 0, none⟩)))), (4, (eqv (.func (.func 78) #[] #[(.pointer (some ⟨b19, 0, none⟩))]))), (13, (eqv (.pointer (some ⟨b26, 0, none⟩)))), (158, (ro z9o 3 v1.fWashes)), (159, (iv .i64 (v1.fWashes.length : Int))), (160, (iv .i64 v29))], [(box b19 50 [(iv .i64 z.1)]), (box b26 147 ([] ++ arr 4096 eB z.2 ++ []))]⟩) (fun z h => ?_) (fun hJ57 => ?_)
        ·
         obtain ⟨v55, v56⟩ := z
         replace h : (z4l φ v29 (z1x φ v1 (z3b φ) n32)) v55 v56 = some r := h
         unfold z4l at h
         refine AtX.in_normal (al [3, 4, 13, 158, 159, 160] [0, 1] rfl rfl rfl (sq (cr [0, 1] rfl (q1 rfl (z0g (mv rfl) ct) (q1 rfl (z0 (mv rfl)) (rn ?_))))))
         exact AtX.to (ih32 ((W (v29 + 1)), v55, v56) h) [0, 1] (sl rfl) (ol rfl) rfl
        ·
         refine cI h rfl (fun c58 h => ?_) (fun c58 h => ?_)
         ·
          refine cs (ckE h fun h59 h => ckE h fun h60 h => z2.draw (QR := [(0, _), (1, _), (2, _), (3, _), (4, _), (5, _), (6, _), (7, _), (8, _)]) (tab := [(some 188, []), (some 189, []), (some 190, [1]), (some 191, []), (some 192, [3]), (some 193, [2]), (some 194, [5, 4]), (some 195, [6]), (some 196, [7]), (some 197, [0, 8])]) (z5h H) (Reg.intro [9] [] (by kernel_rfl) rfl (an rfl) ⟨(qr rfl (z0 (mv rfl))), (qr rfl (z3 (zdk H) (mv rfl))), (qr rfl (lb (tl3 H) 2 (mv rfl) rfl rfl)), (qr rfl (z3 (zd7 H) (mv rfl))), (qr rfl (lb (tl3 H) 2 (mv rfl) rfl rfl)), (qr rfl (z6i (zwr H) (mv rfl) (mv rfl) (h59).1 (h59).2)), (qr rfl (z6i (zw2 H) (mv rfl) (mv rfl) (h60).1 (h60).2)), (qr rfl (z2g (tl4 H) (Pt.ofArr (e := eB) 1 (off := 0 + ((gt v1.fWashes v29).fFrom : Int).toNat * 64 + ((gt v1.fWashes v29).fTo : Int).toNat * 1) (k := ((gt v1.fWashes v29).fFrom : Int).toNat * 64 + ((gt v1.fWashes v29).fTo : Int).toNat) (mv rfl) rfl lB (by have hb0 := h59; have hb1 := h60; simp only [List.length_nil, List.length_cons] <;> omega) (by have hb0 := h59; have hb1 := h60; omega)))), (qr rfl (z79 (mv rfl))), trivial⟩ ⟨⟨_, rfl, rfl, rfl, rfl, z8k (zhg H) (mv rfl) (args := [(bv (!(v31 (((gt v1.fWashes v29).fFrom : Int).toNat * 64 + ((gt v1.fWashes v29).fTo : Int).toNat))))]) ⟨(mv rfl), trivial⟩ (zau.of_code' 5 (fn78 H) rfl rfl (Nat.le_of_ble_eq_true rfl) fun r061 wI61 => ?_)⟩, trivial⟩ ft))
          refine cl [0, 1] [0, 1, 2] rfl rfl rfl (cs (cr [0, 1] rfl (q1 rfl (z0 (mv rfl)) (q1 rfl (z79 (mv rfl)) (rn (al [1, 4] [0, 1, 2] rfl rfl rfl (sq ?_)))))))
          refine z2.join (fun z : Int => (z82 φ v1 v29 v31 (z4l φ v29 (z1x φ v1 (z3b φ) n32))) z) r (fun z => ⟨zd.of [], [(box b19 50 [(iv .i64 z)]), (box b26 147 ([] ++ arr 4096 eB v31 ++ [])), (box b35 149 (z9o (gt v1.fWashes v29)))]⟩) (fun v62 h => ?_) (fun hJ63 => ?_)
          ·
           replace h : (z82 φ v1 v29 v31 (z4l φ v29 (z1x φ v1 (z3b φ) n32))) v62 = some r := h
           unfold z82 at h
           refine AtX.fall' (eqv (.tuple #[])) (zq.zero Try.results78) [0, 1, 2] [(box b19 50 [(iv .i64 v62)]), (box b26 147 ([] ++ arr 4096 eB v31 ++ [])), (box b35 149 (z9o (gt v1.fWashes v29)))] (ol rfl) rfl ?_
           refine ⟨[], rfl, ?_⟩
           refine Reg.intro [] [0, 1, 2, 3, 4, 5, 6, 7, 8] (by kernel_rfl) rfl (an rfl) ⟨nf, nf, nf, nf, nf, nf, nf, nf, nf, trivial⟩ trivial (fun _ => al [3, 4, 13, 15, 158, 159, 160] [0, 1, 2] rfl rfl rfl (sq (z2.draw (QR := [(0, _), (1, _), (2, _), (3, _), (4, _), (5, _)]) (tab := [(some 198, []), (some 199, [0]), (some 200, []), (some 201, [2]), (some 202, [1]), (some 203, [4, 3, 0, 1, 2, 3]), (none, [5, 0, 1, 2, 3])]) (z5h H) (Reg.intro [6] [] (by kernel_rfl) rfl (an rfl) ⟨(qr rfl (z3 (zdk H) (mv rfl))), (qr rfl (lb (tl3 H) 2 (mv rfl) rfl rfl)), (qr rfl (z3 (zd7 H) (mv rfl))), (qr rfl (lb (tl3 H) 2 (mv rfl) rfl rfl)), (qr rfl (z6i (zwr H) (mv rfl) (mv rfl) (h59).1 (h59).2)), (qr rfl (z6i (zw2 H) (mv rfl) (mv rfl) (h60).1 (h60).2)), trivial⟩ ⟨⟨_, rfl, rfl, rfl, rfl, zck 1 (off := 0 + ((gt v1.fWashes v29).fFrom : Int).toNat * 64 + ((gt v1.fWashes v29).fTo : Int).toNat * 1) (cells := ([] ++ arr 4096 eB v31 ++ [])) (cs := [(bv true)]) (out := ([] ++ arr 4096 eB (upd v31 (((gt v1.fWashes v29).fFrom : Int).toNat * 64 + ((gt v1.fWashes v29).fTo : Int).toNat) true) ++ [])) (tl4 H) (mv rfl) (Ce.one ct (One.eqv rfl)) rfl rfl (zpd (k := ((gt v1.fWashes v29).fFrom : Int).toNat * 64 + ((gt v1.fWashes v29).fTo : Int).toNat) lB (by have hb0 := h59; have hb1 := h60; simp only [List.length_nil, List.length_cons] <;> omega) (by have hb0 := h59; have hb1 := h60; omega) rfl) (zo9 (k := ((gt v1.fWashes v29).fFrom : Int).toNat * 64 + ((gt v1.fWashes v29).fTo : Int).toNat) lB (by have hb0 := h59; have hb1 := h60; simp only [List.length_nil, List.length_cons] <;> omega) (by have hb0 := h59; have hb1 := h60; omega) rfl rfl) ⟨[], rfl, ?_⟩⟩, trivial⟩ ft))))
           refine Reg.intro [] [0, 1, 2, 3, 4, 5] (by kernel_rfl) rfl (an rfl) ⟨nf, nf, nf, nf, nf, nf, trivial⟩ trivial (fun _ => ?_)
           exact AtX.to (hJ57 (v62, (upd v31 (((gt v1.fWashes v29).fFrom : Int).toNat * 64 + ((gt v1.fWashes v29).fTo : Int).toNat) true)) h) [0, 1] (sl rfl) (ol rfl) rfl
          ·
           refine cI h rfl (fun c65 h => ?_) (fun c65 h => ?_)
           ·
            refine cr [0] rfl (n1 rfl (sto 0 (tl50 H) (mv rfl) (Ce.one ct (One.eqv rfl)) rfl rfl rfl rfl (rn ?_)))
            exact AtX.to (hJ63 1 h) [0, 1, 2] trivial (ol rfl) rfl
           ·
            refine z2.skip ?_
            exact AtX.to (hJ63 v53 h) [0, 1, 2] trivial (ol rfl) rfl
         ·
          refine z2.skip ?_
          exact AtX.to (hJ57 (v53, v31) h) [0, 1] (sl rfl) (ol rfl) rfl
       ·
        refine cI h rfl (fun c66 h => ?_) (fun c66 h => ?_)
        ·
         refine cr [0] rfl (n1 rfl (sto 0 (tl50 H) (mv rfl) (Ce.one ct (One.eqv rfl)) rfl rfl rfl rfl (rn ?_)))
         exact AtX.to (hJ54 1 h) [0, 1, 2] trivial (ol rfl) rfl
        ·
         refine z2.skip ?_
         exact AtX.to (hJ54 v30 h) [0, 1, 2] trivial (ol rfl) rfl
      ·
       refine z2.exit (AtX.then_exit (AtX.then_exit (AtX.in_hit ?_)))
       exact AtX.to (hJ28 v30 h) [0] (sl rfl) (ol rfl) rfl
    ·
     refine z2.block ?_
     refine z2.to (z2.loop (fun n (z : Int × Int) => z40 φ v1 (z5f φ v1) n z.1 z.2) r (fun z => ⟨zd.of [(1, (eqv (.pointer (some ⟨b2, 0, none⟩)))), (3, (eqv (.pointer (some ⟨b19, 0, none⟩)))), (4, (eqv (.func (.func 78) #[] #[(.pointer (some ⟨b19, 0, none⟩))]))), (120, (ro zbs 3 v1.fSwaps)), (121, (iv .i64 (v1.fSwaps.length : Int))), (122, (iv .i64 z.1))], [(box b2 31 (z78 v1)), (box b19 50 [(iv .i64 z.2)])]⟩) (fun z => rfl) (fun n69 z ih69 h => ?_) φ (0, v22) h) [0, 1] (sl rfl) (ol rfl) rfl
     obtain ⟨v67, v68⟩ := z
     replace h : z40 φ v1 (z5f φ v1) (n69 + 1) v67 v68 = some r := h
     rw [z40] at h
     refine cs (cr [0] rfl (q1 rfl (z10 (mv rfl) (mv rfl)) (rn (al [1, 3, 4, 120, 121, 122, 123] [0, 1] rfl rfl rfl (sq (cs ?_))))))
     refine cI h rfl (fun c70 h => ?_) (fun c70 h => ?_)
     ·
      refine z2.skip (al [1, 3, 4, 120, 121, 122] [0, 1] rfl rfl rfl (sq (cs (z2.block (cs (cr [0, 1, 2, 3] rfl (ckE h fun h71 h => q1 rfl (zn (ix28 H) (mv rfl) (mv rfl) (h71).1 (z8 h71)) (q1 rfl (ln (zqq H) (Pt.rop (mv rfl)) rfl) (n1 rfl (z38 _ (zwb H) rfl fun b72 => n1 rfl (sto 2 (zqq H) (mv rfl) (Ce.agg (mv rfl)) rfl rfl rfl rfl ?_)))))))))))
      refine rn (al [1, 3, 4, 12, 120, 121, 122] [0, 1, 2] rfl rfl rfl (sq (cr [0, 1, 2, 3, 4, 5, 6, 7, 8, 9, 10, 11, 12, 13, 14, 15, 16, 17, 18, 19, 20, 21, 22, 23, 24, 25, 26, 27, 28, 29] rfl (q1 rfl (z0 (mv rfl)) (q1 rfl (z3 (zkg H) (mv rfl)) (q1 rfl (lb (tl3 H) 2 (mv rfl) rfl rfl) (q1 rfl (z3 (zda H) (mv rfl)) (q1 rfl (lb (tl26 H) 0 (mv rfl) rfl rfl) (q1 rfl (z0x (il26 H) (mv rfl)) (q1 rfl (z2f (mv rfl) ct) (zp h fun y73 ey73 h => ?_)))))))))))
      refine q1 rfl (oQ (zax H) (z1s H φ ((gt v1.fSwaps v67).fWanted) 0 (W ((v1.fTypes.length : Int) - 1)) _ ey73) z5 ⟨ef (mv rfl), ef ct, ef (mv rfl), trivial⟩) (q1 rfl (z0 (mv rfl)) (g1 rfl rfl (fun g74 => z3 (zkn H) (mv rfl)) (g1 rfl rfl (fun g75 => lb (tl3 H) 2 (mc rfl g75) rfl rfl) (g1 rfl rfl (fun g76 => z3 (zda H) (mv rfl)) (g1 rfl rfl (fun g77 => lb (tl26 H) 0 (mc rfl g77) rfl rfl) (g1 rfl rfl (fun g78 => z0x (il26 H) (mc rfl g78)) (g1 rfl rfl (fun g79 => z2f (mc rfl g79) ct) (zp h fun y81 ey81 h => g1 rfl rfl (fun g80 => oQ (zax H) (z1s H φ ((gt v1.fSwaps v67).fGiven) 0 (W ((v1.fTypes.length : Int) - 1)) _ (zy ey81 g80)) z5 ⟨ef (mc rfl g80), ef ct, ef (mc rfl g80), trivial⟩) (q1 rfl (z36 (mv rfl) (fun g82 => (mc rfl g82)) ct) (q1 rfl (z0 (mv rfl)) ?_))))))))))
      refine g1 rfl rfl (fun g83 => z3 (zkg H) (mv rfl)) (g1 rfl rfl (fun g84 => lb (tl3 H) 2 (mc rfl g84) rfl rfl) (g1 rfl rfl (fun g85 => z3 (zkn H) (mv rfl)) (g1 rfl rfl (fun g86 => lb (tl3 H) 2 (mc rfl g86) rfl rfl) (g1 rfl rfl (fun g87 => z6g (mc rfl g87) (mc rfl g87)) (q1 rfl (z36 (mv rfl) (fun g88 => (mc rfl g88)) ct) (q1 rfl (z0 (mv rfl)) (g1 rfl rfl (fun g89 => z3 (zom H) (mv rfl)) (g1 rfl rfl (fun g90 => lb (tl3 H) 2 (mc rfl g90) rfl rfl) (zp h fun y92 ey92 h => g1 rfl rfl (fun g91 => oQ (zax H) (z1s H φ ((gt v1.fSwaps v67).fCost) 0 1000000000 _ (zy ey92 g91)) z5 ⟨ef (mc rfl g91), ef ct, ef ct, trivial⟩) (q1 rfl (z36 (mv rfl) (fun g93 => (mc rfl g93)) ct) ?_))))))))))
      refine n1 rfl (z8k (zhg H) (mv rfl) (args := [(bv (((y73 && y81) && ((gt v1.fSwaps v67).fWanted != (gt v1.fSwaps v67).fGiven)) && y92))]) ⟨(mv rfl), trivial⟩ (zau.of_code' 5 (fn78 H) rfl rfl (Nat.le_of_ble_eq_true rfl) fun r093 wI93 => cl [0, 1] [0, 1, 2] rfl rfl rfl (cs (cr [0, 1] rfl (q1 rfl (z0 (mv rfl)) (q1 rfl (z79 (mv rfl)) (rn (al [1, 4] [0, 1, 2] rfl rfl rfl (sq ?_)))))))))
      refine z2.join (fun z : Int => (z7x φ v67 (z40 φ v1 (z5f φ v1) n69)) z) r (fun z => ⟨zd.of [], [(box b2 31 (z78 v1)), (box b19 50 [(iv .i64 z)]), (box b72 133 (zbs (gt v1.fSwaps v67)))]⟩) (fun v94 h => ?_) (fun hJ95 => ?_)
      ·
       replace h : (z7x φ v67 (z40 φ v1 (z5f φ v1) n69)) v94 = some r := h
       unfold z7x at h
       refine AtX.fall' (eqv (.tuple #[])) (zq.zero Try.results78) [0, 1, 2] [(box b2 31 (z78 v1)), (box b19 50 [(iv .i64 v94)]), (box b72 133 (zbs (gt v1.fSwaps v67)))] (ol rfl) rfl (rn (AtX.in_normal (al [1, 3, 4, 120, 121, 122] [0, 1] rfl rfl rfl (sq (cr [0, 1] rfl (q1 rfl (z0g (mv rfl) ct) (q1 rfl (z0 (mv rfl)) (rn ?_))))))))
       exact AtX.to (ih69 ((W (v67 + 1)), v94) h) [0, 1] (sl rfl) (ol rfl) rfl
      ·
       refine cI h rfl (fun c96 h => ?_) (fun c96 h => ?_)
       ·
        refine cr [0] rfl (n1 rfl (sto 1 (tl50 H) (mv rfl) (Ce.one ct (One.eqv rfl)) rfl rfl rfl rfl (rn ?_)))
        exact AtX.to (hJ95 1 h) [0, 1, 2] trivial (ol rfl) rfl
       ·
        refine z2.skip ?_
        exact AtX.to (hJ95 v68 h) [0, 1, 2] trivial (ol rfl) rfl
     ·
      refine z2.exit (AtX.then_exit (AtX.then_exit (AtX.in_hit ?_)))
      exact AtX.to (hJ25 v68 h) [0, 1] (sl rfl) (ol rfl) rfl
   ·
    refine z2.block ?_
    refine z2.to (z2.loop (fun n (z : Int × Int) => z3a φ v1 (z3w φ v1) n z.1 z.2) r (fun z => ⟨zd.of [(1, (eqv (.pointer (some ⟨b2, 0, none⟩)))), (3, (eqv (.pointer (some ⟨b19, 0, none⟩)))), (4, (eqv (.func (.func 78) #[] #[(.pointer (some ⟨b19, 0, none⟩))]))), (83, (ro z6s 5 v1.fWagons)), (84, (iv .i64 (v1.fWagons.length : Int))), (85, (iv .i64 z.1))], [(box b2 31 (z78 v1)), (box b19 50 [(iv .i64 z.2)])]⟩) (fun z => rfl) (fun n99 z ih99 h => ?_) φ (0, v20) h) [0, 1] (sl rfl) (ol rfl) rfl
    obtain ⟨v97, v98⟩ := z
    replace h : z3a φ v1 (z3w φ v1) (n99 + 1) v97 v98 = some r := h
    rw [z3a] at h
    refine cs (cr [0] rfl (q1 rfl (z10 (mv rfl) (mv rfl)) (rn (al [1, 3, 4, 83, 84, 85, 86] [0, 1] rfl rfl rfl (sq (cs ?_))))))
    refine cI h rfl (fun c100 h => ?_) (fun c100 h => ?_)
    ·
     refine z2.skip (al [1, 3, 4, 83, 84, 85] [0, 1] rfl rfl rfl (sq (cs (z2.block (cs (cr [0, 1, 2, 3] rfl (ckE h fun h101 h => q1 rfl (zn (ix27 H) (mv rfl) (mv rfl) (h101).1 (z8 h101)) (q1 rfl (ln (tl66 H) (Pt.rop (mv rfl)) rfl) (n1 rfl (z38 _ (ze66 H) rfl fun b102 => n1 rfl (sto 2 (tl66 H) (mv rfl) (Ce.agg (mv rfl)) rfl rfl rfl rfl ?_)))))))))))
     refine rn (al [1, 3, 4, 10, 83, 84, 85] [0, 1, 2] rfl rfl rfl (sq (cs (cr [0, 1, 2, 3, 4, 5, 6, 7, 8, 9, 10, 11, 12, 13, 14, 15, 16, 17, 18] rfl (q1 rfl (z0 (mv rfl)) (q1 rfl (z3 (zsa H) (mv rfl)) (q1 rfl (lb (tl3 H) 2 (mv rfl) rfl rfl) (q1 rfl (z3 (zda H) (mv rfl)) (q1 rfl (lb (tl26 H) 0 (mv rfl) rfl rfl) (q1 rfl (z0x (il26 H) (mv rfl)) (q1 rfl (z2f (mv rfl) ct) ?_)))))))))))
     refine zp h fun y103 ey103 h => q1 rfl (oQ (zax H) (z1s H φ ((gt v1.fWagons v97).fType) 0 (W ((v1.fTypes.length : Int) - 1)) _ ey103) z5 ⟨ef (mv rfl), ef ct, ef (mv rfl), trivial⟩) (q1 rfl (z0 (mv rfl)) (g1 rfl rfl (fun g104 => z3 (zsk H) (mv rfl)) (g1 rfl rfl (fun g105 => lb (tl3 H) 2 (mc rfl g105) rfl rfl) (zp h fun y107 ey107 h => g1 rfl rfl (fun g106 => oQ (zax H) (z1s H φ ((gt v1.fWagons v97).fOwner) 0 63 _ (zy ey107 g106)) z5 ⟨ef (mc rfl g106), ef ct, ef ct, trivial⟩) (q1 rfl (z36 (mv rfl) (fun g108 => (mc rfl g108)) ct) (q1 rfl (z0 (mv rfl)) (g1 rfl rfl (fun g109 => z3 (zlc H) (mv rfl)) (g1 rfl rfl (fun g110 => lb (tl3 H) 2 (mc rfl g110) rfl rfl) (zp h fun y112 ey112 h => ?_)))))))))
     refine g1 rfl rfl (fun g111 => oQ (zax H) (z1s H φ ((gt v1.fWagons v97).fHome) 0 511 _ (zy ey112 g111)) z5 ⟨ef (mc rfl g111), ef ct, ef ct, trivial⟩) (q1 rfl (z36 (mv rfl) (fun g113 => (mc rfl g113)) ct) (n1 rfl (z8k (zhg H) (mv rfl) (args := [(bv ((y103 && y107) && y112))]) ⟨(mv rfl), trivial⟩ (zau.of_code' 5 (fn78 H) rfl rfl (Nat.le_of_ble_eq_true rfl) fun r0113 wI113 => cl [0, 1] [0, 1, 2] rfl rfl rfl (cs (cr [0, 1] rfl (q1 rfl (z0 (mv rfl)) (q1 rfl (z79 (mv rfl)) (rn (al [1, 4] [0, 1, 2] rfl rfl rfl (sq ?_)))))))))))
     refine z2.join (fun z : Int => (z7c φ v1 v97 (z3a φ v1 (z3w φ v1) n99)) z) r (fun z => ⟨zd.of [], [(box b2 31 (z78 v1)), (box b19 50 [(iv .i64 z)]), (box b102 66 (z6s (gt v1.fWagons v97)))]⟩) (fun v114 h => ?_) (fun hJ115 => ?_)
     ·
      replace h : (z7c φ v1 v97 (z3a φ v1 (z3w φ v1) n99)) v114 = some r := h
      unfold z7c at h
      refine AtX.fall' (eqv (.tuple #[])) (zq.zero Try.results78) [0, 1, 2] [(box b2 31 (z78 v1)), (box b19 50 [(iv .i64 v114)]), (box b102 66 (z6s (gt v1.fWagons v97)))] (ol rfl) rfl (rn (al [1, 3, 4, 10, 83, 84, 85] [0, 1, 2] rfl rfl rfl (sq (cr [0, 1, 2, 3, 4, 5, 6, 7, 8, 9] rfl (q1 rfl (z0 (mv rfl)) (q1 rfl (z3 (zse H) (mv rfl)) (q1 rfl (lb (tl3 H) 2 (mv rfl) rfl rfl) (zp h fun y116 ey116 h => q1 rfl (oQ (zax H) (z1s H φ ((gt v1.fWagons v97).fBuilt) 0 1073741824 _ ey116) z5 ⟨ef (mv rfl), ef ct, ef ct, trivial⟩) (q1 rfl (z0 (mv rfl)) (g1 rfl rfl (fun g117 => z3 (zrl H) (mv rfl)) ?_))))))))))
      refine g1 rfl rfl (fun g118 => lb (tl3 H) 2 (mc rfl g118) rfl rfl) (zp h fun y120 ey120 h => g1 rfl rfl (fun g119 => oQ (zax H) (z1s H φ ((gt v1.fWagons v97).fWorth) 0 1099511627776 _ (zy ey120 g119)) z5 ⟨ef (mc rfl g119), ef ct, ef ct, trivial⟩) (q1 rfl (z36 (mv rfl) (fun g121 => (mc rfl g121)) ct) (n1 rfl (z8k (zhg H) (mv rfl) (args := [(bv (y116 && y120))]) ⟨(mv rfl), trivial⟩ (zau.of_code' 5 (fn78 H) rfl rfl (Nat.le_of_ble_eq_true rfl) fun r0121 wI121 => cl [0, 1] [0, 1, 2] rfl rfl rfl (cs (cr [0, 1] rfl (q1 rfl (z0 (mv rfl)) (q1 rfl (z79 (mv rfl)) (rn (al [1, 4] [0, 1, 2] rfl rfl rfl ?_)))))))))))
      refine sq ?_
      refine z2.join (fun z : Int => (z7e φ v97 (z3a φ v1 (z3w φ v1) n99)) z) r (fun z => ⟨zd.of [], [(box b2 31 (z78 v1)), (box b19 50 [(iv .i64 z)]), (box b102 66 (z6s (gt v1.fWagons v97)))]⟩) (fun v122 h => ?_) (fun hJ123 => ?_)
      ·
       replace h : (z7e φ v97 (z3a φ v1 (z3w φ v1) n99)) v122 = some r := h
       unfold z7e at h
       refine AtX.fall' (eqv (.tuple #[])) (zq.zero Try.results78) [0, 1, 2] [(box b2 31 (z78 v1)), (box b19 50 [(iv .i64 v122)]), (box b102 66 (z6s (gt v1.fWagons v97)))] (ol rfl) rfl (rn (AtX.in_normal (al [1, 3, 4, 83, 84, 85] [0, 1] rfl rfl rfl (sq (cr [0, 1] rfl (q1 rfl (z0g (mv rfl) ct) (q1 rfl (z0 (mv rfl)) (rn ?_))))))))
       exact AtX.to (ih99 ((W (v97 + 1)), v122) h) [0, 1] (sl rfl) (ol rfl) rfl
      ·
       refine cI h rfl (fun c124 h => ?_) (fun c124 h => ?_)
       ·
        refine cr [0] rfl (n1 rfl (sto 1 (tl50 H) (mv rfl) (Ce.one ct (One.eqv rfl)) rfl rfl rfl rfl (rn ?_)))
        exact AtX.to (hJ123 1 h) [0, 1, 2] trivial (ol rfl) rfl
       ·
        refine z2.skip ?_
        exact AtX.to (hJ123 v114 h) [0, 1, 2] trivial (ol rfl) rfl
     ·
      refine cI h rfl (fun c125 h => ?_) (fun c125 h => ?_)
      ·
       refine cr [0] rfl (n1 rfl (sto 1 (tl50 H) (mv rfl) (Ce.one ct (One.eqv rfl)) rfl rfl rfl rfl (rn ?_)))
       exact AtX.to (hJ115 1 h) [0, 1, 2] trivial (ol rfl) rfl
      ·
       refine z2.skip ?_
       exact AtX.to (hJ115 v98 h) [0, 1, 2] trivial (ol rfl) rfl
    ·
     refine z2.exit (AtX.then_exit (AtX.then_exit (AtX.in_hit ?_)))
     exact AtX.to (hJ23 v98 h) [0, 1] (sl rfl) (ol rfl) rfl
  ·
   refine z2.block ?_
   refine z2.to (z2.loop (fun n (z : Int × Int) => z1m φ v1 (z2e φ v1) n z.1 z.2) r (fun z => ⟨zd.of [(1, (eqv (.pointer (some ⟨b2, 0, none⟩)))), (3, (eqv (.pointer (some ⟨b19, 0, none⟩)))), (4, (eqv (.func (.func 78) #[] #[(.pointer (some ⟨b19, 0, none⟩))]))), (41, (ro z1a 8 v1.fTypes)), (42, (iv .i64 (v1.fTypes.length : Int))), (43, (iv .i64 z.1))], [(box b2 31 (z78 v1)), (box b19 50 [(iv .i64 z.2)])]⟩) (fun z => rfl) (fun n128 z ih128 h => ?_) φ (0, 0) h) [0, 1] (sl rfl) (ol rfl) rfl
   obtain ⟨v126, v127⟩ := z
   replace h : z1m φ v1 (z2e φ v1) (n128 + 1) v126 v127 = some r := h
   rw [z1m] at h
   refine cs (cr [0] rfl (q1 rfl (z10 (mv rfl) (mv rfl)) (rn (al [1, 3, 4, 41, 42, 43, 44] [0, 1] rfl rfl rfl (sq (cs ?_))))))
   refine cI h rfl (fun c129 h => ?_) (fun c129 h => ?_)
   ·
    refine z2.skip (al [1, 3, 4, 41, 42, 43] [0, 1] rfl rfl rfl (sq (cs ?_)))
    refine z2.join (fun z : Int => (z2y φ v126 (z1m φ v1 (z2e φ v1) n128)) z) r (fun z => ⟨zd.of [(1, (eqv (.pointer (some ⟨b2, 0, none⟩)))), (3, (eqv (.pointer (some ⟨b19, 0, none⟩)))), (4, (eqv (.func (.func 78) #[] #[(.pointer (some ⟨b19, 0, none⟩))]))), (41, (ro z1a 8 v1.fTypes)), (42, (iv .i64 (v1.fTypes.length : Int))), (43, (iv .i64 v126))], [(box b2 31 (z78 v1)), (box b19 50 [(iv .i64 z)])]⟩) (fun v130 h => ?_) (fun hJ131 => ?_)
    ·
     replace h : (z2y φ v126 (z1m φ v1 (z2e φ v1) n128)) v130 = some r := h
     unfold z2y at h
     refine al [1, 3, 4, 41, 42, 43] [0, 1] rfl rfl rfl (sq (cr [0, 1] rfl (q1 rfl (z0g (mv rfl) ct) (q1 rfl (z0 (mv rfl)) (rn ?_)))))
     exact AtX.to (ih128 ((W (v126 + 1)), v130) h) [0, 1] (sl rfl) (ol rfl) rfl
    ·
     refine z2.block (cs (cr [0, 1, 2, 3] rfl (ckE h fun h132 h => q1 rfl (zn (ix26 H) (mv rfl) (mv rfl) (h132).1 (z8 h132)) (q1 rfl (ln (ztj H) (Pt.rop (mv rfl)) rfl) (n1 rfl (z38 _ (zxl H) rfl fun b133 => n1 rfl (sto 2 (ztj H) (mv rfl) (Ce.agg (mv rfl)) rfl rfl rfl rfl (rn (al [1, 3, 4, 6, 41, 42, 43] [0, 1, 2] rfl rfl rfl (sq (cs ?_)))))))))))
     refine cs (cr [0, 1, 2, 3, 4, 5, 6, 7, 8, 9, 10] rfl (q1 rfl (z3 (zpv H) (mv rfl)) (q1 rfl (lb (tl3 H) 2 (mv rfl) rfl rfl) (q1 rfl (z3 (zox H) (mv rfl)) (q1 rfl (lb (tl3 H) 2 (mv rfl) rfl rfl) (q1 rfl (z3 (zp5 H) (mv rfl)) (q1 rfl (lb (tl3 H) 2 (mv rfl) rfl rfl) (q1 rfl (z3 (zqj H) (mv rfl)) (q1 rfl (lb (tl3 H) 2 (mv rfl) rfl rfl) (n1 rfl (z2d (e := eI64) [(gt v1.fTypes v126).fLoad, (gt v1.fTypes v126).fTare, (gt v1.fTypes v126).fLength, (gt v1.fTypes v126).fBrake] (sl96 H) lI64 rfl (by decide) ⟨rfl, (Ce.one (mv rfl) (One.eqv rfl)), ⟨rfl, (Ce.one (mv rfl) (One.eqv rfl)), ⟨rfl, (Ce.one (mv rfl) (One.eqv rfl)), ⟨rfl, (Ce.one (mv rfl) (One.eqv rfl)), trivial⟩⟩⟩⟩ fun sv134 => q1 rfl (z9e 3 (il96 H) (mv rfl) rfl) ?_)))))))))))
     refine q1 rfl (z0 ct) (rn (al [1, 3, 4, 6, 41, 42, 43, 55, 56, 57] [0, 1, 2, 3] rfl rfl rfl (sq ?_)))
     refine z2.join (fun z : Int => (z4r φ v1 v126 (z2y φ v126 (z1m φ v1 (z2e φ v1) n128))) z) r (fun z => ⟨zd.of [(1, (eqv (.pointer (some ⟨b2, 0, none⟩)))), (3, (eqv (.pointer (some ⟨b19, 0, none⟩)))), (4, (eqv (.func (.func 78) #[] #[(.pointer (some ⟨b19, 0, none⟩))]))), (6, (eqv (.pointer (some ⟨b133, 0, none⟩)))), (41, (ro z1a 8 v1.fTypes)), (42, (iv .i64 (v1.fTypes.length : Int))), (43, (iv .i64 v126))], [(box b2 31 (z78 v1)), (box b19 50 [(iv .i64 z)]), (box b133 114 (z1a (gt v1.fTypes v126)))]⟩) (fun v135 h => ?_) (fun hJ136 => ?_)
     ·
      replace h : (z4r φ v1 v126 (z2y φ v126 (z1m φ v1 (z2e φ v1) n128))) v135 = some r := h
      unfold z4r at h
      refine al [1, 3, 4, 6, 41, 42, 43] [0, 1, 2] rfl rfl rfl (sq (cr [0, 1, 2, 3, 4, 5, 6, 7, 8, 9, 10, 11, 12, 13, 14] rfl (q1 rfl (z0 (mv rfl)) (q1 rfl (z3 (zpt H) (mv rfl)) (q1 rfl (lb (tl3 H) 2 (mv rfl) rfl rfl) (zp h fun y137 ey137 h => q1 rfl (oQ (zax H) (z1s H φ ((gt v1.fTypes v126).fGauge) 0 7 _ ey137) z5 ⟨ef (mv rfl), ef ct, ef ct, trivial⟩) (q1 rfl (z0 (mv rfl)) (g1 rfl rfl (fun g138 => z3 (zp0 H) (mv rfl)) (g1 rfl rfl (fun g139 => lb (tl3 H) 2 (mc rfl g139) rfl rfl) (zp h fun y141 ey141 h => ?_))))))))))
      refine g1 rfl rfl (fun g140 => oQ (zax H) (z1s H φ ((gt v1.fTypes v126).fLife) 1 1073741824 _ (zy ey141 g140)) z5 ⟨ef (mc rfl g140), ef ct, ef ct, trivial⟩) (q1 rfl (z36 (mv rfl) (fun g142 => (mc rfl g142)) ct) (q1 rfl (z0 (mv rfl)) (g1 rfl rfl (fun g143 => z3 (zou H) (mv rfl)) (g1 rfl rfl (fun g144 => lb (tl3 H) 2 (mc rfl g144) rfl rfl) (zp h fun y146 ey146 h => g1 rfl rfl (fun g145 => oQ (zax H) (z1s H φ ((gt v1.fTypes v126).fFloor) 0 100 _ (zy ey146 g145)) z5 ⟨ef (mc rfl g145), ef ct, ef ct, trivial⟩) (q1 rfl (z36 (mv rfl) (fun g147 => (mc rfl g147)) ct) (n1 rfl (z8k (zhg H) (mv rfl) (args := [(bv ((y137 && y141) && y146))]) ⟨(mv rfl), trivial⟩ (zau.of_code' 5 (fn78 H) rfl rfl (Nat.le_of_ble_eq_true rfl) fun r0147 wI147 => cl [0, 1] [0, 1, 2] rfl rfl rfl (cs (cr [0, 1] rfl ?_)))))))))))
      refine q1 rfl (z0 (mv rfl)) (q1 rfl (z79 (mv rfl)) (rn (al [1, 4] [0, 1, 2] rfl rfl rfl (sq ?_))))
      refine z2.join (fun z : Int => (z7g φ (z2y φ v126 (z1m φ v1 (z2e φ v1) n128))) z) r (fun z => ⟨zd.of [], [(box b2 31 (z78 v1)), (box b19 50 [(iv .i64 z)]), (box b133 114 (z1a (gt v1.fTypes v126)))]⟩) (fun v148 h => ?_) (fun hJ149 => ?_)
      ·
       replace h : (z7g φ (z2y φ v126 (z1m φ v1 (z2e φ v1) n128))) v148 = some r := h
       unfold z7g at h
       refine AtX.fall' (eqv (.tuple #[])) (zq.zero Try.results78) [0, 1, 2] [(box b2 31 (z78 v1)), (box b19 50 [(iv .i64 v148)]), (box b133 114 (z1a (gt v1.fTypes v126)))] (ol rfl) rfl (rn (AtX.in_normal ?_))
       exact AtX.to (hJ131 v148 h) [0, 1] (sl rfl) (ol rfl) rfl
      ·
       refine cI h rfl (fun c150 h => ?_) (fun c150 h => ?_)
       ·
        refine cr [0] rfl (n1 rfl (sto 1 (tl50 H) (mv rfl) (Ce.one ct (One.eqv rfl)) rfl rfl rfl rfl (rn ?_)))
        exact AtX.to (hJ149 1 h) [0, 1, 2] trivial (ol rfl) rfl
       ·
        refine z2.skip ?_
        exact AtX.to (hJ149 v135 h) [0, 1, 2] trivial (ol rfl) rfl
     ·
      refine z2.block ?_
      refine z2.to (z2.loop (fun n (z : Int × Int) => z37 φ v1 v126 (z4r φ v1 v126 (z2y φ v126 (z1m φ v1 (z2e φ v1) n128))) n z.1 z.2) r (fun z => ⟨zd.of [(1, (eqv (.pointer (some ⟨b2, 0, none⟩)))), (3, (eqv (.pointer (some ⟨b19, 0, none⟩)))), (4, (eqv (.func (.func 78) #[] #[(.pointer (some ⟨b19, 0, none⟩))]))), (6, (eqv (.pointer (some ⟨b133, 0, none⟩)))), (41, (ro z1a 8 v1.fTypes)), (42, (iv .i64 (v1.fTypes.length : Int))), (43, (iv .i64 v126)), (55, (eqv sv134)), (56, (iv .i64 ([(gt v1.fTypes v126).fLoad, (gt v1.fTypes v126).fTare, (gt v1.fTypes v126).fLength, (gt v1.fTypes v126).fBrake].length : Int))), (57, (iv .i64 z.1))], [(box b2 31 (z78 v1)), (box b19 50 [(iv .i64 z.2)]), (box b133 114 (z1a (gt v1.fTypes v126))), (row 3 eI64 1 [(gt v1.fTypes v126).fLoad, (gt v1.fTypes v126).fTare, (gt v1.fTypes v126).fLength, (gt v1.fTypes v126).fBrake] sv134)]⟩) (fun z => rfl) (fun n153 z ih153 h => ?_) φ (0, v127) h) [0, 1, 2, 3] (sl rfl) (ol rfl) rfl
      obtain ⟨v151, v152⟩ := z
      replace h : z37 φ v1 v126 (z4r φ v1 v126 (z2y φ v126 (z1m φ v1 (z2e φ v1) n128))) (n153 + 1) v151 v152 = some r := h
      rw [z37] at h
      refine cs (cr [0] rfl (q1 rfl (z10 (mv rfl) (mv rfl)) (rn (al [1, 3, 4, 6, 41, 42, 43, 55, 56, 57, 58] [0, 1, 2, 3] rfl rfl rfl (sq (cs ?_))))))
      refine cI h rfl (fun c154 h => ?_) (fun c154 h => ?_)
      ·
       refine z2.skip (al [1, 3, 4, 6, 41, 42, 43, 55, 56, 57] [0, 1, 2, 3] rfl rfl rfl (sq (cs (z2.block (cs (cr [0, 1, 2] rfl (ckE h fun h155 h => q1 rfl (zb 3 (ix96 H) (mv rfl) rfl (mv rfl) (h155).1 (h155).2) (q1 rfl (z2g (tl3 H) ((Pt.row _ 3 (k := (v151 : Int).toNat) (fo := 0) lI64 (mv rfl) rfl (by omega) (z8 h155) rfl).take 1 (cs' := [(iv .i64 (gt [(gt v1.fTypes v126).fLoad, (gt v1.fTypes v126).fTare, (gt v1.fTypes v126).fLength, (gt v1.fTypes v126).fBrake] v151))]) rfl)) (q1 rfl (z1 (mv rfl)) (rn ?_))))))))))
       refine al [1, 3, 4, 6, 8, 41, 42, 43, 55, 56, 57] [0, 1, 2, 3] rfl rfl rfl (sq (cr [0, 1, 2, 3] rfl (q1 rfl (z0 (mv rfl)) (q1 rfl (z0 (mv rfl)) (zp h fun y156 ey156 h => q1 rfl (oQ (zax H) (z1s H φ (gt [(gt v1.fTypes v126).fLoad, (gt v1.fTypes v126).fTare, (gt v1.fTypes v126).fLength, (gt v1.fTypes v126).fBrake] v151) 0 1000000 _ ey156) z5 ⟨ef (mv rfl), ef ct, ef ct, trivial⟩) (n1 rfl (z8k (zhg H) (mv rfl) (args := [(bv y156)]) ⟨(mv rfl), trivial⟩ (zau.of_code' 5 (fn78 H) rfl rfl (Nat.le_of_ble_eq_true rfl) fun r0156 wI156 => cl [0, 1] [0, 1, 2, 3] rfl rfl rfl (cs (cr [0, 1] rfl (q1 rfl (z0 (mv rfl)) ?_)))))))))))
       refine q1 rfl (z79 (mv rfl)) (rn (al [1, 4] [0, 1, 2, 3] rfl rfl rfl (sq ?_)))
       refine z2.join (fun z : Int => (z7f φ v151 (z37 φ v1 v126 (z4r φ v1 v126 (z2y φ v126 (z1m φ v1 (z2e φ v1) n128))) n153)) z) r (fun z => ⟨zd.of [], [(box b2 31 (z78 v1)), (box b19 50 [(iv .i64 z)]), (box b133 114 (z1a (gt v1.fTypes v126))), (row 3 eI64 1 [(gt v1.fTypes v126).fLoad, (gt v1.fTypes v126).fTare, (gt v1.fTypes v126).fLength, (gt v1.fTypes v126).fBrake] sv134)]⟩) (fun v157 h => ?_) (fun hJ158 => ?_)
       ·
        replace h : (z7f φ v151 (z37 φ v1 v126 (z4r φ v1 v126 (z2y φ v126 (z1m φ v1 (z2e φ v1) n128))) n153)) v157 = some r := h
        unfold z7f at h
        refine AtX.fall' (eqv (.tuple #[])) (zq.zero Try.results78) [0, 1, 2, 3] [(box b2 31 (z78 v1)), (box b19 50 [(iv .i64 v157)]), (box b133 114 (z1a (gt v1.fTypes v126))), (row 3 eI64 1 [(gt v1.fTypes v126).fLoad, (gt v1.fTypes v126).fTare, (gt v1.fTypes v126).fLength, (gt v1.fTypes v126).fBrake] sv134)] (ol rfl) rfl (rn (AtX.in_normal (al [1, 3, 4, 6, 41, 42, 43, 55, 56, 57] [0, 1, 2, 3] rfl rfl rfl (sq (cr [0, 1] rfl (q1 rfl (z0g (mv rfl) ct) (q1 rfl (z0 (mv rfl)) (rn ?_))))))))
        exact AtX.to (ih153 ((W (v151 + 1)), v157) h) [0, 1, 2, 3] (sl rfl) (ol rfl) rfl
       ·
        refine cI h rfl (fun c159 h => ?_) (fun c159 h => ?_)
        ·
         refine cr [0] rfl (n1 rfl (sto 1 (tl50 H) (mv rfl) (Ce.one ct (One.eqv rfl)) rfl rfl rfl rfl (rn ?_)))
         exact AtX.to (hJ158 1 h) [0, 1, 2, 3] trivial (ol rfl) rfl
        ·
         refine z2.skip ?_
         exact AtX.to (hJ158 v152 h) [0, 1, 2, 3] trivial (ol rfl) rfl
      ·
       refine z2.exit (AtX.then_exit (AtX.then_exit (AtX.in_hit ?_)))
       exact AtX.to (hJ136 v152 h) [0, 1, 2] (sl rfl) (ol rfl) rfl
   ·
    refine z2.exit (AtX.then_exit (AtX.then_exit (AtX.in_hit ?_)))
    exact AtX.to (hJ21 v127 h) [0, 1] (sl rfl) (ol rfl) rfl
theorem zfl {P : Program} (H : P = Try.prog) (φ : Nat) (v1 : z2w) (r : (Int)) (h : z9d φ v1 = some r) : z0z P 60 [(agg (z72 v1))] (fun x news => x = (iv .i64 r) ∧ news = []) := by
 unfold z9d at h
 refine z0z.of_code' 45 (fn60 H) rfl rfl (Nat.le_of_ble_eq_true rfl) fun w0 base r0 wI => ?_
 refine cl [0] [] rfl rfl rfl (cs (cr [0, 1] rfl (n1 rfl (z7i (Ce.agg (mv rfl)) fun b2 => q1 rfl (z1 ct) (rn (al [1] [0] rfl rfl rfl (sq (cs (cs (cr [0, 1, 2] rfl (q1 rfl (z3 (zow H) (mv rfl)) ?_)))))))))))
 refine q1 rfl (zdo (zyh H) (by simp [zct znz]) ((Pt.box 0 (mv rfl) rfl rfl).take 14 (cs' := ([] ++ arr 7 zko v1.fOpen ++ [])) rfl)) (q1 rfl (z0 ct) (rn (al [1, 9, 10] [0] rfl rfl rfl (sq ?_))))
 refine z2.join (fun z : Unit => (z4z φ v1)) r (fun z => ⟨zd.of [(1, (eqv (.pointer (some ⟨b2, 0, none⟩))))], [(box b2 105 (z72 v1))]⟩) (fun z h => ?_) (fun hJ3 => ?_)
 ·
  replace h : (z4z φ v1) = some r := h
  unfold z4z at h
  refine al [1] [0] rfl rfl rfl (sq (cs (cr [0] rfl (q1 rfl (z1 ct) (rn (al [1, 5] [0] rfl rfl rfl (sq (cs (cs (cr [0, 1, 2, 3] rfl (q1 rfl (z3 (zh8 H) (mv rfl)) ?_)))))))))))
  refine q1 rfl (lb (tl96 H) 0 (mv rfl) rfl rfl) (q1 rfl (z0x (il96 H) (mv rfl)) (q1 rfl (z0 ct) (rn (al [5, 30, 31, 32] [] rfl rfl rfl (sq ?_)))))
  refine z2.join (fun z : Unit => (z5q φ)) r (fun z => ⟨zd.of [], []⟩) (fun z h => ?_) (fun hJ4 => ?_)
  ·
   replace h : (z5q φ) = some r := h
   unfold z5q at h
   refine al [] [] rfl rfl rfl (sq (cs (cr [0] rfl (q1 rfl (z1 ct) (rn (al [2] [] rfl rfl rfl (sq (z2.ret (AtX.ret' (iv .i64 0) (zq.one Try.results60 rfl) [] [] trivial rfl ?_)))))))))
   obtain rfl := Option.some.inj h
   exact ⟨rfl, rfl⟩
  ·
   refine z2.block ?_
   refine z2.to (z2.loop (fun n (z : Int × Int) => z51 φ v1 (z5q φ) n z.1 z.2) r (fun z => ⟨zd.of [(5, (iv .i64 z.1)), (30, (ro eI64 1 v1.fHolidays)), (31, (iv .i64 (v1.fHolidays.length : Int))), (32, (iv .i64 z.2))], []⟩) (fun z => rfl) (fun n7 z ih7 h => ?_) φ ((-1), 0) h) [] (sl rfl) trivial rfl
   obtain ⟨v5, v6⟩ := z
   replace h : z51 φ v1 (z5q φ) (n7 + 1) v5 v6 = some r := h
   rw [z51] at h
   refine cs (cr [0] rfl (q1 rfl (z10 (mv rfl) (mv rfl)) (rn (al [5, 30, 31, 32, 33] [] rfl rfl rfl (sq (cs ?_))))))
   refine cI h rfl (fun c8 h => ?_) (fun c8 h => ?_)
   ·
    refine z2.skip (al [5, 30, 31, 32] [] rfl rfl rfl (sq (cs (z2.block (cs (cr [0, 1, 2] rfl (ckE h fun h9 h => q1 rfl (zn (ix96 H) (mv rfl) (mv rfl) (h9).1 (z8 h9)) (q1 rfl (lr (tl3 H) (mv rfl)) (q1 rfl (z1 (mv rfl)) (rn ?_))))))))))
    refine al [5, 7, 30, 31, 32] [] rfl rfl rfl (sq (cs (cs (cr [0, 1, 2, 3, 4, 5, 6] rfl (q1 rfl (z0 (mv rfl)) (q1 rfl (z0 (mv rfl)) (q1 rfl (zc4 (mv rfl) (mv rfl)) (q1 rfl (z0 (mv rfl)) (g1 rfl rfl (fun g10 => z0 (mv rfl)) (g1 rfl rfl (fun g11 => z49 (mc rfl g11) ct) (q1 rfl (opOr (mv rfl) ct (fun g12 => (mc rfl g12))) ?_)))))))))))
    refine rn (al [7, 30, 31, 32, 42] [] rfl rfl rfl (sq ?_))
    refine cI h rfl (fun c13 h => ?_) (fun c13 h => ?_)
    ·
     refine cs (cr [0] rfl (q1 rfl (z1 ct) (rn (al [2] [] rfl rfl rfl (sq (z2.ret (AtX.then_ret (AtX.in_ret (AtX.then_ret (AtX.then_ret (AtX.in_ret ?_)))))))))))
     refine AtX.then_ret (AtX.ret' (iv .i64 1) (zq.one Try.results60 rfl) [] [] trivial rfl ?_)
     obtain rfl := Option.some.inj h
     exact ⟨rfl, rfl⟩
    ·
     refine z2.skip (al [7, 30, 31, 32] [] rfl rfl rfl (sq (cr [0, 1] rfl (q1 rfl (z0 (mv rfl)) (q1 rfl (z1 (mv rfl)) (rn (AtX.in_normal (al [5, 30, 31, 32] [] rfl rfl rfl (sq (cr [0, 1] rfl (q1 rfl (z0g (mv rfl) ct) ?_)))))))))))
     refine q1 rfl (z0 (mv rfl)) (rn ?_)
     exact AtX.to (ih7 ((gt v1.fHolidays v6), (W (v6 + 1))) h) [] (sl rfl) trivial rfl
   ·
    refine z2.exit (AtX.then_exit (AtX.then_exit (AtX.in_hit ?_)))
    exact AtX.to (hJ4 () h) [] trivial trivial rfl
 ·
  refine z2.block ?_
  refine z2.to (z2.loop (fun n (z : Int) => z4g φ v1 (z4z φ v1) n z) r (fun z => ⟨zd.of [(1, (eqv (.pointer (some ⟨b2, 0, none⟩)))), (9, (agg ([] ++ arr 7 zko v1.fOpen ++ []))), (10, (iv .i64 z))], [(box b2 105 (z72 v1))]⟩) (fun z => rfl) (fun n15 v14 ih15 h => ?_) φ 0 h) [0] (sl rfl) (ol rfl) rfl
  replace h : z4g φ v1 (z4z φ v1) (n15 + 1) v14 = some r := h
  rw [z4g] at h
  refine cs (cr [0] rfl (q1 rfl (z10 (mv rfl) ct) (rn (al [1, 9, 10, 11] [0] rfl rfl rfl (sq (cs ?_))))))
  refine cI h rfl (fun c16 h => ?_) (fun c16 h => ?_)
  ·
   refine z2.skip (al [1, 9, 10] [0] rfl rfl rfl (sq (cs (z2.block (cs (cr [0, 1, 2] rfl (ckE h fun h17 h => q1 rfl (zpn (zy4 H) (tl62 H) (mv rfl) (mv rfl) znz (h17).1 (h17).2) (n1 rfl (z38 _ (ze62 H) rfl fun b18 => n1 rfl (sto 1 (tl62 H) (mv rfl) (Ce.agg (mv rfl)) rfl rfl rfl rfl (rn ?_)))))))))))
   refine al [1, 4, 9, 10] [0, 1] rfl rfl rfl (sq (cs (cr [0, 1, 2, 3, 4, 5, 6, 7, 8, 9, 10, 11, 12, 13, 14] rfl (q1 rfl (z3 (zgc H) (mv rfl)) (q1 rfl (lb (tl3 H) 1 (mv rfl) rfl rfl) (q1 rfl (z10 (mv rfl) ct) (q1 rfl (z0 (mv rfl)) (g1 rfl rfl (fun g19 => z3 (zjf H) (mv rfl)) (g1 rfl rfl (fun g20 => lb (tl3 H) 1 (mc rfl g20) rfl rfl) (g1 rfl rfl (fun g21 => z3 (zgc H) (mv rfl)) (g1 rfl rfl (fun g22 => lb (tl3 H) 1 (mc rfl g22) rfl rfl) ?_)))))))))))
   refine g1 rfl rfl (fun g23 => z10 (mc rfl g23) (mc rfl g23)) (q1 rfl (opOr (mv rfl) ct (fun g24 => (mc rfl g24))) (q1 rfl (z0 (mv rfl)) (g1 rfl rfl (fun g25 => z3 (zjf H) (mv rfl)) (g1 rfl rfl (fun g26 => lb (tl3 H) 1 (mc rfl g26) rfl rfl) (g1 rfl rfl (fun g27 => z49 (mc rfl g27) ct) (q1 rfl (opOr (mv rfl) ct (fun g28 => (mc rfl g28))) (rn (al [1, 9, 10, 27] [0] rfl rfl rfl (sq ?_)))))))))
   refine cI h rfl (fun c29 h => ?_) (fun c29 h => ?_)
   ·
    refine cs (cr [0] rfl (q1 rfl (z1 ct) (rn (al [2] [] rfl rfl rfl (sq (z2.ret (AtX.in_ret (AtX.then_ret (AtX.then_ret (AtX.in_ret (AtX.then_ret ?_)))))))))))
    refine AtX.ret' (iv .i64 1) (zq.one Try.results60 rfl) [] [] trivial rfl ?_
    obtain rfl := Option.some.inj h
    exact ⟨rfl, rfl⟩
   ·
    refine z2.skip (AtX.in_normal (al [1, 9, 10] [0] rfl rfl rfl (sq (cr [0, 1] rfl (q1 rfl (z0g (mv rfl) ct) (q1 rfl (z0 (mv rfl)) (rn ?_)))))))
    exact AtX.to (ih15 (W (v14 + 1)) h) [0] (sl rfl) (ol rfl) rfl
  ·
   refine z2.exit (AtX.then_exit (AtX.then_exit (AtX.in_hit ?_)))
   exact AtX.to (hJ3 () h) [0] (sl rfl) (ol rfl) rfl
theorem zes {P : Program} (H : P = Try.prog) (φ : Nat) (v1 : Int) (v2 : Int) (r : (Int × Int)) (h : za9 φ v1 v2 = some r) : z0z P 101 [(iv .u64 v1), (iv .u64 v2)] (fun x news => x = tupv [(iv .u64 r.1), (iv .u64 r.2)] ∧ news = []) := by
 unfold za9 at h
 refine z0z.of_code' 51 (zye H) rfl rfl (Nat.le_of_ble_eq_true rfl) fun w0 base r0 wI => ?_
 refine cl [0, 1] [] rfl rfl rfl (cs (cr [0, 1] rfl (q1 rfl (z1 ct) (q1 rfl (z1 ct) (rn (al [0, 1] [] rfl rfl rfl (sq (cs (cr [0, 1, 2] rfl (q1 rfl (z0 (mv rfl)) (q1 rfl (zjv (mv rfl) ct) ?_)))))))))))
 refine q1 rfl (z1 (mv rfl)) (rn (al [0, 1, 6] [] rfl rfl rfl (sq (cs (cr [0, 1, 2] rfl (q1 rfl (z0 (mv rfl)) (q1 rfl (z9c 4294967296 (by decide) (mv rfl) ct (by decide)) (q1 rfl (z1 (mv rfl)) (rn (al [0, 1, 6, 7] [] rfl rfl rfl (sq ?_)))))))))))
 refine cs (cr [0, 1, 2] rfl (q1 rfl (z0 (mv rfl)) (q1 rfl (zjv (mv rfl) ct) (q1 rfl (z1 (mv rfl)) (rn (al [0, 1, 6, 7, 8] [] rfl rfl rfl (sq (cs (cr [0, 1, 2] rfl (q1 rfl (z0 (mv rfl)) (q1 rfl (z9c 4294967296 (by decide) (mv rfl) ct (by decide)) ?_)))))))))))
 refine q1 rfl (z1 (mv rfl)) (rn (al [0, 1, 6, 7, 8, 9] [] rfl rfl rfl (sq (cs (cr [0, 1, 2, 3] rfl (q1 rfl (z0 (mv rfl)) (q1 rfl (z0 (mv rfl)) (q1 rfl (zae (mv rfl) (mv rfl)) (q1 rfl (z1 (mv rfl)) (rn (al [0, 1, 6, 7, 8, 9, 10] [] rfl rfl rfl ?_)))))))))))
 refine sq (cs (cr [0, 1, 2, 3, 4, 5, 6] rfl (q1 rfl (z0 (mv rfl)) (q1 rfl (z0 (mv rfl)) (q1 rfl (zae (mv rfl) (mv rfl)) (q1 rfl (z0 (mv rfl)) (q1 rfl (z9c 4294967296 (by decide) (mv rfl) ct (by decide)) (q1 rfl (z0g (mv rfl) (mv rfl)) (q1 rfl (z1 (mv rfl)) (rn (al [0, 1, 6, 7, 9, 11] [] rfl rfl rfl ?_)))))))))))
 refine sq (cs (cr [0, 1, 2] rfl (q1 rfl (z0 (mv rfl)) (q1 rfl (zjv (mv rfl) ct) (q1 rfl (z1 (mv rfl)) (rn (al [0, 1, 6, 7, 9, 11, 12] [] rfl rfl rfl (sq (cs (cr [0, 1, 2] rfl (q1 rfl (z0 (mv rfl)) ?_)))))))))))
 refine q1 rfl (z9c 4294967296 (by decide) (mv rfl) ct (by decide)) (q1 rfl (z1 (mv rfl)) (rn (al [0, 1, 6, 7, 9, 12, 13] [] rfl rfl rfl (sq (cs (cr [0, 1, 2, 3, 4, 5] rfl (q1 rfl (z0 (mv rfl)) (q1 rfl (z0 (mv rfl)) (q1 rfl (z0 (mv rfl)) (q1 rfl (zae (mv rfl) (mv rfl)) (q1 rfl (z0g (mv rfl) (mv rfl)) ?_)))))))))))
 refine q1 rfl (z1 (mv rfl)) (rn (al [0, 1, 7, 9, 12, 13] [] rfl rfl rfl (sq (cs (cr [0, 1, 2, 3, 4, 5, 6, 7, 8] rfl (q1 rfl (z0 (mv rfl)) (q1 rfl (z0 (mv rfl)) (q1 rfl (zae (mv rfl) (mv rfl)) (q1 rfl (z0 (mv rfl)) (q1 rfl (z0g (mv rfl) (mv rfl)) (q1 rfl (z0 (mv rfl)) ?_)))))))))))
 refine q1 rfl (z9c 4294967296 (by decide) (mv rfl) ct (by decide)) (q1 rfl (z0g (mv rfl) (mv rfl)) (q1 rfl (z1 (mv rfl)) (rn (al [0, 1, 4] [] rfl rfl rfl (sq (cs (cr [0, 1, 2, 3] rfl (q1 rfl (z0 (mv rfl)) (q1 rfl (z0 (mv rfl)) (q1 rfl (zae (mv rfl) (mv rfl)) (q1 rfl (z1 (mv rfl)) ?_)))))))))))
 refine rn (al [4, 5] [] rfl rfl rfl (sq (z2.ret (AtX.ret' (tupv [(iv .u64 (U ((U ((U ((v1.fdiv 4294967296) * (v2.fdiv 4294967296))) + ((U ((U ((v1.fdiv 4294967296) * (U ((BitVec.ofInt (IntKind.bits .u64) v2 &&& BitVec.ofInt (IntKind.bits .u64) 4294967295).toNat)))) + ((U ((U ((BitVec.ofInt (IntKind.bits .u64) v1 &&& BitVec.ofInt (IntKind.bits .u64) 4294967295).toNat)) * (U ((BitVec.ofInt (IntKind.bits .u64) v2 &&& BitVec.ofInt (IntKind.bits .u64) 4294967295).toNat)))).fdiv 4294967296))).fdiv 4294967296))) + ((U ((U ((BitVec.ofInt (IntKind.bits .u64) (U ((U ((v1.fdiv 4294967296) * (U ((BitVec.ofInt (IntKind.bits .u64) v2 &&& BitVec.ofInt (IntKind.bits .u64) 4294967295).toNat)))) + ((U ((U ((BitVec.ofInt (IntKind.bits .u64) v1 &&& BitVec.ofInt (IntKind.bits .u64) 4294967295).toNat)) * (U ((BitVec.ofInt (IntKind.bits .u64) v2 &&& BitVec.ofInt (IntKind.bits .u64) 4294967295).toNat)))).fdiv 4294967296))) &&& BitVec.ofInt (IntKind.bits .u64) 4294967295).toNat)) + (U ((U ((BitVec.ofInt (IntKind.bits .u64) v1 &&& BitVec.ofInt (IntKind.bits .u64) 4294967295).toNat)) * (v2.fdiv 4294967296))))).fdiv 4294967296)))), (iv .u64 (U (v1 * v2)))]) (zq.two Try.results101 rfl rfl) [] [] trivial rfl ?_))))
 obtain rfl := Option.some.inj h
 exact ⟨rfl, rfl⟩
theorem zcq {P : Program} (H : P = Try.prog) (φ : Nat) (v1 : Int) (r : (Int)) (h : zac φ v1 = some r) : z0z P 96 [(iv .u64 v1)] (fun x news => x = (iv .i64 r) ∧ news = []) := by
 unfold zac at h
 refine z0z.of_code' 25 (fn96 H) rfl rfl (Nat.le_of_ble_eq_true rfl) fun w0 base r0 wI => ?_
 refine cl [0] [] rfl rfl rfl (cs (cr [0] rfl (q1 rfl (z1 ct) (rn (al [0, 2] [] rfl rfl rfl (sq (cs (cs (cr [0, 1] rfl (q1 rfl (z0 (mv rfl)) (q1 rfl (z9l (mv rfl) ct) ?_)))))))))))
 refine rn (al [0, 2, 4] [] rfl rfl rfl (sq ?_))
 refine z2.join (fun z : Int × Int => (z8d φ) z.1 z.2) r (fun z => ⟨zd.of [(0, (iv .u64 z.1)), (2, (iv .i64 z.2))], []⟩) (fun z h => ?_) (fun hJ4 => ?_)
 ·
  obtain ⟨v2, v3⟩ := z
  replace h : (z8d φ) v2 v3 = some r := h
  unfold z8d at h
  refine al [0, 2] [] rfl rfl rfl (sq (cs (cs (cr [0, 1] rfl (q1 rfl (z0 (mv rfl)) (q1 rfl (z9l (mv rfl) ct) (rn (al [0, 2, 8] [] rfl rfl rfl (sq ?_)))))))))
  refine z2.join (fun z : Int × Int => (z8c φ) z.1 z.2) r (fun z => ⟨zd.of [(0, (iv .u64 z.1)), (2, (iv .i64 z.2))], []⟩) (fun z h => ?_) (fun hJ7 => ?_)
  ·
   obtain ⟨v5, v6⟩ := z
   replace h : (z8c φ) v5 v6 = some r := h
   unfold z8c at h
   refine al [0, 2] [] rfl rfl rfl (sq (cs (cs (cr [0, 1] rfl (q1 rfl (z0 (mv rfl)) (q1 rfl (z9l (mv rfl) ct) (rn (al [0, 2, 14] [] rfl rfl rfl (sq ?_)))))))))
   refine z2.join (fun z : Int × Int => (z7v φ) z.1 z.2) r (fun z => ⟨zd.of [(0, (iv .u64 z.1)), (2, (iv .i64 z.2))], []⟩) (fun z h => ?_) (fun hJ10 => ?_)
   ·
    obtain ⟨v8, v9⟩ := z
    replace h : (z7v φ) v8 v9 = some r := h
    unfold z7v at h
    refine al [0, 2] [] rfl rfl rfl (sq (cs (cr [0, 1, 2, 3, 4, 5, 6] rfl (q1 rfl (z0 (mv rfl)) (q1 rfl (z0 (mv rfl)) (q1 rfl (z83 (us41 H) (un5 H) (mv rfl)) (ckE h fun h11 h => ze.cons_q (iv .u8 (zca ze1 (IntKind.wrap .u8 (v8)))) rfl rfl rfl (zrc (un9 H) (n := 256) (Ev.eq (Ev.const _) (congrArg Value.string (by kernel_rfl))) (mv rfl) rfl (h11).1 (h11).2) (q1 rfl (z83 (us5 H) (un3 H) (mv rfl)) (q1 rfl (z0g (mv rfl) (mv rfl)) (q1 rfl (z1 (mv rfl)) ?_))))))))))
    refine rn (al [2] [] rfl rfl rfl (sq (z2.ret (AtX.ret' (iv .i64 (W (v9 + (W ((zca ze1 (IntKind.wrap .u8 (v8)))))))) (zq.one Try.results96 rfl) [] [] trivial rfl ?_))))
    obtain rfl := Option.some.inj h
    exact ⟨rfl, rfl⟩
   ·
    refine cI h rfl (fun c12 h => ?_) (fun c12 h => ?_)
    ·
     refine cs (cr [0, 1, 2] rfl (q1 rfl (z0 (mv rfl)) (q1 rfl (z9c 256 (by decide) (mv rfl) ct (by decide)) (q1 rfl (z1 (mv rfl)) (rn (al [0, 2] [] rfl rfl rfl (sq (cr [0, 1, 2] rfl (q1 rfl (z0 (mv rfl)) (q1 rfl (z0g (mv rfl) ct) (q1 rfl (z1 (mv rfl)) ?_)))))))))))
     refine rn ?_
     exact AtX.to (hJ10 ((v5.fdiv 256), (W (v6 + 8))) h) [] (sl rfl) trivial rfl
    ·
     refine z2.skip ?_
     exact AtX.to (hJ10 (v5, v6) h) [] (sl rfl) trivial rfl
  ·
   refine cI h rfl (fun c13 h => ?_) (fun c13 h => ?_)
   ·
    refine cs (cr [0, 1, 2] rfl (q1 rfl (z0 (mv rfl)) (q1 rfl (z9c 65536 (by decide) (mv rfl) ct (by decide)) (q1 rfl (z1 (mv rfl)) (rn (al [0, 2] [] rfl rfl rfl (sq (cr [0, 1, 2] rfl (q1 rfl (z0 (mv rfl)) (q1 rfl (z0g (mv rfl) ct) (q1 rfl (z1 (mv rfl)) ?_)))))))))))
    refine rn ?_
    exact AtX.to (hJ7 ((v2.fdiv 65536), (W (v3 + 16))) h) [] (sl rfl) trivial rfl
   ·
    refine z2.skip ?_
    exact AtX.to (hJ7 (v2, v3) h) [] (sl rfl) trivial rfl
 ·
  refine cI h rfl (fun c14 h => ?_) (fun c14 h => ?_)
  ·
   refine cs (cr [0, 1, 2] rfl (q1 rfl (z0 (mv rfl)) (q1 rfl (z9c 4294967296 (by decide) (mv rfl) ct (by decide)) (q1 rfl (z1 (mv rfl)) (rn (al [0] [] rfl rfl rfl (sq (cr [0] rfl (q1 rfl (z1 ct) (rn ?_))))))))))
   exact AtX.to (hJ4 ((v1.fdiv 4294967296), 32) h) [] (sl rfl) trivial rfl
  ·
   refine z2.skip ?_
   exact AtX.to (hJ4 (v1, 0) h) [] (sl rfl) trivial rfl
theorem zd1 {P : Program} (H : P = Try.prog) (φ : Nat) (v1 : Int) (r : (Int)) (h : z73 φ v1 = some r) : z0z P 105 [(iv .u64 v1)] (fun x news => x = (iv .i64 r) ∧ news = []) := by
 unfold z73 at h
 refine z0z.of_code' 6 (zy8 H) rfl rfl (Nat.le_of_ble_eq_true rfl) fun w0 base r0 wI => ?_
 refine cl [0] [] rfl rfl rfl (cs (cr [0] rfl (q1 rfl (z1 ct) (rn (al [0] [] rfl rfl rfl (sq (cs (cr [0, 1, 2, 3] rfl (q1 rfl (z0 (mv rfl)) (zp h fun y2 ey2 h => q1 rfl (oQ (zpw H) (zcq H φ v1 _ ey2) z5 ⟨ef (mv rfl), trivial⟩) ?_))))))))))
 refine q1 rfl (z2f ct (mv rfl)) (q1 rfl (z1 (mv rfl)) (rn (al [2] [] rfl rfl rfl (sq (z2.ret (AtX.ret' (iv .i64 (W (64 - y2))) (zq.one Try.results105 rfl) [] [] trivial rfl ?_))))))
 obtain rfl := Option.some.inj h
 exact ⟨rfl, rfl⟩
theorem zet {P : Program} (H : P = Try.prog) (φ : Nat) (v1 : Int) (v2 : Int) (v3 : Int) (r : (Int × Int)) (h : z96 φ v1 v2 v3 = some r) : z0z P 102 [(iv .u64 v1), (iv .u64 v2), (iv .u64 v3)] (fun x news => x = tupv [(iv .u64 r.1), (iv .u64 r.2)] ∧ news = []) := by
 unfold z96 at h
 refine z0z.of_code' 135 (zy6 H) rfl rfl (Nat.le_of_ble_eq_true rfl) fun w0 base r0 wI => ?_
 refine cl [0, 1, 2] [] rfl rfl rfl (cs (cr [0, 1] rfl (q1 rfl (z1 ct) (q1 rfl (z1 ct) (rn (al [0, 1, 2] [] rfl rfl rfl (sq (cs (cs (cr [0, 1] rfl (q1 rfl (z0 (mv rfl)) ?_)))))))))))
 refine q1 rfl (z61 (mv rfl) ct) (rn (al [0, 1, 2, 20] [] rfl rfl rfl (sq ?_)))
 refine cI h rfl (fun c4 h => ?_) (fun c4 h => ?_)
 ·
  cases h
 ·
  refine z2.skip (al [0, 1, 2] [] rfl rfl rfl (sq (cs (cs (cr [0, 1, 2] rfl (q1 rfl (z0 (mv rfl)) (q1 rfl (z0 (mv rfl)) (q1 rfl (zc4 (mv rfl) (mv rfl)) (rn (al [0, 1, 2, 24] [] rfl rfl rfl (sq ?_)))))))))))
  refine cI h rfl (fun c5 h => ?_) (fun c5 h => ?_)
  ·
   cases h
  ·
   refine z2.skip (al [0, 1, 2] [] rfl rfl rfl (sq (cs (cs (cr [0, 1] rfl (q1 rfl (z0 (mv rfl)) (q1 rfl (z61 (mv rfl) ct) (rn (al [0, 1, 2, 27] [] rfl rfl rfl (sq ?_))))))))))
   refine cI h rfl (fun c6 h => ?_) (fun c6 h => ?_)
   ·
    refine cs (ckE h fun h7 h => z2.draw (QR := [(0, _), (1, _), (2, _), (3, _), (4, _), (5, _), (6, _), (7, _)]) (tab := [(some 28, []), (some 29, []), (some 30, [0, 1]), (some 31, []), (some 32, []), (some 33, [3, 4]), (some 6, [2, 0, 1, 2]), (some 7, [5, 6, 0, 1, 2, 3, 4, 5, 6])]) (z5h H) (Reg.intro [] [] (by kernel_rfl) rfl (an rfl) ⟨(qr rfl (z0 (mv rfl))), (qr rfl (z0 (mv rfl))), (qr rfl (zod (mv rfl) (mv rfl) h7)), (qr rfl (z0 (mv rfl))), (qr rfl (z0 (mv rfl))), (qr rfl (ziz (mv rfl) (mv rfl) h7)), (qr rfl (z1 (mv rfl))), (qr rfl (z1 (mv rfl))), trivial⟩ trivial (fun _ => al [6, 7] [] rfl rfl rfl (sq (z2.ret (AtX.then_ret (AtX.ret' (tupv [(iv .u64 (U (v2.tdiv v3))), (iv .u64 (v2.tmod v3))]) (zq.two Try.results102 rfl rfl) [] [] trivial rfl ?_)))))))
    obtain rfl := Option.some.inj h
    exact ⟨rfl, rfl⟩
   ·
    refine z2.skip (al [0, 1, 2] [] rfl rfl rfl (sq (cs (cr [0, 1, 2, 3] rfl (q1 rfl (z0 (mv rfl)) (zp h fun y8 ey8 h => q1 rfl (oQ (ztl H) (zd1 H φ v3 _ ey8) z5 ⟨ef (mv rfl), trivial⟩) (q1 rfl (z83 (us3 H) (zft H) (mv rfl)) (q1 rfl (z1 (mv rfl)) (rn (al [0, 1, 2, 8] [] rfl rfl rfl ?_))))))))))
    refine sq (cs (cr [0, 1, 2, 3] rfl (q1 rfl (z0 (mv rfl)) (q1 rfl (z0 (mv rfl)) (ckE h fun h9 h => q1 rfl (zu9 (mv rfl) (mv rfl) h9) (q1 rfl (z1 (mv rfl)) (rn (al [0, 1, 2, 8] [] rfl rfl rfl (sq (cs ?_))))))))))
    refine cr [0, 1, 2] rfl (q1 rfl (z0 (mv rfl)) (q1 rfl (z9c 4294967296 (by decide) (mv rfl) ct (by decide)) (q1 rfl (z1 (mv rfl)) (rn (al [0, 1, 2, 8, 9] [] rfl rfl rfl (sq (cs (cr [0, 1, 2] rfl (q1 rfl (z0 (mv rfl)) (q1 rfl (zjv (mv rfl) ct) (q1 rfl (z1 (mv rfl)) ?_)))))))))))
    refine rn (al [0, 1, 2, 8, 9, 10] [] rfl rfl rfl (sq (cs (cr [0, 1, 2, 3, 4, 5, 6, 7, 8] rfl (q1 rfl (z0 (mv rfl)) (q1 rfl (z0 (mv rfl)) (q1 rfl (zu9 (mv rfl) (mv rfl) h9) (q1 rfl (z0 (mv rfl)) (q1 rfl (z0 (mv rfl)) (q1 rfl (z2f ct (mv rfl)) (ckE h fun h10 h => ?_)))))))))))
    refine q1 rfl (zrg (mv rfl) (mv rfl) h10) (q1 rfl (zyf (mv rfl) (mv rfl)) (q1 rfl (z1 (mv rfl)) (rn (al [1, 2, 8, 9, 10, 11] [] rfl rfl rfl (sq (cs (cr [0, 1, 2, 3] rfl (q1 rfl (z0 (mv rfl)) (q1 rfl (z0 (mv rfl)) (q1 rfl (zu9 (mv rfl) (mv rfl) h9) (q1 rfl (z1 (mv rfl)) ?_)))))))))))
    refine rn (al [2, 8, 9, 10, 11, 12] [] rfl rfl rfl (sq (cs (cr [0, 1, 2] rfl (q1 rfl (z0 (mv rfl)) (q1 rfl (z9c 4294967296 (by decide) (mv rfl) ct (by decide)) (q1 rfl (z1 (mv rfl)) (rn (al [2, 8, 9, 10, 11, 12, 13] [] rfl rfl rfl (sq (cs ?_)))))))))))
    refine cr [0, 1, 2] rfl (q1 rfl (z0 (mv rfl)) (q1 rfl (zjv (mv rfl) ct) (q1 rfl (z1 (mv rfl)) (rn (al [2, 8, 9, 10, 11, 13, 14] [] rfl rfl rfl (sq (cs (cr [0, 1, 2, 3] rfl (q1 rfl (z0 (mv rfl)) (q1 rfl (z0 (mv rfl)) (ckE h fun h11 h => ?_)))))))))))
    refine q1 rfl (zod (mv rfl) (mv rfl) h11) (q1 rfl (z1 (mv rfl)) (rn (al [2, 8, 9, 10, 11, 13, 14, 15] [] rfl rfl rfl (sq (cs (cr [0, 1, 2, 3, 4, 5] rfl (q1 rfl (z0 (mv rfl)) (q1 rfl (z0 (mv rfl)) (q1 rfl (z0 (mv rfl)) (q1 rfl (zae (mv rfl) (mv rfl)) (q1 rfl (z2f (mv rfl) (mv rfl)) ?_)))))))))))
    refine q1 rfl (z1 (mv rfl)) (rn (al [2, 8, 9, 10, 11, 13, 14, 15, 16] [] rfl rfl rfl (sq (cs ?_))))
    refine z2.join (fun z : Int => (z7t φ v1 v2 v3 y8) z) r (fun z => ⟨zd.of [(2, (iv .u64 (U (v3 * 2 ^ (min ((U (y8)) : Int).toNat (IntKind.bits .u64)))))), (8, (iv .u64 (U (y8)))), (9, (iv .u64 ((U (v3 * 2 ^ (min ((U (y8)) : Int).toNat (IntKind.bits .u64)))).fdiv 4294967296))), (10, (iv .u64 (U ((BitVec.ofInt (IntKind.bits .u64) (U (v3 * 2 ^ (min ((U (y8)) : Int).toNat (IntKind.bits .u64)))) &&& BitVec.ofInt (IntKind.bits .u64) 4294967295).toNat)))), (11, (iv .u64 (U ((BitVec.ofInt (IntKind.bits .u64) (U (v1 * 2 ^ (min ((U (y8)) : Int).toNat (IntKind.bits .u64)))) ||| BitVec.ofInt (IntKind.bits .u64) (v2.fdiv (2 ^ (min ((U (64 - (U (y8)))) : Int).toNat (IntKind.bits .u64))))).toNat)))), (13, (iv .u64 ((U (v2 * 2 ^ (min ((U (y8)) : Int).toNat (IntKind.bits .u64)))).fdiv 4294967296))), (14, (iv .u64 (U ((BitVec.ofInt (IntKind.bits .u64) (U (v2 * 2 ^ (min ((U (y8)) : Int).toNat (IntKind.bits .u64)))) &&& BitVec.ofInt (IntKind.bits .u64) 4294967295).toNat)))), (15, (iv .u64 z))], []⟩) (fun v12 h => ?_) (fun hJ13 => ?_)
    ·
     replace h : (z7t φ v1 v2 v3 y8) v12 = some r := h
     unfold z7t at h
     refine al [2, 8, 9, 10, 11, 13, 14, 15] [] rfl rfl rfl (sq (cs (cr [0, 1, 2, 3, 4, 5, 6, 7, 8] rfl (q1 rfl (z0 (mv rfl)) (q1 rfl (zae (mv rfl) ct) (q1 rfl (z0 (mv rfl)) (q1 rfl (z0g (mv rfl) (mv rfl)) (q1 rfl (z0 (mv rfl)) (q1 rfl (z0 (mv rfl)) (q1 rfl (zae (mv rfl) (mv rfl)) (q1 rfl (z2f (mv rfl) (mv rfl)) ?_)))))))))))
     refine q1 rfl (z1 (mv rfl)) (rn (al [2, 8, 9, 10, 14, 15, 17] [] rfl rfl rfl (sq (cs (cr [0, 1, 2, 3] rfl (q1 rfl (z0 (mv rfl)) (q1 rfl (z0 (mv rfl)) (ckE h fun h14 h => q1 rfl (zod (mv rfl) (mv rfl) h14) (q1 rfl (z1 (mv rfl)) (rn ?_))))))))))
     refine al [2, 8, 9, 10, 14, 15, 17, 18] [] rfl rfl rfl (sq (cs (cr [0, 1, 2, 3, 4, 5] rfl (q1 rfl (z0 (mv rfl)) (q1 rfl (z0 (mv rfl)) (q1 rfl (z0 (mv rfl)) (q1 rfl (zae (mv rfl) (mv rfl)) (q1 rfl (z2f (mv rfl) (mv rfl)) (q1 rfl (z1 (mv rfl)) (rn (al [2, 8, 9, 10, 14, 15, 16, 17, 18] [] rfl rfl rfl ?_)))))))))))
     refine sq (cs ?_)
     refine z2.join (fun z : Int => (z7r φ v1 v2 v3 y8 v12) z) r (fun z => ⟨zd.of [(2, (iv .u64 (U (v3 * 2 ^ (min ((U (y8)) : Int).toNat (IntKind.bits .u64)))))), (8, (iv .u64 (U (y8)))), (14, (iv .u64 (U ((BitVec.ofInt (IntKind.bits .u64) (U (v2 * 2 ^ (min ((U (y8)) : Int).toNat (IntKind.bits .u64)))) &&& BitVec.ofInt (IntKind.bits .u64) 4294967295).toNat)))), (15, (iv .u64 v12)), (17, (iv .u64 (U ((U ((U ((U ((BitVec.ofInt (IntKind.bits .u64) (U (v1 * 2 ^ (min ((U (y8)) : Int).toNat (IntKind.bits .u64)))) ||| BitVec.ofInt (IntKind.bits .u64) (v2.fdiv (2 ^ (min ((U (64 - (U (y8)))) : Int).toNat (IntKind.bits .u64))))).toNat)) * 4294967296)) + ((U (v2 * 2 ^ (min ((U (y8)) : Int).toNat (IntKind.bits .u64)))).fdiv 4294967296))) - (U (v12 * (U (v3 * 2 ^ (min ((U (y8)) : Int).toNat (IntKind.bits .u64)))))))))), (18, (iv .u64 z))], []⟩) (fun v15 h => ?_) (fun hJ16 => ?_)
     ·
      replace h : (z7r φ v1 v2 v3 y8 v12) v15 = some r := h
      unfold z7r at h
      refine al [2, 8, 14, 15, 17, 18] [] rfl rfl rfl (sq (cs (cr [0, 1, 2, 3, 4, 5, 6, 7, 8, 9, 10, 11, 12, 13, 14, 15] rfl (q1 rfl (z0 (mv rfl)) (q1 rfl (zae (mv rfl) ct) (q1 rfl (z0 (mv rfl)) (q1 rfl (z0g (mv rfl) (mv rfl)) (q1 rfl (z0 (mv rfl)) (q1 rfl (zae (mv rfl) ct) (q1 rfl (z0 (mv rfl)) (q1 rfl (z0g (mv rfl) (mv rfl)) ?_)))))))))))
      refine q1 rfl (z0 (mv rfl)) (q1 rfl (z0 (mv rfl)) (q1 rfl (zae (mv rfl) (mv rfl)) (q1 rfl (z2f (mv rfl) (mv rfl)) (q1 rfl (z0 (mv rfl)) (ckE h fun h17 h => q1 rfl (zrg (mv rfl) (mv rfl) h17) (q1 rfl (z1 (mv rfl)) (q1 rfl (z1 (mv rfl)) (rn (al [6, 7] [] rfl rfl rfl (sq ?_))))))))))
      refine z2.ret (AtX.ret' (tupv [(iv .u64 (U ((U (v12 * 4294967296)) + v15))), (iv .u64 ((U ((U ((U ((U ((U ((U ((U ((BitVec.ofInt (IntKind.bits .u64) (U (v1 * 2 ^ (min ((U (y8)) : Int).toNat (IntKind.bits .u64)))) ||| BitVec.ofInt (IntKind.bits .u64) (v2.fdiv (2 ^ (min ((U (64 - (U (y8)))) : Int).toNat (IntKind.bits .u64))))).toNat)) * 4294967296)) + ((U (v2 * 2 ^ (min ((U (y8)) : Int).toNat (IntKind.bits .u64)))).fdiv 4294967296))) - (U (v12 * (U (v3 * 2 ^ (min ((U (y8)) : Int).toNat (IntKind.bits .u64)))))))) * 4294967296)) + (U ((BitVec.ofInt (IntKind.bits .u64) (U (v2 * 2 ^ (min ((U (y8)) : Int).toNat (IntKind.bits .u64)))) &&& BitVec.ofInt (IntKind.bits .u64) 4294967295).toNat)))) - (U (v15 * (U (v3 * 2 ^ (min ((U (y8)) : Int).toNat (IntKind.bits .u64)))))))).fdiv (2 ^ (min ((U (y8)) : Int).toNat (IntKind.bits .u64)))))]) (zq.two Try.results102 rfl rfl) [] [] trivial rfl ?_)
      obtain rfl := Option.some.inj h
      exact ⟨rfl, rfl⟩
     ·
      refine z2.block ?_
      refine z2.to (z2.loop (fun n (z : Int × Int) => z63 φ v2 v3 y8 (z7r φ v1 v2 v3 y8 v12) n z.1 z.2) r (fun z => ⟨zd.of [(2, (iv .u64 (U (v3 * 2 ^ (min ((U (y8)) : Int).toNat (IntKind.bits .u64)))))), (8, (iv .u64 (U (y8)))), (9, (iv .u64 ((U (v3 * 2 ^ (min ((U (y8)) : Int).toNat (IntKind.bits .u64)))).fdiv 4294967296))), (10, (iv .u64 (U ((BitVec.ofInt (IntKind.bits .u64) (U (v3 * 2 ^ (min ((U (y8)) : Int).toNat (IntKind.bits .u64)))) &&& BitVec.ofInt (IntKind.bits .u64) 4294967295).toNat)))), (14, (iv .u64 (U ((BitVec.ofInt (IntKind.bits .u64) (U (v2 * 2 ^ (min ((U (y8)) : Int).toNat (IntKind.bits .u64)))) &&& BitVec.ofInt (IntKind.bits .u64) 4294967295).toNat)))), (15, (iv .u64 v12)), (16, (iv .u64 z.1)), (17, (iv .u64 (U ((U ((U ((U ((BitVec.ofInt (IntKind.bits .u64) (U (v1 * 2 ^ (min ((U (y8)) : Int).toNat (IntKind.bits .u64)))) ||| BitVec.ofInt (IntKind.bits .u64) (v2.fdiv (2 ^ (min ((U (64 - (U (y8)))) : Int).toNat (IntKind.bits .u64))))).toNat)) * 4294967296)) + ((U (v2 * 2 ^ (min ((U (y8)) : Int).toNat (IntKind.bits .u64)))).fdiv 4294967296))) - (U (v12 * (U (v3 * 2 ^ (min ((U (y8)) : Int).toNat (IntKind.bits .u64)))))))))), (18, (iv .u64 z.2))], []⟩) (fun z => rfl) (fun n20 z ih20 h => ?_) φ ((U ((U ((U ((U ((U ((BitVec.ofInt (IntKind.bits .u64) (U (v1 * 2 ^ (min ((U (y8)) : Int).toNat (IntKind.bits .u64)))) ||| BitVec.ofInt (IntKind.bits .u64) (v2.fdiv (2 ^ (min ((U (64 - (U (y8)))) : Int).toNat (IntKind.bits .u64))))).toNat)) * 4294967296)) + ((U (v2 * 2 ^ (min ((U (y8)) : Int).toNat (IntKind.bits .u64)))).fdiv 4294967296))) - (U (v12 * (U (v3 * 2 ^ (min ((U (y8)) : Int).toNat (IntKind.bits .u64)))))))) - (U ((U ((U ((U ((U ((U ((BitVec.ofInt (IntKind.bits .u64) (U (v1 * 2 ^ (min ((U (y8)) : Int).toNat (IntKind.bits .u64)))) ||| BitVec.ofInt (IntKind.bits .u64) (v2.fdiv (2 ^ (min ((U (64 - (U (y8)))) : Int).toNat (IntKind.bits .u64))))).toNat)) * 4294967296)) + ((U (v2 * 2 ^ (min ((U (y8)) : Int).toNat (IntKind.bits .u64)))).fdiv 4294967296))) - (U (v12 * (U (v3 * 2 ^ (min ((U (y8)) : Int).toNat (IntKind.bits .u64)))))))).tdiv ((U (v3 * 2 ^ (min ((U (y8)) : Int).toNat (IntKind.bits .u64)))).fdiv 4294967296))) * ((U (v3 * 2 ^ (min ((U (y8)) : Int).toNat (IntKind.bits .u64)))).fdiv 4294967296))))), (U ((U ((U ((U ((U ((BitVec.ofInt (IntKind.bits .u64) (U (v1 * 2 ^ (min ((U (y8)) : Int).toNat (IntKind.bits .u64)))) ||| BitVec.ofInt (IntKind.bits .u64) (v2.fdiv (2 ^ (min ((U (64 - (U (y8)))) : Int).toNat (IntKind.bits .u64))))).toNat)) * 4294967296)) + ((U (v2 * 2 ^ (min ((U (y8)) : Int).toNat (IntKind.bits .u64)))).fdiv 4294967296))) - (U (v12 * (U (v3 * 2 ^ (min ((U (y8)) : Int).toNat (IntKind.bits .u64)))))))).tdiv ((U (v3 * 2 ^ (min ((U (y8)) : Int).toNat (IntKind.bits .u64)))).fdiv 4294967296)))) h) [] (sl rfl) trivial rfl
      obtain ⟨v18, v19⟩ := z
      replace h : z63 φ v2 v3 y8 (z7r φ v1 v2 v3 y8 v12) (n20 + 1) v18 v19 = some r := h
      rw [z63] at h
      refine cs (cs (cr [0, 1, 2, 3, 4, 5, 6, 7, 8, 9, 10, 11] rfl (q1 rfl (z0 (mv rfl)) (q1 rfl (z9l (mv rfl) ct) (q1 rfl (z0 (mv rfl)) (g1 rfl rfl (fun g21 => z0 (mv rfl)) (g1 rfl rfl (fun g22 => z0 (mv rfl)) (g1 rfl rfl (fun g23 => zae (mc rfl g23) (mc rfl g23)) (g1 rfl rfl (fun g24 => z0 (mv rfl)) (g1 rfl rfl (fun g25 => zae ct (mc rfl g25)) (g1 rfl rfl (fun g26 => z0 (mv rfl)) ?_)))))))))))
      refine g1 rfl rfl (fun g27 => z0g (mc rfl g27) (mc rfl g27)) (g1 rfl rfl (fun g28 => z49 (mc rfl g28) (mc rfl g28)) (q1 rfl (opOr (mv rfl) ct (fun g29 => (mc rfl g29))) (rn (al [2, 8, 9, 10, 14, 15, 16, 17, 18, 113] [] rfl rfl rfl (sq ?_)))))
      refine cI h rfl (fun c30 h => ?_) (fun c30 h => ?_)
      ·
       refine z2.skip (al [2, 8, 9, 10, 14, 15, 16, 17, 18] [] rfl rfl rfl (sq (z2.block (cs (cr [0, 1, 2] rfl (q1 rfl (z0 (mv rfl)) (q1 rfl (z2f (mv rfl) ct) (q1 rfl (z1 (mv rfl)) (rn (al [2, 8, 9, 10, 14, 15, 16, 17, 18] [] rfl rfl rfl (sq ?_)))))))))))
       refine cs (cr [0, 1, 2, 3] rfl (q1 rfl (z0 (mv rfl)) (q1 rfl (z0 (mv rfl)) (q1 rfl (z0g (mv rfl) (mv rfl)) (q1 rfl (z1 (mv rfl)) (rn (al [2, 8, 9, 10, 14, 15, 16, 17, 18] [] rfl rfl rfl (sq (cs (cr [0, 1] rfl (q1 rfl (z0 (mv rfl)) ?_)))))))))))
       refine q1 rfl (z9l (mv rfl) ct) (rn (al [2, 8, 9, 10, 14, 15, 16, 17, 18, 120] [] rfl rfl rfl (sq ?_)))
       refine cI h rfl (fun c31 h => ?_) (fun c31 h => ?_)
       ·
        refine z2.exit (AtX.in_miss (by decide) (AtX.then_exit (AtX.in_hit ?_)))
        exact AtX.to (hJ16 (U (v19 - 1)) h) [] (sl rfl) trivial rfl
       ·
        refine z2.skip (AtX.in_normal ?_)
        exact AtX.to (ih20 ((U (v18 + ((U (v3 * 2 ^ (min ((U (y8)) : Int).toNat (IntKind.bits .u64)))).fdiv 4294967296))), (U (v19 - 1))) h) [] (sl rfl) trivial rfl
      ·
       refine z2.exit (AtX.then_exit (AtX.then_exit (AtX.in_hit ?_)))
       exact AtX.to (hJ16 v19 h) [] (sl rfl) trivial rfl
    ·
     refine z2.block ?_
     refine z2.to (z2.loop (fun n (z : Int × Int) => z5y φ v2 v3 y8 (z7t φ v1 v2 v3 y8) n z.1 z.2) r (fun z => ⟨zd.of [(2, (iv .u64 (U (v3 * 2 ^ (min ((U (y8)) : Int).toNat (IntKind.bits .u64)))))), (8, (iv .u64 (U (y8)))), (9, (iv .u64 ((U (v3 * 2 ^ (min ((U (y8)) : Int).toNat (IntKind.bits .u64)))).fdiv 4294967296))), (10, (iv .u64 (U ((BitVec.ofInt (IntKind.bits .u64) (U (v3 * 2 ^ (min ((U (y8)) : Int).toNat (IntKind.bits .u64)))) &&& BitVec.ofInt (IntKind.bits .u64) 4294967295).toNat)))), (11, (iv .u64 (U ((BitVec.ofInt (IntKind.bits .u64) (U (v1 * 2 ^ (min ((U (y8)) : Int).toNat (IntKind.bits .u64)))) ||| BitVec.ofInt (IntKind.bits .u64) (v2.fdiv (2 ^ (min ((U (64 - (U (y8)))) : Int).toNat (IntKind.bits .u64))))).toNat)))), (13, (iv .u64 ((U (v2 * 2 ^ (min ((U (y8)) : Int).toNat (IntKind.bits .u64)))).fdiv 4294967296))), (14, (iv .u64 (U ((BitVec.ofInt (IntKind.bits .u64) (U (v2 * 2 ^ (min ((U (y8)) : Int).toNat (IntKind.bits .u64)))) &&& BitVec.ofInt (IntKind.bits .u64) 4294967295).toNat)))), (15, (iv .u64 z.1)), (16, (iv .u64 z.2))], []⟩) (fun z => rfl) (fun n34 z ih34 h => ?_) φ ((U ((U ((BitVec.ofInt (IntKind.bits .u64) (U (v1 * 2 ^ (min ((U (y8)) : Int).toNat (IntKind.bits .u64)))) ||| BitVec.ofInt (IntKind.bits .u64) (v2.fdiv (2 ^ (min ((U (64 - (U (y8)))) : Int).toNat (IntKind.bits .u64))))).toNat)).tdiv ((U (v3 * 2 ^ (min ((U (y8)) : Int).toNat (IntKind.bits .u64)))).fdiv 4294967296))), (U ((U ((BitVec.ofInt (IntKind.bits .u64) (U (v1 * 2 ^ (min ((U (y8)) : Int).toNat (IntKind.bits .u64)))) ||| BitVec.ofInt (IntKind.bits .u64) (v2.fdiv (2 ^ (min ((U (64 - (U (y8)))) : Int).toNat (IntKind.bits .u64))))).toNat)) - (U ((U ((U ((BitVec.ofInt (IntKind.bits .u64) (U (v1 * 2 ^ (min ((U (y8)) : Int).toNat (IntKind.bits .u64)))) ||| BitVec.ofInt (IntKind.bits .u64) (v2.fdiv (2 ^ (min ((U (64 - (U (y8)))) : Int).toNat (IntKind.bits .u64))))).toNat)).tdiv ((U (v3 * 2 ^ (min ((U (y8)) : Int).toNat (IntKind.bits .u64)))).fdiv 4294967296))) * ((U (v3 * 2 ^ (min ((U (y8)) : Int).toNat (IntKind.bits .u64)))).fdiv 4294967296)))))) h) [] (sl rfl) trivial rfl
     obtain ⟨v32, v33⟩ := z
     replace h : z5y φ v2 v3 y8 (z7t φ v1 v2 v3 y8) (n34 + 1) v32 v33 = some r := h
     rw [z5y] at h
     refine cs (cs (cr [0, 1, 2, 3, 4, 5, 6, 7, 8, 9, 10, 11] rfl (q1 rfl (z0 (mv rfl)) (q1 rfl (z9l (mv rfl) ct) (q1 rfl (z0 (mv rfl)) (g1 rfl rfl (fun g35 => z0 (mv rfl)) (g1 rfl rfl (fun g36 => z0 (mv rfl)) (g1 rfl rfl (fun g37 => zae (mc rfl g37) (mc rfl g37)) (g1 rfl rfl (fun g38 => z0 (mv rfl)) (g1 rfl rfl (fun g39 => zae ct (mc rfl g39)) (g1 rfl rfl (fun g40 => z0 (mv rfl)) ?_)))))))))))
     refine g1 rfl rfl (fun g41 => z0g (mc rfl g41) (mc rfl g41)) (g1 rfl rfl (fun g42 => z49 (mc rfl g42) (mc rfl g42)) (q1 rfl (opOr (mv rfl) ct (fun g43 => (mc rfl g43))) (rn (al [2, 8, 9, 10, 11, 13, 14, 15, 16, 78] [] rfl rfl rfl (sq ?_)))))
     refine cI h rfl (fun c44 h => ?_) (fun c44 h => ?_)
     ·
      refine z2.skip (al [2, 8, 9, 10, 11, 13, 14, 15, 16] [] rfl rfl rfl (sq (z2.block (cs (cr [0, 1, 2] rfl (q1 rfl (z0 (mv rfl)) (q1 rfl (z2f (mv rfl) ct) (q1 rfl (z1 (mv rfl)) (rn (al [2, 8, 9, 10, 11, 13, 14, 15, 16] [] rfl rfl rfl (sq ?_)))))))))))
      refine cs (cr [0, 1, 2, 3] rfl (q1 rfl (z0 (mv rfl)) (q1 rfl (z0 (mv rfl)) (q1 rfl (z0g (mv rfl) (mv rfl)) (q1 rfl (z1 (mv rfl)) (rn (al [2, 8, 9, 10, 11, 13, 14, 15, 16] [] rfl rfl rfl (sq (cs (cr [0, 1] rfl (q1 rfl (z0 (mv rfl)) ?_)))))))))))
      refine q1 rfl (z9l (mv rfl) ct) (rn (al [2, 8, 9, 10, 11, 13, 14, 15, 16, 85] [] rfl rfl rfl (sq ?_)))
      refine cI h rfl (fun c45 h => ?_) (fun c45 h => ?_)
      ·
       refine z2.exit (AtX.in_miss (by decide) (AtX.then_exit (AtX.in_hit ?_)))
       exact AtX.to (hJ13 (U (v32 - 1)) h) [] (sl rfl) trivial rfl
      ·
       refine z2.skip (AtX.in_normal ?_)
       exact AtX.to (ih34 ((U (v32 - 1)), (U (v33 + ((U (v3 * 2 ^ (min ((U (y8)) : Int).toNat (IntKind.bits .u64)))).fdiv 4294967296)))) h) [] (sl rfl) trivial rfl
     ·
      refine z2.exit (AtX.then_exit (AtX.then_exit (AtX.in_hit ?_)))
      exact AtX.to (hJ13 v32 h) [] (sl rfl) trivial rfl
theorem zma {P : Program} (H : P = Try.prog) (φ : Nat) (v1 : Int) (v2 : Int) (r : (Int)) (h : zf0 φ v1 v2 = some r) : z0z P 79 [(iv .u64 v1), (iv .u64 v2)] (fun x news => x = (iv .u64 r) ∧ news = []) := by
 unfold zf0 at h
 refine z0z.of_code' 33 (fn79 H) rfl rfl (Nat.le_of_ble_eq_true rfl) fun w0 base r0 wI => ?_
 refine cl [0, 1] [] rfl rfl rfl (cs (cr [0] rfl (q1 rfl (z1 ct) (rn (al [0, 1] [] rfl rfl rfl (sq (cs (cr [0, 1] rfl (n1 rfl (z8k (zvh H) (Ev.func _) (args := [(iv .u64 2305843009213690799)]) ⟨ct, trivial⟩ (zau.of_code' 4 (fn95 H) rfl rfl (Nat.le_of_ble_eq_true rfl) fun r02 wI2 => cl [0] [] rfl rfl rfl (cs ?_))))))))))))
 refine cr [0, 1] rfl (n1 rfl (z7i (Ce.one (mv rfl) (One.eqv rfl)) fun b3 => q1 rfl (z1 ct) (rn (al [1] [0] rfl rfl rfl (sq (cs (cr [0, 1] rfl (q1 rfl (zfv (vs := #[(.pointer (some ⟨b3, 0, none⟩))]) (fun a r w hs => capN ⟨Ev.val (mv rfl) a r w hs, trivial⟩)) (q1 rfl (z1 (mv rfl)) (rn (al [2] [0] rfl rfl rfl ?_)))))))))))
 refine sq (z2.ret (AtX.ret' (eqv (.func (.func 100) #[] #[(.pointer (some ⟨b3, 0, none⟩))])) (zq.one Try.results95 rfl) [0] [(box b3 41 [(iv .u64 2305843009213690799)])] (ol rfl) rfl (q1 rfl (z1 (mv rfl)) (rn (al [0, 1, 5] [0] rfl rfl rfl (sq (cs (cr [0] rfl (q1 rfl (z1 ct) (rn (al [0, 1, 5, 6] [0] rfl rfl rfl ?_)))))))))))
 refine sq (cs (cs (cr [0, 1, 2] rfl (q1 rfl (z0 (mv rfl)) (zp h fun y4 ey4 h => q1 rfl (oQ (zpw H) (zcq H φ v2 _ ey4) z5 ⟨ef (mv rfl), trivial⟩) (q1 rfl (z0 ct) (rn (al [0, 1, 5, 6, 10, 11] [0] rfl rfl rfl (sq ?_)))))))))
 refine z2.join (fun z : Int => (z74 φ) z) r (fun z => ⟨zd.of [(6, (iv .u64 z))], []⟩) (fun v5 h => ?_) (fun hJ6 => ?_)
 ·
  replace h : (z74 φ) v5 = some r := h
  unfold z74 at h
  refine al [6] [] rfl rfl rfl (sq (cs (cr [0, 1] rfl (q1 rfl (z0 (mv rfl)) (q1 rfl (z1 (mv rfl)) (rn (al [4] [] rfl rfl rfl (sq (z2.ret (AtX.ret' (iv .u64 v5) (zq.one Try.results79 rfl) [] [] trivial rfl ?_))))))))))
  obtain rfl := Option.some.inj h
  exact ⟨rfl, rfl⟩
 ·
  refine z2.block ?_
  refine z2.to (z2.loop (fun n (z : Int × Int) => z6k φ v1 v2 y4 (z74 φ) n z.1 z.2) r (fun z => ⟨zd.of [(0, (iv .u64 v1)), (1, (iv .u64 v2)), (5, (eqv (.func (.func 100) #[] #[(.pointer (some ⟨b3, 0, none⟩))]))), (6, (iv .u64 z.1)), (10, (iv .i64 y4)), (11, (iv .i64 z.2))], [(box b3 41 [(iv .u64 2305843009213690799)])]⟩) (fun z => rfl) (fun n9 z ih9 h => ?_) φ (1, 0) h) [0] (sl rfl) (ol rfl) rfl
  obtain ⟨v7, v8⟩ := z
  replace h : z6k φ v1 v2 y4 (z74 φ) (n9 + 1) v7 v8 = some r := h
  rw [z6k] at h
  refine cs (cr [0] rfl (q1 rfl (z10 (mv rfl) (mv rfl)) (rn (al [0, 1, 5, 6, 10, 11, 12] [0] rfl rfl rfl (sq (cs ?_))))))
  refine cI h rfl (fun c10 h => ?_) (fun c10 h => ?_)
  ·
   refine z2.skip (al [0, 1, 5, 6, 10, 11] [0] rfl rfl rfl (sq (cs (z2.block (cs (cr [0, 1] rfl (q1 rfl (z0 (mv rfl)) (q1 rfl (z1 (mv rfl)) (rn (al [0, 1, 5, 6, 7, 10, 11] [0] rfl rfl rfl (sq ?_)))))))))))
   refine cs (cr [0, 1, 2, 3, 4] rfl (q1 rfl (z0 (mv rfl)) (q1 rfl (z0 (mv rfl)) (q1 rfl (z0 (mv rfl)) (n1 rfl (z8k (zop H) (mv rfl) (args := [(iv .u64 v7), (iv .u64 v7)]) ⟨(mv rfl), (mv rfl), trivial⟩ (zau.of_code' 28 (zvw H) rfl rfl (Nat.le_of_ble_eq_true rfl) fun r010 wI10 => cl [0, 1, 2] [0] rfl rfl rfl (cs (cr [0] rfl (q1 rfl (z1 ct) (rn (al [0, 1, 2] [0] rfl rfl rfl ?_))))))))))))
   refine sq (cs (zp h fun y11 ey11 h => z2.draw (QR := [(0, _), (1, _), (2, _), (3, _), (4, _), (5, _), (6, _), (7, _), (8, _), (9, _), (10, _), (11, _)]) (tab := [(some 11, []), (some 12, []), (some 13, [0, 1]), (some 14, []), (some 15, []), (some 16, [3, 4]), (some 17, [2, 5]), (some 10, [6]), (some 18, [7]), (some 19, [7]), (some 6, [8, 6, 0, 1, 2, 3, 4, 5, 6, 7, 8]), (some 7, [9, 10, 0, 1, 2, 3, 4, 5, 6, 7, 8, 9, 10])]) (z5h H) (Reg.intro [] [] (by kernel_rfl) rfl (an rfl) ⟨(qr rfl (z0 (mv rfl))), (qr rfl (lb (tl41 H) 0 (mv rfl) rfl rfl)), (qr rfl (ziz (mv rfl) (mv rfl) (by decide))), (qr rfl (z0 (mv rfl))), (qr rfl (lb (tl41 H) 0 (mv rfl) rfl rfl)), (qr rfl (ziz (mv rfl) (mv rfl) (by decide))), (qr rfl (oQ (zp9 H) (zes H φ (v7.tmod 2305843009213690799) (v7.tmod 2305843009213690799) _ ey11) (zaw ⟨z5, z5, trivial⟩) ⟨ef (mv rfl), ef (mv rfl), trivial⟩)), (qr rfl (z0 (mv rfl))), (qr rfl (z6m (mv rfl) rfl)), (qr rfl (z6m (mv rfl) rfl)), (qr rfl (z1 (mv rfl))), (qr rfl (z1 (mv rfl))), trivial⟩ trivial (fun _ => al [2, 6, 7] [0] rfl rfl rfl (sq (cs (cr [0, 1, 2, 3, 4, 5, 6, 7, 8] rfl (q1 rfl (z0 (mv rfl)) (q1 rfl (z0 (mv rfl)) (q1 rfl (lb (tl41 H) 0 (mv rfl) rfl rfl) (zp h fun y12 ey12 h => ?_)))))))))))
   refine q1 rfl (oQ (zpb H) (zet H φ y11.1 y11.2 2305843009213690799 _ ey12) (zaw ⟨z5, z5, trivial⟩) ⟨ef (mv rfl), ef (mv rfl), ef (mv rfl), trivial⟩) (q1 rfl (z0 (mv rfl)) (q1 rfl (z6m (mv rfl) rfl) (q1 rfl (z6m (mv rfl) rfl) (q1 rfl (z1 (mv rfl)) (q1 rfl (z1 (mv rfl)) (rn (al [9] [0] rfl rfl rfl (sq (cs (cr [0, 1] rfl (q1 rfl (z0 (mv rfl)) ?_)))))))))))
   refine q1 rfl (z1 (mv rfl)) (rn (al [5] [0] rfl rfl rfl (sq (z2.ret (AtX.ret' (iv .u64 y12.2) (zq.one Try.results100 rfl) [0] [(box b3 41 [(iv .u64 2305843009213690799)])] (ol rfl) rfl (q1 rfl (z1 (mv rfl)) (rn (al [0, 1, 5, 6, 7, 10, 11] [0] rfl rfl rfl (sq (cs (cr [0, 1, 2, 3, 4, 5, 6, 7, 8] rfl ?_)))))))))))
   refine q1 rfl (z0 (mv rfl)) (q1 rfl (z0 (mv rfl)) (zp h fun y13 ey13 h => q1 rfl (oQ (zpw H) (zcq H φ v2 _ ey13) z5 ⟨ef (mv rfl), trivial⟩) (q1 rfl (z2f (mv rfl) ct) (q1 rfl (z0 (mv rfl)) (q1 rfl (z2f (mv rfl) (mv rfl)) (ckE h fun h14 h => q1 rfl (zrg (mv rfl) (mv rfl) h14) (q1 rfl (zjv (mv rfl) ct) (q1 rfl (z61 (mv rfl) ct) (rn ?_)))))))))
   refine al [0, 1, 5, 6, 10, 11, 26] [0] rfl rfl rfl (sq ?_)
   refine z2.join (fun z : Int => (z8v φ v8 (z6k φ v1 v2 y4 (z74 φ) n9)) z) r (fun z => ⟨zd.of [(0, (iv .u64 v1)), (1, (iv .u64 v2)), (5, (eqv (.func (.func 100) #[] #[(.pointer (some ⟨b3, 0, none⟩))]))), (6, (iv .u64 z)), (10, (iv .i64 y4)), (11, (iv .i64 v8))], [(box b3 41 [(iv .u64 2305843009213690799)])]⟩) (fun v15 h => ?_) (fun hJ16 => ?_)
   ·
    replace h : (z8v φ v8 (z6k φ v1 v2 y4 (z74 φ) n9)) v15 = some r := h
    unfold z8v at h
    refine AtX.in_normal (al [0, 1, 5, 6, 10, 11] [0] rfl rfl rfl (sq (cr [0, 1] rfl (q1 rfl (z0g (mv rfl) ct) (q1 rfl (z0 (mv rfl)) (rn ?_))))))
    exact AtX.to (ih9 (v15, (W (v8 + 1))) h) [0] (sl rfl) (ol rfl) rfl
   ·
    refine cI h rfl (fun c17 h => ?_) (fun c17 h => ?_)
    ·
     refine cr [0, 1, 2, 3, 4] rfl (q1 rfl (z0 (mv rfl)) (q1 rfl (z0 (mv rfl)) (q1 rfl (z0 (mv rfl)) (n1 rfl (z8k (zop H) (mv rfl) (args := [(iv .u64 y12.2), (iv .u64 v1)]) ⟨(mv rfl), (mv rfl), trivial⟩ (zau.of_code' 28 (zvw H) rfl rfl (Nat.le_of_ble_eq_true rfl) fun r017 wI17 => cl [0, 1, 2] [0] rfl rfl rfl (cs (cr [0] rfl (q1 rfl (z1 ct) (rn (al [0, 1, 2] [0] rfl rfl rfl (sq ?_))))))))))))
     refine cs (zp h fun y18 ey18 h => z2.draw (QR := [(0, _), (1, _), (2, _), (3, _), (4, _), (5, _), (6, _), (7, _), (8, _), (9, _), (10, _), (11, _)]) (tab := [(some 11, []), (some 12, []), (some 13, [0, 1]), (some 14, []), (some 15, []), (some 16, [3, 4]), (some 17, [2, 5]), (some 10, [6]), (some 18, [7]), (some 19, [7]), (some 6, [8, 6, 0, 1, 2, 3, 4, 5, 6, 7, 8]), (some 7, [9, 10, 0, 1, 2, 3, 4, 5, 6, 7, 8, 9, 10])]) (z5h H) (Reg.intro [] [] (by kernel_rfl) rfl (an rfl) ⟨(qr rfl (z0 (mv rfl))), (qr rfl (lb (tl41 H) 0 (mv rfl) rfl rfl)), (qr rfl (ziz (mv rfl) (mv rfl) (by decide))), (qr rfl (z0 (mv rfl))), (qr rfl (lb (tl41 H) 0 (mv rfl) rfl rfl)), (qr rfl (ziz (mv rfl) (mv rfl) (by decide))), (qr rfl (oQ (zp9 H) (zes H φ (y12.2.tmod 2305843009213690799) (v1.tmod 2305843009213690799) _ ey18) (zaw ⟨z5, z5, trivial⟩) ⟨ef (mv rfl), ef (mv rfl), trivial⟩)), (qr rfl (z0 (mv rfl))), (qr rfl (z6m (mv rfl) rfl)), (qr rfl (z6m (mv rfl) rfl)), (qr rfl (z1 (mv rfl))), (qr rfl (z1 (mv rfl))), trivial⟩ trivial (fun _ => al [2, 6, 7] [0] rfl rfl rfl (sq (cs (cr [0, 1, 2, 3, 4, 5, 6, 7, 8] rfl (q1 rfl (z0 (mv rfl)) (q1 rfl (z0 (mv rfl)) (q1 rfl (lb (tl41 H) 0 (mv rfl) rfl rfl) (zp h fun y19 ey19 h => q1 rfl (oQ (zpb H) (zet H φ y18.1 y18.2 2305843009213690799 _ ey19) (zaw ⟨z5, z5, trivial⟩) ⟨ef (mv rfl), ef (mv rfl), ef (mv rfl), trivial⟩) ?_))))))))))
     refine q1 rfl (z0 (mv rfl)) (q1 rfl (z6m (mv rfl) rfl) (q1 rfl (z6m (mv rfl) rfl) (q1 rfl (z1 (mv rfl)) (q1 rfl (z1 (mv rfl)) (rn (al [9] [0] rfl rfl rfl (sq (cs (cr [0, 1] rfl (q1 rfl (z0 (mv rfl)) (q1 rfl (z1 (mv rfl)) ?_)))))))))))
     refine rn (al [5] [0] rfl rfl rfl (sq (z2.ret (AtX.ret' (iv .u64 y19.2) (zq.one Try.results100 rfl) [0] [(box b3 41 [(iv .u64 2305843009213690799)])] (ol rfl) rfl (q1 rfl (z1 (mv rfl)) (rn ?_))))))
     exact AtX.to (hJ16 y19.2 h) [0] (sl rfl) (ol rfl) rfl
    ·
     refine z2.skip ?_
     exact AtX.to (hJ16 y12.2 h) [0] (sl rfl) (ol rfl) rfl
  ·
   refine z2.exit (AtX.then_exit (AtX.then_exit (AtX.in_hit ?_)))
   exact AtX.to (hJ6 v7 h) [] (sl rfl) trivial rfl
theorem zkh {P : Program} (H : P = Try.prog) (φ : Nat) (v1 : Int) (r : (Bool)) (h : zci φ v1 = some r) : z0z P 61 [(iv .u64 v1)] (fun x news => x = (bv r) ∧ news = []) := by
 unfold zci at h
 refine z0z.of_code' 14 (fn61 H) rfl rfl (Nat.le_of_ble_eq_true rfl) fun w0 base r0 wI => ?_
 refine cl [0] [] rfl rfl rfl (cs (cr [0] rfl (q1 rfl (z1 ct) (rn (al [0] [] rfl rfl rfl (sq (cs (cr [0, 1, 2, 3, 4, 5, 6, 7, 8, 9, 10, 11] rfl (q1 rfl (z0 (mv rfl)) (q1 rfl (z9l (mv rfl) ct) (q1 rfl (z0 (mv rfl)) ?_)))))))))))
 refine g1 rfl rfl (fun g2 => z0 (mv rfl)) (g1 rfl rfl (fun g3 => z10 (mc rfl g3) ct) (q1 rfl (z36 (mv rfl) (fun g4 => (mc rfl g4)) ct) (q1 rfl (z0 (mv rfl)) (g1 rfl rfl (fun g5 => z0 (mv rfl)) (zp h fun y7 ey7 h => g1 rfl rfl (fun g6 => oQ (zvt H) (zma H φ v1 1152921504606845399 _ (zy ey7 g6)) z5 ⟨ef (mc rfl g6), ef ct, trivial⟩) (g1 rfl rfl (fun g8 => z61 (mc rfl g8) ct) (q1 rfl (z36 (mv rfl) (fun g9 => (mc rfl g9)) ct) (q1 rfl (z1 (mv rfl)) (rn (al [2] [] rfl rfl rfl ?_))))))))))
 refine sq (z2.ret (AtX.ret' (bv ((decide (2 ≤ v1) && decide (v1 < 2305843009213690799)) && (y7 == 1))) (zq.one Try.results61 rfl) [] [] trivial rfl ?_))
 obtain rfl := Option.some.inj h
 exact ⟨rfl, rfl⟩
end Px
end
