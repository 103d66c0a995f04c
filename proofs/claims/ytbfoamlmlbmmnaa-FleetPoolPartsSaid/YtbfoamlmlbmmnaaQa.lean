/- Facts on the types and functions of the program. Conditions: none. -/
import Derived.Test.YtbfoamlmlbmmnaaQb
import Derived.Test.YtbfoamlmlbmmnaaProg
import Derived.KernelRfl
set_option linter.unusedVariables false
set_option linter.unusedSimpArgs false
set_option maxHeartbeats 4000000
set_option maxRecDepth 100000
namespace Px
open Go Go.RowKit Go.Proofs
theorem fn29 {P : Program} (H : P = Try.prog) : P.funcs[29]? = some Try.f29 := by subst H; exact Try.func29
theorem fn30 {P : Program} (H : P = Try.prog) : P.funcs[30]? = some Try.f30 := by subst H; exact Try.func30
theorem il41 {P : Program} (H : P = Try.prog) : isSl P 41 = true := by subst H; kernel_rfl
theorem ix41 {P : Program} (H : P = Try.prog) : tidx P 41 = some (false, 0, 1) := by subst H; kernel_rfl
theorem tl3 {P : Program} (H : P = Try.prog) : tload P 3 = some (false, 1) := by subst H; kernel_rfl
theorem fn47 {P : Program} (H : P = Try.prog) : P.funcs[47]? = some Try.f47 := by subst H; exact Try.func47
theorem us48 {P : Program} (H : P = Try.prog) : (P.underlying 48).isSome = true := by subst H; kernel_rfl
theorem un5 {P : Program} (H : P = Try.prog) : P.underlying 5 = some (.int .u8) := by subst H; kernel_rfl
theorem un9 {P : Program} (H : P = Try.prog) : P.underlying 9 = some .string := by subst H; kernel_rfl
theorem us5 {P : Program} (H : P = Try.prog) : (P.underlying 5).isSome = true := by subst H; kernel_rfl
theorem un3 {P : Program} (H : P = Try.prog) : P.underlying 3 = some (.int .i64) := by subst H; kernel_rfl
theorem fn56 {P : Program} (H : P = Try.prog) : P.funcs[56]? = some Try.f56 := by subst H; exact Try.func56
theorem fnok56 {P : Program} (H : P = Try.prog) : FnOK P 56 := by subst H; exact ⟨Try.f56, Try.func56, by kernel_rfl, by kernel_rfl⟩
theorem fn57 {P : Program} (H : P = Try.prog) : P.funcs[57]? = some Try.f57 := by subst H; exact Try.func57
theorem fn48 {P : Program} (H : P = Try.prog) : P.funcs[48]? = some Try.f48 := by subst H; exact Try.func48
theorem mixed {P : Program} (H : P = Try.prog) : P.follows .mixedOrders = true := by subst H; kernel_rfl
theorem fnok57 {P : Program} (H : P = Try.prog) : FnOK P 57 := by subst H; exact ⟨Try.f57, Try.func57, by kernel_rfl, by kernel_rfl⟩
theorem us3 {P : Program} (H : P = Try.prog) : (P.underlying 3).isSome = true := by subst H; kernel_rfl
theorem un111 {P : Program} (H : P = Try.prog) : P.underlying 111 = some (.int .u64) := by subst H; kernel_rfl
theorem fn49 {P : Program} (H : P = Try.prog) : P.funcs[49]? = some Try.f49 := by subst H; exact Try.func49
theorem fn58 {P : Program} (H : P = Try.prog) : P.funcs[58]? = some Try.f58 := by subst H; exact Try.func58
theorem fo77_0 {P : Program} (H : P = Try.prog) : foff P 77 0 = some 0 := by subst H; kernel_rfl
theorem fo77_1 {P : Program} (H : P = Try.prog) : foff P 77 1 = some 1 := by subst H; kernel_rfl
theorem fo77_2 {P : Program} (H : P = Try.prog) : foff P 77 2 = some 2 := by subst H; kernel_rfl
theorem fn45 {P : Program} (H : P = Try.prog) : P.funcs[45]? = some Try.f45 := by subst H; exact Try.func45
theorem fnok58 {P : Program} (H : P = Try.prog) : FnOK P 58 := by subst H; exact ⟨Try.f58, Try.func58, by kernel_rfl, by kernel_rfl⟩
theorem fn52 {P : Program} (H : P = Try.prog) : P.funcs[52]? = some Try.f52 := by subst H; exact Try.func52
theorem fo98_0 {P : Program} (H : P = Try.prog) : foff P 98 0 = some 0 := by subst H; kernel_rfl
theorem fo98_1 {P : Program} (H : P = Try.prog) : foff P 98 1 = some 1 := by subst H; kernel_rfl
theorem fo98_2 {P : Program} (H : P = Try.prog) : foff P 98 2 = some 2 := by subst H; kernel_rfl
theorem fo98_3 {P : Program} (H : P = Try.prog) : foff P 98 3 = some 3 := by subst H; kernel_rfl
theorem fo98_4 {P : Program} (H : P = Try.prog) : foff P 98 4 = some 4 := by subst H; kernel_rfl
theorem fn53 {P : Program} (H : P = Try.prog) : P.funcs[53]? = some Try.f53 := by subst H; exact Try.func53
theorem fn50 {P : Program} (H : P = Try.prog) : P.funcs[50]? = some Try.f50 := by subst H; exact Try.func50
theorem fn51 {P : Program} (H : P = Try.prog) : P.funcs[51]? = some Try.f51 := by subst H; exact Try.func51
theorem fo50_0 {P : Program} (H : P = Try.prog) : foff P 50 0 = some 0 := by subst H; kernel_rfl
theorem fnok30 {P : Program} (H : P = Try.prog) : FnOK P 30 := by subst H; exact ⟨Try.f30, Try.func30, by kernel_rfl, by kernel_rfl⟩
theorem fo50_1 {P : Program} (H : P = Try.prog) : foff P 50 1 = some 1 := by subst H; kernel_rfl
theorem fo50_2 {P : Program} (H : P = Try.prog) : foff P 50 2 = some 2 := by subst H; kernel_rfl
theorem fo50_4 {P : Program} (H : P = Try.prog) : foff P 50 4 = some 4 := by subst H; kernel_rfl
theorem fo50_3 {P : Program} (H : P = Try.prog) : foff P 50 3 = some 3 := by subst H; kernel_rfl
theorem fo50_6 {P : Program} (H : P = Try.prog) : foff P 50 6 = some 6 := by subst H; kernel_rfl
theorem fo50_7 {P : Program} (H : P = Try.prog) : foff P 50 7 = some 7 := by subst H; kernel_rfl
theorem fn37 {P : Program} (H : P = Try.prog) : P.funcs[37]? = some Try.f37 := by subst H; exact Try.func37
theorem fo47_0 {P : Program} (H : P = Try.prog) : foff P 47 0 = some 0 := by subst H; kernel_rfl
theorem fo47_1 {P : Program} (H : P = Try.prog) : foff P 47 1 = some 1 := by subst H; kernel_rfl
theorem fo47_2 {P : Program} (H : P = Try.prog) : foff P 47 2 = some 2 := by subst H; kernel_rfl
theorem fo47_3 {P : Program} (H : P = Try.prog) : foff P 47 3 = some 3 := by subst H; kernel_rfl
theorem fo47_4 {P : Program} (H : P = Try.prog) : foff P 47 4 = some 4 := by subst H; kernel_rfl
theorem fn38 {P : Program} (H : P = Try.prog) : P.funcs[38]? = some Try.f38 := by subst H; exact Try.func38
theorem fo56_0 {P : Program} (H : P = Try.prog) : foff P 56 0 = some 0 := by subst H; kernel_rfl
theorem tl53 {P : Program} (H : P = Try.prog) : tload P 53 = some (false, 1) := by subst H; kernel_rfl
theorem il53 {P : Program} (H : P = Try.prog) : isSl P 53 = true := by subst H; kernel_rfl
theorem fo56_1 {P : Program} (H : P = Try.prog) : foff P 56 1 = some 1 := by subst H; kernel_rfl
theorem tl54 {P : Program} (H : P = Try.prog) : tload P 54 = some (false, 1) := by subst H; kernel_rfl
theorem il54 {P : Program} (H : P = Try.prog) : isSl P 54 = true := by subst H; kernel_rfl
theorem ix53 {P : Program} (H : P = Try.prog) : tidx P 53 = some (false, 0, 3) := by subst H; kernel_rfl
theorem tl77 {P : Program} (H : P = Try.prog) : tload P 77 = some (true, 3) := by subst H; kernel_rfl
theorem ze77 {P : Program} (H : P = Try.prog) : tzero P 77 = some [.int .i64 0, .int .i64 0, .int .i64 0] := by subst H; kernel_rfl
theorem fnok45 {P : Program} (H : P = Try.prog) : FnOK P 45 := by subst H; exact ⟨Try.f45, Try.func45, by kernel_rfl, by kernel_rfl⟩
theorem ix54 {P : Program} (H : P = Try.prog) : tidx P 54 = some (false, 0, 5) := by subst H; kernel_rfl
theorem tl98 {P : Program} (H : P = Try.prog) : tload P 98 = some (true, 5) := by subst H; kernel_rfl
theorem ze98 {P : Program} (H : P = Try.prog) : tzero P 98 = some [.int .i64 0, .int .i64 0, .int .i64 0, .int .i64 0, .int .i64 0] := by subst H; kernel_rfl
theorem fn25 {P : Program} (H : P = Try.prog) : P.funcs[25]? = some Try.f25 := by subst H; exact Try.func25
theorem fnok52 {P : Program} (H : P = Try.prog) : FnOK P 52 := by subst H; exact ⟨Try.f52, Try.func52, by kernel_rfl, by kernel_rfl⟩
theorem fnok53 {P : Program} (H : P = Try.prog) : FnOK P 53 := by subst H; exact ⟨Try.f53, Try.func53, by kernel_rfl, by kernel_rfl⟩
theorem fn40 {P : Program} (H : P = Try.prog) : P.funcs[40]? = some Try.f40 := by subst H; exact Try.func40
theorem fo66_0 {P : Program} (H : P = Try.prog) : foff P 66 0 = some 0 := by subst H; kernel_rfl
theorem tl64 {P : Program} (H : P = Try.prog) : tload P 64 = some (true, 14) := by subst H; kernel_rfl
theorem ta64 {P : Program} (H : P = Try.prog) : tarr P 64 = some (7, 63) := by subst H; kernel_rfl
theorem tl63 {P : Program} (H : P = Try.prog) : tload P 63 = some (true, 2) := by subst H; kernel_rfl
theorem ze63 {P : Program} (H : P = Try.prog) : tzero P 63 = some [.int .i64 0, .int .i64 0] := by subst H; kernel_rfl
theorem fo63_0 {P : Program} (H : P = Try.prog) : foff P 63 0 = some 0 := by subst H; kernel_rfl
theorem fo63_1 {P : Program} (H : P = Try.prog) : foff P 63 1 = some 1 := by subst H; kernel_rfl
theorem fo66_1 {P : Program} (H : P = Try.prog) : foff P 66 1 = some 14 := by subst H; kernel_rfl
theorem tl41 {P : Program} (H : P = Try.prog) : tload P 41 = some (false, 1) := by subst H; kernel_rfl
theorem fn27 {P : Program} (H : P = Try.prog) : P.funcs[27]? = some Try.f27 := by subst H; exact Try.func27
theorem ix64 {P : Program} (H : P = Try.prog) : tidx P 64 = some (true, 7, 2) := by subst H; kernel_rfl
theorem fn43 {P : Program} (H : P = Try.prog) : P.funcs[43]? = some Try.f43 := by subst H; exact Try.func43
theorem fnok55 {P : Program} (H : P = Try.prog) : FnOK P 55 := by subst H; exact ⟨Try.f55, Try.func55, by kernel_rfl, by kernel_rfl⟩
theorem fn55 {P : Program} (H : P = Try.prog) : P.funcs[55]? = some Try.f55 := by subst H; exact Try.func55
theorem fnok60 {P : Program} (H : P = Try.prog) : FnOK P 60 := by subst H; exact ⟨Try.f60, Try.func60, by kernel_rfl, by kernel_rfl⟩
theorem fn60 {P : Program} (H : P = Try.prog) : P.funcs[60]? = some Try.f60 := by subst H; exact Try.func60
theorem tl48 {P : Program} (H : P = Try.prog) : tload P 48 = some (false, 1) := by subst H; kernel_rfl
theorem fnok48 {P : Program} (H : P = Try.prog) : FnOK P 48 := by subst H; exact ⟨Try.f48, Try.func48, by kernel_rfl, by kernel_rfl⟩
theorem fnok49 {P : Program} (H : P = Try.prog) : FnOK P 49 := by subst H; exact ⟨Try.f49, Try.func49, by kernel_rfl, by kernel_rfl⟩
theorem fn46 {P : Program} (H : P = Try.prog) : P.funcs[46]? = some Try.f46 := by subst H; exact Try.func46
theorem fnok46 {P : Program} (H : P = Try.prog) : FnOK P 46 := by subst H; exact ⟨Try.f46, Try.func46, by kernel_rfl, by kernel_rfl⟩
theorem fn26 {P : Program} (H : P = Try.prog) : P.funcs[26]? = some Try.f26 := by subst H; exact Try.func26
theorem fn59 {P : Program} (H : P = Try.prog) : P.funcs[59]? = some Try.f59 := by subst H; exact Try.func59
theorem fnok59 {P : Program} (H : P = Try.prog) : FnOK P 59 := by subst H; exact ⟨Try.f59, Try.func59, by kernel_rfl, by kernel_rfl⟩
theorem fn54 {P : Program} (H : P = Try.prog) : P.funcs[54]? = some Try.f54 := by subst H; exact Try.func54
theorem fnok54 {P : Program} (H : P = Try.prog) : FnOK P 54 := by subst H; exact ⟨Try.f54, Try.func54, by kernel_rfl, by kernel_rfl⟩
theorem fn44 {P : Program} (H : P = Try.prog) : P.funcs[44]? = some Try.f44 := by subst H; exact Try.func44
theorem sl41 {P : Program} (H : P = Try.prog) : tsl P 41 = some (3, 1, 8) := by subst H; kernel_rfl
theorem fnok47 {P : Program} (H : P = Try.prog) : FnOK P 47 := by subst H; exact ⟨Try.f47, Try.func47, by kernel_rfl, by kernel_rfl⟩
theorem un48 {P : Program} (H : P = Try.prog) : P.underlying 48 = some (.int .u64) := by subst H; kernel_rfl
theorem fn34 {P : Program} (H : P = Try.prog) : P.funcs[34]? = some Try.f34 := by subst H; exact Try.func34
theorem fnok50 {P : Program} (H : P = Try.prog) : FnOK P 50 := by subst H; exact ⟨Try.f50, Try.func50, by kernel_rfl, by kernel_rfl⟩
theorem fnok51 {P : Program} (H : P = Try.prog) : FnOK P 51 := by subst H; exact ⟨Try.f51, Try.func51, by kernel_rfl, by kernel_rfl⟩
theorem fn35 {P : Program} (H : P = Try.prog) : P.funcs[35]? = some Try.f35 := by subst H; exact Try.func35
theorem fo27_0 {P : Program} (H : P = Try.prog) : foff P 27 0 = some 0 := by subst H; kernel_rfl
theorem tl22 {P : Program} (H : P = Try.prog) : tload P 22 = some (false, 1) := by subst H; kernel_rfl
theorem il22 {P : Program} (H : P = Try.prog) : isSl P 22 = true := by subst H; kernel_rfl
theorem fo27_1 {P : Program} (H : P = Try.prog) : foff P 27 1 = some 1 := by subst H; kernel_rfl
theorem tl23 {P : Program} (H : P = Try.prog) : tload P 23 = some (false, 1) := by subst H; kernel_rfl
theorem il23 {P : Program} (H : P = Try.prog) : isSl P 23 = true := by subst H; kernel_rfl
theorem fo27_2 {P : Program} (H : P = Try.prog) : foff P 27 2 = some 2 := by subst H; kernel_rfl
theorem tl24 {P : Program} (H : P = Try.prog) : tload P 24 = some (false, 1) := by subst H; kernel_rfl
theorem il24 {P : Program} (H : P = Try.prog) : isSl P 24 = true := by subst H; kernel_rfl
theorem fo27_3 {P : Program} (H : P = Try.prog) : foff P 27 3 = some 3 := by subst H; kernel_rfl
theorem tl25 {P : Program} (H : P = Try.prog) : tload P 25 = some (false, 1) := by subst H; kernel_rfl
theorem il25 {P : Program} (H : P = Try.prog) : isSl P 25 = true := by subst H; kernel_rfl
theorem ze32 {P : Program} (H : P = Try.prog) : tzero P 32 = some [.int .i64 0] := by subst H; kernel_rfl
theorem tl32 {P : Program} (H : P = Try.prog) : tload P 32 = some (false, 1) := by subst H; kernel_rfl
theorem ix22 {P : Program} (H : P = Try.prog) : tidx P 22 = some (false, 0, 8) := by subst H; kernel_rfl
theorem tl50 {P : Program} (H : P = Try.prog) : tload P 50 = some (true, 8) := by subst H; kernel_rfl
theorem ze50 {P : Program} (H : P = Try.prog) : tzero P 50 = some [.int .i64 0, .int .i64 0, .int .i64 0, .int .i64 0, .int .i64 0, .int .u64 0, .int .i64 0, .int .i64 0] := by subst H; kernel_rfl
theorem fnok29 {P : Program} (H : P = Try.prog) : FnOK P 29 := by subst H; exact ⟨Try.f29, Try.func29, by kernel_rfl, by kernel_rfl⟩
theorem fnok36 {P : Program} (H : P = Try.prog) : FnOK P 36 := by subst H; exact ⟨Try.f36, Try.func36, by kernel_rfl, by kernel_rfl⟩
theorem fn36 {P : Program} (H : P = Try.prog) : P.funcs[36]? = some Try.f36 := by subst H; exact Try.func36
theorem ix23 {P : Program} (H : P = Try.prog) : tidx P 23 = some (false, 0, 5) := by subst H; kernel_rfl
theorem tl47 {P : Program} (H : P = Try.prog) : tload P 47 = some (true, 5) := by subst H; kernel_rfl
theorem ze47 {P : Program} (H : P = Try.prog) : tzero P 47 = some [.int .i64 0, .int .i64 0, .int .i64 0, .int .i64 0, .int .i64 0] := by subst H; kernel_rfl
theorem ix24 {P : Program} (H : P = Try.prog) : tidx P 24 = some (false, 0, 3) := by subst H; kernel_rfl
theorem tl43 {P : Program} (H : P = Try.prog) : tload P 43 = some (true, 3) := by subst H; kernel_rfl
theorem ze43 {P : Program} (H : P = Try.prog) : tzero P 43 = some [.int .i64 0, .int .i64 0, .int .i64 0] := by subst H; kernel_rfl
theorem fo43_0 {P : Program} (H : P = Try.prog) : foff P 43 0 = some 0 := by subst H; kernel_rfl
theorem fo43_1 {P : Program} (H : P = Try.prog) : foff P 43 1 = some 1 := by subst H; kernel_rfl
theorem fo43_2 {P : Program} (H : P = Try.prog) : foff P 43 2 = some 2 := by subst H; kernel_rfl
theorem za93 {P : Program} (H : P = Try.prog) : tzero P 93 = some ((List.replicate 4096 [.bool false]).flatten) := by subst H; kernel_rfl
theorem ix25 {P : Program} (H : P = Try.prog) : tidx P 25 = some (false, 0, 3) := by subst H; kernel_rfl
theorem tl86 {P : Program} (H : P = Try.prog) : tload P 86 = some (true, 3) := by subst H; kernel_rfl
theorem ze86 {P : Program} (H : P = Try.prog) : tzero P 86 = some [.int .i64 0, .int .i64 0, .int .i64 0] := by subst H; kernel_rfl
theorem fo86_0 {P : Program} (H : P = Try.prog) : foff P 86 0 = some 0 := by subst H; kernel_rfl
theorem fo86_1 {P : Program} (H : P = Try.prog) : foff P 86 1 = some 1 := by subst H; kernel_rfl
theorem fo86_2 {P : Program} (H : P = Try.prog) : foff P 86 2 = some 2 := by subst H; kernel_rfl
theorem ix93 {P : Program} (H : P = Try.prog) : tidx P 93 = some (true, 64, 64) := by subst H; kernel_rfl
theorem ix92 {P : Program} (H : P = Try.prog) : tidx P 92 = some (true, 64, 1) := by subst H; kernel_rfl
theorem tl4 {P : Program} (H : P = Try.prog) : tload P 4 = some (false, 1) := by subst H; kernel_rfl
theorem fn18 {P : Program} (H : P = Try.prog) : P.funcs[18]? = some Try.f18 := by subst H; exact Try.func18
theorem sl44 {P : Program} (H : P = Try.prog) : tsl P 44 = some (4, 1, 1) := by subst H; kernel_rfl
theorem ze4 {P : Program} (H : P = Try.prog) : tzero P 4 = some [.bool false] := by subst H; kernel_rfl
theorem ix44 {P : Program} (H : P = Try.prog) : tidx P 44 = some (false, 0, 1) := by subst H; kernel_rfl
theorem fn39 {P : Program} (H : P = Try.prog) : P.funcs[39]? = some Try.f39 := by subst H; exact Try.func39
theorem fnok37 {P : Program} (H : P = Try.prog) : FnOK P 37 := by subst H; exact ⟨Try.f37, Try.func37, by kernel_rfl, by kernel_rfl⟩
theorem fnok38 {P : Program} (H : P = Try.prog) : FnOK P 38 := by subst H; exact ⟨Try.f38, Try.func38, by kernel_rfl, by kernel_rfl⟩
theorem fnok39 {P : Program} (H : P = Try.prog) : FnOK P 39 := by subst H; exact ⟨Try.f39, Try.func39, by kernel_rfl, by kernel_rfl⟩
theorem fn19 {P : Program} (H : P = Try.prog) : P.funcs[19]? = some Try.f19 := by subst H; exact Try.func19
theorem tl27 {P : Program} (H : P = Try.prog) : tload P 27 = some (true, 4) := by subst H; kernel_rfl
theorem fnok18 {P : Program} (H : P = Try.prog) : FnOK P 18 := by subst H; exact ⟨Try.f18, Try.func18, by kernel_rfl, by kernel_rfl⟩
theorem tb47 {P : Program} (H : P = Try.prog) : tbuild P 47 = true := by subst H; kernel_rfl
theorem tb50 {P : Program} (H : P = Try.prog) : tbuild P 50 = true := by subst H; kernel_rfl
theorem fn33 {P : Program} (H : P = Try.prog) : P.funcs[33]? = some Try.f33 := by subst H; exact Try.func33
theorem fnok33 {P : Program} (H : P = Try.prog) : FnOK P 33 := by subst H; exact ⟨Try.f33, Try.func33, by kernel_rfl, by kernel_rfl⟩
theorem fo50_5 {P : Program} (H : P = Try.prog) : foff P 50 5 = some 5 := by subst H; kernel_rfl
theorem fn20 {P : Program} (H : P = Try.prog) : P.funcs[20]? = some Try.f20 := by subst H; exact Try.func20
theorem fnok19 {P : Program} (H : P = Try.prog) : FnOK P 19 := by subst H; exact ⟨Try.f19, Try.func19, by kernel_rfl, by kernel_rfl⟩
theorem fn21 {P : Program} (H : P = Try.prog) : P.funcs[21]? = some Try.f21 := by subst H; exact Try.func21
theorem za83 {P : Program} (H : P = Try.prog) : tzero P 83 = some ((List.replicate 32 [.int .i64 0]).flatten) := by subst H; kernel_rfl
theorem ix83 {P : Program} (H : P = Try.prog) : tidx P 83 = some (true, 32, 1) := by subst H; kernel_rfl
theorem tp43_0 {P : Program} (H : P = Try.prog) : tplace P 43 0 = some (0, 1) := by subst H; kernel_rfl
theorem tp43_1 {P : Program} (H : P = Try.prog) : tplace P 43 1 = some (1, 1) := by subst H; kernel_rfl
theorem tp43_2 {P : Program} (H : P = Try.prog) : tplace P 43 2 = some (2, 1) := by subst H; kernel_rfl
theorem tb43 {P : Program} (H : P = Try.prog) : tbuild P 43 = true := by subst H; kernel_rfl
theorem sl24 {P : Program} (H : P = Try.prog) : tsl P 24 = some (43, 3, 24) := by subst H; kernel_rfl
theorem fn12 {P : Program} (H : P = Try.prog) : P.funcs[12]? = some Try.f12 := by subst H; exact Try.func12
theorem ze3 {P : Program} (H : P = Try.prog) : tzero P 3 = some [.int .i64 0] := by subst H; kernel_rfl
theorem fn13 {P : Program} (H : P = Try.prog) : P.funcs[13]? = some Try.f13 := by subst H; exact Try.func13
theorem fnok31 {P : Program} (H : P = Try.prog) : FnOK P 31 := by subst H; exact ⟨Try.f31, Try.func31, by kernel_rfl, by kernel_rfl⟩
theorem fn31 {P : Program} (H : P = Try.prog) : P.funcs[31]? = some Try.f31 := by subst H; exact Try.func31
theorem fnok32 {P : Program} (H : P = Try.prog) : FnOK P 32 := by subst H; exact ⟨Try.f32, Try.func32, by kernel_rfl, by kernel_rfl⟩
theorem fn32 {P : Program} (H : P = Try.prog) : P.funcs[32]? = some Try.f32 := by subst H; exact Try.func32
theorem fn14 {P : Program} (H : P = Try.prog) : P.funcs[14]? = some Try.f14 := by subst H; exact Try.func14
theorem fn15 {P : Program} (H : P = Try.prog) : P.funcs[15]? = some Try.f15 := by subst H; exact Try.func15
theorem fnok34 {P : Program} (H : P = Try.prog) : FnOK P 34 := by subst H; exact ⟨Try.f34, Try.func34, by kernel_rfl, by kernel_rfl⟩
theorem fn16 {P : Program} (H : P = Try.prog) : P.funcs[16]? = some Try.f16 := by subst H; exact Try.func16
theorem fnok35 {P : Program} (H : P = Try.prog) : FnOK P 35 := by subst H; exact ⟨Try.f35, Try.func35, by kernel_rfl, by kernel_rfl⟩
theorem fn17 {P : Program} (H : P = Try.prog) : P.funcs[17]? = some Try.f17 := by subst H; exact Try.func17
theorem teq43 {P : Program} (H : P = Try.prog) : teq P 43 = some [0, 1, 2] := by subst H; kernel_rfl
theorem eg43 {P : Program} (H : P = Try.prog) : P.eqGuardType P.depth 43 = false := by subst H; kernel_rfl
theorem fn22 {P : Program} (H : P = Try.prog) : P.funcs[22]? = some Try.f22 := by subst H; exact Try.func22
theorem fo61_0 {P : Program} (H : P = Try.prog) : foff P 61 0 = some 0 := by subst H; kernel_rfl
theorem tl56 {P : Program} (H : P = Try.prog) : tload P 56 = some (true, 2) := by subst H; kernel_rfl
theorem fnok25 {P : Program} (H : P = Try.prog) : FnOK P 25 := by subst H; exact ⟨Try.f25, Try.func25, by kernel_rfl, by kernel_rfl⟩
theorem fo61_1 {P : Program} (H : P = Try.prog) : foff P 61 1 = some 2 := by subst H; kernel_rfl
theorem fo61_2 {P : Program} (H : P = Try.prog) : foff P 61 2 = some 6 := by subst H; kernel_rfl
theorem tl57 {P : Program} (H : P = Try.prog) : tload P 57 = some (false, 1) := by subst H; kernel_rfl
theorem il57 {P : Program} (H : P = Try.prog) : isSl P 57 = true := by subst H; kernel_rfl
theorem fo61_3 {P : Program} (H : P = Try.prog) : foff P 61 3 = some 7 := by subst H; kernel_rfl
theorem tl58 {P : Program} (H : P = Try.prog) : tload P 58 = some (false, 1) := by subst H; kernel_rfl
theorem il58 {P : Program} (H : P = Try.prog) : isSl P 58 = true := by subst H; kernel_rfl
theorem fo61_4 {P : Program} (H : P = Try.prog) : foff P 61 4 = some 8 := by subst H; kernel_rfl
theorem tl59 {P : Program} (H : P = Try.prog) : tload P 59 = some (false, 1) := by subst H; kernel_rfl
theorem il59 {P : Program} (H : P = Try.prog) : isSl P 59 = true := by subst H; kernel_rfl
theorem ix57 {P : Program} (H : P = Try.prog) : tidx P 57 = some (false, 0, 3) := by subst H; kernel_rfl
theorem tl75 {P : Program} (H : P = Try.prog) : tload P 75 = some (true, 3) := by subst H; kernel_rfl
theorem ze75 {P : Program} (H : P = Try.prog) : tzero P 75 = some [.int .i64 0, .int .i64 0, .int .i64 0] := by subst H; kernel_rfl
theorem fo75_0 {P : Program} (H : P = Try.prog) : foff P 75 0 = some 0 := by subst H; kernel_rfl
theorem fo75_1 {P : Program} (H : P = Try.prog) : foff P 75 1 = some 1 := by subst H; kernel_rfl
theorem fo75_2 {P : Program} (H : P = Try.prog) : foff P 75 2 = some 2 := by subst H; kernel_rfl
theorem ix58 {P : Program} (H : P = Try.prog) : tidx P 58 = some (false, 0, 1) := by subst H; kernel_rfl
theorem tl79 {P : Program} (H : P = Try.prog) : tload P 79 = some (true, 1) := by subst H; kernel_rfl
theorem ze79 {P : Program} (H : P = Try.prog) : tzero P 79 = some [.int .i64 0] := by subst H; kernel_rfl
theorem fo79_0 {P : Program} (H : P = Try.prog) : foff P 79 0 = some 0 := by subst H; kernel_rfl
theorem ix59 {P : Program} (H : P = Try.prog) : tidx P 59 = some (false, 0, 16) := by subst H; kernel_rfl
theorem tl68 {P : Program} (H : P = Try.prog) : tload P 68 = some (true, 16) := by subst H; kernel_rfl
theorem ze68 {P : Program} (H : P = Try.prog) : tzero P 68 = some [.int .u64 0, .int .i64 0, .int .i64 0, .int .i64 0, .int .i64 0, .int .i64 0, .int .i64 0, .int .i64 0, .int .i64 0, .int .i64 0, .int .i64 0, .int .i64 0, .int .i64 0, .int .i64 0, .int .i64 0, .slice none 0 0] := by subst H; kernel_rfl
theorem fo68_1 {P : Program} (H : P = Try.prog) : foff P 68 1 = some 1 := by subst H; kernel_rfl
theorem tl66 {P : Program} (H : P = Try.prog) : tload P 66 = some (true, 15) := by subst H; kernel_rfl
theorem fnok27 {P : Program} (H : P = Try.prog) : FnOK P 27 := by subst H; exact ⟨Try.f27, Try.func27, by kernel_rfl, by kernel_rfl⟩
theorem fo68_0 {P : Program} (H : P = Try.prog) : foff P 68 0 = some 0 := by subst H; kernel_rfl
theorem fnok26 {P : Program} (H : P = Try.prog) : FnOK P 26 := by subst H; exact ⟨Try.f26, Try.func26, by kernel_rfl, by kernel_rfl⟩
theorem fn23 {P : Program} (H : P = Try.prog) : P.funcs[23]? = some Try.f23 := by subst H; exact Try.func23
theorem fn41 {P : Program} (H : P = Try.prog) : P.funcs[41]? = some Try.f41 := by subst H; exact Try.func41
theorem fn42 {P : Program} (H : P = Try.prog) : P.funcs[42]? = some Try.f42 := by subst H; exact Try.func42
theorem fnok40 {P : Program} (H : P = Try.prog) : FnOK P 40 := by subst H; exact ⟨Try.f40, Try.func40, by kernel_rfl, by kernel_rfl⟩
theorem tl61 {P : Program} (H : P = Try.prog) : tload P 61 = some (true, 9) := by subst H; kernel_rfl
theorem fnok41 {P : Program} (H : P = Try.prog) : FnOK P 41 := by subst H; exact ⟨Try.f41, Try.func41, by kernel_rfl, by kernel_rfl⟩
theorem fnok42 {P : Program} (H : P = Try.prog) : FnOK P 42 := by subst H; exact ⟨Try.f42, Try.func42, by kernel_rfl, by kernel_rfl⟩
theorem fnok43 {P : Program} (H : P = Try.prog) : FnOK P 43 := by subst H; exact ⟨Try.f43, Try.func43, by kernel_rfl, by kernel_rfl⟩
theorem fnok44 {P : Program} (H : P = Try.prog) : FnOK P 44 := by subst H; exact ⟨Try.f44, Try.func44, by kernel_rfl, by kernel_rfl⟩
theorem fn24 {P : Program} (H : P = Try.prog) : P.funcs[24]? = some Try.f24 := by subst H; exact Try.func24
theorem fn11 {P : Program} (H : P = Try.prog) : P.funcs[11]? = some Try.f11 := by subst H; exact Try.func11
theorem ze27 {P : Program} (H : P = Try.prog) : tzero P 27 = some [.slice none 0 0, .slice none 0 0, .slice none 0 0, .slice none 0 0] := by subst H; kernel_rfl
theorem tp50_0 {P : Program} (H : P = Try.prog) : tplace P 50 0 = some (0, 1) := by subst H; kernel_rfl
theorem tp50_5 {P : Program} (H : P = Try.prog) : tplace P 50 5 = some (5, 1) := by subst H; kernel_rfl
theorem tp50_6 {P : Program} (H : P = Try.prog) : tplace P 50 6 = some (6, 1) := by subst H; kernel_rfl
theorem tp50_7 {P : Program} (H : P = Try.prog) : tplace P 50 7 = some (7, 1) := by subst H; kernel_rfl
theorem sl22 {P : Program} (H : P = Try.prog) : tsl P 22 = some (50, 8, 64) := by subst H; kernel_rfl
theorem tp47_4 {P : Program} (H : P = Try.prog) : tplace P 47 4 = some (4, 1) := by subst H; kernel_rfl
theorem sl23 {P : Program} (H : P = Try.prog) : tsl P 23 = some (47, 5, 40) := by subst H; kernel_rfl
theorem tp86_0 {P : Program} (H : P = Try.prog) : tplace P 86 0 = some (0, 1) := by subst H; kernel_rfl
theorem tp86_1 {P : Program} (H : P = Try.prog) : tplace P 86 1 = some (1, 1) := by subst H; kernel_rfl
theorem tp86_2 {P : Program} (H : P = Try.prog) : tplace P 86 2 = some (2, 1) := by subst H; kernel_rfl
theorem tb86 {P : Program} (H : P = Try.prog) : tbuild P 86 = true := by subst H; kernel_rfl
theorem sl25 {P : Program} (H : P = Try.prog) : tsl P 25 = some (86, 3, 24) := by subst H; kernel_rfl
theorem tp27_0 {P : Program} (H : P = Try.prog) : tplace P 27 0 = some (0, 1) := by subst H; kernel_rfl
theorem tp27_1 {P : Program} (H : P = Try.prog) : tplace P 27 1 = some (1, 1) := by subst H; kernel_rfl
theorem tp27_2 {P : Program} (H : P = Try.prog) : tplace P 27 2 = some (2, 1) := by subst H; kernel_rfl
theorem tp27_3 {P : Program} (H : P = Try.prog) : tplace P 27 3 = some (3, 1) := by subst H; kernel_rfl
theorem tb27 {P : Program} (H : P = Try.prog) : tbuild P 27 = true := by subst H; kernel_rfl
theorem fn28 {P : Program} (H : P = Try.prog) : P.funcs[28]? = some Try.f28 := by subst H; exact Try.func28
theorem fnok28 {P : Program} (H : P = Try.prog) : FnOK P 28 := by subst H; exact ⟨Try.f28, Try.func28, by kernel_rfl, by kernel_rfl⟩
theorem fnok12 {P : Program} (H : P = Try.prog) : FnOK P 12 := by subst H; exact ⟨Try.f12, Try.func12, by kernel_rfl, by kernel_rfl⟩
theorem fnok14 {P : Program} (H : P = Try.prog) : FnOK P 14 := by subst H; exact ⟨Try.f14, Try.func14, by kernel_rfl, by kernel_rfl⟩
theorem fnok16 {P : Program} (H : P = Try.prog) : FnOK P 16 := by subst H; exact ⟨Try.f16, Try.func16, by kernel_rfl, by kernel_rfl⟩
theorem fnok22 {P : Program} (H : P = Try.prog) : FnOK P 22 := by subst H; exact ⟨Try.f22, Try.func22, by kernel_rfl, by kernel_rfl⟩
theorem fnok20 {P : Program} (H : P = Try.prog) : FnOK P 20 := by subst H; exact ⟨Try.f20, Try.func20, by kernel_rfl, by kernel_rfl⟩
theorem fn10 {P : Program} (H : P = Try.prog) : P.funcs[10]? = some Try.f10 := by subst H; exact Try.func10
theorem fnok10 {P : Program} (H : P = Try.prog) : FnOK P 10 := by subst H; exact ⟨Try.f10, Try.func10, by kernel_rfl, by kernel_rfl⟩
theorem fnok11 {P : Program} (H : P = Try.prog) : FnOK P 11 := by subst H; exact ⟨Try.f11, Try.func11, by kernel_rfl, by kernel_rfl⟩
theorem fo29_3 {P : Program} (H : P = Try.prog) : foff P 29 3 = some 3 := by subst H; kernel_rfl
theorem fnok13 {P : Program} (H : P = Try.prog) : FnOK P 13 := by subst H; exact ⟨Try.f13, Try.func13, by kernel_rfl, by kernel_rfl⟩
theorem fo29_1 {P : Program} (H : P = Try.prog) : foff P 29 1 = some 1 := by subst H; kernel_rfl
theorem fo29_4 {P : Program} (H : P = Try.prog) : foff P 29 4 = some 4 := by subst H; kernel_rfl
theorem fnok15 {P : Program} (H : P = Try.prog) : FnOK P 15 := by subst H; exact ⟨Try.f15, Try.func15, by kernel_rfl, by kernel_rfl⟩
theorem fo29_0 {P : Program} (H : P = Try.prog) : foff P 29 0 = some 0 := by subst H; kernel_rfl
theorem fo29_5 {P : Program} (H : P = Try.prog) : foff P 29 5 = some 5 := by subst H; kernel_rfl
theorem fnok17 {P : Program} (H : P = Try.prog) : FnOK P 17 := by subst H; exact ⟨Try.f17, Try.func17, by kernel_rfl, by kernel_rfl⟩
theorem fo29_2 {P : Program} (H : P = Try.prog) : foff P 29 2 = some 2 := by subst H; kernel_rfl
theorem fnok21 {P : Program} (H : P = Try.prog) : FnOK P 21 := by subst H; exact ⟨Try.f21, Try.func21, by kernel_rfl, by kernel_rfl⟩
theorem fn3 {P : Program} (H : P = Try.prog) : P.funcs[3]? = some Try.f3 := by subst H; exact Try.func3
theorem un4 {P : Program} (H : P = Try.prog) : P.underlying 4 = some (.bool) := by subst H; kernel_rfl
theorem fn4 {P : Program} (H : P = Try.prog) : P.funcs[4]? = some Try.f4 := by subst H; exact Try.func4
theorem fn5 {P : Program} (H : P = Try.prog) : P.funcs[5]? = some Try.f5 := by subst H; exact Try.func5
theorem fn6 {P : Program} (H : P = Try.prog) : P.funcs[6]? = some Try.f6 := by subst H; exact Try.func6
theorem fn7 {P : Program} (H : P = Try.prog) : P.funcs[7]? = some Try.f7 := by subst H; exact Try.func7
theorem fnok23 {P : Program} (H : P = Try.prog) : FnOK P 23 := by subst H; exact ⟨Try.f23, Try.func23, by kernel_rfl, by kernel_rfl⟩
theorem fnok24 {P : Program} (H : P = Try.prog) : FnOK P 24 := by subst H; exact ⟨Try.f24, Try.func24, by kernel_rfl, by kernel_rfl⟩
theorem fn8 {P : Program} (H : P = Try.prog) : P.funcs[8]? = some Try.f8 := by subst H; exact Try.func8
theorem ze61 {P : Program} (H : P = Try.prog) : tzero P 61 = some [.slice none 0 0, .slice none 0 0, .slice none 0 0, .slice none 0 0, .slice none 0 0, .slice none 0 0, .slice none 0 0, .slice none 0 0, .slice none 0 0] := by subst H; kernel_rfl
theorem sl59 {P : Program} (H : P = Try.prog) : tsl P 59 = some (68, 16, 144) := by subst H; kernel_rfl
theorem tp75_0 {P : Program} (H : P = Try.prog) : tplace P 75 0 = some (0, 1) := by subst H; kernel_rfl
theorem tb75 {P : Program} (H : P = Try.prog) : tbuild P 75 = true := by subst H; kernel_rfl
theorem sl57 {P : Program} (H : P = Try.prog) : tsl P 57 = some (75, 3, 24) := by subst H; kernel_rfl
theorem sl58 {P : Program} (H : P = Try.prog) : tsl P 58 = some (79, 1, 8) := by subst H; kernel_rfl
theorem tp79_0 {P : Program} (H : P = Try.prog) : tplace P 79 0 = some (0, 1) := by subst H; kernel_rfl
theorem tb79 {P : Program} (H : P = Try.prog) : tbuild P 79 = true := by subst H; kernel_rfl
theorem fn9 {P : Program} (H : P = Try.prog) : P.funcs[9]? = some Try.f9 := by subst H; exact Try.func9
theorem eqSwapR {P : Program} (H : P = Try.prog) (w : World) (x y : Swap) : (Op.equal 43 (.agg [(.int .i64 x.fWanted), (.int .i64 x.fGiven), (.int .i64 x.fCost)].toArray) (.agg [(.int .i64 y.fWanted), (.int .i64 y.fGiven), (.int .i64 y.fCost)].toArray)).run P w = .ok (eqSwapB x y) w :=
  run_equal_flat w (teq43 H) (by subst H; kernel_rfl) rfl
end Px
