/- Closed facts on this seat's types and functions. -/
import Derived.Test.YtfdffeameoejfaaRange
import Derived.Test.YtfdffeameoejfaaProg
import Derived.KernelRfl
namespace Go.Proofs.Ytfdffeameoejfaa
open Go
set_option linter.unusedVariables false
set_option linter.unusedSimpArgs false
theorem mixed : Try.prog.follows .mixedOrders = true := by kernel_rfl
theorem o3 : One Try.prog 3 := one_of Try.underlying3 rfl (by kernel_rfl)
theorem o4 : One Try.prog 4 := one_of Try.underlying4 rfl (by kernel_rfl)
theorem o5 : One Try.prog 5 := one_of Try.underlying5 rfl (by kernel_rfl)
theorem o22 : One Try.prog 22 := one_of Try.underlying22 rfl (by kernel_rfl)
theorem o24 : One Try.prog 24 := one_of Try.underlying24 rfl (by kernel_rfl)
theorem o25 : One Try.prog 25 := one_of Try.underlying25 rfl (by kernel_rfl)
theorem o29 : One Try.prog 29 := one_of Try.underlying29 rfl (by kernel_rfl)
theorem o32 : One Try.prog 32 := one_of Try.underlying32 rfl (by kernel_rfl)
theorem o37 : One Try.prog 37 := one_of Try.underlying37 rfl (by kernel_rfl)
theorem o39 : One Try.prog 39 := one_of Try.underlying39 rfl (by kernel_rfl)
theorem o40 : One Try.prog 40 := one_of Try.underlying40 rfl (by kernel_rfl)
theorem o42 : One Try.prog 42 := one_of Try.underlying42 rfl (by kernel_rfl)
theorem o55 : One Try.prog 55 := one_of Try.underlying55 rfl (by kernel_rfl)
theorem o58 : One Try.prog 58 := one_of Try.underlying58 rfl (by kernel_rfl)
theorem o93 : One Try.prog 93 := one_of Try.underlying93 rfl (by kernel_rfl)
theorem o126 : One Try.prog 126 := one_of Try.underlying126 rfl (by kernel_rfl)
theorem o129 : One Try.prog 129 := one_of Try.underlying129 rfl (by kernel_rfl)
theorem g28 : AggN Try.prog 28 3 := agg_of Try.underlying28 rfl (by kernel_rfl)
theorem g34 : AggN Try.prog 34 4 := agg_of Try.underlying34 rfl (by kernel_rfl)
theorem g62 : AggN Try.prog 62 8 := agg_of Try.underlying62 rfl (by kernel_rfl)
theorem g71 : AggN Try.prog 71 3 := agg_of Try.underlying71 rfl (by kernel_rfl)
theorem g74 : AggN Try.prog 74 7 := agg_of Try.underlying74 rfl (by kernel_rfl)
theorem g77 : AggN Try.prog 77 2 := agg_of Try.underlying77 rfl (by kernel_rfl)
theorem g88 : AggN Try.prog 88 1 := agg_of Try.underlying88 rfl (by kernel_rfl)
theorem g123 : AggN Try.prog 123 1 := agg_of Try.underlying123 rfl (by kernel_rfl)
theorem g138 : AggN Try.prog 138 8 := agg_of Try.underlying138 rfl (by kernel_rfl)
theorem g140 : AggN Try.prog 140 2 := agg_of Try.underlying140 rfl (by kernel_rfl)
theorem g152 : AggN Try.prog 152 2 := agg_of Try.underlying152 rfl (by kernel_rfl)
theorem g171 : AggN Try.prog 171 9 := agg_of Try.underlying171 rfl (by kernel_rfl)
theorem g182 : AggN Try.prog 182 100 := agg_of Try.underlying182 rfl (by kernel_rfl)
theorem z3 : Zero Try.prog 3 (.int .i64 0) := zero_run (by kernel_rfl)
theorem z4 : Zero Try.prog 4 (.bool false) := zero_run (by kernel_rfl)
theorem z5 : Zero Try.prog 5 (.int .u8 0) := zero_run (by kernel_rfl)
theorem z22 : Zero Try.prog 22 (.slice none 0 0) := zero_run (by kernel_rfl)
theorem z25 : Zero Try.prog 25 (.pointer none) := zero_run (by kernel_rfl)
theorem z28 : Zero Try.prog 28 (.agg #[.int .i64 0, .int .i64 0, .int .i64 0]) := zero_run (by kernel_rfl)
theorem z29 : Zero Try.prog 29 (.int .i64 0) := zero_run (by kernel_rfl)
theorem z34 : Zero Try.prog 34 (.agg #[.int .u32 0, .int .u32 0, .int .u32 0, .int .u32 0]) := zero_run (by kernel_rfl)
theorem z40 : Zero Try.prog 40 (.slice none 0 0) := zero_run (by kernel_rfl)
theorem z55 : Zero Try.prog 55 (.slice none 0 0) := zero_run (by kernel_rfl)
theorem z58 : Zero Try.prog 58 (.nilIface) := zero_run (by kernel_rfl)
theorem z62 : Zero Try.prog 62 (.agg #[.int .i64 0, .int .i64 0, .int .i64 0, .int .u32 0, .int .u32 0, .int .u32 0, .int .u32 0, .slice none 0 0]) := zero_run (by kernel_rfl)
theorem z71 : Zero Try.prog 71 (.agg #[.int .i64 0, .int .i64 0, .slice none 0 0]) := zero_run (by kernel_rfl)
theorem z74 : Zero Try.prog 74 (.agg #[.int .i64 0, .int .i64 0, .int .u32 0, .int .u32 0, .int .u32 0, .int .u32 0, .slice none 0 0]) := zero_run (by kernel_rfl)
theorem z77 : Zero Try.prog 77 (.agg #[.int .i64 0, .slice none 0 0]) := zero_run (by kernel_rfl)
theorem z88 : Zero Try.prog 88 (.agg #[.nilIface]) := zero_run (by kernel_rfl)
theorem z123 : Zero Try.prog 123 (.agg #[.slice none 0 0]) := zero_run (by kernel_rfl)
theorem z138 : Zero Try.prog 138 (.agg #[.int .i64 0, .int .i64 0, .int .i64 0, .int .u32 0, .int .u32 0, .int .u32 0, .int .u32 0, .slice none 0 0]) := zero_run (by kernel_rfl)
theorem z140 : Zero Try.prog 140 (.agg #[.int .i64 0, .nilFunc]) := zero_run (by kernel_rfl)
theorem z148 : Zero Try.prog 148 (.int .i64 0) := zero_run (by kernel_rfl)
theorem z152 : Zero Try.prog 152 (.agg #[.slice none 0 0, .slice none 0 0]) := zero_run (by kernel_rfl)
theorem z162 : Zero Try.prog 162 (.nilIface) := zero_run (by kernel_rfl)
theorem z171 : Zero Try.prog 171 (.agg #[.int .i64 0, .int .i64 0, .int .i64 0, .int .i64 0, .int .u32 0, .int .u32 0, .int .u32 0, .int .u32 0, .slice none 0 0]) := zero_run (by kernel_rfl)
theorem z182 : Zero Try.prog 182 (.agg #[.bool false, .bool false, .bool false, .bool false, .bool false, .bool false, .bool false, .bool false, .bool false, .bool false, .bool false, .bool false, .bool false, .bool false, .bool false, .bool false, .bool false, .bool false, .bool false, .bool false, .bool false, .bool false, .bool false, .bool false, .bool false, .bool false, .bool false, .bool false, .bool false, .bool false, .bool false, .bool false, .bool false, .bool false, .bool false, .bool false, .bool false, .bool false, .bool false, .bool false, .bool false, .bool false, .bool false, .bool false, .bool false, .bool false, .bool false, .bool false, .bool false, .bool false, .bool false, .bool false, .bool false, .bool false, .bool false, .bool false, .bool false, .bool false, .bool false, .bool false, .bool false, .bool false, .bool false, .bool false, .bool false, .bool false, .bool false, .bool false, .bool false, .bool false, .bool false, .bool false, .bool false, .bool false, .bool false, .bool false, .bool false, .bool false, .bool false, .bool false, .bool false, .bool false, .bool false, .bool false, .bool false, .bool false, .bool false, .bool false, .bool false, .bool false, .bool false, .bool false, .bool false, .bool false, .bool false, .bool false, .bool false, .bool false, .bool false, .bool false]) := zero_run (by kernel_rfl)
theorem fa28_0 : FA Try.prog 28 0 0 := fa_of (i := 0) (n := 0) Try.underlying28 rfl (by kernel_rfl)
theorem fa28_1 : FA Try.prog 28 1 1 := fa_of (i := 1) (n := 0) Try.underlying28 rfl (by kernel_rfl)
theorem fa28_2 : FA Try.prog 28 2 2 := fa_of (i := 2) (n := 0) Try.underlying28 rfl (by kernel_rfl)
theorem fa62_0 : FA Try.prog 62 0 0 := fa_of (i := 0) (n := 0) Try.underlying62 rfl (by kernel_rfl)
theorem fa62_1 : FA Try.prog 62 1 1 := fa_of (i := 1) (n := 0) Try.underlying62 rfl (by kernel_rfl)
theorem fa62_2 : FA Try.prog 62 2 2 := fa_of (i := 2) (n := 0) Try.underlying62 rfl (by kernel_rfl)
theorem fa62_3 : FA Try.prog 62 3 3 := fa_of (i := 3) (n := 3) Try.underlying62 rfl (by kernel_rfl)
theorem fa62_4 : FA Try.prog 62 4 7 := fa_of (i := 4) (n := 0) Try.underlying62 rfl (by kernel_rfl)
theorem fa71_0 : FA Try.prog 71 0 0 := fa_of (i := 0) (n := 0) Try.underlying71 rfl (by kernel_rfl)
theorem fa71_1 : FA Try.prog 71 1 1 := fa_of (i := 1) (n := 0) Try.underlying71 rfl (by kernel_rfl)
theorem fa71_2 : FA Try.prog 71 2 2 := fa_of (i := 2) (n := 0) Try.underlying71 rfl (by kernel_rfl)
theorem fa74_0 : FA Try.prog 74 0 0 := fa_of (i := 0) (n := 0) Try.underlying74 rfl (by kernel_rfl)
theorem fa74_1 : FA Try.prog 74 1 1 := fa_of (i := 1) (n := 0) Try.underlying74 rfl (by kernel_rfl)
theorem fa74_2 : FA Try.prog 74 2 2 := fa_of (i := 2) (n := 3) Try.underlying74 rfl (by kernel_rfl)
theorem fa74_3 : FA Try.prog 74 3 6 := fa_of (i := 3) (n := 0) Try.underlying74 rfl (by kernel_rfl)
theorem fa77_0 : FA Try.prog 77 0 0 := fa_of (i := 0) (n := 0) Try.underlying77 rfl (by kernel_rfl)
theorem fa77_1 : FA Try.prog 77 1 1 := fa_of (i := 1) (n := 0) Try.underlying77 rfl (by kernel_rfl)
theorem fa88_0 : FA Try.prog 88 0 0 := fa_of (i := 0) (n := 0) Try.underlying88 rfl (by kernel_rfl)
theorem fa123_0 : FA Try.prog 123 0 0 := fa_of (i := 0) (n := 0) Try.underlying123 rfl (by kernel_rfl)
theorem fa138_0 : FA Try.prog 138 0 0 := fa_of (i := 0) (n := 0) Try.underlying138 rfl (by kernel_rfl)
theorem fa138_1 : FA Try.prog 138 1 1 := fa_of (i := 1) (n := 0) Try.underlying138 rfl (by kernel_rfl)
theorem fa138_2 : FA Try.prog 138 2 2 := fa_of (i := 2) (n := 0) Try.underlying138 rfl (by kernel_rfl)
theorem fa138_3 : FA Try.prog 138 3 3 := fa_of (i := 3) (n := 3) Try.underlying138 rfl (by kernel_rfl)
theorem fa138_4 : FA Try.prog 138 4 7 := fa_of (i := 4) (n := 0) Try.underlying138 rfl (by kernel_rfl)
theorem fa140_0 : FA Try.prog 140 0 0 := fa_of (i := 0) (n := 0) Try.underlying140 rfl (by kernel_rfl)
theorem fa140_1 : FA Try.prog 140 1 1 := fa_of (i := 1) (n := 0) Try.underlying140 rfl (by kernel_rfl)
theorem fa152_0 : FA Try.prog 152 0 0 := fa_of (i := 0) (n := 0) Try.underlying152 rfl (by kernel_rfl)
theorem fa152_1 : FA Try.prog 152 1 1 := fa_of (i := 1) (n := 0) Try.underlying152 rfl (by kernel_rfl)
theorem fa171_0 : FA Try.prog 171 0 0 := fa_of (i := 0) (n := 0) Try.underlying171 rfl (by kernel_rfl)
theorem fa171_1 : FA Try.prog 171 1 1 := fa_of (i := 1) (n := 0) Try.underlying171 rfl (by kernel_rfl)
theorem fa171_2 : FA Try.prog 171 2 2 := fa_of (i := 2) (n := 0) Try.underlying171 rfl (by kernel_rfl)
theorem fa171_3 : FA Try.prog 171 3 3 := fa_of (i := 3) (n := 0) Try.underlying171 rfl (by kernel_rfl)
theorem fa171_4 : FA Try.prog 171 4 4 := fa_of (i := 4) (n := 3) Try.underlying171 rfl (by kernel_rfl)
theorem fa171_5 : FA Try.prog 171 5 8 := fa_of (i := 5) (n := 0) Try.underlying171 rfl (by kernel_rfl)
theorem ia34 : IxA Try.prog 34 4 1 := ixA_of Try.underlying34 (by kernel_rfl)
theorem ia182 : IxA Try.prog 182 100 1 := ixA_of Try.underlying182 (by kernel_rfl)
theorem is22 : IxS Try.prog 22 3 := ixS_of Try.underlying22 (by kernel_rfl)
theorem is39 : IxS Try.prog 39 4 := ixS_of Try.underlying39 (by kernel_rfl)
theorem is40 : IxS Try.prog 40 1 := ixS_of Try.underlying40 (by kernel_rfl)
theorem is55 : IxS Try.prog 55 1 := ixS_of Try.underlying55 (by kernel_rfl)
theorem is92 : IxS Try.prog 92 1 := ixS_of Try.underlying92 (by kernel_rfl)
theorem is93 : IxS Try.prog 93 1 := ixS_of Try.underlying93 (by kernel_rfl)
theorem is141 : IxS Try.prog 141 2 := ixS_of Try.underlying141 (by kernel_rfl)
theorem e2 : Ent Try.prog 2 := ent_of Try.func2 (by kernel_rfl) rfl
theorem e3 : Ent Try.prog 3 := ent_of Try.func3 (by kernel_rfl) rfl
theorem e4 : Ent Try.prog 4 := ent_of Try.func4 (by kernel_rfl) rfl
theorem e5 : Ent Try.prog 5 := ent_of Try.func5 (by kernel_rfl) rfl
theorem e6 : Ent Try.prog 6 := ent_of Try.func6 (by kernel_rfl) rfl
theorem e7 : Ent Try.prog 7 := ent_of Try.func7 (by kernel_rfl) rfl
theorem e8 : Ent Try.prog 8 := ent_of Try.func8 (by kernel_rfl) rfl
theorem e9 : Ent Try.prog 9 := ent_of Try.func9 (by kernel_rfl) rfl
theorem e10 : Ent Try.prog 10 := ent_of Try.func10 (by kernel_rfl) rfl
theorem e11 : Ent Try.prog 11 := ent_of Try.func11 (by kernel_rfl) rfl
theorem e12 : Ent Try.prog 12 := ent_of Try.func12 (by kernel_rfl) rfl
theorem e13 : Ent Try.prog 13 := ent_of Try.func13 (by kernel_rfl) rfl
theorem e14 : Ent Try.prog 14 := ent_of Try.func14 (by kernel_rfl) rfl
theorem e15 : Ent Try.prog 15 := ent_of Try.func15 (by kernel_rfl) rfl
theorem e16 : Ent Try.prog 16 := ent_of Try.func16 (by kernel_rfl) rfl
theorem e17 : Ent Try.prog 17 := ent_of Try.func17 (by kernel_rfl) rfl
theorem e18 : Ent Try.prog 18 := ent_of Try.func18 (by kernel_rfl) rfl
theorem e19 : Ent Try.prog 19 := ent_of Try.func19 (by kernel_rfl) rfl
theorem e20 : Ent Try.prog 20 := ent_of Try.func20 (by kernel_rfl) rfl
theorem e21 : Ent Try.prog 21 := ent_of Try.func21 (by kernel_rfl) rfl
theorem e22 : Ent Try.prog 22 := ent_of Try.func22 (by kernel_rfl) rfl
theorem e23 : Ent Try.prog 23 := ent_of Try.func23 (by kernel_rfl) rfl
theorem e24 : Ent Try.prog 24 := ent_of Try.func24 (by kernel_rfl) rfl
theorem e25 : Ent Try.prog 25 := ent_of Try.func25 (by kernel_rfl) rfl
theorem e26 : Ent Try.prog 26 := ent_of Try.func26 (by kernel_rfl) rfl
theorem e27 : Ent Try.prog 27 := ent_of Try.func27 (by kernel_rfl) rfl
theorem e28 : Ent Try.prog 28 := ent_of Try.func28 (by kernel_rfl) rfl
theorem e29 : Ent Try.prog 29 := ent_of Try.func29 (by kernel_rfl) rfl
theorem e30 : Ent Try.prog 30 := ent_of Try.func30 (by kernel_rfl) rfl
theorem e31 : Ent Try.prog 31 := ent_of Try.func31 (by kernel_rfl) rfl
theorem e32 : Ent Try.prog 32 := ent_of Try.func32 (by kernel_rfl) rfl
theorem e33 : Ent Try.prog 33 := ent_of Try.func33 (by kernel_rfl) rfl
theorem e34 : Ent Try.prog 34 := ent_of Try.func34 (by kernel_rfl) rfl
theorem e35 : Ent Try.prog 35 := ent_of Try.func35 (by kernel_rfl) rfl
theorem e36 : Ent Try.prog 36 := ent_of Try.func36 (by kernel_rfl) rfl
theorem e37 : Ent Try.prog 37 := ent_of Try.func37 (by kernel_rfl) rfl
theorem e38 : Ent Try.prog 38 := ent_of Try.func38 (by kernel_rfl) rfl
theorem e39 : Ent Try.prog 39 := ent_of Try.func39 (by kernel_rfl) rfl
theorem e40 : Ent Try.prog 40 := ent_of Try.func40 (by kernel_rfl) rfl
theorem e41 : Ent Try.prog 41 := ent_of Try.func41 (by kernel_rfl) rfl
theorem e42 : Ent Try.prog 42 := ent_of Try.func42 (by kernel_rfl) rfl
theorem e43 : Ent Try.prog 43 := ent_of Try.func43 (by kernel_rfl) rfl
theorem e44 : Ent Try.prog 44 := ent_of Try.func44 (by kernel_rfl) rfl
theorem e45 : Ent Try.prog 45 := ent_of Try.func45 (by kernel_rfl) rfl
theorem e46 : Ent Try.prog 46 := ent_of Try.func46 (by kernel_rfl) rfl
theorem e47 : Ent Try.prog 47 := ent_of Try.func47 (by kernel_rfl) rfl
theorem e48 : Ent Try.prog 48 := ent_of Try.func48 (by kernel_rfl) rfl
theorem e49 : Ent Try.prog 49 := ent_of Try.func49 (by kernel_rfl) rfl
theorem e50 : Ent Try.prog 50 := ent_of Try.func50 (by kernel_rfl) rfl
theorem e51 : Ent Try.prog 51 := ent_of Try.func51 (by kernel_rfl) rfl
theorem e52 : Ent Try.prog 52 := ent_of Try.func52 (by kernel_rfl) rfl
theorem e53 : Ent Try.prog 53 := ent_of Try.func53 (by kernel_rfl) rfl
theorem e54 : Ent Try.prog 54 := ent_of Try.func54 (by kernel_rfl) rfl
theorem e55 : Ent Try.prog 55 := ent_of Try.func55 (by kernel_rfl) rfl
theorem e56 : Ent Try.prog 56 := ent_of Try.func56 (by kernel_rfl) rfl
theorem e57 : Ent Try.prog 57 := ent_of Try.func57 (by kernel_rfl) rfl
theorem e58 : Ent Try.prog 58 := ent_of Try.func58 (by kernel_rfl) rfl
theorem e59 : Ent Try.prog 59 := ent_of Try.func59 (by kernel_rfl) rfl
theorem e60 : Ent Try.prog 60 := ent_of Try.func60 (by kernel_rfl) rfl
theorem e61 : Ent Try.prog 61 := ent_of Try.func61 (by kernel_rfl) rfl
theorem e62 : Ent Try.prog 62 := ent_of Try.func62 (by kernel_rfl) rfl
theorem e63 : Ent Try.prog 63 := ent_of Try.func63 (by kernel_rfl) rfl
theorem e64 : Ent Try.prog 64 := ent_of Try.func64 (by kernel_rfl) rfl
theorem e65 : Ent Try.prog 65 := ent_of Try.func65 (by kernel_rfl) rfl
theorem e66 : Ent Try.prog 66 := ent_of Try.func66 (by kernel_rfl) rfl
theorem e67 : Ent Try.prog 67 := ent_of Try.func67 (by kernel_rfl) rfl
theorem e68 : Ent Try.prog 68 := ent_of Try.func68 (by kernel_rfl) rfl
theorem e69 : Ent Try.prog 69 := ent_of Try.func69 (by kernel_rfl) rfl
theorem e70 : Ent Try.prog 70 := ent_of Try.func70 (by kernel_rfl) rfl
theorem e71 : Ent Try.prog 71 := ent_of Try.func71 (by kernel_rfl) rfl
theorem e72 : Ent Try.prog 72 := ent_of Try.func72 (by kernel_rfl) rfl
theorem e73 : Ent Try.prog 73 := ent_of Try.func73 (by kernel_rfl) rfl
theorem e74 : Ent Try.prog 74 := ent_of Try.func74 (by kernel_rfl) rfl
theorem e75 : Ent Try.prog 75 := ent_of Try.func75 (by kernel_rfl) rfl
theorem e76 : Ent Try.prog 76 := ent_of Try.func76 (by kernel_rfl) rfl
theorem e77 : Ent Try.prog 77 := ent_of Try.func77 (by kernel_rfl) rfl
theorem e78 : Ent Try.prog 78 := ent_of Try.func78 (by kernel_rfl) rfl
theorem e79 : Ent Try.prog 79 := ent_of Try.func79 (by kernel_rfl) rfl
theorem e80 : Ent Try.prog 80 := ent_of Try.func80 (by kernel_rfl) rfl
theorem e81 : Ent Try.prog 81 := ent_of Try.func81 (by kernel_rfl) rfl
theorem e82 : Ent Try.prog 82 := ent_of Try.func82 (by kernel_rfl) rfl
theorem e83 : Ent Try.prog 83 := ent_of Try.func83 (by kernel_rfl) rfl
theorem e84 : Ent Try.prog 84 := ent_of Try.func84 (by kernel_rfl) rfl
theorem e85 : Ent Try.prog 85 := ent_of Try.func85 (by kernel_rfl) rfl
theorem e86 : Ent Try.prog 86 := ent_of Try.func86 (by kernel_rfl) rfl
theorem e87 : Ent Try.prog 87 := ent_of Try.func87 (by kernel_rfl) rfl
theorem e88 : Ent Try.prog 88 := ent_of Try.func88 (by kernel_rfl) rfl
theorem e89 : Ent Try.prog 89 := ent_of Try.func89 (by kernel_rfl) rfl
theorem e90 : Ent Try.prog 90 := ent_of Try.func90 (by kernel_rfl) rfl
theorem e91 : Ent Try.prog 91 := ent_of Try.func91 (by kernel_rfl) rfl
theorem e92 : Ent Try.prog 92 := ent_of Try.func92 (by kernel_rfl) rfl
theorem e93 : Ent Try.prog 93 := ent_of Try.func93 (by kernel_rfl) rfl
theorem e94 : Ent Try.prog 94 := ent_of Try.func94 (by kernel_rfl) rfl
theorem e95 : Ent Try.prog 95 := ent_of Try.func95 (by kernel_rfl) rfl
theorem e96 : Ent Try.prog 96 := ent_of Try.func96 (by kernel_rfl) rfl
theorem e97 : Ent Try.prog 97 := ent_of Try.func97 (by kernel_rfl) rfl
theorem e98 : Ent Try.prog 98 := ent_of Try.func98 (by kernel_rfl) rfl
theorem e99 : Ent Try.prog 99 := ent_of Try.func99 (by kernel_rfl) rfl
theorem e100 : Ent Try.prog 100 := ent_of Try.func100 (by kernel_rfl) rfl
theorem e101 : Ent Try.prog 101 := ent_of Try.func101 (by kernel_rfl) rfl
theorem e102 : Ent Try.prog 102 := ent_of Try.func102 (by kernel_rfl) rfl
theorem e103 : Ent Try.prog 103 := ent_of Try.func103 (by kernel_rfl) rfl
theorem e104 : Ent Try.prog 104 := ent_of Try.func104 (by kernel_rfl) rfl
theorem e105 : Ent Try.prog 105 := ent_of Try.func105 (by kernel_rfl) rfl
theorem e106 : Ent Try.prog 106 := ent_of Try.func106 (by kernel_rfl) rfl
theorem e107 : Ent Try.prog 107 := ent_of Try.func107 (by kernel_rfl) rfl
theorem e108 : Ent Try.prog 108 := ent_of Try.func108 (by kernel_rfl) rfl
theorem e109 : Ent Try.prog 109 := ent_of Try.func109 (by kernel_rfl) rfl
theorem e110 : Ent Try.prog 110 := ent_of Try.func110 (by kernel_rfl) rfl
theorem e111 : Ent Try.prog 111 := ent_of Try.func111 (by kernel_rfl) rfl
theorem e112 : Ent Try.prog 112 := ent_of Try.func112 (by kernel_rfl) rfl
theorem e113 : Ent Try.prog 113 := ent_of Try.func113 (by kernel_rfl) rfl
theorem e114 : Ent Try.prog 114 := ent_of Try.func114 (by kernel_rfl) rfl
theorem e115 : Ent Try.prog 115 := ent_of Try.func115 (by kernel_rfl) rfl
theorem e116 : Ent Try.prog 116 := ent_of Try.func116 (by kernel_rfl) rfl
theorem e117 : Ent Try.prog 117 := ent_of Try.func117 (by kernel_rfl) rfl
theorem e118 : Ent Try.prog 118 := ent_of Try.func118 (by kernel_rfl) rfl
theorem e119 : Ent Try.prog 119 := ent_of Try.func119 (by kernel_rfl) rfl
theorem e120 : Ent Try.prog 120 := ent_of Try.func120 (by kernel_rfl) rfl
theorem e121 : Ent Try.prog 121 := ent_of Try.func121 (by kernel_rfl) rfl
theorem e122 : Ent Try.prog 122 := ent_of Try.func122 (by kernel_rfl) rfl
theorem e123 : Ent Try.prog 123 := ent_of Try.func123 (by kernel_rfl) rfl
theorem e124 : Ent Try.prog 124 := ent_of Try.func124 (by kernel_rfl) rfl
theorem e125 : Ent Try.prog 125 := ent_of Try.func125 (by kernel_rfl) rfl
theorem e126 : Ent Try.prog 126 := ent_of Try.func126 (by kernel_rfl) rfl
theorem e127 : Ent Try.prog 127 := ent_of Try.func127 (by kernel_rfl) rfl
theorem e128 : Ent Try.prog 128 := ent_of Try.func128 (by kernel_rfl) rfl
theorem e129 : Ent Try.prog 129 := ent_of Try.func129 (by kernel_rfl) rfl
theorem e130 : Ent Try.prog 130 := ent_of Try.func130 (by kernel_rfl) rfl
theorem e131 : Ent Try.prog 131 := ent_of Try.func131 (by kernel_rfl) rfl
theorem e132 : Ent Try.prog 132 := ent_of Try.func132 (by kernel_rfl) rfl
theorem e133 : Ent Try.prog 133 := ent_of Try.func133 (by kernel_rfl) rfl
theorem e134 : Ent Try.prog 134 := ent_of Try.func134 (by kernel_rfl) rfl
theorem e135 : Ent Try.prog 135 := ent_of Try.func135 (by kernel_rfl) rfl
theorem e136 : Ent Try.prog 136 := ent_of Try.func136 (by kernel_rfl) rfl
theorem e137 : Ent Try.prog 137 := ent_of Try.func137 (by kernel_rfl) rfl
theorem e138 : Ent Try.prog 138 := ent_of Try.func138 (by kernel_rfl) rfl
theorem e139 : Ent Try.prog 139 := ent_of Try.func139 (by kernel_rfl) rfl
theorem e140 : Ent Try.prog 140 := ent_of Try.func140 (by kernel_rfl) rfl
theorem e141 : Ent Try.prog 141 := ent_of Try.func141 (by kernel_rfl) rfl
theorem e142 : Ent Try.prog 142 := ent_of Try.func142 (by kernel_rfl) rfl
theorem e143 : Ent Try.prog 143 := ent_of Try.func143 (by kernel_rfl) rfl
theorem e144 : Ent Try.prog 144 := ent_of Try.func144 (by kernel_rfl) rfl
theorem e145 : Ent Try.prog 145 := ent_of Try.func145 (by kernel_rfl) rfl
theorem e146 : Ent Try.prog 146 := ent_of Try.func146 (by kernel_rfl) rfl
theorem e147 : Ent Try.prog 147 := ent_of Try.func147 (by kernel_rfl) rfl
theorem e148 : Ent Try.prog 148 := ent_of Try.func148 (by kernel_rfl) rfl
theorem e149 : Ent Try.prog 149 := ent_of Try.func149 (by kernel_rfl) rfl
theorem e166 : Ent Try.prog 166 := ent_of Try.func166 (by kernel_rfl) rfl
theorem e167 : Ent Try.prog 167 := ent_of Try.func167 (by kernel_rfl) rfl
theorem e168 : Ent Try.prog 168 := ent_of Try.func168 (by kernel_rfl) rfl
theorem e169 : Ent Try.prog 169 := ent_of Try.func169 (by kernel_rfl) rfl
theorem e170 : Ent Try.prog 170 := ent_of Try.func170 (by kernel_rfl) rfl
theorem e171 : Ent Try.prog 171 := ent_of Try.func171 (by kernel_rfl) rfl
theorem e172 : Ent Try.prog 172 := ent_of Try.func172 (by kernel_rfl) rfl
theorem e173 : Ent Try.prog 173 := ent_of Try.func173 (by kernel_rfl) rfl
theorem e174 : Ent Try.prog 174 := ent_of Try.func174 (by kernel_rfl) rfl
theorem e175 : Ent Try.prog 175 := ent_of Try.func175 (by kernel_rfl) rfl
theorem e176 : Ent Try.prog 176 := ent_of Try.func176 (by kernel_rfl) rfl
end Go.Proofs.Ytfdffeameoejfaa
