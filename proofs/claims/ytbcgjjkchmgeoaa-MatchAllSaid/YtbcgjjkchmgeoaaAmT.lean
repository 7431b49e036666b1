/- The closed facts on the types of this seat, by wip/tools/types.py. -/
import Derived.Test.YtbcgjjkchmgeoaaProg
import Derived.Test.YtbcgjjkchmgeoaaAm19
import Derived.KernelRfl
namespace Go.Am
open Go Go.Proofs
@[simp] theorem scal3 : scal Try.prog 3 = true := by kernel_rfl
@[simp] theorem sz3 : sz Try.prog 3 = 1 := by kernel_rfl
@[simp] theorem byt3 : byt Try.prog 3 = 8 := by kernel_rfl
@[simp] theorem slE3 : slE Try.prog 3 = none := by kernel_rfl
@[simp] theorem arE3 : arE Try.prog 3 = none := by kernel_rfl
@[simp] theorem intOf3 : intOf? Try.prog 3 = some .i64 := by kernel_rfl
@[simp] theorem und3 : Try.prog.underlying 3 = some (.int .i64) := by kernel_rfl
@[simp] theorem isIface3 : isIface Try.prog 3 = false := by kernel_rfl
@[simp] theorem zer3 : zer Try.prog 3 = some [.int .i64 0] := by kernel_rfl
@[simp] theorem scal4 : scal Try.prog 4 = true := by kernel_rfl
@[simp] theorem sz4 : sz Try.prog 4 = 1 := by kernel_rfl
@[simp] theorem byt4 : byt Try.prog 4 = 1 := by kernel_rfl
@[simp] theorem slE4 : slE Try.prog 4 = none := by kernel_rfl
@[simp] theorem arE4 : arE Try.prog 4 = none := by kernel_rfl
@[simp] theorem und4 : Try.prog.underlying 4 = some .bool := by kernel_rfl
@[simp] theorem isIface4 : isIface Try.prog 4 = false := by kernel_rfl
@[simp] theorem zer4 : zer Try.prog 4 = some [.bool false] := by kernel_rfl
@[simp] theorem scal5 : scal Try.prog 5 = true := by kernel_rfl
@[simp] theorem sz5 : sz Try.prog 5 = 1 := by kernel_rfl
@[simp] theorem byt5 : byt Try.prog 5 = 1 := by kernel_rfl
@[simp] theorem slE5 : slE Try.prog 5 = none := by kernel_rfl
@[simp] theorem arE5 : arE Try.prog 5 = none := by kernel_rfl
@[simp] theorem intOf5 : intOf? Try.prog 5 = some .u8 := by kernel_rfl
@[simp] theorem und5 : Try.prog.underlying 5 = some (.int .u8) := by kernel_rfl
@[simp] theorem isIface5 : isIface Try.prog 5 = false := by kernel_rfl
@[simp] theorem zer5 : zer Try.prog 5 = some [.int .u8 0] := by kernel_rfl
@[simp] theorem scal9 : scal Try.prog 9 = true := by kernel_rfl
@[simp] theorem sz9 : sz Try.prog 9 = 1 := by kernel_rfl
@[simp] theorem byt9 : byt Try.prog 9 = 16 := by kernel_rfl
@[simp] theorem slE9 : slE Try.prog 9 = none := by kernel_rfl
@[simp] theorem arE9 : arE Try.prog 9 = none := by kernel_rfl
@[simp] theorem und9 : Try.prog.underlying 9 = some .string := by kernel_rfl
@[simp] theorem isIface9 : isIface Try.prog 9 = false := by kernel_rfl
@[simp] theorem scal20 : scal Try.prog 20 = true := by kernel_rfl
@[simp] theorem sz20 : sz Try.prog 20 = 1 := by kernel_rfl
@[simp] theorem byt20 : byt Try.prog 20 = 16 := by kernel_rfl
@[simp] theorem slE20 : slE Try.prog 20 = none := by kernel_rfl
@[simp] theorem arE20 : arE Try.prog 20 = none := by kernel_rfl
@[simp] theorem isIface20 : isIface Try.prog 20 = true := by kernel_rfl
@[simp] theorem zer20 : zer Try.prog 20 = some [.nilIface] := by kernel_rfl
@[simp] theorem scal22 : scal Try.prog 22 = true := by kernel_rfl
@[simp] theorem sz22 : sz Try.prog 22 = 1 := by kernel_rfl
@[simp] theorem byt22 : byt Try.prog 22 = 24 := by kernel_rfl
@[simp] theorem slE22 : slE Try.prog 22 = some 37 := by kernel_rfl
@[simp] theorem arE22 : arE Try.prog 22 = none := by kernel_rfl
@[simp] theorem isIface22 : isIface Try.prog 22 = false := by kernel_rfl
@[simp] theorem zer22 : zer Try.prog 22 = some [.slice none 0 0] := by kernel_rfl
@[simp] theorem scal24 : scal Try.prog 24 = true := by kernel_rfl
@[simp] theorem sz24 : sz Try.prog 24 = 1 := by kernel_rfl
@[simp] theorem byt24 : byt Try.prog 24 = 24 := by kernel_rfl
@[simp] theorem slE24 : slE Try.prog 24 = some 3 := by kernel_rfl
@[simp] theorem arE24 : arE Try.prog 24 = none := by kernel_rfl
@[simp] theorem isIface24 : isIface Try.prog 24 = false := by kernel_rfl
@[simp] theorem zer24 : zer Try.prog 24 = some [.slice none 0 0] := by kernel_rfl
@[simp] theorem scal25 : scal Try.prog 25 = true := by kernel_rfl
@[simp] theorem sz25 : sz Try.prog 25 = 1 := by kernel_rfl
@[simp] theorem byt25 : byt Try.prog 25 = 8 := by kernel_rfl
@[simp] theorem slE25 : slE Try.prog 25 = none := by kernel_rfl
@[simp] theorem arE25 : arE Try.prog 25 = none := by kernel_rfl
@[simp] theorem intOf25 : intOf? Try.prog 25 = some .i64 := by kernel_rfl
@[simp] theorem und25 : Try.prog.underlying 25 = some (.int .i64) := by kernel_rfl
@[simp] theorem isIface25 : isIface Try.prog 25 = false := by kernel_rfl
@[simp] theorem zer25 : zer Try.prog 25 = some [.int .i64 0] := by kernel_rfl
@[simp] theorem scal26 : scal Try.prog 26 = true := by kernel_rfl
@[simp] theorem sz26 : sz Try.prog 26 = 1 := by kernel_rfl
@[simp] theorem byt26 : byt Try.prog 26 = 0 := by kernel_rfl
@[simp] theorem slE26 : slE Try.prog 26 = none := by kernel_rfl
@[simp] theorem arE26 : arE Try.prog 26 = none := by kernel_rfl
@[simp] theorem isIface26 : isIface Try.prog 26 = false := by kernel_rfl
@[simp] theorem scal28 : scal Try.prog 28 = true := by kernel_rfl
@[simp] theorem sz28 : sz Try.prog 28 = 1 := by kernel_rfl
@[simp] theorem byt28 : byt Try.prog 28 = 24 := by kernel_rfl
@[simp] theorem slE28 : slE Try.prog 28 = some 24 := by kernel_rfl
@[simp] theorem arE28 : arE Try.prog 28 = none := by kernel_rfl
@[simp] theorem isIface28 : isIface Try.prog 28 = false := by kernel_rfl
@[simp] theorem zer28 : zer Try.prog 28 = some [.slice none 0 0] := by kernel_rfl
@[simp] theorem scal29 : scal Try.prog 29 = true := by kernel_rfl
@[simp] theorem sz29 : sz Try.prog 29 = 1 := by kernel_rfl
@[simp] theorem byt29 : byt Try.prog 29 = 0 := by kernel_rfl
@[simp] theorem slE29 : slE Try.prog 29 = none := by kernel_rfl
@[simp] theorem arE29 : arE Try.prog 29 = none := by kernel_rfl
@[simp] theorem isIface29 : isIface Try.prog 29 = false := by kernel_rfl
@[simp] theorem scal35 : scal Try.prog 35 = true := by kernel_rfl
@[simp] theorem sz35 : sz Try.prog 35 = 1 := by kernel_rfl
@[simp] theorem byt35 : byt Try.prog 35 = 8 := by kernel_rfl
@[simp] theorem slE35 : slE Try.prog 35 = none := by kernel_rfl
@[simp] theorem arE35 : arE Try.prog 35 = none := by kernel_rfl
@[simp] theorem isIface35 : isIface Try.prog 35 = false := by kernel_rfl
@[simp] theorem zer35 : zer Try.prog 35 = some [.nilFunc] := by kernel_rfl
@[simp] theorem scal37 : scal Try.prog 37 = false := by kernel_rfl
@[simp] theorem aggr37 : aggr Try.prog 37 = true := by kernel_rfl
@[simp] theorem sz37 : sz Try.prog 37 = 2 := by kernel_rfl
@[simp] theorem byt37 : byt Try.prog 37 = 16 := by kernel_rfl
@[simp] theorem slE37 : slE Try.prog 37 = none := by kernel_rfl
@[simp] theorem arE37 : arE Try.prog 37 = some (2, 3) := by kernel_rfl
@[simp] theorem places37_0 : places Try.prog 37 0 = some (0, 1) := by kernel_rfl
@[simp] theorem places37_1 : places Try.prog 37 1 = some (1, 1) := by kernel_rfl
@[simp] theorem isIface37 : isIface Try.prog 37 = false := by kernel_rfl
@[simp] theorem zer37 : zer Try.prog 37 = some [.int .i64 0, .int .i64 0] := by kernel_rfl
@[simp] theorem scal39 : scal Try.prog 39 = true := by kernel_rfl
@[simp] theorem sz39 : sz Try.prog 39 = 1 := by kernel_rfl
@[simp] theorem byt39 : byt Try.prog 39 = 8 := by kernel_rfl
@[simp] theorem slE39 : slE Try.prog 39 = none := by kernel_rfl
@[simp] theorem arE39 : arE Try.prog 39 = none := by kernel_rfl
@[simp] theorem isIface39 : isIface Try.prog 39 = false := by kernel_rfl
@[simp] theorem zer39 : zer Try.prog 39 = some [.nilFunc] := by kernel_rfl
@[simp] theorem scal41 : scal Try.prog 41 = true := by kernel_rfl
@[simp] theorem sz41 : sz Try.prog 41 = 1 := by kernel_rfl
@[simp] theorem byt41 : byt Try.prog 41 = 0 := by kernel_rfl
@[simp] theorem slE41 : slE Try.prog 41 = none := by kernel_rfl
@[simp] theorem arE41 : arE Try.prog 41 = none := by kernel_rfl
@[simp] theorem isIface41 : isIface Try.prog 41 = false := by kernel_rfl
@[simp] theorem scal49 : scal Try.prog 49 = true := by kernel_rfl
@[simp] theorem sz49 : sz Try.prog 49 = 1 := by kernel_rfl
@[simp] theorem byt49 : byt Try.prog 49 = 0 := by kernel_rfl
@[simp] theorem slE49 : slE Try.prog 49 = none := by kernel_rfl
@[simp] theorem arE49 : arE Try.prog 49 = none := by kernel_rfl
@[simp] theorem isIface49 : isIface Try.prog 49 = false := by kernel_rfl
@[simp] theorem scal51 : scal Try.prog 51 = true := by kernel_rfl
@[simp] theorem sz51 : sz Try.prog 51 = 1 := by kernel_rfl
@[simp] theorem byt51 : byt Try.prog 51 = 0 := by kernel_rfl
@[simp] theorem slE51 : slE Try.prog 51 = none := by kernel_rfl
@[simp] theorem arE51 : arE Try.prog 51 = none := by kernel_rfl
@[simp] theorem isIface51 : isIface Try.prog 51 = false := by kernel_rfl
@[simp] theorem scal62 : scal Try.prog 62 = true := by kernel_rfl
@[simp] theorem sz62 : sz Try.prog 62 = 1 := by kernel_rfl
@[simp] theorem byt62 : byt Try.prog 62 = 8 := by kernel_rfl
@[simp] theorem slE62 : slE Try.prog 62 = none := by kernel_rfl
@[simp] theorem arE62 : arE Try.prog 62 = none := by kernel_rfl
@[simp] theorem und62 : Try.prog.underlying 62 = some (.pointer 67) := by kernel_rfl
@[simp] theorem isIface62 : isIface Try.prog 62 = false := by kernel_rfl
@[simp] theorem zer62 : zer Try.prog 62 = some [.pointer none] := by kernel_rfl
@[simp] theorem scal65 : scal Try.prog 65 = true := by kernel_rfl
@[simp] theorem sz65 : sz Try.prog 65 = 1 := by kernel_rfl
@[simp] theorem byt65 : byt Try.prog 65 = 8 := by kernel_rfl
@[simp] theorem slE65 : slE Try.prog 65 = none := by kernel_rfl
@[simp] theorem arE65 : arE Try.prog 65 = none := by kernel_rfl
@[simp] theorem mapIB65 : mapIB Try.prog 65 = true := by kernel_rfl
@[simp] theorem isIface65 : isIface Try.prog 65 = false := by kernel_rfl
@[simp] theorem zer65 : zer Try.prog 65 = some [.map none] := by kernel_rfl
@[simp] theorem scal67 : scal Try.prog 67 = false := by kernel_rfl
@[simp] theorem aggr67 : aggr Try.prog 67 = true := by kernel_rfl
@[simp] theorem sz67 : sz Try.prog 67 = 2 := by kernel_rfl
@[simp] theorem byt67 : byt Try.prog 67 = 32 := by kernel_rfl
@[simp] theorem slE67 : slE Try.prog 67 = none := by kernel_rfl
@[simp] theorem arE67 : arE Try.prog 67 = none := by kernel_rfl
@[simp] theorem fld67_0 : fld Try.prog 67 0 = some (0, 24) := by kernel_rfl
@[simp] theorem places67_0 : places Try.prog 67 0 = some (0, 1) := by kernel_rfl
@[simp] theorem fld67_1 : fld Try.prog 67 1 = some (1, 3) := by kernel_rfl
@[simp] theorem places67_1 : places Try.prog 67 1 = some (1, 1) := by kernel_rfl
@[simp] theorem isIface67 : isIface Try.prog 67 = false := by kernel_rfl
@[simp] theorem zer67 : zer Try.prog 67 = some [.slice none 0 0, .int .i64 0] := by kernel_rfl
@[simp] theorem scal72 : scal Try.prog 72 = true := by kernel_rfl
@[simp] theorem sz72 : sz Try.prog 72 = 1 := by kernel_rfl
@[simp] theorem byt72 : byt Try.prog 72 = 8 := by kernel_rfl
@[simp] theorem slE72 : slE Try.prog 72 = none := by kernel_rfl
@[simp] theorem arE72 : arE Try.prog 72 = none := by kernel_rfl
@[simp] theorem und72 : Try.prog.underlying 72 = some (.pointer 76) := by kernel_rfl
@[simp] theorem isIface72 : isIface Try.prog 72 = false := by kernel_rfl
@[simp] theorem zer72 : zer Try.prog 72 = some [.pointer none] := by kernel_rfl
@[simp] theorem scal74 : scal Try.prog 74 = true := by kernel_rfl
@[simp] theorem sz74 : sz Try.prog 74 = 1 := by kernel_rfl
@[simp] theorem byt74 : byt Try.prog 74 = 24 := by kernel_rfl
@[simp] theorem slE74 : slE Try.prog 74 = some 4 := by kernel_rfl
@[simp] theorem arE74 : arE Try.prog 74 = none := by kernel_rfl
@[simp] theorem isIface74 : isIface Try.prog 74 = false := by kernel_rfl
@[simp] theorem zer74 : zer Try.prog 74 = some [.slice none 0 0] := by kernel_rfl
@[simp] theorem scal76 : scal Try.prog 76 = false := by kernel_rfl
@[simp] theorem aggr76 : aggr Try.prog 76 = true := by kernel_rfl
@[simp] theorem sz76 : sz Try.prog 76 = 4 := by kernel_rfl
@[simp] theorem byt76 : byt Try.prog 76 = 96 := by kernel_rfl
@[simp] theorem slE76 : slE Try.prog 76 = none := by kernel_rfl
@[simp] theorem arE76 : arE Try.prog 76 = none := by kernel_rfl
@[simp] theorem fld76_0 : fld Try.prog 76 0 = some (0, 28) := by kernel_rfl
@[simp] theorem places76_0 : places Try.prog 76 0 = some (0, 1) := by kernel_rfl
@[simp] theorem fld76_1 : fld Try.prog 76 1 = some (1, 24) := by kernel_rfl
@[simp] theorem places76_1 : places Try.prog 76 1 = some (1, 1) := by kernel_rfl
@[simp] theorem fld76_2 : fld Try.prog 76 2 = some (2, 24) := by kernel_rfl
@[simp] theorem places76_2 : places Try.prog 76 2 = some (2, 1) := by kernel_rfl
@[simp] theorem fld76_3 : fld Try.prog 76 3 = some (3, 74) := by kernel_rfl
@[simp] theorem places76_3 : places Try.prog 76 3 = some (3, 1) := by kernel_rfl
@[simp] theorem isIface76 : isIface Try.prog 76 = false := by kernel_rfl
@[simp] theorem zer76 : zer Try.prog 76 = some [.slice none 0 0, .slice none 0 0, .slice none 0 0, .slice none 0 0] := by kernel_rfl
@[simp] theorem scal77 : scal Try.prog 77 = true := by kernel_rfl
@[simp] theorem sz77 : sz Try.prog 77 = 1 := by kernel_rfl
@[simp] theorem byt77 : byt Try.prog 77 = 8 := by kernel_rfl
@[simp] theorem slE77 : slE Try.prog 77 = none := by kernel_rfl
@[simp] theorem arE77 : arE Try.prog 77 = none := by kernel_rfl
@[simp] theorem isIface77 : isIface Try.prog 77 = false := by kernel_rfl
@[simp] theorem zer77 : zer Try.prog 77 = some [.nilFunc] := by kernel_rfl
@[simp] theorem scal78 : scal Try.prog 78 = true := by kernel_rfl
@[simp] theorem sz78 : sz Try.prog 78 = 1 := by kernel_rfl
@[simp] theorem byt78 : byt Try.prog 78 = 0 := by kernel_rfl
@[simp] theorem slE78 : slE Try.prog 78 = none := by kernel_rfl
@[simp] theorem arE78 : arE Try.prog 78 = none := by kernel_rfl
@[simp] theorem isIface78 : isIface Try.prog 78 = false := by kernel_rfl
@[simp] theorem scal87 : scal Try.prog 87 = true := by kernel_rfl
@[simp] theorem sz87 : sz Try.prog 87 = 1 := by kernel_rfl
@[simp] theorem byt87 : byt Try.prog 87 = 8 := by kernel_rfl
@[simp] theorem slE87 : slE Try.prog 87 = none := by kernel_rfl
@[simp] theorem arE87 : arE Try.prog 87 = none := by kernel_rfl
@[simp] theorem intOf87 : intOf? Try.prog 87 = some .u64 := by kernel_rfl
@[simp] theorem und87 : Try.prog.underlying 87 = some (.int .u64) := by kernel_rfl
@[simp] theorem isIface87 : isIface Try.prog 87 = false := by kernel_rfl
@[simp] theorem zer87 : zer Try.prog 87 = some [.int .u64 0] := by kernel_rfl
@[simp] theorem scal90 : scal Try.prog 90 = true := by kernel_rfl
@[simp] theorem sz90 : sz Try.prog 90 = 1 := by kernel_rfl
@[simp] theorem byt90 : byt Try.prog 90 = 0 := by kernel_rfl
@[simp] theorem slE90 : slE Try.prog 90 = none := by kernel_rfl
@[simp] theorem arE90 : arE Try.prog 90 = none := by kernel_rfl
@[simp] theorem isIface90 : isIface Try.prog 90 = false := by kernel_rfl
@[simp] theorem scal93 : scal Try.prog 93 = true := by kernel_rfl
@[simp] theorem sz93 : sz Try.prog 93 = 1 := by kernel_rfl
@[simp] theorem byt93 : byt Try.prog 93 = 8 := by kernel_rfl
@[simp] theorem slE93 : slE Try.prog 93 = none := by kernel_rfl
@[simp] theorem arE93 : arE Try.prog 93 = none := by kernel_rfl
@[simp] theorem intOf93 : intOf? Try.prog 93 = some .i64 := by kernel_rfl
@[simp] theorem und93 : Try.prog.underlying 93 = some (.int .i64) := by kernel_rfl
@[simp] theorem isIface93 : isIface Try.prog 93 = false := by kernel_rfl
@[simp] theorem zer93 : zer Try.prog 93 = some [.int .i64 0] := by kernel_rfl
@[simp] theorem scal94 : scal Try.prog 94 = true := by kernel_rfl
@[simp] theorem sz94 : sz Try.prog 94 = 1 := by kernel_rfl
@[simp] theorem byt94 : byt Try.prog 94 = 0 := by kernel_rfl
@[simp] theorem slE94 : slE Try.prog 94 = none := by kernel_rfl
@[simp] theorem arE94 : arE Try.prog 94 = none := by kernel_rfl
@[simp] theorem isIface94 : isIface Try.prog 94 = false := by kernel_rfl
@[simp] theorem scal100 : scal Try.prog 100 = true := by kernel_rfl
@[simp] theorem sz100 : sz Try.prog 100 = 1 := by kernel_rfl
@[simp] theorem byt100 : byt Try.prog 100 = 4 := by kernel_rfl
@[simp] theorem slE100 : slE Try.prog 100 = none := by kernel_rfl
@[simp] theorem arE100 : arE Try.prog 100 = none := by kernel_rfl
@[simp] theorem intOf100 : intOf? Try.prog 100 = some .u32 := by kernel_rfl
@[simp] theorem und100 : Try.prog.underlying 100 = some (.int .u32) := by kernel_rfl
@[simp] theorem isIface100 : isIface Try.prog 100 = false := by kernel_rfl
@[simp] theorem zer100 : zer Try.prog 100 = some [.int .u32 0] := by kernel_rfl
@[simp] theorem scal102 : scal Try.prog 102 = true := by kernel_rfl
@[simp] theorem sz102 : sz Try.prog 102 = 1 := by kernel_rfl
@[simp] theorem byt102 : byt Try.prog 102 = 8 := by kernel_rfl
@[simp] theorem slE102 : slE Try.prog 102 = none := by kernel_rfl
@[simp] theorem arE102 : arE Try.prog 102 = none := by kernel_rfl
@[simp] theorem intOf102 : intOf? Try.prog 102 = some .u64 := by kernel_rfl
@[simp] theorem und102 : Try.prog.underlying 102 = some (.int .u64) := by kernel_rfl
@[simp] theorem isIface102 : isIface Try.prog 102 = false := by kernel_rfl
@[simp] theorem zer102 : zer Try.prog 102 = some [.int .u64 0] := by kernel_rfl
@[simp] theorem scal103 : scal Try.prog 103 = true := by kernel_rfl
@[simp] theorem sz103 : sz Try.prog 103 = 1 := by kernel_rfl
@[simp] theorem byt103 : byt Try.prog 103 = 0 := by kernel_rfl
@[simp] theorem slE103 : slE Try.prog 103 = none := by kernel_rfl
@[simp] theorem arE103 : arE Try.prog 103 = none := by kernel_rfl
@[simp] theorem isIface103 : isIface Try.prog 103 = false := by kernel_rfl
@[simp] theorem scal105 : scal Try.prog 105 = true := by kernel_rfl
@[simp] theorem sz105 : sz Try.prog 105 = 1 := by kernel_rfl
@[simp] theorem byt105 : byt Try.prog 105 = 0 := by kernel_rfl
@[simp] theorem slE105 : slE Try.prog 105 = none := by kernel_rfl
@[simp] theorem arE105 : arE Try.prog 105 = none := by kernel_rfl
@[simp] theorem isIface105 : isIface Try.prog 105 = false := by kernel_rfl
@[simp] theorem scal107 : scal Try.prog 107 = true := by kernel_rfl
@[simp] theorem sz107 : sz Try.prog 107 = 1 := by kernel_rfl
@[simp] theorem byt107 : byt Try.prog 107 = 8 := by kernel_rfl
@[simp] theorem slE107 : slE Try.prog 107 = none := by kernel_rfl
@[simp] theorem arE107 : arE Try.prog 107 = none := by kernel_rfl
@[simp] theorem intOf107 : intOf? Try.prog 107 = some .u64 := by kernel_rfl
@[simp] theorem und107 : Try.prog.underlying 107 = some (.int .u64) := by kernel_rfl
@[simp] theorem isIface107 : isIface Try.prog 107 = false := by kernel_rfl
@[simp] theorem zer107 : zer Try.prog 107 = some [.int .u64 0] := by kernel_rfl
@[simp] theorem scal111 : scal Try.prog 111 = true := by kernel_rfl
@[simp] theorem sz111 : sz Try.prog 111 = 1 := by kernel_rfl
@[simp] theorem byt111 : byt Try.prog 111 = 8 := by kernel_rfl
@[simp] theorem slE111 : slE Try.prog 111 = none := by kernel_rfl
@[simp] theorem arE111 : arE Try.prog 111 = none := by kernel_rfl
@[simp] theorem und111 : Try.prog.underlying 111 = some (.pointer 3) := by kernel_rfl
@[simp] theorem isIface111 : isIface Try.prog 111 = false := by kernel_rfl
@[simp] theorem zer111 : zer Try.prog 111 = some [.pointer none] := by kernel_rfl
@[simp] theorem scal113 : scal Try.prog 113 = true := by kernel_rfl
@[simp] theorem sz113 : sz Try.prog 113 = 1 := by kernel_rfl
@[simp] theorem byt113 : byt Try.prog 113 = 8 := by kernel_rfl
@[simp] theorem slE113 : slE Try.prog 113 = none := by kernel_rfl
@[simp] theorem arE113 : arE Try.prog 113 = none := by kernel_rfl
@[simp] theorem und113 : Try.prog.underlying 113 = some (.pointer 107) := by kernel_rfl
@[simp] theorem isIface113 : isIface Try.prog 113 = false := by kernel_rfl
@[simp] theorem zer113 : zer Try.prog 113 = some [.pointer none] := by kernel_rfl
@[simp] theorem scal114 : scal Try.prog 114 = true := by kernel_rfl
@[simp] theorem sz114 : sz Try.prog 114 = 1 := by kernel_rfl
@[simp] theorem byt114 : byt Try.prog 114 = 0 := by kernel_rfl
@[simp] theorem slE114 : slE Try.prog 114 = none := by kernel_rfl
@[simp] theorem arE114 : arE Try.prog 114 = none := by kernel_rfl
@[simp] theorem isIface114 : isIface Try.prog 114 = false := by kernel_rfl
theorem mixed : Try.prog.follows .mixedOrders = true := by kernel_rfl
end Go.Am
