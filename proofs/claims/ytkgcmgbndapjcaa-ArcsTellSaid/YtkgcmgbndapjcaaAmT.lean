/- The closed facts on the types of this seat, by wip/tools/types.py. -/
import Derived.Test.YtkgcmgbndapjcaaProg
import Derived.Test.YtkgcmgbndapjcaaA3
import Derived.KernelRfl
namespace Go.Am
open Go Go.Proofs
@[simp] theorem scal3 : scal Try.prog 3 = true := by kernel_rfl
@[simp] theorem sz3 : sz Try.prog 3 = 1 := by kernel_rfl
@[simp] theorem byt3 : byt Try.prog 3 = 8 := by kernel_rfl
@[simp] theorem slE3 : slE Try.prog 3 = none := by kernel_rfl
@[simp] theorem arE3 : arE Try.prog 3 = none := by kernel_rfl
@[simp] theorem intOf3 : intOf? Try.prog 3 = some .i64 := by kernel_rfl
@[simp] theorem und3 : Try.prog.underlying 3 = some (.int .i64) := by kernel_rfl
@[simp] theorem isIface3 : isIface Try.prog 3 = false := by kernel_rfl
@[simp] theorem zer3 : zer Try.prog 3 = some [.int .i64 0] := by kernel_rfl
@[simp] theorem scal4 : scal Try.prog 4 = true := by kernel_rfl
@[simp] theorem sz4 : sz Try.prog 4 = 1 := by kernel_rfl
@[simp] theorem byt4 : byt Try.prog 4 = 1 := by kernel_rfl
@[simp] theorem slE4 : slE Try.prog 4 = none := by kernel_rfl
@[simp] theorem arE4 : arE Try.prog 4 = none := by kernel_rfl
@[simp] theorem und4 : Try.prog.underlying 4 = some .bool := by kernel_rfl
@[simp] theorem isIface4 : isIface Try.prog 4 = false := by kernel_rfl
@[simp] theorem zer4 : zer Try.prog 4 = some [.bool false] := by kernel_rfl
@[simp] theorem scal5 : scal Try.prog 5 = true := by kernel_rfl
@[simp] theorem sz5 : sz Try.prog 5 = 1 := by kernel_rfl
@[simp] theorem byt5 : byt Try.prog 5 = 1 := by kernel_rfl
@[simp] theorem slE5 : slE Try.prog 5 = none := by kernel_rfl
@[simp] theorem arE5 : arE Try.prog 5 = none := by kernel_rfl
@[simp] theorem intOf5 : intOf? Try.prog 5 = some .u8 := by kernel_rfl
@[simp] theorem und5 : Try.prog.underlying 5 = some (.int .u8) := by kernel_rfl
@[simp] theorem isIface5 : isIface Try.prog 5 = false := by kernel_rfl
@[simp] theorem zer5 : zer Try.prog 5 = some [.int .u8 0] := by kernel_rfl
@[simp] theorem scal9 : scal Try.prog 9 = true := by kernel_rfl
@[simp] theorem sz9 : sz Try.prog 9 = 1 := by kernel_rfl
@[simp] theorem byt9 : byt Try.prog 9 = 16 := by kernel_rfl
@[simp] theorem slE9 : slE Try.prog 9 = none := by kernel_rfl
@[simp] theorem arE9 : arE Try.prog 9 = none := by kernel_rfl
@[simp] theorem und9 : Try.prog.underlying 9 = some .string := by kernel_rfl
@[simp] theorem isIface9 : isIface Try.prog 9 = false := by kernel_rfl
@[simp] theorem scal20 : scal Try.prog 20 = true := by kernel_rfl
@[simp] theorem sz20 : sz Try.prog 20 = 1 := by kernel_rfl
@[simp] theorem byt20 : byt Try.prog 20 = 16 := by kernel_rfl
@[simp] theorem slE20 : slE Try.prog 20 = none := by kernel_rfl
@[simp] theorem arE20 : arE Try.prog 20 = none := by kernel_rfl
@[simp] theorem isIface20 : isIface Try.prog 20 = true := by kernel_rfl
@[simp] theorem zer20 : zer Try.prog 20 = some [.nilIface] := by kernel_rfl
@[simp] theorem scal22 : scal Try.prog 22 = true := by kernel_rfl
@[simp] theorem sz22 : sz Try.prog 22 = 1 := by kernel_rfl
@[simp] theorem byt22 : byt Try.prog 22 = 24 := by kernel_rfl
@[simp] theorem slE22 : slE Try.prog 22 = some 44 := by kernel_rfl
@[simp] theorem arE22 : arE Try.prog 22 = none := by kernel_rfl
@[simp] theorem isIface22 : isIface Try.prog 22 = false := by kernel_rfl
@[simp] theorem zer22 : zer Try.prog 22 = some [.slice none 0 0] := by kernel_rfl
@[simp] theorem scal24 : scal Try.prog 24 = false := by kernel_rfl
@[simp] theorem aggr24 : aggr Try.prog 24 = true := by kernel_rfl
@[simp] theorem sz24 : sz Try.prog 24 = 4 := by kernel_rfl
@[simp] theorem byt24 : byt Try.prog 24 = 48 := by kernel_rfl
@[simp] theorem slE24 : slE Try.prog 24 = none := by kernel_rfl
@[simp] theorem arE24 : arE Try.prog 24 = none := by kernel_rfl
@[simp] theorem fld24_0 : fld Try.prog 24 0 = some (0, 3) := by kernel_rfl
@[simp] theorem places24_0 : places Try.prog 24 0 = some (0, 1) := by kernel_rfl
@[simp] theorem fld24_1 : fld Try.prog 24 1 = some (1, 22) := by kernel_rfl
@[simp] theorem places24_1 : places Try.prog 24 1 = some (1, 1) := by kernel_rfl
@[simp] theorem fld24_2 : fld Try.prog 24 2 = some (2, 3) := by kernel_rfl
@[simp] theorem places24_2 : places Try.prog 24 2 = some (2, 1) := by kernel_rfl
@[simp] theorem fld24_3 : fld Try.prog 24 3 = some (3, 3) := by kernel_rfl
@[simp] theorem places24_3 : places Try.prog 24 3 = some (3, 1) := by kernel_rfl
@[simp] theorem isIface24 : isIface Try.prog 24 = false := by kernel_rfl
@[simp] theorem zer24 : zer Try.prog 24 = some [.int .i64 0, .slice none 0 0, .int .i64 0, .int .i64 0] := by kernel_rfl
@[simp] theorem scal26 : scal Try.prog 26 = true := by kernel_rfl
@[simp] theorem sz26 : sz Try.prog 26 = 1 := by kernel_rfl
@[simp] theorem byt26 : byt Try.prog 26 = 24 := by kernel_rfl
@[simp] theorem slE26 : slE Try.prog 26 = some 27 := by kernel_rfl
@[simp] theorem arE26 : arE Try.prog 26 = none := by kernel_rfl
@[simp] theorem isIface26 : isIface Try.prog 26 = false := by kernel_rfl
@[simp] theorem zer26 : zer Try.prog 26 = some [.slice none 0 0] := by kernel_rfl
@[simp] theorem scal27 : scal Try.prog 27 = true := by kernel_rfl
@[simp] theorem sz27 : sz Try.prog 27 = 1 := by kernel_rfl
@[simp] theorem byt27 : byt Try.prog 27 = 24 := by kernel_rfl
@[simp] theorem slE27 : slE Try.prog 27 = some 3 := by kernel_rfl
@[simp] theorem arE27 : arE Try.prog 27 = none := by kernel_rfl
@[simp] theorem isIface27 : isIface Try.prog 27 = false := by kernel_rfl
@[simp] theorem zer27 : zer Try.prog 27 = some [.slice none 0 0] := by kernel_rfl
@[simp] theorem scal28 : scal Try.prog 28 = true := by kernel_rfl
@[simp] theorem sz28 : sz Try.prog 28 = 1 := by kernel_rfl
@[simp] theorem byt28 : byt Try.prog 28 = 8 := by kernel_rfl
@[simp] theorem slE28 : slE Try.prog 28 = none := by kernel_rfl
@[simp] theorem arE28 : arE Try.prog 28 = none := by kernel_rfl
@[simp] theorem intOf28 : intOf? Try.prog 28 = some .i64 := by kernel_rfl
@[simp] theorem und28 : Try.prog.underlying 28 = some (.int .i64) := by kernel_rfl
@[simp] theorem isIface28 : isIface Try.prog 28 = false := by kernel_rfl
@[simp] theorem zer28 : zer Try.prog 28 = some [.int .i64 0] := by kernel_rfl
@[simp] theorem scal29 : scal Try.prog 29 = true := by kernel_rfl
@[simp] theorem sz29 : sz Try.prog 29 = 1 := by kernel_rfl
@[simp] theorem byt29 : byt Try.prog 29 = 0 := by kernel_rfl
@[simp] theorem slE29 : slE Try.prog 29 = none := by kernel_rfl
@[simp] theorem arE29 : arE Try.prog 29 = none := by kernel_rfl
@[simp] theorem isIface29 : isIface Try.prog 29 = false := by kernel_rfl
@[simp] theorem scal31 : scal Try.prog 31 = true := by kernel_rfl
@[simp] theorem sz31 : sz Try.prog 31 = 1 := by kernel_rfl
@[simp] theorem byt31 : byt Try.prog 31 = 0 := by kernel_rfl
@[simp] theorem slE31 : slE Try.prog 31 = none := by kernel_rfl
@[simp] theorem arE31 : arE Try.prog 31 = none := by kernel_rfl
@[simp] theorem isIface31 : isIface Try.prog 31 = false := by kernel_rfl
@[simp] theorem scal44 : scal Try.prog 44 = false := by kernel_rfl
@[simp] theorem aggr44 : aggr Try.prog 44 = true := by kernel_rfl
@[simp] theorem sz44 : sz Try.prog 44 = 2 := by kernel_rfl
@[simp] theorem byt44 : byt Try.prog 44 = 16 := by kernel_rfl
@[simp] theorem slE44 : slE Try.prog 44 = none := by kernel_rfl
@[simp] theorem arE44 : arE Try.prog 44 = some (2, 3) := by kernel_rfl
@[simp] theorem places44_0 : places Try.prog 44 0 = some (0, 1) := by kernel_rfl
@[simp] theorem places44_1 : places Try.prog 44 1 = some (1, 1) := by kernel_rfl
@[simp] theorem isIface44 : isIface Try.prog 44 = false := by kernel_rfl
@[simp] theorem zer44 : zer Try.prog 44 = some [.int .i64 0, .int .i64 0] := by kernel_rfl
@[simp] theorem scal47 : scal Try.prog 47 = false := by kernel_rfl
@[simp] theorem aggr47 : aggr Try.prog 47 = true := by kernel_rfl
@[simp] theorem sz47 : sz Try.prog 47 = 4 := by kernel_rfl
@[simp] theorem byt47 : byt Try.prog 47 = 64 := by kernel_rfl
@[simp] theorem slE47 : slE Try.prog 47 = none := by kernel_rfl
@[simp] theorem arE47 : arE Try.prog 47 = none := by kernel_rfl
@[simp] theorem fld47_0 : fld Try.prog 47 0 = some (0, 3) := by kernel_rfl
@[simp] theorem places47_0 : places Try.prog 47 0 = some (0, 1) := by kernel_rfl
@[simp] theorem fld47_1 : fld Try.prog 47 1 = some (1, 22) := by kernel_rfl
@[simp] theorem places47_1 : places Try.prog 47 1 = some (1, 1) := by kernel_rfl
@[simp] theorem fld47_2 : fld Try.prog 47 2 = some (2, 27) := by kernel_rfl
@[simp] theorem places47_2 : places Try.prog 47 2 = some (2, 1) := by kernel_rfl
@[simp] theorem fld47_3 : fld Try.prog 47 3 = some (3, 3) := by kernel_rfl
@[simp] theorem places47_3 : places Try.prog 47 3 = some (3, 1) := by kernel_rfl
@[simp] theorem isIface47 : isIface Try.prog 47 = false := by kernel_rfl
@[simp] theorem zer47 : zer Try.prog 47 = some [.int .i64 0, .slice none 0 0, .slice none 0 0, .int .i64 0] := by kernel_rfl
@[simp] theorem scal48 : scal Try.prog 48 = true := by kernel_rfl
@[simp] theorem sz48 : sz Try.prog 48 = 1 := by kernel_rfl
@[simp] theorem byt48 : byt Try.prog 48 = 24 := by kernel_rfl
@[simp] theorem slE48 : slE Try.prog 48 = some 52 := by kernel_rfl
@[simp] theorem arE48 : arE Try.prog 48 = none := by kernel_rfl
@[simp] theorem isIface48 : isIface Try.prog 48 = false := by kernel_rfl
@[simp] theorem zer48 : zer Try.prog 48 = some [.slice none 0 0] := by kernel_rfl
@[simp] theorem scal49 : scal Try.prog 49 = true := by kernel_rfl
@[simp] theorem sz49 : sz Try.prog 49 = 1 := by kernel_rfl
@[simp] theorem byt49 : byt Try.prog 49 = 0 := by kernel_rfl
@[simp] theorem slE49 : slE Try.prog 49 = none := by kernel_rfl
@[simp] theorem arE49 : arE Try.prog 49 = none := by kernel_rfl
@[simp] theorem isIface49 : isIface Try.prog 49 = false := by kernel_rfl
@[simp] theorem scal52 : scal Try.prog 52 = false := by kernel_rfl
@[simp] theorem aggr52 : aggr Try.prog 52 = true := by kernel_rfl
@[simp] theorem sz52 : sz Try.prog 52 = 2 := by kernel_rfl
@[simp] theorem byt52 : byt Try.prog 52 = 32 := by kernel_rfl
@[simp] theorem slE52 : slE Try.prog 52 = none := by kernel_rfl
@[simp] theorem arE52 : arE Try.prog 52 = none := by kernel_rfl
@[simp] theorem fld52_0 : fld Try.prog 52 0 = some (0, 27) := by kernel_rfl
@[simp] theorem places52_0 : places Try.prog 52 0 = some (0, 1) := by kernel_rfl
@[simp] theorem fld52_1 : fld Try.prog 52 1 = some (1, 3) := by kernel_rfl
@[simp] theorem places52_1 : places Try.prog 52 1 = some (1, 1) := by kernel_rfl
@[simp] theorem isIface52 : isIface Try.prog 52 = false := by kernel_rfl
@[simp] theorem zer52 : zer Try.prog 52 = some [.slice none 0 0, .int .i64 0] := by kernel_rfl
@[simp] theorem scal60 : scal Try.prog 60 = true := by kernel_rfl
@[simp] theorem sz60 : sz Try.prog 60 = 1 := by kernel_rfl
@[simp] theorem byt60 : byt Try.prog 60 = 24 := by kernel_rfl
@[simp] theorem slE60 : slE Try.prog 60 = some 4 := by kernel_rfl
@[simp] theorem arE60 : arE Try.prog 60 = none := by kernel_rfl
@[simp] theorem isIface60 : isIface Try.prog 60 = false := by kernel_rfl
@[simp] theorem zer60 : zer Try.prog 60 = some [.slice none 0 0] := by kernel_rfl
@[simp] theorem scal63 : scal Try.prog 63 = true := by kernel_rfl
@[simp] theorem sz63 : sz Try.prog 63 = 1 := by kernel_rfl
@[simp] theorem byt63 : byt Try.prog 63 = 0 := by kernel_rfl
@[simp] theorem slE63 : slE Try.prog 63 = none := by kernel_rfl
@[simp] theorem arE63 : arE Try.prog 63 = none := by kernel_rfl
@[simp] theorem isIface63 : isIface Try.prog 63 = false := by kernel_rfl
@[simp] theorem scal65 : scal Try.prog 65 = true := by kernel_rfl
@[simp] theorem sz65 : sz Try.prog 65 = 1 := by kernel_rfl
@[simp] theorem byt65 : byt Try.prog 65 = 0 := by kernel_rfl
@[simp] theorem slE65 : slE Try.prog 65 = none := by kernel_rfl
@[simp] theorem arE65 : arE Try.prog 65 = none := by kernel_rfl
@[simp] theorem isIface65 : isIface Try.prog 65 = false := by kernel_rfl
@[simp] theorem scal67 : scal Try.prog 67 = true := by kernel_rfl
@[simp] theorem sz67 : sz Try.prog 67 = 1 := by kernel_rfl
@[simp] theorem byt67 : byt Try.prog 67 = 8 := by kernel_rfl
@[simp] theorem slE67 : slE Try.prog 67 = none := by kernel_rfl
@[simp] theorem arE67 : arE Try.prog 67 = none := by kernel_rfl
@[simp] theorem isIface67 : isIface Try.prog 67 = false := by kernel_rfl
@[simp] theorem zer67 : zer Try.prog 67 = some [.nilFunc] := by kernel_rfl
@[simp] theorem scal71 : scal Try.prog 71 = true := by kernel_rfl
@[simp] theorem sz71 : sz Try.prog 71 = 1 := by kernel_rfl
@[simp] theorem byt71 : byt Try.prog 71 = 8 := by kernel_rfl
@[simp] theorem slE71 : slE Try.prog 71 = none := by kernel_rfl
@[simp] theorem arE71 : arE Try.prog 71 = none := by kernel_rfl
@[simp] theorem und71 : Try.prog.underlying 71 = some (.pointer 73) := by kernel_rfl
@[simp] theorem isIface71 : isIface Try.prog 71 = false := by kernel_rfl
@[simp] theorem zer71 : zer Try.prog 71 = some [.pointer none] := by kernel_rfl
@[simp] theorem scal73 : scal Try.prog 73 = false := by kernel_rfl
@[simp] theorem aggr73 : aggr Try.prog 73 = true := by kernel_rfl
@[simp] theorem sz73 : sz Try.prog 73 = 6 := by kernel_rfl
@[simp] theorem byt73 : byt Try.prog 73 = 112 := by kernel_rfl
@[simp] theorem slE73 : slE Try.prog 73 = none := by kernel_rfl
@[simp] theorem arE73 : arE Try.prog 73 = none := by kernel_rfl
@[simp] theorem fld73_0 : fld Try.prog 73 0 = some (0, 3) := by kernel_rfl
@[simp] theorem places73_0 : places Try.prog 73 0 = some (0, 1) := by kernel_rfl
@[simp] theorem fld73_1 : fld Try.prog 73 1 = some (1, 22) := by kernel_rfl
@[simp] theorem places73_1 : places Try.prog 73 1 = some (1, 1) := by kernel_rfl
@[simp] theorem fld73_2 : fld Try.prog 73 2 = some (2, 27) := by kernel_rfl
@[simp] theorem places73_2 : places Try.prog 73 2 = some (2, 1) := by kernel_rfl
@[simp] theorem fld73_3 : fld Try.prog 73 3 = some (3, 3) := by kernel_rfl
@[simp] theorem places73_3 : places Try.prog 73 3 = some (3, 1) := by kernel_rfl
@[simp] theorem fld73_4 : fld Try.prog 73 4 = some (4, 27) := by kernel_rfl
@[simp] theorem places73_4 : places Try.prog 73 4 = some (4, 1) := by kernel_rfl
@[simp] theorem fld73_5 : fld Try.prog 73 5 = some (5, 48) := by kernel_rfl
@[simp] theorem places73_5 : places Try.prog 73 5 = some (5, 1) := by kernel_rfl
@[simp] theorem isIface73 : isIface Try.prog 73 = false := by kernel_rfl
@[simp] theorem zer73 : zer Try.prog 73 = some [.int .i64 0, .slice none 0 0, .slice none 0 0, .int .i64 0, .slice none 0 0, .slice none 0 0] := by kernel_rfl
@[simp] theorem scal74 : scal Try.prog 74 = true := by kernel_rfl
@[simp] theorem sz74 : sz Try.prog 74 = 1 := by kernel_rfl
@[simp] theorem byt74 : byt Try.prog 74 = 0 := by kernel_rfl
@[simp] theorem slE74 : slE Try.prog 74 = none := by kernel_rfl
@[simp] theorem arE74 : arE Try.prog 74 = none := by kernel_rfl
@[simp] theorem isIface74 : isIface Try.prog 74 = false := by kernel_rfl
@[simp] theorem scal80 : scal Try.prog 80 = true := by kernel_rfl
@[simp] theorem sz80 : sz Try.prog 80 = 1 := by kernel_rfl
@[simp] theorem byt80 : byt Try.prog 80 = 8 := by kernel_rfl
@[simp] theorem slE80 : slE Try.prog 80 = none := by kernel_rfl
@[simp] theorem arE80 : arE Try.prog 80 = none := by kernel_rfl
@[simp] theorem und80 : Try.prog.underlying 80 = some (.pointer 82) := by kernel_rfl
@[simp] theorem isIface80 : isIface Try.prog 80 = false := by kernel_rfl
@[simp] theorem zer80 : zer Try.prog 80 = some [.pointer none] := by kernel_rfl
@[simp] theorem scal82 : scal Try.prog 82 = false := by kernel_rfl
@[simp] theorem aggr82 : aggr Try.prog 82 = true := by kernel_rfl
@[simp] theorem sz82 : sz Try.prog 82 = 4 := by kernel_rfl
@[simp] theorem byt82 : byt Try.prog 82 = 80 := by kernel_rfl
@[simp] theorem slE82 : slE Try.prog 82 = none := by kernel_rfl
@[simp] theorem arE82 : arE Try.prog 82 = none := by kernel_rfl
@[simp] theorem fld82_0 : fld Try.prog 82 0 = some (0, 3) := by kernel_rfl
@[simp] theorem places82_0 : places Try.prog 82 0 = some (0, 1) := by kernel_rfl
@[simp] theorem fld82_1 : fld Try.prog 82 1 = some (1, 22) := by kernel_rfl
@[simp] theorem places82_1 : places Try.prog 82 1 = some (1, 1) := by kernel_rfl
@[simp] theorem fld82_2 : fld Try.prog 82 2 = some (2, 60) := by kernel_rfl
@[simp] theorem places82_2 : places Try.prog 82 2 = some (2, 1) := by kernel_rfl
@[simp] theorem fld82_3 : fld Try.prog 82 3 = some (3, 60) := by kernel_rfl
@[simp] theorem places82_3 : places Try.prog 82 3 = some (3, 1) := by kernel_rfl
@[simp] theorem isIface82 : isIface Try.prog 82 = false := by kernel_rfl
@[simp] theorem zer82 : zer Try.prog 82 = some [.int .i64 0, .slice none 0 0, .slice none 0 0, .slice none 0 0] := by kernel_rfl
@[simp] theorem scal83 : scal Try.prog 83 = true := by kernel_rfl
@[simp] theorem sz83 : sz Try.prog 83 = 1 := by kernel_rfl
@[simp] theorem byt83 : byt Try.prog 83 = 0 := by kernel_rfl
@[simp] theorem slE83 : slE Try.prog 83 = none := by kernel_rfl
@[simp] theorem arE83 : arE Try.prog 83 = none := by kernel_rfl
@[simp] theorem isIface83 : isIface Try.prog 83 = false := by kernel_rfl
@[simp] theorem scal90 : scal Try.prog 90 = true := by kernel_rfl
@[simp] theorem sz90 : sz Try.prog 90 = 1 := by kernel_rfl
@[simp] theorem byt90 : byt Try.prog 90 = 8 := by kernel_rfl
@[simp] theorem slE90 : slE Try.prog 90 = none := by kernel_rfl
@[simp] theorem arE90 : arE Try.prog 90 = none := by kernel_rfl
@[simp] theorem isIface90 : isIface Try.prog 90 = false := by kernel_rfl
@[simp] theorem zer90 : zer Try.prog 90 = some [.nilFunc] := by kernel_rfl
@[simp] theorem scal91 : scal Try.prog 91 = true := by kernel_rfl
@[simp] theorem sz91 : sz Try.prog 91 = 1 := by kernel_rfl
@[simp] theorem byt91 : byt Try.prog 91 = 8 := by kernel_rfl
@[simp] theorem slE91 : slE Try.prog 91 = none := by kernel_rfl
@[simp] theorem arE91 : arE Try.prog 91 = none := by kernel_rfl
@[simp] theorem und91 : Try.prog.underlying 91 = some (.pointer 109) := by kernel_rfl
@[simp] theorem isIface91 : isIface Try.prog 91 = false := by kernel_rfl
@[simp] theorem zer91 : zer Try.prog 91 = some [.pointer none] := by kernel_rfl
@[simp] theorem scal94 : scal Try.prog 94 = true := by kernel_rfl
@[simp] theorem sz94 : sz Try.prog 94 = 1 := by kernel_rfl
@[simp] theorem byt94 : byt Try.prog 94 = 8 := by kernel_rfl
@[simp] theorem slE94 : slE Try.prog 94 = none := by kernel_rfl
@[simp] theorem arE94 : arE Try.prog 94 = none := by kernel_rfl
@[simp] theorem isIface94 : isIface Try.prog 94 = false := by kernel_rfl
@[simp] theorem zer94 : zer Try.prog 94 = some [.nilFunc] := by kernel_rfl
@[simp] theorem scal95 : scal Try.prog 95 = true := by kernel_rfl
@[simp] theorem sz95 : sz Try.prog 95 = 1 := by kernel_rfl
@[simp] theorem byt95 : byt Try.prog 95 = 0 := by kernel_rfl
@[simp] theorem slE95 : slE Try.prog 95 = none := by kernel_rfl
@[simp] theorem arE95 : arE Try.prog 95 = none := by kernel_rfl
@[simp] theorem isIface95 : isIface Try.prog 95 = false := by kernel_rfl
@[simp] theorem scal99 : scal Try.prog 99 = true := by kernel_rfl
@[simp] theorem sz99 : sz Try.prog 99 = 1 := by kernel_rfl
@[simp] theorem byt99 : byt Try.prog 99 = 8 := by kernel_rfl
@[simp] theorem slE99 : slE Try.prog 99 = none := by kernel_rfl
@[simp] theorem arE99 : arE Try.prog 99 = none := by kernel_rfl
@[simp] theorem intOf99 : intOf? Try.prog 99 = some .u64 := by kernel_rfl
@[simp] theorem und99 : Try.prog.underlying 99 = some (.int .u64) := by kernel_rfl
@[simp] theorem isIface99 : isIface Try.prog 99 = false := by kernel_rfl
@[simp] theorem zer99 : zer Try.prog 99 = some [.int .u64 0] := by kernel_rfl
@[simp] theorem scal104 : scal Try.prog 104 = true := by kernel_rfl
@[simp] theorem sz104 : sz Try.prog 104 = 1 := by kernel_rfl
@[simp] theorem byt104 : byt Try.prog 104 = 0 := by kernel_rfl
@[simp] theorem slE104 : slE Try.prog 104 = none := by kernel_rfl
@[simp] theorem arE104 : arE Try.prog 104 = none := by kernel_rfl
@[simp] theorem isIface104 : isIface Try.prog 104 = false := by kernel_rfl
@[simp] theorem scal107 : scal Try.prog 107 = true := by kernel_rfl
@[simp] theorem sz107 : sz Try.prog 107 = 1 := by kernel_rfl
@[simp] theorem byt107 : byt Try.prog 107 = 24 := by kernel_rfl
@[simp] theorem slE107 : slE Try.prog 107 = some 113 := by kernel_rfl
@[simp] theorem arE107 : arE Try.prog 107 = none := by kernel_rfl
@[simp] theorem isIface107 : isIface Try.prog 107 = false := by kernel_rfl
@[simp] theorem zer107 : zer Try.prog 107 = some [.slice none 0 0] := by kernel_rfl
@[simp] theorem scal109 : scal Try.prog 109 = false := by kernel_rfl
@[simp] theorem aggr109 : aggr Try.prog 109 = true := by kernel_rfl
@[simp] theorem sz109 : sz Try.prog 109 = 1 := by kernel_rfl
@[simp] theorem byt109 : byt Try.prog 109 = 24 := by kernel_rfl
@[simp] theorem slE109 : slE Try.prog 109 = none := by kernel_rfl
@[simp] theorem arE109 : arE Try.prog 109 = none := by kernel_rfl
@[simp] theorem fld109_0 : fld Try.prog 109 0 = some (0, 107) := by kernel_rfl
@[simp] theorem places109_0 : places Try.prog 109 0 = some (0, 1) := by kernel_rfl
@[simp] theorem isIface109 : isIface Try.prog 109 = false := by kernel_rfl
@[simp] theorem zer109 : zer Try.prog 109 = some [.slice none 0 0] := by kernel_rfl
@[simp] theorem scal111 : scal Try.prog 111 = true := by kernel_rfl
@[simp] theorem sz111 : sz Try.prog 111 = 1 := by kernel_rfl
@[simp] theorem byt111 : byt Try.prog 111 = 8 := by kernel_rfl
@[simp] theorem slE111 : slE Try.prog 111 = none := by kernel_rfl
@[simp] theorem arE111 : arE Try.prog 111 = none := by kernel_rfl
@[simp] theorem und111 : Try.prog.underlying 111 = some (.pointer 107) := by kernel_rfl
@[simp] theorem isIface111 : isIface Try.prog 111 = false := by kernel_rfl
@[simp] theorem zer111 : zer Try.prog 111 = some [.pointer none] := by kernel_rfl
@[simp] theorem scal113 : scal Try.prog 113 = false := by kernel_rfl
@[simp] theorem aggr113 : aggr Try.prog 113 = true := by kernel_rfl
@[simp] theorem sz113 : sz Try.prog 113 = 2 := by kernel_rfl
@[simp] theorem byt113 : byt Try.prog 113 = 16 := by kernel_rfl
@[simp] theorem slE113 : slE Try.prog 113 = none := by kernel_rfl
@[simp] theorem arE113 : arE Try.prog 113 = none := by kernel_rfl
@[simp] theorem fld113_0 : fld Try.prog 113 0 = some (0, 3) := by kernel_rfl
@[simp] theorem places113_0 : places Try.prog 113 0 = some (0, 1) := by kernel_rfl
@[simp] theorem fld113_1 : fld Try.prog 113 1 = some (1, 3) := by kernel_rfl
@[simp] theorem places113_1 : places Try.prog 113 1 = some (1, 1) := by kernel_rfl
@[simp] theorem isIface113 : isIface Try.prog 113 = false := by kernel_rfl
@[simp] theorem zer113 : zer Try.prog 113 = some [.int .i64 0, .int .i64 0] := by kernel_rfl
@[simp] theorem scal117 : scal Try.prog 117 = true := by kernel_rfl
@[simp] theorem sz117 : sz Try.prog 117 = 1 := by kernel_rfl
@[simp] theorem byt117 : byt Try.prog 117 = 8 := by kernel_rfl
@[simp] theorem slE117 : slE Try.prog 117 = none := by kernel_rfl
@[simp] theorem arE117 : arE Try.prog 117 = none := by kernel_rfl
@[simp] theorem intOf117 : intOf? Try.prog 117 = some .i64 := by kernel_rfl
@[simp] theorem und117 : Try.prog.underlying 117 = some (.int .i64) := by kernel_rfl
@[simp] theorem isIface117 : isIface Try.prog 117 = false := by kernel_rfl
@[simp] theorem zer117 : zer Try.prog 117 = some [.int .i64 0] := by kernel_rfl
@[simp] theorem scal118 : scal Try.prog 118 = true := by kernel_rfl
@[simp] theorem sz118 : sz Try.prog 118 = 1 := by kernel_rfl
@[simp] theorem byt118 : byt Try.prog 118 = 0 := by kernel_rfl
@[simp] theorem slE118 : slE Try.prog 118 = none := by kernel_rfl
@[simp] theorem arE118 : arE Try.prog 118 = none := by kernel_rfl
@[simp] theorem isIface118 : isIface Try.prog 118 = false := by kernel_rfl
@[simp] theorem scal125 : scal Try.prog 125 = true := by kernel_rfl
@[simp] theorem sz125 : sz Try.prog 125 = 1 := by kernel_rfl
@[simp] theorem byt125 : byt Try.prog 125 = 4 := by kernel_rfl
@[simp] theorem slE125 : slE Try.prog 125 = none := by kernel_rfl
@[simp] theorem arE125 : arE Try.prog 125 = none := by kernel_rfl
@[simp] theorem intOf125 : intOf? Try.prog 125 = some .u32 := by kernel_rfl
@[simp] theorem und125 : Try.prog.underlying 125 = some (.int .u32) := by kernel_rfl
@[simp] theorem isIface125 : isIface Try.prog 125 = false := by kernel_rfl
@[simp] theorem zer125 : zer Try.prog 125 = some [.int .u32 0] := by kernel_rfl
@[simp] theorem scal127 : scal Try.prog 127 = true := by kernel_rfl
@[simp] theorem sz127 : sz Try.prog 127 = 1 := by kernel_rfl
@[simp] theorem byt127 : byt Try.prog 127 = 8 := by kernel_rfl
@[simp] theorem slE127 : slE Try.prog 127 = none := by kernel_rfl
@[simp] theorem arE127 : arE Try.prog 127 = none := by kernel_rfl
@[simp] theorem intOf127 : intOf? Try.prog 127 = some .u64 := by kernel_rfl
@[simp] theorem und127 : Try.prog.underlying 127 = some (.int .u64) := by kernel_rfl
@[simp] theorem isIface127 : isIface Try.prog 127 = false := by kernel_rfl
@[simp] theorem zer127 : zer Try.prog 127 = some [.int .u64 0] := by kernel_rfl
@[simp] theorem scal128 : scal Try.prog 128 = true := by kernel_rfl
@[simp] theorem sz128 : sz Try.prog 128 = 1 := by kernel_rfl
@[simp] theorem byt128 : byt Try.prog 128 = 0 := by kernel_rfl
@[simp] theorem slE128 : slE Try.prog 128 = none := by kernel_rfl
@[simp] theorem arE128 : arE Try.prog 128 = none := by kernel_rfl
@[simp] theorem isIface128 : isIface Try.prog 128 = false := by kernel_rfl
@[simp] theorem scal132 : scal Try.prog 132 = true := by kernel_rfl
@[simp] theorem sz132 : sz Try.prog 132 = 1 := by kernel_rfl
@[simp] theorem byt132 : byt Try.prog 132 = 16 := by kernel_rfl
@[simp] theorem slE132 : slE Try.prog 132 = none := by kernel_rfl
@[simp] theorem arE132 : arE Try.prog 132 = none := by kernel_rfl
@[simp] theorem isIface132 : isIface Try.prog 132 = true := by kernel_rfl
@[simp] theorem zer132 : zer Try.prog 132 = some [.nilIface] := by kernel_rfl
@[simp] theorem scal137 : scal Try.prog 137 = true := by kernel_rfl
@[simp] theorem sz137 : sz Try.prog 137 = 1 := by kernel_rfl
@[simp] theorem byt137 : byt Try.prog 137 = 8 := by kernel_rfl
@[simp] theorem slE137 : slE Try.prog 137 = none := by kernel_rfl
@[simp] theorem arE137 : arE Try.prog 137 = none := by kernel_rfl
@[simp] theorem intOf137 : intOf? Try.prog 137 = some .u64 := by kernel_rfl
@[simp] theorem und137 : Try.prog.underlying 137 = some (.int .u64) := by kernel_rfl
@[simp] theorem isIface137 : isIface Try.prog 137 = false := by kernel_rfl
@[simp] theorem zer137 : zer Try.prog 137 = some [.int .u64 0] := by kernel_rfl
@[simp] theorem scal141 : scal Try.prog 141 = true := by kernel_rfl
@[simp] theorem sz141 : sz Try.prog 141 = 1 := by kernel_rfl
@[simp] theorem byt141 : byt Try.prog 141 = 8 := by kernel_rfl
@[simp] theorem slE141 : slE Try.prog 141 = none := by kernel_rfl
@[simp] theorem arE141 : arE Try.prog 141 = none := by kernel_rfl
@[simp] theorem und141 : Try.prog.underlying 141 = some (.pointer 3) := by kernel_rfl
@[simp] theorem isIface141 : isIface Try.prog 141 = false := by kernel_rfl
@[simp] theorem zer141 : zer Try.prog 141 = some [.pointer none] := by kernel_rfl
@[simp] theorem scal143 : scal Try.prog 143 = true := by kernel_rfl
@[simp] theorem sz143 : sz Try.prog 143 = 1 := by kernel_rfl
@[simp] theorem byt143 : byt Try.prog 143 = 0 := by kernel_rfl
@[simp] theorem slE143 : slE Try.prog 143 = none := by kernel_rfl
@[simp] theorem arE143 : arE Try.prog 143 = none := by kernel_rfl
@[simp] theorem isIface143 : isIface Try.prog 143 = false := by kernel_rfl
@[simp] theorem scal145 : scal Try.prog 145 = true := by kernel_rfl
@[simp] theorem sz145 : sz Try.prog 145 = 1 := by kernel_rfl
@[simp] theorem byt145 : byt Try.prog 145 = 0 := by kernel_rfl
@[simp] theorem slE145 : slE Try.prog 145 = none := by kernel_rfl
@[simp] theorem arE145 : arE Try.prog 145 = none := by kernel_rfl
@[simp] theorem isIface145 : isIface Try.prog 145 = false := by kernel_rfl
@[simp] theorem scal148 : scal Try.prog 148 = true := by kernel_rfl
@[simp] theorem sz148 : sz Try.prog 148 = 1 := by kernel_rfl
@[simp] theorem byt148 : byt Try.prog 148 = 8 := by kernel_rfl
@[simp] theorem slE148 : slE Try.prog 148 = none := by kernel_rfl
@[simp] theorem arE148 : arE Try.prog 148 = none := by kernel_rfl
@[simp] theorem und148 : Try.prog.underlying 148 = some (.pointer 137) := by kernel_rfl
@[simp] theorem isIface148 : isIface Try.prog 148 = false := by kernel_rfl
@[simp] theorem zer148 : zer Try.prog 148 = some [.pointer none] := by kernel_rfl
@[simp] theorem scal149 : scal Try.prog 149 = true := by kernel_rfl
@[simp] theorem sz149 : sz Try.prog 149 = 1 := by kernel_rfl
@[simp] theorem byt149 : byt Try.prog 149 = 0 := by kernel_rfl
@[simp] theorem slE149 : slE Try.prog 149 = none := by kernel_rfl
@[simp] theorem arE149 : arE Try.prog 149 = none := by kernel_rfl
@[simp] theorem isIface149 : isIface Try.prog 149 = false := by kernel_rfl
theorem mixed : Try.prog.follows .mixedOrders = true := by kernel_rfl
end Go.Am
