/- Contracts and plain laws that the law ArborTrees needs, part 6. -/
import Derived.Test.YtkgcmgbndapjcaaZArborTrees5
import Derived.Test.YtkgcmgbndapjcaaProg
import Derived.KernelRfl
namespace Go.Am
open Go Go.Proofs
@[simp] theorem scal3 : scal Try.prog 3 = true := by kernel_rfl
@[simp] theorem sz3 : sz Try.prog 3 = 1 := by kernel_rfl
@[simp] theorem byt3 : byt Try.prog 3 = 8 := by kernel_rfl
@[simp] theorem slE3 : slE Try.prog 3 = none := by kernel_rfl
@[simp] theorem arE3 : arE Try.prog 3 = none := by kernel_rfl
@[simp] theorem intOf3 : intOf? Try.prog 3 = some .i64 := by kernel_rfl
@[simp] theorem und3 : Try.prog.underlying 3 = some (.int .i64) := by kernel_rfl
@[simp] theorem isIface3 : isIface Try.prog 3 = false := by kernel_rfl
@[simp] theorem zer3 : zer Try.prog 3 = some [.int .i64 0] := by kernel_rfl
@[simp] theorem scal4 : scal Try.prog 4 = true := by kernel_rfl
@[simp] theorem sz4 : sz Try.prog 4 = 1 := by kernel_rfl
@[simp] theorem byt4 : byt Try.prog 4 = 1 := by kernel_rfl
@[simp] theorem slE4 : slE Try.prog 4 = none := by kernel_rfl
@[simp] theorem arE4 : arE Try.prog 4 = none := by kernel_rfl
@[simp] theorem und4 : Try.prog.underlying 4 = some .bool := by kernel_rfl
@[simp] theorem isIface4 : isIface Try.prog 4 = false := by kernel_rfl
@[simp] theorem zer4 : zer Try.prog 4 = some [.bool false] := by kernel_rfl
@[simp] theorem scal5 : scal Try.prog 5 = true := by kernel_rfl
@[simp] theorem sz5 : sz Try.prog 5 = 1 := by kernel_rfl
@[simp] theorem byt5 : byt Try.prog 5 = 1 := by kernel_rfl
@[simp] theorem slE5 : slE Try.prog 5 = none := by kernel_rfl
@[simp] theorem arE5 : arE Try.prog 5 = none := by kernel_rfl
@[simp] theorem intOf5 : intOf? Try.prog 5 = some .u8 := by kernel_rfl
@[simp] theorem und5 : Try.prog.underlying 5 = some (.int .u8) := by kernel_rfl
@[simp] theorem isIface5 : isIface Try.prog 5 = false := by kernel_rfl
@[simp] theorem zer5 : zer Try.prog 5 = some [.int .u8 0] := by kernel_rfl
@[simp] theorem scal9 : scal Try.prog 9 = true := by kernel_rfl
@[simp] theorem sz9 : sz Try.prog 9 = 1 := by kernel_rfl
@[simp] theorem byt9 : byt Try.prog 9 = 16 := by kernel_rfl
@[simp] theorem slE9 : slE Try.prog 9 = none := by kernel_rfl
@[simp] theorem arE9 : arE Try.prog 9 = none := by kernel_rfl
@[simp] theorem und9 : Try.prog.underlying 9 = some .string := by kernel_rfl
@[simp] theorem isIface9 : isIface Try.prog 9 = false := by kernel_rfl
@[simp] theorem scal20 : scal Try.prog 20 = true := by kernel_rfl
@[simp] theorem sz20 : sz Try.prog 20 = 1 := by kernel_rfl
@[simp] theorem byt20 : byt Try.prog 20 = 16 := by kernel_rfl
@[simp] theorem slE20 : slE Try.prog 20 = none := by kernel_rfl
@[simp] theorem arE20 : arE Try.prog 20 = none := by kernel_rfl
@[simp] theorem isIface20 : isIface Try.prog 20 = true := by kernel_rfl
@[simp] theorem zer20 : zer Try.prog 20 = some [.nilIface] := by kernel_rfl
@[simp] theorem scal22 : scal Try.prog 22 = true := by kernel_rfl
@[simp] theorem sz22 : sz Try.prog 22 = 1 := by kernel_rfl
@[simp] theorem byt22 : byt Try.prog 22 = 24 := by kernel_rfl
@[simp] theorem slE22 : slE Try.prog 22 = some 44 := by kernel_rfl
@[simp] theorem arE22 : arE Try.prog 22 = none := by kernel_rfl
@[simp] theorem isIface22 : isIface Try.prog 22 = false := by kernel_rfl
@[simp] theorem zer22 : zer Try.prog 22 = some [.slice none 0 0] := by kernel_rfl
@[simp] theorem scal24 : scal Try.prog 24 = false := by kernel_rfl
@[simp] theorem aggr24 : aggr Try.prog 24 = true := by kernel_rfl
@[simp] theorem sz24 : sz Try.prog 24 = 4 := by kernel_rfl
@[simp] theorem byt24 : byt Try.prog 24 = 48 := by kernel_rfl
@[simp] theorem slE24 : slE Try.prog 24 = none := by kernel_rfl
@[simp] theorem arE24 : arE Try.prog 24 = none := by kernel_rfl
@[simp] theorem fld24_0 : fld Try.prog 24 0 = some (0, 3) := by kernel_rfl
@[simp] theorem places24_0 : places Try.prog 24 0 = some (0, 1) := by kernel_rfl
@[simp] theorem fld24_1 : fld Try.prog 24 1 = some (1, 22) := by kernel_rfl
@[simp] theorem places24_1 : places Try.prog 24 1 = some (1, 1) := by kernel_rfl
@[simp] theorem fld24_2 : fld Try.prog 24 2 = some (2, 3) := by kernel_rfl
@[simp] theorem places24_2 : places Try.prog 24 2 = some (2, 1) := by kernel_rfl
@[simp] theorem fld24_3 : fld Try.prog 24 3 = some (3, 3) := by kernel_rfl
@[simp] theorem places24_3 : places Try.prog 24 3 = some (3, 1) := by kernel_rfl
@[simp] theorem isIface24 : isIface Try.prog 24 = false := by kernel_rfl
@[simp] theorem zer24 : zer Try.prog 24 = some [.int .i64 0, .slice none 0 0, .int .i64 0, .int .i64 0] := by kernel_rfl
@[simp] theorem scal26 : scal Try.prog 26 = true := by kernel_rfl
@[simp] theorem sz26 : sz Try.prog 26 = 1 := by kernel_rfl
@[simp] theorem byt26 : byt Try.prog 26 = 24 := by kernel_rfl
@[simp] theorem slE26 : slE Try.prog 26 = some 27 := by kernel_rfl
@[simp] theorem arE26 : arE Try.prog 26 = none := by kernel_rfl
@[simp] theorem isIface26 : isIface Try.prog 26 = false := by kernel_rfl
@[simp] theorem zer26 : zer Try.prog 26 = some [.slice none 0 0] := by kernel_rfl
@[simp] theorem scal27 : scal Try.prog 27 = true := by kernel_rfl
@[simp] theorem sz27 : sz Try.prog 27 = 1 := by kernel_rfl
@[simp] theorem byt27 : byt Try.prog 27 = 24 := by kernel_rfl
@[simp] theorem slE27 : slE Try.prog 27 = some 3 := by kernel_rfl
@[simp] theorem arE27 : arE Try.prog 27 = none := by kernel_rfl
@[simp] theorem isIface27 : isIface Try.prog 27 = false := by kernel_rfl
@[simp] theorem zer27 : zer Try.prog 27 = some [.slice none 0 0] := by kernel_rfl
@[simp] theorem scal28 : scal Try.prog 28 = true := by kernel_rfl
@[simp] theorem sz28 : sz Try.prog 28 = 1 := by kernel_rfl
@[simp] theorem byt28 : byt Try.prog 28 = 8 := by kernel_rfl
@[simp] theorem slE28 : slE Try.prog 28 = none := by kernel_rfl
@[simp] theorem arE28 : arE Try.prog 28 = none := by kernel_rfl
@[simp] theorem intOf28 : intOf? Try.prog 28 = some .i64 := by kernel_rfl
@[simp] theorem und28 : Try.prog.underlying 28 = some (.int .i64) := by kernel_rfl
@[simp] theorem isIface28 : isIface Try.prog 28 = false := by kernel_rfl
@[simp] theorem zer28 : zer Try.prog 28 = some [.int .i64 0] := by kernel_rfl
@[simp] theorem scal29 : scal Try.prog 29 = true := by kernel_rfl
@[simp] theorem sz29 : sz Try.prog 29 = 1 := by kernel_rfl
@[simp] theorem byt29 : byt Try.prog 29 = 0 := by kernel_rfl
@[simp] theorem slE29 : slE Try.prog 29 = none := by kernel_rfl
@[simp] theorem arE29 : arE Try.prog 29 = none := by kernel_rfl
@[simp] theorem isIface29 : isIface Try.prog 29 = false := by kernel_rfl
@[simp] theorem scal31 : scal Try.prog 31 = true := by kernel_rfl
@[simp] theorem sz31 : sz Try.prog 31 = 1 := by kernel_rfl
@[simp] theorem byt31 : byt Try.prog 31 = 0 := by kernel_rfl
@[simp] theorem slE31 : slE Try.prog 31 = none := by kernel_rfl
@[simp] theorem arE31 : arE Try.prog 31 = none := by kernel_rfl
@[simp] theorem isIface31 : isIface Try.prog 31 = false := by kernel_rfl
@[simp] theorem scal44 : scal Try.prog 44 = false := by kernel_rfl
@[simp] theorem aggr44 : aggr Try.prog 44 = true := by kernel_rfl
@[simp] theorem sz44 : sz Try.prog 44 = 2 := by kernel_rfl
@[simp] theorem byt44 : byt Try.prog 44 = 16 := by kernel_rfl
@[simp] theorem slE44 : slE Try.prog 44 = none := by kernel_rfl
@[simp] theorem arE44 : arE Try.prog 44 = some (2, 3) := by kernel_rfl
@[simp] theorem places44_0 : places Try.prog 44 0 = some (0, 1) := by kernel_rfl
@[simp] theorem places44_1 : places Try.prog 44 1 = some (1, 1) := by kernel_rfl
@[simp] theorem isIface44 : isIface Try.prog 44 = false := by kernel_rfl
@[simp] theorem zer44 : zer Try.prog 44 = some [.int .i64 0, .int .i64 0] := by kernel_rfl
@[simp] theorem scal47 : scal Try.prog 47 = false := by kernel_rfl
@[simp] theorem aggr47 : aggr Try.prog 47 = true := by kernel_rfl
@[simp] theorem sz47 : sz Try.prog 47 = 4 := by kernel_rfl
@[simp] theorem byt47 : byt Try.prog 47 = 64 := by kernel_rfl
@[simp] theorem slE47 : slE Try.prog 47 = none := by kernel_rfl
@[simp] theorem arE47 : arE Try.prog 47 = none := by kernel_rfl
@[simp] theorem fld47_0 : fld Try.prog 47 0 = some (0, 3) := by kernel_rfl
@[simp] theorem places47_0 : places Try.prog 47 0 = some (0, 1) := by kernel_rfl
@[simp] theorem fld47_1 : fld Try.prog 47 1 = some (1, 22) := by kernel_rfl
@[simp] theorem places47_1 : places Try.prog 47 1 = some (1, 1) := by kernel_rfl
@[simp] theorem fld47_2 : fld Try.prog 47 2 = some (2, 27) := by kernel_rfl
@[simp] theorem places47_2 : places Try.prog 47 2 = some (2, 1) := by kernel_rfl
@[simp] theorem fld47_3 : fld Try.prog 47 3 = some (3, 3) := by kernel_rfl
@[simp] theorem places47_3 : places Try.prog 47 3 = some (3, 1) := by kernel_rfl
@[simp] theorem isIface47 : isIface Try.prog 47 = false := by kernel_rfl
@[simp] theorem zer47 : zer Try.prog 47 = some [.int .i64 0, .slice none 0 0, .slice none 0 0, .int .i64 0] := by kernel_rfl
@[simp] theorem scal48 : scal Try.prog 48 = true := by kernel_rfl
@[simp] theorem sz48 : sz Try.prog 48 = 1 := by kernel_rfl
@[simp] theorem byt48 : byt Try.prog 48 = 24 := by kernel_rfl
@[simp] theorem slE48 : slE Try.prog 48 = some 52 := by kernel_rfl
@[simp] theorem arE48 : arE Try.prog 48 = none := by kernel_rfl
@[simp] theorem isIface48 : isIface Try.prog 48 = false := by kernel_rfl
@[simp] theorem zer48 : zer Try.prog 48 = some [.slice none 0 0] := by kernel_rfl
@[simp] theorem scal49 : scal Try.prog 49 = true := by kernel_rfl
@[simp] theorem sz49 : sz Try.prog 49 = 1 := by kernel_rfl
@[simp] theorem byt49 : byt Try.prog 49 = 0 := by kernel_rfl
@[simp] theorem slE49 : slE Try.prog 49 = none := by kernel_rfl
@[simp] theorem arE49 : arE Try.prog 49 = none := by kernel_rfl
@[simp] theorem isIface49 : isIface Try.prog 49 = false := by kernel_rfl
@[simp] theorem scal52 : scal Try.prog 52 = false := by kernel_rfl
@[simp] theorem aggr52 : aggr Try.prog 52 = true := by kernel_rfl
@[simp] theorem sz52 : sz Try.prog 52 = 2 := by kernel_rfl
@[simp] theorem byt52 : byt Try.prog 52 = 32 := by kernel_rfl
@[simp] theorem slE52 : slE Try.prog 52 = none := by kernel_rfl
@[simp] theorem arE52 : arE Try.prog 52 = none := by kernel_rfl
@[simp] theorem fld52_0 : fld Try.prog 52 0 = some (0, 27) := by kernel_rfl
@[simp] theorem places52_0 : places Try.prog 52 0 = some (0, 1) := by kernel_rfl
@[simp] theorem fld52_1 : fld Try.prog 52 1 = some (1, 3) := by kernel_rfl
@[simp] theorem places52_1 : places Try.prog 52 1 = some (1, 1) := by kernel_rfl
@[simp] theorem isIface52 : isIface Try.prog 52 = false := by kernel_rfl
@[simp] theorem zer52 : zer Try.prog 52 = some [.slice none 0 0, .int .i64 0] := by kernel_rfl
@[simp] theorem scal60 : scal Try.prog 60 = true := by kernel_rfl
@[simp] theorem sz60 : sz Try.prog 60 = 1 := by kernel_rfl
@[simp] theorem byt60 : byt Try.prog 60 = 24 := by kernel_rfl
@[simp] theorem slE60 : slE Try.prog 60 = some 4 := by kernel_rfl
@[simp] theorem arE60 : arE Try.prog 60 = none := by kernel_rfl
@[simp] theorem isIface60 : isIface Try.prog 60 = false := by kernel_rfl
@[simp] theorem zer60 : zer Try.prog 60 = some [.slice none 0 0] := by kernel_rfl
@[simp] theorem scal63 : scal Try.prog 63 = true := by kernel_rfl
@[simp] theorem sz63 : sz Try.prog 63 = 1 := by kernel_rfl
@[simp] theorem byt63 : byt Try.prog 63 = 0 := by kernel_rfl
@[simp] theorem slE63 : slE Try.prog 63 = none := by kernel_rfl
@[simp] theorem arE63 : arE Try.prog 63 = none := by kernel_rfl
@[simp] theorem isIface63 : isIface Try.prog 63 = false := by kernel_rfl
@[simp] theorem scal65 : scal Try.prog 65 = true := by kernel_rfl
@[simp] theorem sz65 : sz Try.prog 65 = 1 := by kernel_rfl
@[simp] theorem byt65 : byt Try.prog 65 = 0 := by kernel_rfl
@[simp] theorem slE65 : slE Try.prog 65 = none := by kernel_rfl
@[simp] theorem arE65 : arE Try.prog 65 = none := by kernel_rfl
@[simp] theorem isIface65 : isIface Try.prog 65 = false := by kernel_rfl
@[simp] theorem scal67 : scal Try.prog 67 = true := by kernel_rfl
@[simp] theorem sz67 : sz Try.prog 67 = 1 := by kernel_rfl
@[simp] theorem byt67 : byt Try.prog 67 = 8 := by kernel_rfl
@[simp] theorem slE67 : slE Try.prog 67 = none := by kernel_rfl
@[simp] theorem arE67 : arE Try.prog 67 = none := by kernel_rfl
@[simp] theorem isIface67 : isIface Try.prog 67 = false := by kernel_rfl
@[simp] theorem zer67 : zer Try.prog 67 = some [.nilFunc] := by kernel_rfl
@[simp] theorem scal71 : scal Try.prog 71 = true := by kernel_rfl
@[simp] theorem sz71 : sz Try.prog 71 = 1 := by kernel_rfl
@[simp] theorem byt71 : byt Try.prog 71 = 8 := by kernel_rfl
@[simp] theorem slE71 : slE Try.prog 71 = none := by kernel_rfl
@[simp] theorem arE71 : arE Try.prog 71 = none := by kernel_rfl
@[simp] theorem und71 : Try.prog.underlying 71 = some (.pointer 73) := by kernel_rfl
@[simp] theorem isIface71 : isIface Try.prog 71 = false := by kernel_rfl
@[simp] theorem zer71 : zer Try.prog 71 = some [.pointer none] := by kernel_rfl
@[simp] theorem scal73 : scal Try.prog 73 = false := by kernel_rfl
@[simp] theorem aggr73 : aggr Try.prog 73 = true := by kernel_rfl
@[simp] theorem sz73 : sz Try.prog 73 = 6 := by kernel_rfl
@[simp] theorem byt73 : byt Try.prog 73 = 112 := by kernel_rfl
@[simp] theorem slE73 : slE Try.prog 73 = none := by kernel_rfl
@[simp] theorem arE73 : arE Try.prog 73 = none := by kernel_rfl
@[simp] theorem fld73_0 : fld Try.prog 73 0 = some (0, 3) := by kernel_rfl
@[simp] theorem places73_0 : places Try.prog 73 0 = some (0, 1) := by kernel_rfl
@[simp] theorem fld73_1 : fld Try.prog 73 1 = some (1, 22) := by kernel_rfl
@[simp] theorem places73_1 : places Try.prog 73 1 = some (1, 1) := by kernel_rfl
@[simp] theorem fld73_2 : fld Try.prog 73 2 = some (2, 27) := by kernel_rfl
@[simp] theorem places73_2 : places Try.prog 73 2 = some (2, 1) := by kernel_rfl
@[simp] theorem fld73_3 : fld Try.prog 73 3 = some (3, 3) := by kernel_rfl
@[simp] theorem places73_3 : places Try.prog 73 3 = some (3, 1) := by kernel_rfl
@[simp] theorem fld73_4 : fld Try.prog 73 4 = some (4, 27) := by kernel_rfl
@[simp] theorem places73_4 : places Try.prog 73 4 = some (4, 1) := by kernel_rfl
@[simp] theorem fld73_5 : fld Try.prog 73 5 = some (5, 48) := by kernel_rfl
@[simp] theorem places73_5 : places Try.prog 73 5 = some (5, 1) := by kernel_rfl
@[simp] theorem isIface73 : isIface Try.prog 73 = false := by kernel_rfl
@[simp] theorem zer73 : zer Try.prog 73 = some [.int .i64 0, .slice none 0 0, .slice none 0 0, .int .i64 0, .slice none 0 0, .slice none 0 0] := by kernel_rfl
@[simp] theorem scal74 : scal Try.prog 74 = true := by kernel_rfl
@[simp] theorem sz74 : sz Try.prog 74 = 1 := by kernel_rfl
@[simp] theorem byt74 : byt Try.prog 74 = 0 := by kernel_rfl
@[simp] theorem slE74 : slE Try.prog 74 = none := by kernel_rfl
@[simp] theorem arE74 : arE Try.prog 74 = none := by kernel_rfl
@[simp] theorem isIface74 : isIface Try.prog 74 = false := by kernel_rfl
@[simp] theorem scal80 : scal Try.prog 80 = true := by kernel_rfl
@[simp] theorem sz80 : sz Try.prog 80 = 1 := by kernel_rfl
@[simp] theorem byt80 : byt Try.prog 80 = 8 := by kernel_rfl
@[simp] theorem slE80 : slE Try.prog 80 = none := by kernel_rfl
@[simp] theorem arE80 : arE Try.prog 80 = none := by kernel_rfl
@[simp] theorem und80 : Try.prog.underlying 80 = some (.pointer 82) := by kernel_rfl
@[simp] theorem isIface80 : isIface Try.prog 80 = false := by kernel_rfl
@[simp] theorem zer80 : zer Try.prog 80 = some [.pointer none] := by kernel_rfl
@[simp] theorem scal82 : scal Try.prog 82 = false := by kernel_rfl
@[simp] theorem aggr82 : aggr Try.prog 82 = true := by kernel_rfl
@[simp] theorem sz82 : sz Try.prog 82 = 4 := by kernel_rfl
@[simp] theorem byt82 : byt Try.prog 82 = 80 := by kernel_rfl
@[simp] theorem slE82 : slE Try.prog 82 = none := by kernel_rfl
@[simp] theorem arE82 : arE Try.prog 82 = none := by kernel_rfl
@[simp] theorem fld82_0 : fld Try.prog 82 0 = some (0, 3) := by kernel_rfl
@[simp] theorem places82_0 : places Try.prog 82 0 = some (0, 1) := by kernel_rfl
@[simp] theorem fld82_1 : fld Try.prog 82 1 = some (1, 22) := by kernel_rfl
@[simp] theorem places82_1 : places Try.prog 82 1 = some (1, 1) := by kernel_rfl
@[simp] theorem fld82_2 : fld Try.prog 82 2 = some (2, 60) := by kernel_rfl
@[simp] theorem places82_2 : places Try.prog 82 2 = some (2, 1) := by kernel_rfl
@[simp] theorem fld82_3 : fld Try.prog 82 3 = some (3, 60) := by kernel_rfl
@[simp] theorem places82_3 : places Try.prog 82 3 = some (3, 1) := by kernel_rfl
@[simp] theorem isIface82 : isIface Try.prog 82 = false := by kernel_rfl
@[simp] theorem zer82 : zer Try.prog 82 = some [.int .i64 0, .slice none 0 0, .slice none 0 0, .slice none 0 0] := by kernel_rfl
@[simp] theorem scal83 : scal Try.prog 83 = true := by kernel_rfl
@[simp] theorem sz83 : sz Try.prog 83 = 1 := by kernel_rfl
@[simp] theorem byt83 : byt Try.prog 83 = 0 := by kernel_rfl
@[simp] theorem slE83 : slE Try.prog 83 = none := by kernel_rfl
@[simp] theorem arE83 : arE Try.prog 83 = none := by kernel_rfl
@[simp] theorem isIface83 : isIface Try.prog 83 = false := by kernel_rfl
@[simp] theorem scal90 : scal Try.prog 90 = true := by kernel_rfl
@[simp] theorem sz90 : sz Try.prog 90 = 1 := by kernel_rfl
@[simp] theorem byt90 : byt Try.prog 90 = 8 := by kernel_rfl
@[simp] theorem slE90 : slE Try.prog 90 = none := by kernel_rfl
@[simp] theorem arE90 : arE Try.prog 90 = none := by kernel_rfl
@[simp] theorem isIface90 : isIface Try.prog 90 = false := by kernel_rfl
@[simp] theorem zer90 : zer Try.prog 90 = some [.nilFunc] := by kernel_rfl
@[simp] theorem scal91 : scal Try.prog 91 = true := by kernel_rfl
@[simp] theorem sz91 : sz Try.prog 91 = 1 := by kernel_rfl
@[simp] theorem byt91 : byt Try.prog 91 = 8 := by kernel_rfl
@[simp] theorem slE91 : slE Try.prog 91 = none := by kernel_rfl
@[simp] theorem arE91 : arE Try.prog 91 = none := by kernel_rfl
@[simp] theorem und91 : Try.prog.underlying 91 = some (.pointer 109) := by kernel_rfl
@[simp] theorem isIface91 : isIface Try.prog 91 = false := by kernel_rfl
@[simp] theorem zer91 : zer Try.prog 91 = some [.pointer none] := by kernel_rfl
@[simp] theorem scal94 : scal Try.prog 94 = true := by kernel_rfl
@[simp] theorem sz94 : sz Try.prog 94 = 1 := by kernel_rfl
@[simp] theorem byt94 : byt Try.prog 94 = 8 := by kernel_rfl
@[simp] theorem slE94 : slE Try.prog 94 = none := by kernel_rfl
@[simp] theorem arE94 : arE Try.prog 94 = none := by kernel_rfl
@[simp] theorem isIface94 : isIface Try.prog 94 = false := by kernel_rfl
@[simp] theorem zer94 : zer Try.prog 94 = some [.nilFunc] := by kernel_rfl
@[simp] theorem scal95 : scal Try.prog 95 = true := by kernel_rfl
@[simp] theorem sz95 : sz Try.prog 95 = 1 := by kernel_rfl
@[simp] theorem byt95 : byt Try.prog 95 = 0 := by kernel_rfl
@[simp] theorem slE95 : slE Try.prog 95 = none := by kernel_rfl
@[simp] theorem arE95 : arE Try.prog 95 = none := by kernel_rfl
@[simp] theorem isIface95 : isIface Try.prog 95 = false := by kernel_rfl
@[simp] theorem scal99 : scal Try.prog 99 = true := by kernel_rfl
@[simp] theorem sz99 : sz Try.prog 99 = 1 := by kernel_rfl
@[simp] theorem byt99 : byt Try.prog 99 = 8 := by kernel_rfl
@[simp] theorem slE99 : slE Try.prog 99 = none := by kernel_rfl
@[simp] theorem arE99 : arE Try.prog 99 = none := by kernel_rfl
@[simp] theorem intOf99 : intOf? Try.prog 99 = some .u64 := by kernel_rfl
@[simp] theorem und99 : Try.prog.underlying 99 = some (.int .u64) := by kernel_rfl
@[simp] theorem isIface99 : isIface Try.prog 99 = false := by kernel_rfl
@[simp] theorem zer99 : zer Try.prog 99 = some [.int .u64 0] := by kernel_rfl
@[simp] theorem scal104 : scal Try.prog 104 = true := by kernel_rfl
@[simp] theorem sz104 : sz Try.prog 104 = 1 := by kernel_rfl
@[simp] theorem byt104 : byt Try.prog 104 = 0 := by kernel_rfl
@[simp] theorem slE104 : slE Try.prog 104 = none := by kernel_rfl
@[simp] theorem arE104 : arE Try.prog 104 = none := by kernel_rfl
@[simp] theorem isIface104 : isIface Try.prog 104 = false := by kernel_rfl
@[simp] theorem scal107 : scal Try.prog 107 = true := by kernel_rfl
@[simp] theorem sz107 : sz Try.prog 107 = 1 := by kernel_rfl
@[simp] theorem byt107 : byt Try.prog 107 = 24 := by kernel_rfl
@[simp] theorem slE107 : slE Try.prog 107 = some 113 := by kernel_rfl
@[simp] theorem arE107 : arE Try.prog 107 = none := by kernel_rfl
@[simp] theorem isIface107 : isIface Try.prog 107 = false := by kernel_rfl
@[simp] theorem zer107 : zer Try.prog 107 = some [.slice none 0 0] := by kernel_rfl
@[simp] theorem scal109 : scal Try.prog 109 = false := by kernel_rfl
@[simp] theorem aggr109 : aggr Try.prog 109 = true := by kernel_rfl
@[simp] theorem sz109 : sz Try.prog 109 = 1 := by kernel_rfl
@[simp] theorem byt109 : byt Try.prog 109 = 24 := by kernel_rfl
@[simp] theorem slE109 : slE Try.prog 109 = none := by kernel_rfl
@[simp] theorem arE109 : arE Try.prog 109 = none := by kernel_rfl
@[simp] theorem fld109_0 : fld Try.prog 109 0 = some (0, 107) := by kernel_rfl
@[simp] theorem places109_0 : places Try.prog 109 0 = some (0, 1) := by kernel_rfl
@[simp] theorem isIface109 : isIface Try.prog 109 = false := by kernel_rfl
@[simp] theorem zer109 : zer Try.prog 109 = some [.slice none 0 0] := by kernel_rfl
@[simp] theorem scal111 : scal Try.prog 111 = true := by kernel_rfl
@[simp] theorem sz111 : sz Try.prog 111 = 1 := by kernel_rfl
@[simp] theorem byt111 : byt Try.prog 111 = 8 := by kernel_rfl
@[simp] theorem slE111 : slE Try.prog 111 = none := by kernel_rfl
@[simp] theorem arE111 : arE Try.prog 111 = none := by kernel_rfl
@[simp] theorem und111 : Try.prog.underlying 111 = some (.pointer 107) := by kernel_rfl
@[simp] theorem isIface111 : isIface Try.prog 111 = false := by kernel_rfl
@[simp] theorem zer111 : zer Try.prog 111 = some [.pointer none] := by kernel_rfl
@[simp] theorem scal113 : scal Try.prog 113 = false := by kernel_rfl
@[simp] theorem aggr113 : aggr Try.prog 113 = true := by kernel_rfl
@[simp] theorem sz113 : sz Try.prog 113 = 2 := by kernel_rfl
@[simp] theorem byt113 : byt Try.prog 113 = 16 := by kernel_rfl
@[simp] theorem slE113 : slE Try.prog 113 = none := by kernel_rfl
@[simp] theorem arE113 : arE Try.prog 113 = none := by kernel_rfl
@[simp] theorem fld113_0 : fld Try.prog 113 0 = some (0, 3) := by kernel_rfl
@[simp] theorem places113_0 : places Try.prog 113 0 = some (0, 1) := by kernel_rfl
@[simp] theorem fld113_1 : fld Try.prog 113 1 = some (1, 3) := by kernel_rfl
@[simp] theorem places113_1 : places Try.prog 113 1 = some (1, 1) := by kernel_rfl
@[simp] theorem isIface113 : isIface Try.prog 113 = false := by kernel_rfl
@[simp] theorem zer113 : zer Try.prog 113 = some [.int .i64 0, .int .i64 0] := by kernel_rfl
@[simp] theorem scal117 : scal Try.prog 117 = true := by kernel_rfl
@[simp] theorem sz117 : sz Try.prog 117 = 1 := by kernel_rfl
@[simp] theorem byt117 : byt Try.prog 117 = 8 := by kernel_rfl
@[simp] theorem slE117 : slE Try.prog 117 = none := by kernel_rfl
@[simp] theorem arE117 : arE Try.prog 117 = none := by kernel_rfl
@[simp] theorem intOf117 : intOf? Try.prog 117 = some .i64 := by kernel_rfl
@[simp] theorem und117 : Try.prog.underlying 117 = some (.int .i64) := by kernel_rfl
@[simp] theorem isIface117 : isIface Try.prog 117 = false := by kernel_rfl
@[simp] theorem zer117 : zer Try.prog 117 = some [.int .i64 0] := by kernel_rfl
@[simp] theorem scal118 : scal Try.prog 118 = true := by kernel_rfl
@[simp] theorem sz118 : sz Try.prog 118 = 1 := by kernel_rfl
@[simp] theorem byt118 : byt Try.prog 118 = 0 := by kernel_rfl
@[simp] theorem slE118 : slE Try.prog 118 = none := by kernel_rfl
@[simp] theorem arE118 : arE Try.prog 118 = none := by kernel_rfl
@[simp] theorem isIface118 : isIface Try.prog 118 = false := by kernel_rfl
@[simp] theorem scal125 : scal Try.prog 125 = true := by kernel_rfl
@[simp] theorem sz125 : sz Try.prog 125 = 1 := by kernel_rfl
@[simp] theorem byt125 : byt Try.prog 125 = 4 := by kernel_rfl
@[simp] theorem slE125 : slE Try.prog 125 = none := by kernel_rfl
@[simp] theorem arE125 : arE Try.prog 125 = none := by kernel_rfl
@[simp] theorem intOf125 : intOf? Try.prog 125 = some .u32 := by kernel_rfl
@[simp] theorem und125 : Try.prog.underlying 125 = some (.int .u32) := by kernel_rfl
@[simp] theorem isIface125 : isIface Try.prog 125 = false := by kernel_rfl
@[simp] theorem zer125 : zer Try.prog 125 = some [.int .u32 0] := by kernel_rfl
@[simp] theorem scal127 : scal Try.prog 127 = true := by kernel_rfl
@[simp] theorem sz127 : sz Try.prog 127 = 1 := by kernel_rfl
@[simp] theorem byt127 : byt Try.prog 127 = 8 := by kernel_rfl
@[simp] theorem slE127 : slE Try.prog 127 = none := by kernel_rfl
@[simp] theorem arE127 : arE Try.prog 127 = none := by kernel_rfl
@[simp] theorem intOf127 : intOf? Try.prog 127 = some .u64 := by kernel_rfl
@[simp] theorem und127 : Try.prog.underlying 127 = some (.int .u64) := by kernel_rfl
@[simp] theorem isIface127 : isIface Try.prog 127 = false := by kernel_rfl
@[simp] theorem zer127 : zer Try.prog 127 = some [.int .u64 0] := by kernel_rfl
@[simp] theorem scal128 : scal Try.prog 128 = true := by kernel_rfl
@[simp] theorem sz128 : sz Try.prog 128 = 1 := by kernel_rfl
@[simp] theorem byt128 : byt Try.prog 128 = 0 := by kernel_rfl
@[simp] theorem slE128 : slE Try.prog 128 = none := by kernel_rfl
@[simp] theorem arE128 : arE Try.prog 128 = none := by kernel_rfl
@[simp] theorem isIface128 : isIface Try.prog 128 = false := by kernel_rfl
@[simp] theorem scal132 : scal Try.prog 132 = true := by kernel_rfl
@[simp] theorem sz132 : sz Try.prog 132 = 1 := by kernel_rfl
@[simp] theorem byt132 : byt Try.prog 132 = 16 := by kernel_rfl
@[simp] theorem slE132 : slE Try.prog 132 = none := by kernel_rfl
@[simp] theorem arE132 : arE Try.prog 132 = none := by kernel_rfl
@[simp] theorem isIface132 : isIface Try.prog 132 = true := by kernel_rfl
@[simp] theorem zer132 : zer Try.prog 132 = some [.nilIface] := by kernel_rfl
@[simp] theorem scal137 : scal Try.prog 137 = true := by kernel_rfl
@[simp] theorem sz137 : sz Try.prog 137 = 1 := by kernel_rfl
@[simp] theorem byt137 : byt Try.prog 137 = 8 := by kernel_rfl
@[simp] theorem slE137 : slE Try.prog 137 = none := by kernel_rfl
@[simp] theorem arE137 : arE Try.prog 137 = none := by kernel_rfl
@[simp] theorem intOf137 : intOf? Try.prog 137 = some .u64 := by kernel_rfl
@[simp] theorem und137 : Try.prog.underlying 137 = some (.int .u64) := by kernel_rfl
@[simp] theorem isIface137 : isIface Try.prog 137 = false := by kernel_rfl
@[simp] theorem zer137 : zer Try.prog 137 = some [.int .u64 0] := by kernel_rfl
@[simp] theorem scal141 : scal Try.prog 141 = true := by kernel_rfl
@[simp] theorem sz141 : sz Try.prog 141 = 1 := by kernel_rfl
@[simp] theorem byt141 : byt Try.prog 141 = 8 := by kernel_rfl
@[simp] theorem slE141 : slE Try.prog 141 = none := by kernel_rfl
@[simp] theorem arE141 : arE Try.prog 141 = none := by kernel_rfl
@[simp] theorem und141 : Try.prog.underlying 141 = some (.pointer 3) := by kernel_rfl
@[simp] theorem isIface141 : isIface Try.prog 141 = false := by kernel_rfl
@[simp] theorem zer141 : zer Try.prog 141 = some [.pointer none] := by kernel_rfl
@[simp] theorem scal143 : scal Try.prog 143 = true := by kernel_rfl
@[simp] theorem sz143 : sz Try.prog 143 = 1 := by kernel_rfl
@[simp] theorem byt143 : byt Try.prog 143 = 0 := by kernel_rfl
@[simp] theorem slE143 : slE Try.prog 143 = none := by kernel_rfl
@[simp] theorem arE143 : arE Try.prog 143 = none := by kernel_rfl
@[simp] theorem isIface143 : isIface Try.prog 143 = false := by kernel_rfl
@[simp] theorem scal145 : scal Try.prog 145 = true := by kernel_rfl
@[simp] theorem sz145 : sz Try.prog 145 = 1 := by kernel_rfl
@[simp] theorem byt145 : byt Try.prog 145 = 0 := by kernel_rfl
@[simp] theorem slE145 : slE Try.prog 145 = none := by kernel_rfl
@[simp] theorem arE145 : arE Try.prog 145 = none := by kernel_rfl
@[simp] theorem isIface145 : isIface Try.prog 145 = false := by kernel_rfl
@[simp] theorem scal148 : scal Try.prog 148 = true := by kernel_rfl
@[simp] theorem sz148 : sz Try.prog 148 = 1 := by kernel_rfl
@[simp] theorem byt148 : byt Try.prog 148 = 8 := by kernel_rfl
@[simp] theorem slE148 : slE Try.prog 148 = none := by kernel_rfl
@[simp] theorem arE148 : arE Try.prog 148 = none := by kernel_rfl
@[simp] theorem und148 : Try.prog.underlying 148 = some (.pointer 137) := by kernel_rfl
@[simp] theorem isIface148 : isIface Try.prog 148 = false := by kernel_rfl
@[simp] theorem zer148 : zer Try.prog 148 = some [.pointer none] := by kernel_rfl
@[simp] theorem scal149 : scal Try.prog 149 = true := by kernel_rfl
@[simp] theorem sz149 : sz Try.prog 149 = 1 := by kernel_rfl
@[simp] theorem byt149 : byt Try.prog 149 = 0 := by kernel_rfl
@[simp] theorem slE149 : slE Try.prog 149 = none := by kernel_rfl
@[simp] theorem arE149 : arE Try.prog 149 = none := by kernel_rfl
@[simp] theorem isIface149 : isIface Try.prog 149 = false := by kernel_rfl
@[simp] theorem meth17_Len : methodA Try.prog 17 "Len" = some (132, none) := by kernel_rfl
@[simp] theorem meth91_Len : methodA Try.prog 91 "Len" = some (88, none) := by kernel_rfl
@[simp] theorem meth91_Pop : methodA Try.prog 91 "Pop" = some (70, none) := by kernel_rfl
@[simp] theorem meth91_Push : methodA Try.prog 91 "Push" = some (69, none) := by kernel_rfl
@[simp] theorem meth111_Len : methodA Try.prog 111 "Len" = some (107, some 107) := by kernel_rfl
@[simp] theorem meth111_Less : methodA Try.prog 111 "Less" = some (135, some 107) := by kernel_rfl
@[simp] theorem meth111_Pop : methodA Try.prog 111 "Pop" = some (137, none) := by kernel_rfl
@[simp] theorem meth111_Push : methodA Try.prog 111 "Push" = some (138, none) := by kernel_rfl
@[simp] theorem meth111_Swap : methodA Try.prog 111 "Swap" = some (136, some 107) := by kernel_rfl
theorem mixed : Try.prog.follows .mixedOrders = true := by kernel_rfl
end Go.Am
namespace Go.Am
open Go Go.Proofs
set_option linter.unusedVariables false
set_option linter.unusedSimpArgs false
variable {w0 : World}
attribute [local irreducible] AWP ACalls
def risesB : Int → List Int → Bool
  | _, [] => true
  | last, x :: l => decide (last < x) && decide (x ≤ 1099511627776) && risesB x l
theorem may_ok (l : List Int) (H : Heap) (K : AV → Heap → Prop) (hl : l.length ≤ 4611686018427387904) (k : K (B (risesB (-1) l)) H) : ACalls Try.prog w0 86 [ints l] H K := by
  refine w_enter Try.func86 rfl Try.ntmps86 (ts := [2]) rfl (by simp) (by kernel_rfl) ?_
  repeat' (first
    | (with_reducible refine awp_skip ?_)
    | (with_reducible refine then_any ?_)
    | (with_reducible refine then_ret ?_)
    | (with_reducible refine then_exit ?_)
    | (with_reducible refine inBlock_normal ?_)
    | (with_reducible refine inBlock_ret ?_)
    | (with_reducible refine inBlock_hit ?_)
    | (with_reducible refine inBlock_miss (by decide) ?_)
    | (with_reducible refine awp_ret ?_)
    | (with_reducible refine awp_exit ?_)
    | (with_reducible refine post_ret ?_)
    | (with_reducible refine post_normal ?_)
    | (with_reducible refine awp_block ?_)
    | (with_reducible refine awp_scope_ret ?_)
    | (with_reducible refine awp_label ?_)
    | (with_reducible refine v_reg [] (fun K hK => ?_))
    | (with_reducible refine v_reg1 [] (fun K hK => ?_))
    | (with_reducible refine v_draw mixed [] [] (by kernel_rfl) (fun K hK => ?_))
    | (with_reducible refine v_draw1 mixed [] [] (by kernel_rfl) (fun K hK => ?_))
    | (with_reducible refine ev_nil (hK _ _ ?_); clear hK K)
    | (with_reducible refine ed_nil (hK _ _ ?_); clear hK K)
    | ((first | with_reducible refine ev_cons (fun K' hK' => ?_) | with_reducible refine ed_cons (fun K' hK' => ?_) | (with_reducible refine ev_id ?_; refine ev_guard rfl (fun K' hK' => ?_)) | (with_reducible refine ed_id ?_; refine ed_guard rfl (fun K' hK' => ?_))); simp [ints]; repeat' (first | (with_reducible refine hK' _ _ ?_; clear hK' K') | (with_reducible refine And.intro ?_ ?_) | (with_reducible intro hg) | (clear hK' K'; omega)))
    | (with_reducible refine w_cond (fun A B hA hB => ?_); simp [ints]; repeat' (first | (with_reducible refine hA ?_; clear hA hB A B) | (with_reducible refine hB ?_; clear hA hB A B) | (with_reducible refine And.intro ?_ ?_) | (with_reducible intro hc)))
    | (with_reducible refine awp_seq ?_))
  refine awp_loop (fun env h => ∃ (k : Nat) (last : Int), k ≤ l.length ∧ env 8 = I k ∧ env 7 = I l.length ∧ env 6 = ints l ∧ env 3 = I last ∧ risesB (-1) l = risesB last (l.drop k) ∧ h = H) (fun env _ => l.length - natA (env 8)) ?_ ?_
  · exact ⟨0, -1, by simp [ints, upd_get]⟩
  rintro env h ⟨n, last, hn, h8, h7, h6, h3, hr, rfl⟩
  have hnat : natA (env 8) = n := by simp [h8]
  rw [hnat]; clear hnat
  by_cases hlt : n < l.length
  · rw [List.drop_eq_getElem_cons hlt, risesB] at hr
    repeat' (first
      | (with_reducible refine awp_skip ?_)
      | (with_reducible refine then_any ?_)
      | (with_reducible refine then_ret ?_)
      | (with_reducible refine then_exit ?_)
      | (with_reducible refine inBlock_normal ?_)
      | (with_reducible refine inBlock_ret ?_)
      | (with_reducible refine inBlock_hit ?_)
      | (with_reducible refine inBlock_miss (by decide) ?_)
      | (with_reducible refine awp_ret ?_)
      | (with_reducible refine awp_exit ?_)
      | (with_reducible refine post_ret ?_)
      | (with_reducible refine post_normal ?_)
      | (with_reducible refine awp_block ?_)
      | (with_reducible refine awp_scope_ret ?_)
      | (with_reducible refine awp_label ?_)
      | (with_reducible refine v_reg [] (fun K hK => ?_))
      | (with_reducible refine v_reg1 [] (fun K hK => ?_))
      | (with_reducible refine v_draw mixed [] [] (by kernel_rfl) (fun K hK => ?_))
      | (with_reducible refine v_draw1 mixed [] [] (by kernel_rfl) (fun K hK => ?_))
      | (with_reducible refine ev_nil (hK _ _ ?_); clear hK K)
      | (with_reducible refine ed_nil (hK _ _ ?_); clear hK K)
      | ((first | with_reducible refine ev_cons (fun K' hK' => ?_) | with_reducible refine ed_cons (fun K' hK' => ?_) | (with_reducible refine ev_id ?_; refine ev_guard rfl (fun K' hK' => ?_)) | (with_reducible refine ed_id ?_; refine ed_guard rfl (fun K' hK' => ?_))); simp [h8, h7, h6, h3, ints, hlt]; repeat' (first | (with_reducible refine hK' _ _ ?_; clear hK' K') | (with_reducible refine And.intro ?_ ?_) | (with_reducible intro hg) | (clear hK' K'; omega)))
      | (with_reducible refine w_cond (fun A B hA hB => ?_); simp [h8, h7, h6, h3, ints, hlt]; repeat' (first | (with_reducible refine hA ?_; clear hA hB A B) | (with_reducible refine hB ?_; clear hA hB A B) | (with_reducible refine And.intro ?_ ?_) | (with_reducible intro hc)))
      | (with_reducible refine awp_seq ?_))
    · rw [decide_eq_true hg, decide_eq_false (by omega)] at hr
      simp at hr
      rw [hr] at k
      simpa using k
    · rw [decide_eq_true hg, decide_eq_true hc] at hr
      refine ⟨⟨n + 1, l[n], ?_⟩, ?_⟩
      · simp [h7, h6, ints, hr]; omega
      · simp; omega
    · have hd : decide (last < l[n]) = false := by simpa using hg
      rw [hd] at hr
      simp at hr
      rw [hr] at k
      simpa using k
  · have : n = l.length := by omega
    subst this
    repeat' (first
      | (with_reducible refine awp_skip ?_)
      | (with_reducible refine then_any ?_)
      | (with_reducible refine then_ret ?_)
      | (with_reducible refine then_exit ?_)
      | (with_reducible refine inBlock_normal ?_)
      | (with_reducible refine inBlock_ret ?_)
      | (with_reducible refine inBlock_hit ?_)
      | (with_reducible refine inBlock_miss (by decide) ?_)
      | (with_reducible refine awp_ret ?_)
      | (with_reducible refine awp_exit ?_)
      | (with_reducible refine post_ret ?_)
      | (with_reducible refine post_normal ?_)
      | (with_reducible refine awp_block ?_)
      | (with_reducible refine awp_scope_ret ?_)
      | (with_reducible refine awp_label ?_)
      | (with_reducible refine v_reg [] (fun K hK => ?_))
      | (with_reducible refine v_reg1 [] (fun K hK => ?_))
      | (with_reducible refine v_draw mixed [] [] (by kernel_rfl) (fun K hK => ?_))
      | (with_reducible refine v_draw1 mixed [] [] (by kernel_rfl) (fun K hK => ?_))
      | (with_reducible refine ev_nil (hK _ _ ?_); clear hK K)
      | (with_reducible refine ed_nil (hK _ _ ?_); clear hK K)
      | ((first | with_reducible refine ev_cons (fun K' hK' => ?_) | with_reducible refine ed_cons (fun K' hK' => ?_) | (with_reducible refine ev_id ?_; refine ev_guard rfl (fun K' hK' => ?_)) | (with_reducible refine ed_id ?_; refine ed_guard rfl (fun K' hK' => ?_))); simp [h8, h7, h6, h3, ints]; repeat' (first | (with_reducible refine hK' _ _ ?_; clear hK' K') | (with_reducible refine And.intro ?_ ?_) | (with_reducible intro hg) | (clear hK' K'; omega)))
      | (with_reducible refine w_cond (fun A B hA hB => ?_); simp [h8, h7, h6, h3, ints]; repeat' (first | (with_reducible refine hA ?_; clear hA hB A B) | (with_reducible refine hB ?_; clear hA hB A B) | (with_reducible refine And.intro ?_ ?_) | (with_reducible intro hc)))
      | (with_reducible refine awp_seq ?_))
    simp [risesB] at hr
    simp
    rw [hr] at k
    exact k
end Go.Am
namespace Go.Am
open Go Go.Proofs
set_option linter.unusedVariables false
set_option linter.unusedSimpArgs false
variable {w0 : World}
attribute [local irreducible] AWP ACalls
attribute [local congr] acalls_congr
abbrev okLen {α : Type} (l : List α) : Prop := l.length ≤ 4611686018427387904
theorem may_ret {l : List Int} (hl : okLen l) : Ret Try.prog w0 86 [ints l] (B (risesB (-1) l)) :=
  fun H => may_ok l H _ hl ⟨rfl, .refl _⟩
theorem same_ret {a b : List Int} (ha : okLen a) (hb : okLen b) : Ret Try.prog w0 19 [ints a, ints b] (B (decide (a = b))) := by
  intro H
  refine w_enter Try.func19 rfl Try.ntmps19 (ts := [4]) rfl (by simp) (by kernel_rfl) ?_
  repeat' (first
    | (with_reducible refine awp_skip ?_)
    | (with_reducible refine then_any ?_)
    | (with_reducible refine then_ret ?_)
    | (with_reducible refine then_exit ?_)
    | (with_reducible refine inBlock_normal ?_)
    | (with_reducible refine inBlock_ret ?_)
    | (with_reducible refine inBlock_hit ?_)
    | (with_reducible refine inBlock_miss (by decide) ?_)
    | (with_reducible refine awp_ret ?_)
    | (with_reducible refine awp_exit ?_)
    | (with_reducible refine post_ret ?_)
    | (with_reducible refine post_normal ?_)
    | (with_reducible refine awp_block ?_)
    | (with_reducible refine awp_scope_ret ?_)
    | (with_reducible refine awp_label ?_)
    | (with_reducible refine v_reg [] (fun K hK => ?_))
    | (with_reducible refine v_reg1 [] (fun K hK => ?_))
    | (with_reducible refine v_draw mixed [] [] (by kernel_rfl) (fun K hK => ?_))
    | (with_reducible refine v_draw1 mixed [] [] (by kernel_rfl) (fun K hK => ?_))
    | (with_reducible refine ev_nil (hK _ _ ?_); clear hK K)
    | (with_reducible refine ed_nil (hK _ _ ?_); clear hK K)
    | ((first | with_reducible refine ev_cons (fun K' hK' => ?_) | with_reducible refine ed_cons (fun K' hK' => ?_) | (with_reducible refine ev_id ?_; refine ev_guard rfl (fun K' hK' => ?_)) | (with_reducible refine ed_id ?_; refine ed_guard rfl (fun K' hK' => ?_))); simp [ints]; repeat' (first | (with_reducible refine hK' _ _ ?_; clear hK' K') | (with_reducible refine And.intro ?_ ?_) | (with_reducible intro hg) | (clear hK' K'; omega)))
    | (with_reducible refine w_cond (fun A B hA hB => ?_); simp [ints]; repeat' (first | (with_reducible refine hA ?_; clear hA hB A B) | (with_reducible refine hB ?_; clear hA hB A B) | (with_reducible refine And.intro ?_ ?_) | (with_reducible intro hc)))
    | (with_reducible refine awp_seq ?_))
  · have : a ≠ b := fun e => by subst e; simp at hc
    simp [this]
  refine awp_loop (fun env h => ∃ (k : Nat), k ≤ a.length ∧ a.length = b.length ∧ env 5 = I k ∧ env 0 = ints a ∧ env 1 = ints b ∧ a.take k = b.take k ∧ h = H) (fun env _ => a.length - natA (env 5)) ?_ ?_
  · exact ⟨0, by simp [ints, upd_get]; omega⟩
  rintro env h ⟨n, hn, hab, h5, h0, h1, ht, rfl⟩
  have hnat : natA (env 5) = n := by simp [h5]
  rw [hnat]; clear hnat
  by_cases hlt : n < a.length
  · have hltb : n < b.length := by omega
    repeat' (first
      | (with_reducible refine awp_skip ?_)
      | (with_reducible refine then_any ?_)
      | (with_reducible refine then_ret ?_)
      | (with_reducible refine then_exit ?_)
      | (with_reducible refine inBlock_normal ?_)
      | (with_reducible refine inBlock_ret ?_)
      | (with_reducible refine inBlock_hit ?_)
      | (with_reducible refine inBlock_miss (by decide) ?_)
      | (with_reducible refine awp_ret ?_)
      | (with_reducible refine awp_exit ?_)
      | (with_reducible refine post_ret ?_)
      | (with_reducible refine post_normal ?_)
      | (with_reducible refine awp_block ?_)
      | (with_reducible refine awp_scope_ret ?_)
      | (with_reducible refine awp_label ?_)
      | (with_reducible refine v_reg [] (fun K hK => ?_))
      | (with_reducible refine v_reg1 [] (fun K hK => ?_))
      | (with_reducible refine v_draw mixed [] [] (by kernel_rfl) (fun K hK => ?_))
      | (with_reducible refine v_draw1 mixed [] [] (by kernel_rfl) (fun K hK => ?_))
      | (with_reducible refine ev_nil (hK _ _ ?_); clear hK K)
      | (with_reducible refine ed_nil (hK _ _ ?_); clear hK K)
      | ((first | with_reducible refine ev_cons (fun K' hK' => ?_) | with_reducible refine ed_cons (fun K' hK' => ?_) | (with_reducible refine ev_id ?_; refine ev_guard rfl (fun K' hK' => ?_)) | (with_reducible refine ed_id ?_; refine ed_guard rfl (fun K' hK' => ?_))); simp [h5, h0, h1, ints, hlt, hltb]; repeat' (first | (with_reducible refine hK' _ _ ?_; clear hK' K') | (with_reducible refine And.intro ?_ ?_) | (with_reducible intro hg) | (clear hK' K'; omega)))
      | (with_reducible refine w_cond (fun A B hA hB => ?_); simp [h5, h0, h1, ints, hlt, hltb]; repeat' (first | (with_reducible refine hA ?_; clear hA hB A B) | (with_reducible refine hB ?_; clear hA hB A B) | (with_reducible refine And.intro ?_ ?_) | (with_reducible intro hc)))
      | (with_reducible refine awp_seq ?_))
    · have : a ≠ b := fun e => by subst e; simp at hc
      simp [this]
    · refine ⟨⟨n + 1, ?_⟩, ?_⟩
      · have hc' : a[n] = b[n] := by simpa using hc
        have ht' : a.take (n + 1) = b.take (n + 1) := by rw [List.take_add_one, List.take_add_one, ht]; simp [hlt, hltb, hc']
        simp [h0, h1, ints, ht', hab]; omega
      · simp; omega
  · have : n = a.length := by omega
    subst this
    repeat' (first
      | (with_reducible refine awp_skip ?_)
      | (with_reducible refine then_any ?_)
      | (with_reducible refine then_ret ?_)
      | (with_reducible refine then_exit ?_)
      | (with_reducible refine inBlock_normal ?_)
      | (with_reducible refine inBlock_ret ?_)
      | (with_reducible refine inBlock_hit ?_)
      | (with_reducible refine inBlock_miss (by decide) ?_)
      | (with_reducible refine awp_ret ?_)
      | (with_reducible refine awp_exit ?_)
      | (with_reducible refine post_ret ?_)
      | (with_reducible refine post_normal ?_)
      | (with_reducible refine awp_block ?_)
      | (with_reducible refine awp_scope_ret ?_)
      | (with_reducible refine awp_label ?_)
      | (with_reducible refine v_reg [] (fun K hK => ?_))
      | (with_reducible refine v_reg1 [] (fun K hK => ?_))
      | (with_reducible refine v_draw mixed [] [] (by kernel_rfl) (fun K hK => ?_))
      | (with_reducible refine v_draw1 mixed [] [] (by kernel_rfl) (fun K hK => ?_))
      | (with_reducible refine ev_nil (hK _ _ ?_); clear hK K)
      | (with_reducible refine ed_nil (hK _ _ ?_); clear hK K)
      | ((first | with_reducible refine ev_cons (fun K' hK' => ?_) | with_reducible refine ed_cons (fun K' hK' => ?_) | (with_reducible refine ev_id ?_; refine ev_guard rfl (fun K' hK' => ?_)) | (with_reducible refine ed_id ?_; refine ed_guard rfl (fun K' hK' => ?_))); simp [h5, h0, h1, ints]; repeat' (first | (with_reducible refine hK' _ _ ?_; clear hK' K') | (with_reducible refine And.intro ?_ ?_) | (with_reducible intro hg) | (clear hK' K'; omega)))
      | (with_reducible refine w_cond (fun A B hA hB => ?_); simp [h5, h0, h1, ints]; repeat' (first | (with_reducible refine hA ?_; clear hA hB A B) | (with_reducible refine hB ?_; clear hA hB A B) | (with_reducible refine And.intro ?_ ?_) | (with_reducible intro hc)))
      | (with_reducible refine awp_seq ?_))
    have : a = b := by rw [List.take_of_length_le (Nat.le_refl _), List.take_of_length_le (by omega)] at ht; exact ht
    simp [this]
theorem in_ret {l : List Int} {x : Int} (hl : okLen l) : Ret Try.prog w0 43 [ints l, I x] (B (decide (x ∈ l))) := by
  intro H
  refine w_enter Try.func43 rfl Try.ntmps43 (ts := [4]) rfl (by simp) (by kernel_rfl) ?_
  repeat' (first
    | (with_reducible refine awp_skip ?_)
    | (with_reducible refine then_any ?_)
    | (with_reducible refine then_ret ?_)
    | (with_reducible refine then_exit ?_)
    | (with_reducible refine inBlock_normal ?_)
    | (with_reducible refine inBlock_ret ?_)
    | (with_reducible refine inBlock_hit ?_)
    | (with_reducible refine inBlock_miss (by decide) ?_)
    | (with_reducible refine awp_ret ?_)
    | (with_reducible refine awp_exit ?_)
    | (with_reducible refine post_ret ?_)
    | (with_reducible refine post_normal ?_)
    | (with_reducible refine awp_block ?_)
    | (with_reducible refine awp_scope_ret ?_)
    | (with_reducible refine awp_label ?_)
    | (with_reducible refine v_reg [] (fun K hK => ?_))
    | (with_reducible refine v_reg1 [] (fun K hK => ?_))
    | (with_reducible refine v_draw mixed [] [] (by kernel_rfl) (fun K hK => ?_))
    | (with_reducible refine v_draw1 mixed [] [] (by kernel_rfl) (fun K hK => ?_))
    | (with_reducible refine ev_nil (hK _ _ ?_); clear hK K)
    | (with_reducible refine ed_nil (hK _ _ ?_); clear hK K)
    | ((first | with_reducible refine ev_cons (fun K' hK' => ?_) | with_reducible refine ed_cons (fun K' hK' => ?_) | (with_reducible refine ev_id ?_; refine ev_guard rfl (fun K' hK' => ?_)) | (with_reducible refine ed_id ?_; refine ed_guard rfl (fun K' hK' => ?_))); simp [ints]; repeat' (first | (with_reducible refine hK' _ _ ?_; clear hK' K') | (with_reducible refine And.intro ?_ ?_) | (with_reducible intro hg) | (clear hK' K'; omega)))
    | (with_reducible refine w_cond (fun A B hA hB => ?_); simp [ints]; repeat' (first | (with_reducible refine hA ?_; clear hA hB A B) | (with_reducible refine hB ?_; clear hA hB A B) | (with_reducible refine And.intro ?_ ?_) | (with_reducible intro hc)))
    | (with_reducible refine awp_seq ?_))
  refine awp_loop (fun env h => ∃ (k : Nat), k ≤ l.length ∧ env 5 = I k ∧ env 0 = ints l ∧ env 1 = I x ∧ x ∉ l.take k ∧ h = H) (fun env _ => l.length - natA (env 5)) ?_ ?_
  · exact ⟨0, by simp [ints, upd_get]⟩
  rintro env h ⟨n, hn, h5, h0, h1, ht, rfl⟩
  have hnat : natA (env 5) = n := by simp [h5]
  rw [hnat]; clear hnat
  by_cases hlt : n < l.length
  · repeat' (first
      | (with_reducible refine awp_skip ?_)
      | (with_reducible refine then_any ?_)
      | (with_reducible refine then_ret ?_)
      | (with_reducible refine then_exit ?_)
      | (with_reducible refine inBlock_normal ?_)
      | (with_reducible refine inBlock_ret ?_)
      | (with_reducible refine inBlock_hit ?_)
      | (with_reducible refine inBlock_miss (by decide) ?_)
      | (with_reducible refine awp_ret ?_)
      | (with_reducible refine awp_exit ?_)
      | (with_reducible refine post_ret ?_)
      | (with_reducible refine post_normal ?_)
      | (with_reducible refine awp_block ?_)
      | (with_reducible refine awp_scope_ret ?_)
      | (with_reducible refine awp_label ?_)
      | (with_reducible refine v_reg [] (fun K hK => ?_))
      | (with_reducible refine v_reg1 [] (fun K hK => ?_))
      | (with_reducible refine v_draw mixed [] [] (by kernel_rfl) (fun K hK => ?_))
      | (with_reducible refine v_draw1 mixed [] [] (by kernel_rfl) (fun K hK => ?_))
      | (with_reducible refine ev_nil (hK _ _ ?_); clear hK K)
      | (with_reducible refine ed_nil (hK _ _ ?_); clear hK K)
      | ((first | with_reducible refine ev_cons (fun K' hK' => ?_) | with_reducible refine ed_cons (fun K' hK' => ?_) | (with_reducible refine ev_id ?_; refine ev_guard rfl (fun K' hK' => ?_)) | (with_reducible refine ed_id ?_; refine ed_guard rfl (fun K' hK' => ?_))); simp [h5, h0, h1, ints, hlt]; repeat' (first | (with_reducible refine hK' _ _ ?_; clear hK' K') | (with_reducible refine And.intro ?_ ?_) | (with_reducible intro hg) | (clear hK' K'; omega)))
      | (with_reducible refine w_cond (fun A B hA hB => ?_); simp [h5, h0, h1, ints, hlt]; repeat' (first | (with_reducible refine hA ?_; clear hA hB A B) | (with_reducible refine hB ?_; clear hA hB A B) | (with_reducible refine And.intro ?_ ?_) | (with_reducible intro hc)))
      | (with_reducible refine awp_seq ?_))
    · subst hc
      simp
    · refine ⟨⟨n + 1, ?_⟩, ?_⟩
      · have ht' : x ∉ l.take (n + 1) := by rw [List.take_succ_eq_append_getElem hlt]; simp only [List.mem_append, List.mem_singleton]; rintro (h | h); (· exact ht h); (· exact hc h.symm)
        refine ⟨by omega, by simp, by simp [h0], by simp [h1], ht', rfl⟩
      · simp; omega
  · have : n = l.length := by omega
    subst this
    repeat' (first
      | (with_reducible refine awp_skip ?_)
      | (with_reducible refine then_any ?_)
      | (with_reducible refine then_ret ?_)
      | (with_reducible refine then_exit ?_)
      | (with_reducible refine inBlock_normal ?_)
      | (with_reducible refine inBlock_ret ?_)
      | (with_reducible refine inBlock_hit ?_)
      | (with_reducible refine inBlock_miss (by decide) ?_)
      | (with_reducible refine awp_ret ?_)
      | (with_reducible refine awp_exit ?_)
      | (with_reducible refine post_ret ?_)
      | (with_reducible refine post_normal ?_)
      | (with_reducible refine awp_block ?_)
      | (with_reducible refine awp_scope_ret ?_)
      | (with_reducible refine awp_label ?_)
      | (with_reducible refine v_reg [] (fun K hK => ?_))
      | (with_reducible refine v_reg1 [] (fun K hK => ?_))
      | (with_reducible refine v_draw mixed [] [] (by kernel_rfl) (fun K hK => ?_))
      | (with_reducible refine v_draw1 mixed [] [] (by kernel_rfl) (fun K hK => ?_))
      | (with_reducible refine ev_nil (hK _ _ ?_); clear hK K)
      | (with_reducible refine ed_nil (hK _ _ ?_); clear hK K)
      | ((first | with_reducible refine ev_cons (fun K' hK' => ?_) | with_reducible refine ed_cons (fun K' hK' => ?_) | (with_reducible refine ev_id ?_; refine ev_guard rfl (fun K' hK' => ?_)) | (with_reducible refine ed_id ?_; refine ed_guard rfl (fun K' hK' => ?_))); simp [h5, h0, h1, ints]; repeat' (first | (with_reducible refine hK' _ _ ?_; clear hK' K') | (with_reducible refine And.intro ?_ ?_) | (with_reducible intro hg) | (clear hK' K'; omega)))
      | (with_reducible refine w_cond (fun A B hA hB => ?_); simp [h5, h0, h1, ints]; repeat' (first | (with_reducible refine hA ?_; clear hA hB A B) | (with_reducible refine hB ?_; clear hA hB A B) | (with_reducible refine And.intro ?_ ?_) | (with_reducible intro hc)))
      | (with_reducible refine awp_seq ?_))
    simpa using ht
theorem risesB_snoc {l : List Int} {last x : Int} : risesB last (l ++ [x]) = (risesB last l && decide (l.getLast?.getD last < x) && decide (x ≤ 1099511627776)) := by
  induction l generalizing last with
  | nil => simp only [List.nil_append, risesB, Bool.true_and, Bool.and_true]; rfl
  | cons y l ih =>
    rw [List.cons_append, risesB, ih, risesB]
    have : (y :: l).getLast?.getD last = l.getLast?.getD y := by simp [List.getLast?_cons]
    rw [this]
    simp only [Bool.and_assoc]
theorem risesB_above {l : List Int} {last : Int} (h : risesB last l = true) : ∀ x ∈ l, last < x ∧ x ≤ 1099511627776 := by
  induction l generalizing last with
  | nil => simp
  | cons y l ih =>
    simp [risesB] at h
    intro x hx
    rcases List.mem_cons.1 hx with rfl | hx
    · exact ⟨h.1.1, h.1.2⟩
    · have := ih h.2 x hx; omega
theorem risesB_take {l : List Int} {last : Int} {n : Nat} (h : risesB last l = true) : risesB last (l.take n) = true := by
  induction l generalizing last n with
  | nil => simpa using h
  | cons x l ih =>
    cases n with
    | zero => simp [risesB]
    | succ n =>
      simp [risesB] at h ⊢
      exact ⟨h.1, ih h.2⟩
theorem may2_ret {l : List Int} (hl : okLen l) : Ret Try.prog w0 42 [ints l] (B (risesB (-1) l)) := by
  intro H
  refine w_enter Try.func42 rfl Try.ntmps42 (ts := [2]) rfl (by simp) (by kernel_rfl) ?_
  repeat' (first
    | (with_reducible refine awp_skip ?_)
    | (with_reducible refine then_any ?_)
    | (with_reducible refine then_ret ?_)
    | (with_reducible refine then_exit ?_)
    | (with_reducible refine inBlock_normal ?_)
    | (with_reducible refine inBlock_ret ?_)
    | (with_reducible refine inBlock_hit ?_)
    | (with_reducible refine inBlock_miss (by decide) ?_)
    | (with_reducible refine awp_ret ?_)
    | (with_reducible refine awp_exit ?_)
    | (with_reducible refine post_ret ?_)
    | (with_reducible refine post_normal ?_)
    | (with_reducible refine awp_block ?_)
    | (with_reducible refine awp_scope_ret ?_)
    | (with_reducible refine awp_label ?_)
    | (with_reducible refine v_reg [] (fun K hK => ?_))
    | (with_reducible refine v_reg1 [] (fun K hK => ?_))
    | (with_reducible refine v_draw mixed [] [] (by kernel_rfl) (fun K hK => ?_))
    | (with_reducible refine v_draw1 mixed [] [] (by kernel_rfl) (fun K hK => ?_))
    | (with_reducible refine ev_nil (hK _ _ ?_); clear hK K)
    | (with_reducible refine ed_nil (hK _ _ ?_); clear hK K)
    | ((first | with_reducible refine ev_cons (fun K' hK' => ?_) | with_reducible refine ed_cons (fun K' hK' => ?_) | (with_reducible refine ev_id ?_; refine ev_guard rfl (fun K' hK' => ?_)) | (with_reducible refine ed_id ?_; refine ed_guard rfl (fun K' hK' => ?_))); simp [ints]; repeat' (first | (with_reducible refine hK' _ _ ?_; clear hK' K') | (with_reducible refine And.intro ?_ ?_) | (with_reducible intro hg) | (clear hK' K'; omega)))
    | (with_reducible refine w_cond (fun A B hA hB => ?_); simp [ints]; repeat' (first | (with_reducible refine hA ?_; clear hA hB A B) | (with_reducible refine hB ?_; clear hA hB A B) | (with_reducible refine And.intro ?_ ?_) | (with_reducible intro hc)))
    | (with_reducible refine awp_seq ?_))
  refine awp_loop (fun env h => ∃ (k : Nat), k ≤ l.length ∧ env 3 = I k ∧ env 0 = ints l ∧ risesB (-1) (l.take k) = true ∧ h = H) (fun env _ => l.length - natA (env 3)) ?_ ?_
  · exact ⟨0, by simp [ints, upd_get, risesB]⟩
  rintro env h ⟨n, hn, h3, h0, ht, rfl⟩
  have hnat : natA (env 3) = n := by simp [h3]
  rw [hnat]; clear hnat
  by_cases hlt : n < l.length
  · have hs : risesB (-1) (l.take (n + 1)) = (risesB (-1) (l.take n) && decide ((l.take n).getLast?.getD (-1) < l[n]) && decide (l[n] ≤ 1099511627776)) := by
      rw [List.take_succ_eq_append_getElem hlt, risesB_snoc]
    have hno : ¬ (risesB (-1) (l.take (n + 1)) = true) → risesB (-1) l = false := by
      intro h
      cases e : risesB (-1) l with
      | false => rfl
      | true => exact absurd (risesB_take e) h
    have hlast : ∀ h : 0 < n, (l.take n).getLast?.getD (-1) = l[n - 1] := by
      intro h
      rw [List.getLast?_eq_getElem?, List.length_take, List.getElem?_take]
      have : min n l.length - 1 = n - 1 := by omega
      rw [this, if_pos (by omega)]
      simp [show n - 1 < l.length by omega]
    have hpos : ∀ h : 0 < n, 0 ≤ l[n - 1] := by
      intro h
      have := risesB_above ht l[n - 1] (by rw [List.mem_take_iff_getElem]; exact ⟨n - 1, by omega, rfl⟩)
      omega
    have hz : n = 0 → (l.take n).getLast?.getD (-1) = -1 := by intro h; subst h; rfl
    rw [ht] at hs
    have hbad : ∀ h : (l[n] < 0 ∨ 1099511627776 < l[n] ∨ 0 < n ∧ ∃ q : n - 1 < l.length, l[n] ≤ l[n - 1]), risesB (-1) l = false := by
      intro h
      apply hno
      rw [hs]
      simp only [Bool.true_and, Bool.and_eq_true, decide_eq_true_eq, not_and]
      by_cases hn0 : n = 0
      · rw [hz hn0]; omega
      · rw [hlast (by omega)]; have := hpos (by omega); rcases h with h | h | ⟨_, _, h⟩ <;> omega
    have hgood : 0 ≤ l[n] → l[n] ≤ 1099511627776 → (∀ q : 0 < n, l[n - 1] < l[n]) → risesB (-1) (l.take (n + 1)) = true := by
      intro h1 h2 h3
      rw [hs]
      simp only [Bool.true_and, Bool.and_eq_true, decide_eq_true_eq]
      by_cases hn0 : n = 0
      · rw [hz hn0]; omega
      · rw [hlast (by omega)]; exact ⟨h3 (by omega), h2⟩
    clear hs hno hlast hpos hz
    cases n with
    | zero =>
      repeat' (first
        | (with_reducible refine awp_skip ?_)
        | (with_reducible refine then_any ?_)
        | (with_reducible refine then_ret ?_)
        | (with_reducible refine then_exit ?_)
        | (with_reducible refine inBlock_normal ?_)
        | (with_reducible refine inBlock_ret ?_)
        | (with_reducible refine inBlock_hit ?_)
        | (with_reducible refine inBlock_miss (by decide) ?_)
        | (with_reducible refine awp_ret ?_)
        | (with_reducible refine awp_exit ?_)
        | (with_reducible refine post_ret ?_)
        | (with_reducible refine post_normal ?_)
        | (with_reducible refine awp_block ?_)
        | (with_reducible refine awp_scope_ret ?_)
        | (with_reducible refine awp_label ?_)
        | (with_reducible refine v_reg [] (fun K hK => ?_))
        | (with_reducible refine v_reg1 [] (fun K hK => ?_))
        | (with_reducible refine v_draw mixed [] [] (by kernel_rfl) (fun K hK => ?_))
        | (with_reducible refine v_draw1 mixed [] [] (by kernel_rfl) (fun K hK => ?_))
        | (with_reducible refine ev_nil (hK _ _ ?_); clear hK K)
        | (with_reducible refine ed_nil (hK _ _ ?_); clear hK K)
        | ((first | with_reducible refine ev_cons (fun K' hK' => ?_) | with_reducible refine ed_cons (fun K' hK' => ?_) | (with_reducible refine ev_id ?_; refine ev_guard rfl (fun K' hK' => ?_)) | (with_reducible refine ed_id ?_; refine ed_guard rfl (fun K' hK' => ?_))); simp [h3, h0, ints, hlt]; repeat' (first | (with_reducible refine hK' _ _ ?_; clear hK' K') | (with_reducible refine And.intro ?_ ?_) | (with_reducible intro hg) | (clear hK' K'; omega)))
        | (with_reducible refine w_cond (fun A B hA hB => ?_); simp [h3, h0, ints, hlt]; repeat' (first | (with_reducible refine hA ?_; clear hA hB A B) | (with_reducible refine hB ?_; clear hA hB A B) | (with_reducible refine And.intro ?_ ?_) | (with_reducible intro hc)))
        | (with_reducible refine awp_seq ?_))
      · exact ⟨⟨1, by omega, by simp, by simp [h0], hgood ‹_› ‹_› (by omega), rfl⟩, by simp; omega⟩
      all_goals have hb := hbad (by omega); simp [hb]
    | succ m =>
      have hm : m < l.length := by omega
      repeat' (first
        | (with_reducible refine awp_skip ?_)
        | (with_reducible refine then_any ?_)
        | (with_reducible refine then_ret ?_)
        | (with_reducible refine then_exit ?_)
        | (with_reducible refine inBlock_normal ?_)
        | (with_reducible refine inBlock_ret ?_)
        | (with_reducible refine inBlock_hit ?_)
        | (with_reducible refine inBlock_miss (by decide) ?_)
        | (with_reducible refine awp_ret ?_)
        | (with_reducible refine awp_exit ?_)
        | (with_reducible refine post_ret ?_)
        | (with_reducible refine post_normal ?_)
        | (with_reducible refine awp_block ?_)
        | (with_reducible refine awp_scope_ret ?_)
        | (with_reducible refine awp_label ?_)
        | (with_reducible refine v_reg [] (fun K hK => ?_))
        | (with_reducible refine v_reg1 [] (fun K hK => ?_))
        | (with_reducible refine v_draw mixed [] [] (by kernel_rfl) (fun K hK => ?_))
        | (with_reducible refine v_draw1 mixed [] [] (by kernel_rfl) (fun K hK => ?_))
        | (with_reducible refine ev_nil (hK _ _ ?_); clear hK K)
        | (with_reducible refine ed_nil (hK _ _ ?_); clear hK K)
        | ((first | with_reducible refine ev_cons (fun K' hK' => ?_) | with_reducible refine ed_cons (fun K' hK' => ?_) | (with_reducible refine ev_id ?_; refine ev_guard rfl (fun K' hK' => ?_)) | (with_reducible refine ed_id ?_; refine ed_guard rfl (fun K' hK' => ?_))); simp [h3, h0, ints, hlt, hm]; repeat' (first | (with_reducible refine hK' _ _ ?_; clear hK' K') | (with_reducible refine And.intro ?_ ?_) | (with_reducible intro hg) | (clear hK' K'; omega)))
        | (with_reducible refine w_cond (fun A B hA hB => ?_); simp [h3, h0, ints, hlt, hm]; repeat' (first | (with_reducible refine hA ?_; clear hA hB A B) | (with_reducible refine hB ?_; clear hA hB A B) | (with_reducible refine And.intro ?_ ?_) | (with_reducible intro hc)))
        | (with_reducible refine awp_seq ?_))
      all_goals first
        | (exfalso; omega)
        | (have hb := hbad (by first | omega | exact .inr (.inr ⟨by omega, hm, by simpa using by assumption⟩)); simp [hb]; done)
        | exact ⟨⟨m + 2, by omega, by simp; omega, by simp [h0], hgood ‹_› ‹_› (fun _ => by simp; omega), rfl⟩, by simp; omega⟩
  · have : n = l.length := by omega
    subst this
    repeat' (first
      | (with_reducible refine awp_skip ?_)
      | (with_reducible refine then_any ?_)
      | (with_reducible refine then_ret ?_)
      | (with_reducible refine then_exit ?_)
      | (with_reducible refine inBlock_normal ?_)
      | (with_reducible refine inBlock_ret ?_)
      | (with_reducible refine inBlock_hit ?_)
      | (with_reducible refine inBlock_miss (by decide) ?_)
      | (with_reducible refine awp_ret ?_)
      | (with_reducible refine awp_exit ?_)
      | (with_reducible refine post_ret ?_)
      | (with_reducible refine post_normal ?_)
      | (with_reducible refine awp_block ?_)
      | (with_reducible refine awp_scope_ret ?_)
      | (with_reducible refine awp_label ?_)
      | (with_reducible refine v_reg [] (fun K hK => ?_))
      | (with_reducible refine v_reg1 [] (fun K hK => ?_))
      | (with_reducible refine v_draw mixed [] [] (by kernel_rfl) (fun K hK => ?_))
      | (with_reducible refine v_draw1 mixed [] [] (by kernel_rfl) (fun K hK => ?_))
      | (with_reducible refine ev_nil (hK _ _ ?_); clear hK K)
      | (with_reducible refine ed_nil (hK _ _ ?_); clear hK K)
      | ((first | with_reducible refine ev_cons (fun K' hK' => ?_) | with_reducible refine ed_cons (fun K' hK' => ?_) | (with_reducible refine ev_id ?_; refine ev_guard rfl (fun K' hK' => ?_)) | (with_reducible refine ed_id ?_; refine ed_guard rfl (fun K' hK' => ?_))); simp [h3, h0, ints]; repeat' (first | (with_reducible refine hK' _ _ ?_; clear hK' K') | (with_reducible refine And.intro ?_ ?_) | (with_reducible intro hg) | (clear hK' K'; omega)))
      | (with_reducible refine w_cond (fun A B hA hB => ?_); simp [h3, h0, ints]; repeat' (first | (with_reducible refine hA ?_; clear hA hB A B) | (with_reducible refine hB ?_; clear hA hB A B) | (with_reducible refine And.intro ?_ ?_) | (with_reducible intro hc)))
      | (with_reducible refine awp_seq ?_))
    rw [List.take_length] at ht
    simp [ht]
end Go.Am
namespace Go.Am
open Go Go.Proofs
set_option linter.unusedVariables false
set_option linter.unusedSimpArgs false
variable {w0 : World}
attribute [local irreducible] AWP ACalls
attribute [local congr] acalls_congr
theorem has2_ret {l : List Int} {x : Int} (hl : okLen l) : Ret Try.prog w0 23 [ints l, I x] (B (risesB (-1) l && decide (x ∈ l))) := by
  intro H
  refine w_enter Try.func23 rfl Try.ntmps23 (ts := [4]) rfl (by simp) (by kernel_rfl) ?_
  repeat' (first
    | (with_reducible refine awp_skip ?_)
    | (with_reducible refine then_any ?_)
    | (with_reducible refine then_ret ?_)
    | (with_reducible refine then_exit ?_)
    | (with_reducible refine inBlock_normal ?_)
    | (with_reducible refine inBlock_ret ?_)
    | (with_reducible refine inBlock_hit ?_)
    | (with_reducible refine inBlock_miss (by decide) ?_)
    | (with_reducible refine awp_ret ?_)
    | (with_reducible refine awp_exit ?_)
    | (with_reducible refine post_ret ?_)
    | (with_reducible refine post_normal ?_)
    | (with_reducible refine awp_block ?_)
    | (with_reducible refine awp_scope_ret ?_)
    | (with_reducible refine awp_label ?_)
    | (with_reducible refine v_reg [] (fun K hK => ?_))
    | (with_reducible refine v_reg1 [] (fun K hK => ?_))
    | (with_reducible refine v_draw mixed [] [] (by kernel_rfl) (fun K hK => ?_))
    | (with_reducible refine v_draw1 mixed [] [] (by kernel_rfl) (fun K hK => ?_))
    | (with_reducible refine ev_nil (hK _ _ ?_); clear hK K)
    | (with_reducible refine ed_nil (hK _ _ ?_); clear hK K)
    | ((first | with_reducible refine ev_cons (fun K' hK' => ?_) | with_reducible refine ed_cons (fun K' hK' => ?_) | (with_reducible refine ev_id ?_; refine ev_guard rfl (fun K' hK' => ?_)) | (with_reducible refine ed_id ?_; refine ed_guard rfl (fun K' hK' => ?_))); simp [ints]; repeat' (first | (with_reducible refine hK' _ _ ?_; clear hK' K') | (with_reducible refine Ret.use (may2_ret hl) ?_; try simp [ints]) | (with_reducible refine Ret.use (in_ret hl) ?_; try simp [ints]) | (with_reducible refine And.intro ?_ ?_) | (with_reducible intro hg) | (clear hK' K'; omega)))
    | (with_reducible refine w_cond (fun A B hA hB => ?_); simp [ints]; repeat' (first | (with_reducible refine hA ?_; clear hA hB A B) | (with_reducible refine hB ?_; clear hA hB A B) | (with_reducible refine And.intro ?_ ?_) | (with_reducible intro hc)))
    | (with_reducible refine awp_seq ?_))
  all_goals simp_all
abbrev smLen {α : Type} (l : List α) : Prop := l.length ≤ 1099511627776
theorem sub2_ret {a b : List Int} (ha : okLen a) (hb : okLen b) : Ret Try.prog w0 28 [ints a, ints b] (B (risesB (-1) a && risesB (-1) b && a.all fun x => decide (x ∈ b))) := by
  intro H
  refine w_enter Try.func28 rfl Try.ntmps28 (ts := [4]) rfl (by simp) (by kernel_rfl) ?_
  repeat' (first
    | (with_reducible refine awp_skip ?_)
    | (with_reducible refine then_any ?_)
    | (with_reducible refine then_ret ?_)
    | (with_reducible refine then_exit ?_)
    | (with_reducible refine inBlock_normal ?_)
    | (with_reducible refine inBlock_ret ?_)
    | (with_reducible refine inBlock_hit ?_)
    | (with_reducible refine inBlock_miss (by decide) ?_)
    | (with_reducible refine awp_ret ?_)
    | (with_reducible refine awp_exit ?_)
    | (with_reducible refine post_ret ?_)
    | (with_reducible refine post_normal ?_)
    | (with_reducible refine awp_block ?_)
    | (with_reducible refine awp_scope_ret ?_)
    | (with_reducible refine awp_label ?_)
    | (with_reducible refine v_reg [] (fun K hK => ?_))
    | (with_reducible refine v_reg1 [] (fun K hK => ?_))
    | (with_reducible refine v_draw mixed [] [] (by kernel_rfl) (fun K hK => ?_))
    | (with_reducible refine v_draw1 mixed [] [] (by kernel_rfl) (fun K hK => ?_))
    | (with_reducible refine ev_nil (hK _ _ ?_); clear hK K)
    | (with_reducible refine ed_nil (hK _ _ ?_); clear hK K)
    | ((first | with_reducible refine ev_cons (fun K' hK' => ?_) | with_reducible refine ed_cons (fun K' hK' => ?_) | (with_reducible refine ev_id ?_; refine ev_guard rfl (fun K' hK' => ?_)) | (with_reducible refine ed_id ?_; refine ed_guard rfl (fun K' hK' => ?_))); simp [ints]; repeat' (first | (with_reducible refine hK' _ _ ?_; clear hK' K') | (with_reducible refine And.intro ?_ ?_) | (with_reducible intro hg) | (clear hK' K'; omega)))
    | (with_reducible refine w_cond (fun A B hA hB => ?_); simp [ints]; repeat' (first | (with_reducible refine hA ?_; clear hA hB A B) | (with_reducible refine hB ?_; clear hA hB A B) | (with_reducible refine And.intro ?_ ?_) | (with_reducible intro hc)))
    | (with_reducible refine awp_seq ?_))
  refine awp_loop (fun env h => ∃ (k : Nat), k ≤ a.length ∧ env 5 = I k ∧ env 0 = ints a ∧ env 1 = ints b ∧ ((a.take k).all fun x => decide (x ∈ b)) = true ∧ h = H) (fun env _ => a.length - natA (env 5)) ?_ ?_
  · exact ⟨0, by simp [ints, upd_get]⟩
  rintro env h ⟨n, hn, h5, h0, h1, ht, rfl⟩
  have hnat : natA (env 5) = n := by simp [h5]
  rw [hnat]; clear hnat
  by_cases hlt : n < a.length
  · have hf : ((a.take (n + 1)).all fun x => decide (x ∈ b)) = decide (a[n] ∈ b) := by
      rw [List.take_succ_eq_append_getElem hlt, List.all_append, ht]; simp
    repeat' (first
      | (with_reducible refine awp_skip ?_)
      | (with_reducible refine then_any ?_)
      | (with_reducible refine then_ret ?_)
      | (with_reducible refine then_exit ?_)
      | (with_reducible refine inBlock_normal ?_)
      | (with_reducible refine inBlock_ret ?_)
      | (with_reducible refine inBlock_hit ?_)
      | (with_reducible refine inBlock_miss (by decide) ?_)
      | (with_reducible refine awp_ret ?_)
      | (with_reducible refine awp_exit ?_)
      | (with_reducible refine post_ret ?_)
      | (with_reducible refine post_normal ?_)
      | (with_reducible refine awp_block ?_)
      | (with_reducible refine awp_scope_ret ?_)
      | (with_reducible refine awp_label ?_)
      | (with_reducible refine v_reg [] (fun K hK => ?_))
      | (with_reducible refine v_reg1 [] (fun K hK => ?_))
      | (with_reducible refine v_draw mixed [] [] (by kernel_rfl) (fun K hK => ?_))
      | (with_reducible refine v_draw1 mixed [] [] (by kernel_rfl) (fun K hK => ?_))
      | (with_reducible refine ev_nil (hK _ _ ?_); clear hK K)
      | (with_reducible refine ed_nil (hK _ _ ?_); clear hK K)
      | ((first | with_reducible refine ev_cons (fun K' hK' => ?_) | with_reducible refine ed_cons (fun K' hK' => ?_) | (with_reducible refine ev_id ?_; refine ev_guard rfl (fun K' hK' => ?_)) | (with_reducible refine ed_id ?_; refine ed_guard rfl (fun K' hK' => ?_))); simp [h0, h1, h5, ints, hlt]; repeat' (first | (with_reducible refine hK' _ _ ?_; clear hK' K') | (with_reducible refine Ret.use (in_ret hb) ?_; try simp [h0, h1, h5, ints, hlt]) | (with_reducible refine And.intro ?_ ?_) | (with_reducible intro hg) | (clear hK' K'; omega)))
      | (with_reducible refine w_cond (fun A B hA hB => ?_); simp [h0, h1, h5, ints, hlt]; repeat' (first | (with_reducible refine hA ?_; clear hA hB A B) | (with_reducible refine hB ?_; clear hA hB A B) | (with_reducible refine And.intro ?_ ?_) | (with_reducible intro hc)))
      | (with_reducible refine awp_seq ?_))
    · have : (a.all fun x => decide (x ∈ b)) = false := by
        rw [List.all_eq_false]; exact ⟨a[n], by simp, by simpa using hc⟩
      simp [this]
    · exact ⟨⟨n + 1, by omega, by simp, by simp [h0], by simp [h1], by rw [hf]; simp [hc], rfl⟩, by simp; omega⟩
  · have : n = a.length := by omega
    subst this
    rw [List.take_length] at ht
    repeat' (first
      | (with_reducible refine awp_skip ?_)
      | (with_reducible refine then_any ?_)
      | (with_reducible refine then_ret ?_)
      | (with_reducible refine then_exit ?_)
      | (with_reducible refine inBlock_normal ?_)
      | (with_reducible refine inBlock_ret ?_)
      | (with_reducible refine inBlock_hit ?_)
      | (with_reducible refine inBlock_miss (by decide) ?_)
      | (with_reducible refine awp_ret ?_)
      | (with_reducible refine awp_exit ?_)
      | (with_reducible refine post_ret ?_)
      | (with_reducible refine post_normal ?_)
      | (with_reducible refine awp_block ?_)
      | (with_reducible refine awp_scope_ret ?_)
      | (with_reducible refine awp_label ?_)
      | (with_reducible refine v_reg [] (fun K hK => ?_))
      | (with_reducible refine v_reg1 [] (fun K hK => ?_))
      | (with_reducible refine v_draw mixed [] [] (by kernel_rfl) (fun K hK => ?_))
      | (with_reducible refine v_draw1 mixed [] [] (by kernel_rfl) (fun K hK => ?_))
      | (with_reducible refine ev_nil (hK _ _ ?_); clear hK K)
      | (with_reducible refine ed_nil (hK _ _ ?_); clear hK K)
      | ((first | with_reducible refine ev_cons (fun K' hK' => ?_) | with_reducible refine ed_cons (fun K' hK' => ?_) | (with_reducible refine ev_id ?_; refine ev_guard rfl (fun K' hK' => ?_)) | (with_reducible refine ed_id ?_; refine ed_guard rfl (fun K' hK' => ?_))); simp [h0, h1, h5, ints]; repeat' (first | (with_reducible refine hK' _ _ ?_; clear hK' K') | (with_reducible refine Ret.use (may2_ret ha) ?_; try simp [h0, h1, h5, ints]) | (with_reducible refine Ret.use (may2_ret hb) ?_; try simp [h0, h1, h5, ints]) | (with_reducible refine And.intro ?_ ?_) | (with_reducible intro hg) | (clear hK' K'; omega)))
      | (with_reducible refine w_cond (fun A B hA hB => ?_); simp [h0, h1, h5, ints]; repeat' (first | (with_reducible refine hA ?_; clear hA hB A B) | (with_reducible refine hB ?_; clear hA hB A B) | (with_reducible refine And.intro ?_ ?_) | (with_reducible intro hc)))
      | (with_reducible refine awp_seq ?_))
    all_goals simp_all
def upto (n : Nat) : List Int := (List.range n).map Int.ofNat
@[simp] theorem upto_length (n : Nat) : (upto n).length = n := by simp [upto]
theorem upto_succ (n : Nat) : upto (n + 1) = upto n ++ [(n : Int)] := by simp [upto, List.range_succ]
theorem upto_zero : upto 0 = [] := rfl
theorem upto_get {n k : Nat} (h : k < (upto n).length) : (upto n)[k] = k := by simp [upto]
theorem mem_upto {n : Nat} {x : Int} : x ∈ upto n ↔ 0 ≤ x ∧ x < n := by
  simp only [upto, List.mem_map, List.mem_range]
  constructor
  · rintro ⟨k, hk, rfl⟩; simp only [Int.ofNat_eq_natCast]; omega
  · intro h; exact ⟨x.toNat, by omega, by simp only [Int.ofNat_eq_natCast]; omega⟩
theorem cut_upto (n : Nat) : cut 1 ((upto n).map I) 0 n = ints (upto n) := by
  have := cut_map I (upto n)
  rw [upto_length] at this
  rw [ints, upto_length]; exact this
end Go.Am
namespace Go.Am
open Go Go.Proofs
set_option linter.unusedVariables false
set_option linter.unusedSimpArgs false
variable {w0 : World}
attribute [local irreducible] AWP ACalls
attribute [local congr] acalls_congr
def mergeL (l r b : Bool) : List Int → List Int → List Int
  | [], [] => []
  | [], y :: bs => if r then y :: mergeL l r b [] bs else mergeL l r b [] bs
  | x :: xs, [] => if l then x :: mergeL l r b xs [] else mergeL l r b xs []
  | x :: xs, y :: bs =>
    if x < y then (if l then x :: mergeL l r b xs (y :: bs) else mergeL l r b xs (y :: bs))
    else if y < x then (if r then y :: mergeL l r b (x :: xs) bs else mergeL l r b (x :: xs) bs)
    else (if b then x :: mergeL l r b xs bs else mergeL l r b xs bs)
termination_by a b => a.length + b.length
theorem merge_ret {a b : List Int} {l r c : Bool} (ha : smLen a) (hb : smLen b) : Ret Try.prog w0 90 [ints a, ints b, B l, B r, B c] (ints (if risesB (-1) a && risesB (-1) b then mergeL l r c a b else [])) := by
  intro H
  have ha' : okLen a := by omega
  have hb' : okLen b := by omega
  refine w_enter Try.func90 rfl Try.ntmps90 (ts := [10]) rfl (by simp) (by kernel_rfl) ?_ |> ret_frz
  repeat' (first
    | (with_reducible refine awp_skip ?_)
    | (with_reducible refine then_any ?_)
    | (with_reducible refine then_ret ?_)
    | (with_reducible refine then_exit ?_)
    | (with_reducible refine inBlock_normal ?_)
    | (with_reducible refine inBlock_ret ?_)
    | (with_reducible refine inBlock_hit ?_)
    | (with_reducible refine inBlock_miss (by decide) ?_)
    | (with_reducible refine awp_ret ?_)
    | (with_reducible refine awp_exit ?_)
    | (with_reducible refine post_ret ?_)
    | (with_reducible refine post_normal ?_)
    | (with_reducible refine awp_block ?_)
    | (with_reducible refine awp_scope_ret ?_)
    | (with_reducible refine awp_label ?_)
    | (with_reducible refine v_reg [11] (fun K hK => ?_))
    | (with_reducible refine v_reg1 [11] (fun K hK => ?_))
    | (with_reducible refine v_draw mixed [11] [] (by kernel_rfl) (fun K hK => ?_))
    | (with_reducible refine v_draw1 mixed [11] [] (by kernel_rfl) (fun K hK => ?_))
    | (with_reducible refine ev_nil (hK _ _ ?_); clear hK K)
    | (with_reducible refine ed_nil (hK _ _ ?_); clear hK K)
    | ((first | with_reducible refine ev_cons (fun K' hK' => ?_) | with_reducible refine ed_cons (fun K' hK' => ?_) | (with_reducible refine ev_id ?_; refine ev_guard rfl (fun K' hK' => ?_)) | (with_reducible refine ed_id ?_; refine ed_guard rfl (fun K' hK' => ?_))); simp [ints]; repeat' (first | (with_reducible refine hK' _ _ ?_; clear hK' K') | (with_reducible refine Ret.use (may_ret ha') ?_; try simp [ints]) | (with_reducible refine Ret.use (may_ret hb') ?_; try simp [ints]) | (with_reducible refine And.intro ?_ ?_) | (with_reducible intro hg) | (clear hK' K'; omega)))
    | (with_reducible refine w_cond (fun A B hA hB => ?_); simp [ints]; repeat' (first | (with_reducible refine hA ?_; clear hA hB A B) | (with_reducible refine hB ?_; clear hA hB A B) | (with_reducible refine And.intro ?_ ?_) | (with_reducible intro hc)))
    | (with_reducible refine awp_seq ?_))
  · exact .inl ⟨by simp [hc], .refl _⟩
  · rename_i hra r' 
    have hr : H r' = none := hg
    clear hg
    rw [hra, hc]
    simp only [Bool.and_self, if_true]
    refine awp_loop (fun env h => ∃ (out a' b' : List Int), out ++ mergeL l r c a' b' = mergeL l r c a b ∧ a'.length ≤ a.length ∧ b'.length ≤ b.length ∧ out.length + a'.length + b'.length ≤ a.length + b.length ∧
       env 0 = ints a' ∧ env 1 = ints b' ∧ env 2 = B l ∧ env 3 = B r ∧ env 4 = B c ∧ env 11 = .ref r' 0 out.length out.length ∧ h = upd H r' (some (.arr 1 3 (out.map I) out.length))) (fun env _ => lenA (env 0) + lenA (env 1)) ?_ ?_
    · exact ⟨[], a, b, rfl, by omega, by omega, by simp, by simp [ints], by simp [ints], by simp, by simp, by simp, by simp, by simp⟩
    rintro env h ⟨out, a', b', ho, hla, hlb, hlo, h0, h1, h2, h3, h4, h11, rfl⟩
    have hm : lenA (env 0) + lenA (env 1) = a'.length + b'.length := by simp [h0, h1, lenA, ints]
    rw [hm]; clear hm
    cases a' with
    | nil =>
      cases b' with
      | nil =>
        repeat' (first
          | (with_reducible refine awp_skip ?_)
          | (with_reducible refine then_any ?_)
          | (with_reducible refine then_ret ?_)
          | (with_reducible refine then_exit ?_)
          | (with_reducible refine inBlock_normal ?_)
          | (with_reducible refine inBlock_ret ?_)
          | (with_reducible refine inBlock_hit ?_)
          | (with_reducible refine inBlock_miss (by decide) ?_)
          | (with_reducible refine awp_ret ?_)
          | (with_reducible refine awp_exit ?_)
          | (with_reducible refine post_ret ?_)
          | (with_reducible refine post_normal ?_)
          | (with_reducible refine awp_block ?_)
          | (with_reducible refine awp_scope_ret ?_)
          | (with_reducible refine awp_label ?_)
          | (with_reducible refine v_reg [] (fun K hK => ?_))
          | (with_reducible refine v_reg1 [] (fun K hK => ?_))
          | (with_reducible refine v_draw mixed [] [] (by kernel_rfl) (fun K hK => ?_))
          | (with_reducible refine v_draw1 mixed [] [] (by kernel_rfl) (fun K hK => ?_))
          | (with_reducible refine ev_nil (hK _ _ ?_); clear hK K)
          | (with_reducible refine ed_nil (hK _ _ ?_); clear hK K)
          | ((first | with_reducible refine ev_cons (fun K' hK' => ?_) | with_reducible refine ed_cons (fun K' hK' => ?_) | (with_reducible refine ev_id ?_; refine ev_guard rfl (fun K' hK' => ?_)) | (with_reducible refine ed_id ?_; refine ed_guard rfl (fun K' hK' => ?_))); simp [h0, h1, h2, h3, h4, h11, ints]; repeat' (first | (with_reducible refine hK' _ _ ?_; clear hK' K') | (with_reducible refine And.intro ?_ ?_) | (with_reducible intro hg) | (clear hK' K'; omega)))
          | (with_reducible refine w_cond (fun A B hA hB => ?_); simp [h0, h1, h2, h3, h4, h11, ints]; repeat' (first | (with_reducible refine hA ?_; clear hA hB A B) | (with_reducible refine hB ?_; clear hA hB A B) | (with_reducible refine And.intro ?_ ?_) | (with_reducible intro hc)))
          | (with_reducible refine awp_seq ?_))
        refine frz hr (by simp) rfl ?_
        rw [mergeL, List.append_nil] at ho
        simp [ho]
      | cons y ys =>
        rw [mergeL] at ho
        simp only [List.length_cons, List.length_nil] at hla hlb hlo
        repeat' (first
          | (with_reducible refine awp_skip ?_)
          | (with_reducible refine then_any ?_)
          | (with_reducible refine then_ret ?_)
          | (with_reducible refine then_exit ?_)
          | (with_reducible refine inBlock_normal ?_)
          | (with_reducible refine inBlock_ret ?_)
          | (with_reducible refine inBlock_hit ?_)
          | (with_reducible refine inBlock_miss (by decide) ?_)
          | (with_reducible refine awp_ret ?_)
          | (with_reducible refine awp_exit ?_)
          | (with_reducible refine post_ret ?_)
          | (with_reducible refine post_normal ?_)
          | (with_reducible refine awp_block ?_)
          | (with_reducible refine awp_scope_ret ?_)
          | (with_reducible refine awp_label ?_)
          | (with_reducible refine v_reg [] (fun K hK => ?_))
          | (with_reducible refine v_reg1 [] (fun K hK => ?_))
          | (with_reducible refine v_draw mixed [] [] (by kernel_rfl) (fun K hK => ?_))
          | (with_reducible refine v_draw1 mixed [] [] (by kernel_rfl) (fun K hK => ?_))
          | (with_reducible refine ev_nil (hK _ _ ?_); clear hK K)
          | (with_reducible refine ed_nil (hK _ _ ?_); clear hK K)
          | ((first | with_reducible refine ev_cons (fun K' hK' => ?_) | with_reducible refine ed_cons (fun K' hK' => ?_) | (with_reducible refine ev_id ?_; refine ev_guard rfl (fun K' hK' => ?_)) | (with_reducible refine ed_id ?_; refine ed_guard rfl (fun K' hK' => ?_))); simp [h0, h1, h2, h3, h4, h11, ints]; repeat' (first | (with_reducible refine hK' _ _ ?_; clear hK' K') | (with_reducible refine And.intro ?_ ?_) | (with_reducible intro hg) | (clear hK' K'; omega)))
          | (with_reducible refine w_cond (fun A B hA hB => ?_); simp [h0, h1, h2, h3, h4, h11, ints]; repeat' (first | (with_reducible refine hA ?_; clear hA hB A B) | (with_reducible refine hB ?_; clear hA hB A B) | (with_reducible refine And.intro ?_ ?_) | (with_reducible intro hc)))
          | (with_reducible refine awp_seq ?_))
        · exact ⟨⟨out ++ [y], [], ys, by simpa [hc] using ho, by (try simp) <;> omega, by (try simp) <;> omega, by (try simp) <;> omega, by simp [h0], by simp [h1], by simp [h2], by simp [h3], by simp [h4], by simp [h11], by simp⟩, by (try simp [lenA, h0, h1]) <;> omega⟩
        · exact ⟨⟨out, [], ys, by simpa [hc] using ho, by (try simp) <;> omega, by (try simp) <;> omega, by (try simp) <;> omega, by simp [h0], by simp [h1], by simp [h2], by simp [h3], by simp [h4], by simp [h11], by simp⟩, by (try simp [lenA, h0, h1]) <;> omega⟩
    | cons x xs =>
      cases b' with
      | nil =>
        rw [mergeL] at ho
        simp only [List.length_cons, List.length_nil] at hla hlb hlo
        repeat' (first
          | (with_reducible refine awp_skip ?_)
          | (with_reducible refine then_any ?_)
          | (with_reducible refine then_ret ?_)
          | (with_reducible refine then_exit ?_)
          | (with_reducible refine inBlock_normal ?_)
          | (with_reducible refine inBlock_ret ?_)
          | (with_reducible refine inBlock_hit ?_)
          | (with_reducible refine inBlock_miss (by decide) ?_)
          | (with_reducible refine awp_ret ?_)
          | (with_reducible refine awp_exit ?_)
          | (with_reducible refine post_ret ?_)
          | (with_reducible refine post_normal ?_)
          | (with_reducible refine awp_block ?_)
          | (with_reducible refine awp_scope_ret ?_)
          | (with_reducible refine awp_label ?_)
          | (with_reducible refine v_reg [] (fun K hK => ?_))
          | (with_reducible refine v_reg1 [] (fun K hK => ?_))
          | (with_reducible refine v_draw mixed [] [] (by kernel_rfl) (fun K hK => ?_))
          | (with_reducible refine v_draw1 mixed [] [] (by kernel_rfl) (fun K hK => ?_))
          | (with_reducible refine ev_nil (hK _ _ ?_); clear hK K)
          | (with_reducible refine ed_nil (hK _ _ ?_); clear hK K)
          | ((first | with_reducible refine ev_cons (fun K' hK' => ?_) | with_reducible refine ed_cons (fun K' hK' => ?_) | (with_reducible refine ev_id ?_; refine ev_guard rfl (fun K' hK' => ?_)) | (with_reducible refine ed_id ?_; refine ed_guard rfl (fun K' hK' => ?_))); simp [h0, h1, h2, h3, h4, h11, ints]; repeat' (first | (with_reducible refine hK' _ _ ?_; clear hK' K') | (with_reducible refine And.intro ?_ ?_) | (with_reducible intro hg) | (clear hK' K'; omega)))
          | (with_reducible refine w_cond (fun A B hA hB => ?_); simp [h0, h1, h2, h3, h4, h11, ints]; repeat' (first | (with_reducible refine hA ?_; clear hA hB A B) | (with_reducible refine hB ?_; clear hA hB A B) | (with_reducible refine And.intro ?_ ?_) | (with_reducible intro hc)))
          | (with_reducible refine awp_seq ?_))
        · exact ⟨⟨out ++ [x], xs, [], by simpa [hc] using ho, by (try simp) <;> omega, by (try simp) <;> omega, by (try simp) <;> omega, by simp [h0], by simp [h1], by simp [h2], by simp [h3], by simp [h4], by simp [h11], by simp⟩, by (try simp [lenA, h0, h1]) <;> omega⟩
        · exact ⟨⟨out, xs, [], by simpa [hc] using ho, by (try simp) <;> omega, by (try simp) <;> omega, by (try simp) <;> omega, by simp [h0], by simp [h1], by simp [h2], by simp [h3], by simp [h4], by simp [h11], by simp⟩, by (try simp [lenA, h0, h1]) <;> omega⟩
      | cons y ys =>
        rw [mergeL] at ho
        simp only [List.length_cons, List.length_nil] at hla hlb hlo
        repeat' (first
          | (with_reducible refine awp_skip ?_)
          | (with_reducible refine then_any ?_)
          | (with_reducible refine then_ret ?_)
          | (with_reducible refine then_exit ?_)
          | (with_reducible refine inBlock_normal ?_)
          | (with_reducible refine inBlock_ret ?_)
          | (with_reducible refine inBlock_hit ?_)
          | (with_reducible refine inBlock_miss (by decide) ?_)
          | (with_reducible refine awp_ret ?_)
          | (with_reducible refine awp_exit ?_)
          | (with_reducible refine post_ret ?_)
          | (with_reducible refine post_normal ?_)
          | (with_reducible refine awp_block ?_)
          | (with_reducible refine awp_scope_ret ?_)
          | (with_reducible refine awp_label ?_)
          | (with_reducible refine v_reg [] (fun K hK => ?_))
          | (with_reducible refine v_reg1 [] (fun K hK => ?_))
          | (with_reducible refine v_draw mixed [] [] (by kernel_rfl) (fun K hK => ?_))
          | (with_reducible refine v_draw1 mixed [] [] (by kernel_rfl) (fun K hK => ?_))
          | (with_reducible refine ev_nil (hK _ _ ?_); clear hK K)
          | (with_reducible refine ed_nil (hK _ _ ?_); clear hK K)
          | ((first | with_reducible refine ev_cons (fun K' hK' => ?_) | with_reducible refine ed_cons (fun K' hK' => ?_) | (with_reducible refine ev_id ?_; refine ev_guard rfl (fun K' hK' => ?_)) | (with_reducible refine ed_id ?_; refine ed_guard rfl (fun K' hK' => ?_))); simp [h0, h1, h2, h3, h4, h11, ints]; repeat' (first | (with_reducible refine hK' _ _ ?_; clear hK' K') | (with_reducible refine And.intro ?_ ?_) | (with_reducible intro hg) | (clear hK' K'; omega)))
          | (with_reducible refine w_cond (fun A B hA hB => ?_); simp [h0, h1, h2, h3, h4, h11, ints]; repeat' (first | (with_reducible refine hA ?_; clear hA hB A B) | (with_reducible refine hB ?_; clear hA hB A B) | (with_reducible refine And.intro ?_ ?_) | (with_reducible intro hc)))
          | (with_reducible refine awp_seq ?_))
        all_goals first
          | (exfalso; omega)
          | exact ⟨⟨out ++ [x], xs, y :: ys, by rw [if_pos (by omega), if_pos hc] at ho; simpa using ho, by (try simp) <;> omega, by (try simp) <;> omega, by (try simp) <;> omega, by simp [h0], by simp [h1], by simp [h2], by simp [h3], by simp [h4], by simp [h11], by simp⟩, by (try simp [lenA, h0, h1]) <;> omega⟩
          | exact ⟨⟨out, xs, y :: ys, by rw [if_pos (by omega), if_neg (by simp [hc])] at ho; simpa using ho, by (try simp) <;> omega, by (try simp) <;> omega, by (try simp) <;> omega, by simp [h0], by simp [h1], by simp [h2], by simp [h3], by simp [h4], by simp [h11], by simp⟩, by (try simp [lenA, h0, h1]) <;> omega⟩
          | exact ⟨⟨out ++ [y], x :: xs, ys, by rw [if_neg (by omega), if_pos (by omega), if_pos hc] at ho; simpa using ho, by (try simp) <;> omega, by (try simp) <;> omega, by (try simp) <;> omega, by simp [h0], by simp [h1], by simp [h2], by simp [h3], by simp [h4], by simp [h11], by simp⟩, by (try simp [lenA, h0, h1]) <;> omega⟩
          | exact ⟨⟨out, x :: xs, ys, by rw [if_neg (by omega), if_pos (by omega), if_neg (by simp [hc])] at ho; simpa using ho, by (try simp) <;> omega, by (try simp) <;> omega, by (try simp) <;> omega, by simp [h0], by simp [h1], by simp [h2], by simp [h3], by simp [h4], by simp [h11], by simp⟩, by (try simp [lenA, h0, h1]) <;> omega⟩
          | exact ⟨⟨out ++ [x], xs, ys, by rw [if_neg (by omega), if_neg (by omega), if_pos hc] at ho; simpa using ho, by (try simp) <;> omega, by (try simp) <;> omega, by (try simp) <;> omega, by simp [h0], by simp [h1], by simp [h2], by simp [h3], by simp [h4], by simp [h11], by simp⟩, by (try simp [lenA, h0, h1]) <;> omega⟩
          | exact ⟨⟨out, xs, ys, by rw [if_neg (by omega), if_neg (by omega), if_neg (by simp [hc])] at ho; simpa using ho, by (try simp) <;> omega, by (try simp) <;> omega, by (try simp) <;> omega, by simp [h0], by simp [h1], by simp [h2], by simp [h3], by simp [h4], by simp [h11], by simp⟩, by (try simp [lenA, h0, h1]) <;> omega⟩
  · exact .inl ⟨by simp [hg], .refl _⟩
end Go.Am
namespace Go.Am
open Go Go.Proofs
set_option linter.unusedVariables false
set_option linter.unusedSimpArgs false
variable {w0 : World}
attribute [local irreducible] AWP ACalls
attribute [local congr] acalls_congr
def unionL (a b : List Int) : List Int := if risesB (-1) a && risesB (-1) b then mergeL true true true a b else []
def minusL (a b : List Int) : List Int := if risesB (-1) a && risesB (-1) b then mergeL true false false a b else []
theorem union_ret {a b : List Int} (ha : smLen a) (hb : smLen b) : Ret Try.prog w0 71 [ints a, ints b] (ints (unionL a b)) := by
  intro H
  refine w_enter Try.func71 rfl Try.ntmps71 (ts := [4]) rfl (by simp) (by kernel_rfl) ?_
  repeat' (first
    | (with_reducible refine awp_skip ?_)
    | (with_reducible refine then_any ?_)
    | (with_reducible refine then_ret ?_)
    | (with_reducible refine then_exit ?_)
    | (with_reducible refine inBlock_normal ?_)
    | (with_reducible refine inBlock_ret ?_)
    | (with_reducible refine inBlock_hit ?_)
    | (with_reducible refine inBlock_miss (by decide) ?_)
    | (with_reducible refine awp_ret ?_)
    | (with_reducible refine awp_exit ?_)
    | (with_reducible refine post_ret ?_)
    | (with_reducible refine post_normal ?_)
    | (with_reducible refine awp_block ?_)
    | (with_reducible refine awp_scope_ret ?_)
    | (with_reducible refine awp_label ?_)
    | (with_reducible refine v_reg [] (fun K hK => ?_))
    | (with_reducible refine v_reg1 [] (fun K hK => ?_))
    | (with_reducible refine v_draw mixed [] [] (by kernel_rfl) (fun K hK => ?_))
    | (with_reducible refine v_draw1 mixed [] [] (by kernel_rfl) (fun K hK => ?_))
    | (with_reducible refine ev_nil (hK _ _ ?_); clear hK K)
    | (with_reducible refine ed_nil (hK _ _ ?_); clear hK K)
    | ((first | with_reducible refine ev_cons (fun K' hK' => ?_) | with_reducible refine ed_cons (fun K' hK' => ?_) | (with_reducible refine ev_id ?_; refine ev_guard rfl (fun K' hK' => ?_)) | (with_reducible refine ed_id ?_; refine ed_guard rfl (fun K' hK' => ?_))); simp [ints]; repeat' (first | (with_reducible refine hK' _ _ ?_; clear hK' K') | (with_reducible refine Ret.use (merge_ret ha hb) ?_; try simp [ints]) | (with_reducible refine And.intro ?_ ?_) | (with_reducible intro hg) | (clear hK' K'; omega)))
    | (with_reducible refine w_cond (fun A B hA hB => ?_); simp [ints]; repeat' (first | (with_reducible refine hA ?_; clear hA hB A B) | (with_reducible refine hB ?_; clear hA hB A B) | (with_reducible refine And.intro ?_ ?_) | (with_reducible intro hc)))
    | (with_reducible refine awp_seq ?_))
  simp [unionL]
theorem isnan_ret {x : Int} : Ret Try.prog w0 105 [I x] (B false) := by
  intro H
  refine w_enter Try.func105 rfl Try.ntmps105 (ts := [2]) rfl (by simp) (by kernel_rfl) ?_
  repeat' (first
    | (with_reducible refine awp_skip ?_)
    | (with_reducible refine then_any ?_)
    | (with_reducible refine then_ret ?_)
    | (with_reducible refine then_exit ?_)
    | (with_reducible refine inBlock_normal ?_)
    | (with_reducible refine inBlock_ret ?_)
    | (with_reducible refine inBlock_hit ?_)
    | (with_reducible refine inBlock_miss (by decide) ?_)
    | (with_reducible refine awp_ret ?_)
    | (with_reducible refine awp_exit ?_)
    | (with_reducible refine post_ret ?_)
    | (with_reducible refine post_normal ?_)
    | (with_reducible refine awp_block ?_)
    | (with_reducible refine awp_scope_ret ?_)
    | (with_reducible refine awp_label ?_)
    | (with_reducible refine v_reg [] (fun K hK => ?_))
    | (with_reducible refine v_reg1 [] (fun K hK => ?_))
    | (with_reducible refine v_draw mixed [] [] (by kernel_rfl) (fun K hK => ?_))
    | (with_reducible refine v_draw1 mixed [] [] (by kernel_rfl) (fun K hK => ?_))
    | (with_reducible refine ev_nil (hK _ _ ?_); clear hK K)
    | (with_reducible refine ed_nil (hK _ _ ?_); clear hK K)
    | ((first | with_reducible refine ev_cons (fun K' hK' => ?_) | with_reducible refine ed_cons (fun K' hK' => ?_) | (with_reducible refine ev_id ?_; refine ev_guard rfl (fun K' hK' => ?_)) | (with_reducible refine ed_id ?_; refine ed_guard rfl (fun K' hK' => ?_))); simp; repeat' (first | (with_reducible refine hK' _ _ ?_; clear hK' K') | (with_reducible refine And.intro ?_ ?_) | (with_reducible intro hg) | (clear hK' K'; omega)))
    | (with_reducible refine w_cond (fun A B hA hB => ?_); simp; repeat' (first | (with_reducible refine hA ?_; clear hA hB A B) | (with_reducible refine hB ?_; clear hA hB A B) | (with_reducible refine And.intro ?_ ?_) | (with_reducible intro hc)))
    | (with_reducible refine awp_seq ?_))
  simp
theorem cnan_ret {x : Int} : Ret Try.prog w0 114 [I x] (B false) := by
  intro H
  refine w_enter Try.func114 rfl Try.ntmps114 (ts := [2]) rfl (by simp) (by kernel_rfl) ?_
  repeat' (first
    | (with_reducible refine awp_skip ?_)
    | (with_reducible refine then_any ?_)
    | (with_reducible refine then_ret ?_)
    | (with_reducible refine then_exit ?_)
    | (with_reducible refine inBlock_normal ?_)
    | (with_reducible refine inBlock_ret ?_)
    | (with_reducible refine inBlock_hit ?_)
    | (with_reducible refine inBlock_miss (by decide) ?_)
    | (with_reducible refine awp_ret ?_)
    | (with_reducible refine awp_exit ?_)
    | (with_reducible refine post_ret ?_)
    | (with_reducible refine post_normal ?_)
    | (with_reducible refine awp_block ?_)
    | (with_reducible refine awp_scope_ret ?_)
    | (with_reducible refine awp_label ?_)
    | (with_reducible refine v_reg [] (fun K hK => ?_))
    | (with_reducible refine v_reg1 [] (fun K hK => ?_))
    | (with_reducible refine v_draw mixed [] [] (by kernel_rfl) (fun K hK => ?_))
    | (with_reducible refine v_draw1 mixed [] [] (by kernel_rfl) (fun K hK => ?_))
    | (with_reducible refine ev_nil (hK _ _ ?_); clear hK K)
    | (with_reducible refine ed_nil (hK _ _ ?_); clear hK K)
    | ((first | with_reducible refine ev_cons (fun K' hK' => ?_) | with_reducible refine ed_cons (fun K' hK' => ?_) | (with_reducible refine ev_id ?_; refine ev_guard rfl (fun K' hK' => ?_)) | (with_reducible refine ed_id ?_; refine ed_guard rfl (fun K' hK' => ?_))); simp; repeat' (first | (with_reducible refine hK' _ _ ?_; clear hK' K') | (with_reducible refine And.intro ?_ ?_) | (with_reducible intro hg) | (clear hK' K'; omega)))
    | (with_reducible refine w_cond (fun A B hA hB => ?_); simp; repeat' (first | (with_reducible refine hA ?_; clear hA hB A B) | (with_reducible refine hB ?_; clear hA hB A B) | (with_reducible refine And.intro ?_ ?_) | (with_reducible intro hc)))
    | (with_reducible refine awp_seq ?_))
  simp
theorem less_ret {x y : Int} : Ret Try.prog w0 97 [I x, I y] (B (decide (x < y))) := by
  intro H
  refine w_enter Try.func97 rfl Try.ntmps97 (ts := [4]) rfl (by simp) (by kernel_rfl) ?_
  repeat' (first
    | (with_reducible refine awp_skip ?_)
    | (with_reducible refine then_any ?_)
    | (with_reducible refine then_ret ?_)
    | (with_reducible refine then_exit ?_)
    | (with_reducible refine inBlock_normal ?_)
    | (with_reducible refine inBlock_ret ?_)
    | (with_reducible refine inBlock_hit ?_)
    | (with_reducible refine inBlock_miss (by decide) ?_)
    | (with_reducible refine awp_ret ?_)
    | (with_reducible refine awp_exit ?_)
    | (with_reducible refine post_ret ?_)
    | (with_reducible refine post_normal ?_)
    | (with_reducible refine awp_block ?_)
    | (with_reducible refine awp_scope_ret ?_)
    | (with_reducible refine awp_label ?_)
    | (with_reducible refine v_reg [] (fun K hK => ?_))
    | (with_reducible refine v_reg1 [] (fun K hK => ?_))
    | (with_reducible refine v_draw mixed [] [] (by kernel_rfl) (fun K hK => ?_))
    | (with_reducible refine v_draw1 mixed [] [] (by kernel_rfl) (fun K hK => ?_))
    | (with_reducible refine ev_nil (hK _ _ ?_); clear hK K)
    | (with_reducible refine ed_nil (hK _ _ ?_); clear hK K)
    | ((first | with_reducible refine ev_cons (fun K' hK' => ?_) | with_reducible refine ed_cons (fun K' hK' => ?_) | (with_reducible refine ev_id ?_; refine ev_guard rfl (fun K' hK' => ?_)) | (with_reducible refine ed_id ?_; refine ed_guard rfl (fun K' hK' => ?_))); simp; repeat' (first | (with_reducible refine hK' _ _ ?_; clear hK' K') | (with_reducible refine Ret.use cnan_ret ?_; try simp) | (with_reducible refine And.intro ?_ ?_) | (with_reducible intro hg) | (clear hK' K'; omega)))
    | (with_reducible refine w_cond (fun A B hA hB => ?_); simp; repeat' (first | (with_reducible refine hA ?_; clear hA hB A B) | (with_reducible refine hB ?_; clear hA hB A B) | (with_reducible refine And.intro ?_ ?_) | (with_reducible intro hc)))
    | (with_reducible refine awp_seq ?_))
  simp
def insL (x : Int) : List Int → List Int
  | [] => [x]
  | y :: l => if x < y then x :: y :: l else y :: insL x l
def sortR (l : List Int) : List Int := l.foldl (fun out x => if x < 0 ∨ 1099511627776 < x ∨ x ∈ out then out else insL x out) []
def unionR (a b : List Int) : List Int := if risesB (-1) a && risesB (-1) b then sortR (a ++ b) else []
end Go.Am
namespace Go.Am
open Go Go.Proofs
set_option linter.unusedVariables false
set_option linter.unusedSimpArgs false
variable {w0 : World}
attribute [local irreducible] AWP ACalls
attribute [local congr] acalls_congr
end Go.Am
namespace Go.Am
open Go Go.Proofs
set_option linter.unusedVariables false
set_option linter.unusedSimpArgs false
variable {w0 : World}
attribute [local irreducible] AWP ACalls
attribute [local congr] acalls_congr
def edgeOk (n : Int) (e : Int × Int) : Bool := decide (0 ≤ e.1) && decide (0 ≤ e.2) && decide (e.1 < n) && decide (e.2 < n)
def validG (n : Int) (es : List (Int × Int)) : Bool := decide (1 ≤ n) && decide (n ≤ 64) && decide (es.length ≤ 4096) && es.all (edgeOk n)
def stepC (s : (Nat → Nat) × Nat) (e : Int × Int) : (Nat → Nat) × Nat :=
  let a := s.1 e.1.toNat
  let b := s.1 e.2.toNat
  (fun w => if s.1 w = max a b then min a b else s.1 w, if a = b then s.2 else s.2 + 1)
def compJ (es : List (Int × Int)) : (Nat → Nat) × Nat := es.foldl stepC (id, 0)
theorem pairs_get {es : List (Int × Int)} {k : Nat} (h : k < es.length) : (es.flatMap fun e => [I e.1, I e.2])[k * 2]? = some (I es[k].1) ∧ (es.flatMap fun e => [I e.1, I e.2])[k * 2 + 1]? = some (I es[k].2) ∧
    ((es.flatMap fun e => [I e.1, I e.2]).drop (k * 2)).take 2 = [I es[k].1, I es[k].2] := by
  induction es generalizing k with
  | nil => simp at h
  | cons e es ih =>
    cases k with
    | zero => simp
    | succ k =>
      have := ih (k := k) (by simpa using h)
      simp only [List.flatMap_cons, List.getElem_cons_succ, Nat.succ_mul]
      refine ⟨?_, ?_, ?_⟩
      · have := this.1; simpa using this
      · have := this.2.1; simpa [Nat.add_right_comm] using this
      · have := this.2.2; simpa using this
theorem pairs_len (es : List (Int × Int)) : (es.flatMap fun e => [I e.1, I e.2]).length = es.length * 2 := by
  induction es with
  | nil => rfl
  | cons e es ih => simp [ih, Nat.succ_mul]
theorem sum2 (es : List (Int × Int)) : (es.map fun _ => 2).sum = es.length * 2 := by
  induction es with
  | nil => rfl
  | cons e es ih => simp [ih, Nat.succ_mul]; omega
def compsL (n : Int) (es : List (Int × Int)) : List Int := if validG n es then (List.range n.toNat).map fun w => ((compJ es).1 w : Int) else []
def okE (n : Int) (es : List (Int × Int)) : Int := if validG n es then 0 else 1
end Go.Am
namespace Go.Am
open Go Go.Proofs
set_option linter.unusedVariables false
set_option linter.unusedSimpArgs false
variable {w0 : World}
attribute [local irreducible] AWP ACalls
attribute [local congr] acalls_congr
def rootsK (c : Nat → Nat) (k : Nat) : List Nat := (List.range k).filter fun r => c r = r
def partK (c : Nat → Nat) (k r : Nat) : List Int := ((List.range k).filter fun w => c w = r).map fun w : Nat => (w : Int)
def partsK (c : Nat → Nat) (k : Nat) : List (List Int) := (rootsK c k).map (partK c k)
def partsL (n : Int) (es : List (Int × Int)) : List (List Int) := if validG n es then partsK (compJ es).1 n.toNat else []
end Go.Am
namespace Go.Am
open Go Go.Proofs
set_option linter.unusedVariables false
set_option linter.unusedSimpArgs false
variable {w0 : World}
attribute [local irreducible] AWP ACalls
attribute [local congr] acalls_congr
theorem c1 : compsL 3 [(0, 2)] = [0, 1, 0] := by rfl
theorem c2 : okE 3 [(0, 2)] = 0 := by rfl
theorem c3 : partsL 3 [(0, 2)] = [[0, 2], [1]] := by rfl
theorem c4 : okE 3 [(0, 3)] = 1 := by rfl
theorem c5 : okE 0 [] = 1 := by rfl
theorem c6 : (if validG 3 [(0, 2)] then ((compJ [(0, 2)]).2 : Int) else -1) = 1 := by rfl
theorem c7 : (if validG 3 [(0, 2), (2, 0)] then ((compJ [(0, 2), (2, 0)]).2 : Int) else -1) = 1 := by rfl
theorem c8 : (if validG 1 [(0, 0)] then ((compJ [(0, 0)]).2 : Int) else -1) = 0 := by rfl
end Go.Am
namespace Go.Am
open Go
set_option linter.unusedVariables false
set_option linter.unusedSimpArgs false
theorem filter_grow {α : Type} {p q : α → Bool} (h : ∀ x, p x = true → q x = true) {l : List α} {x : α} (hx : x ∈ l) (hp : p x = false) (hq : q x = true) : (l.filter p).length < (l.filter q).length := by
  have hle : ∀ l : List α, (l.filter p).length ≤ (l.filter q).length := by
    intro l
    induction l with
    | nil => simp
    | cons y l ih =>
      simp only [List.filter_cons]
      cases h1 : p y with
      | true => rw [h y h1]; simp [ih]
      | false => cases q y <;> simp <;> omega
  induction l with
  | nil => simp at hx
  | cons y l ih =>
    have := hle l
    simp only [List.filter_cons]
    rcases List.mem_cons.1 hx with rfl | hx
    · rw [hp, hq]; simp; omega
    · have := ih hx
      cases h1 : p y with
      | true => rw [h y h1]; simp; omega
      | false => cases q y <;> simp <;> omega
end Go.Am
namespace Go.Am
open Go
set_option linter.unusedVariables false
set_option linter.unusedSimpArgs false
structure IsSet (l : List Int) : Prop where
  up : l.Pairwise (· < ·)
  ok : ∀ x ∈ l, 0 ≤ x ∧ x ≤ 1099511627776
theorem rises_iff' {l : List Int} {last : Int} : risesB last l = true ↔ l.Pairwise (· < ·) ∧ ∀ x ∈ l, last < x ∧ x ≤ 1099511627776 := by
  induction l generalizing last with
  | nil => simp [risesB]
  | cons y l ih =>
    simp only [risesB, Bool.and_eq_true, decide_eq_true_eq, ih, List.pairwise_cons, List.mem_cons]
    constructor
    · rintro ⟨⟨h1, h2⟩, h3, h4⟩
      exact ⟨⟨fun x hx => (h4 x hx).1, h3⟩, fun x hx => hx.elim (fun e => by subst e; exact ⟨h1, h2⟩) fun hx => ⟨by have := (h4 x hx).1; omega, (h4 x hx).2⟩⟩
    · rintro ⟨⟨h1, h2⟩, h3⟩
      exact ⟨⟨(h3 y (.inl rfl)).1, (h3 y (.inl rfl)).2⟩, h2, fun x hx => ⟨h1 x hx, (h3 x (.inr hx)).2⟩⟩
theorem rises_iff {l : List Int} : risesB (-1) l = true ↔ IsSet l := by
  rw [rises_iff']
  exact ⟨fun h => ⟨h.1, fun x hx => by have := h.2 x hx; omega⟩, fun h => ⟨h.up, fun x hx => by have := h.ok x hx; omega⟩⟩
theorem up_ext {a b : List Int} (ha : a.Pairwise (· < ·)) (hb : b.Pairwise (· < ·)) (h : ∀ x, x ∈ a ↔ x ∈ b) : a = b := by
  induction a generalizing b with
  | nil =>
    cases b with
    | nil => rfl
    | cons y b => have := (h y).2 (by simp); simp at this
  | cons x a ih =>
    cases b with
    | nil => have := (h x).1 (by simp); simp at this
    | cons y b =>
      rw [List.pairwise_cons] at ha hb
      have e : x = y := by
        rcases List.mem_cons.1 ((h x).1 (by simp)) with e | e
        · exact e
        · rcases List.mem_cons.1 ((h y).2 (by simp)) with e' | e'
          · exact e'.symm
          · have := ha.1 y e'; have := hb.1 x e; omega
      subst e
      congr 1
      refine ih ha.2 hb.2 fun z => ?_
      constructor
      · intro hz
        rcases List.mem_cons.1 ((h z).1 (by simp [hz])) with e | e
        · subst e; have := ha.1 z hz; omega
        · exact e
      · intro hz
        rcases List.mem_cons.1 ((h z).2 (by simp [hz])) with e | e
        · subst e; have := hb.1 z hz; omega
        · exact e
theorem IsSet.ext {a b : List Int} (ha : IsSet a) (hb : IsSet b) (h : ∀ x, x ∈ a ↔ x ∈ b) : a = b := up_ext ha.up hb.up h
theorem IsSet.nil : IsSet [] := ⟨.nil, by simp⟩
theorem IsSet.one {x : Int} (h : 0 ≤ x ∧ x ≤ 1099511627776) : IsSet [x] := ⟨by simp, by simpa using h⟩
theorem IsSet.filter {a : List Int} (h : IsSet a) (p : Int → Bool) : IsSet (a.filter p) := ⟨h.up.filter p, fun x hx => h.ok x (List.mem_filter.1 hx).1⟩
theorem IsSet.nodup {a : List Int} (h : IsSet a) : a.Nodup := h.up.imp fun h e => by omega
theorem up_upto (n : Nat) : (upto n).Pairwise (· < ·) := by
  unfold upto
  rw [List.pairwise_map]
  exact List.pairwise_lt_range.imp fun h => by simp only [Int.ofNat_eq_natCast]; omega
theorem isSet_upto {n : Nat} (h : n ≤ 1099511627776) : IsSet (upto n) := ⟨up_upto n, fun x hx => by have := mem_upto.1 hx; omega⟩
theorem up_length {l : List Int} {n : Nat} (h : l.Pairwise (· < ·)) (hb : ∀ x ∈ l, 0 ≤ x ∧ x < n) : l.length ≤ n := by
  have : ∀ (l : List Int) (m : Int), l.Pairwise (· < ·) → (∀ x ∈ l, m ≤ x ∧ x < n) → m ≤ n → m + l.length ≤ n := by
    intro l
    induction l with
    | nil => intro m _ _ h; simpa using h
    | cons x l ih =>
      intro m hp hm hmn
      rw [List.pairwise_cons] at hp
      have := hm x (by simp)
      have := ih (x + 1) hp.2 (fun y hy => ⟨by have := hp.1 y hy; omega, (hm y (by simp [hy])).2⟩) (by omega)
      simp only [List.length_cons]
      omega
  have := this l 0 h hb (by omega)
  omega
theorem mem_insL {x z : Int} {l : List Int} : z ∈ insL x l ↔ z = x ∨ z ∈ l := by
  induction l with
  | nil => simp [insL]
  | cons y l ih =>
    rw [insL]
    split
    · simp
    · simp only [List.mem_cons, ih]
      constructor
      · rintro (h | h | h) <;> simp [h]
      · rintro (h | h | h) <;> simp [h]
theorem up_insL {x : Int} {l : List Int} (h : l.Pairwise (· < ·)) (hx : x ∉ l) : (insL x l).Pairwise (· < ·) := by
  induction l with
  | nil => simp [insL]
  | cons y l ih =>
    rw [List.pairwise_cons] at h
    simp only [List.mem_cons, not_or] at hx
    rw [insL]
    split
    · rename_i hxy
      rw [List.pairwise_cons, List.pairwise_cons]
      refine ⟨fun z hz => ?_, h⟩
      rcases List.mem_cons.1 hz with rfl | hz
      · exact hxy
      · have := h.1 z hz; omega
    · rename_i hxy
      rw [List.pairwise_cons]
      refine ⟨fun z hz => ?_, ih h.2 hx.2⟩
      rcases mem_insL.1 hz with rfl | hz
      · have := hx.1; omega
      · exact h.1 z hz
theorem sortR_spec (l : List Int) : IsSet (sortR l) ∧ ∀ x, x ∈ sortR l ↔ x ∈ l ∧ 0 ≤ x ∧ x ≤ 1099511627776 := by
  have : ∀ (l : List Int) (out : List Int), IsSet out → IsSet (l.foldl (fun out x => if x < 0 ∨ 1099511627776 < x ∨ x ∈ out then out else insL x out) out) ∧
      ∀ x, x ∈ (l.foldl (fun out x => if x < 0 ∨ 1099511627776 < x ∨ x ∈ out then out else insL x out) out) ↔ x ∈ out ∨ x ∈ l ∧ 0 ≤ x ∧ x ≤ 1099511627776 := by
    intro l
    induction l with
    | nil => intro out h; exact ⟨h, by simp⟩
    | cons y l ih =>
      intro out h
      simp only [List.foldl_cons]
      by_cases hy : y < 0 ∨ 1099511627776 < y ∨ y ∈ out
      · rw [if_pos hy]
        obtain ⟨h1, h2⟩ := ih out h
        refine ⟨h1, fun x => ?_⟩
        rw [h2]
        constructor
        · rintro (h | h)
          · exact .inl h
          · exact .inr ⟨by simp [h.1], h.2⟩
        · rintro (h | ⟨h, hb⟩)
          · exact .inl h
          · rcases List.mem_cons.1 h with rfl | h
            · rcases hy with hy | hy | hy
              · omega
              · omega
              · exact .inl hy
            · exact .inr ⟨h, hb⟩
      · rw [if_neg hy]
        have hyo : y ∉ out := fun h => hy (.inr (.inr h))
        obtain ⟨h1, h2⟩ := ih (insL y out) ⟨up_insL h.up hyo, fun x hx => by rcases mem_insL.1 hx with rfl | hx; (· omega); (· exact h.ok x hx)⟩
        refine ⟨h1, fun x => ?_⟩
        rw [h2, mem_insL]
        constructor
        · rintro ((h | h) | h)
          · subst h; exact .inr ⟨by simp, by omega⟩
          · exact .inl h
          · exact .inr ⟨by simp [h.1], h.2⟩
        · rintro (h | ⟨h, hb⟩)
          · exact .inl (.inr h)
          · rcases List.mem_cons.1 h with rfl | h
            · exact .inl (.inl rfl)
            · exact .inr ⟨h, hb⟩
  obtain ⟨h1, h2⟩ := this l [] .nil
  exact ⟨h1, fun x => by rw [sortR, h2]; simp⟩
theorem unionR_spec {a b : List Int} (ha : IsSet a) (hb : IsSet b) : IsSet (unionR a b) ∧ ∀ x, x ∈ unionR a b ↔ x ∈ a ∨ x ∈ b := by
  have e : unionR a b = sortR (a ++ b) := by rw [unionR, rises_iff.2 ha, rises_iff.2 hb]; rfl
  rw [e]
  refine ⟨(sortR_spec _).1, fun x => ?_⟩
  rw [(sortR_spec _).2, List.mem_append]
  constructor
  · exact fun h => h.1
  · rintro (h | h)
    · exact ⟨.inl h, ha.ok x h⟩
    · exact ⟨.inr h, hb.ok x h⟩
theorem mergeL_spec (l r c : Bool) (a b : List Int) : a.Pairwise (· < ·) → b.Pairwise (· < ·) → (mergeL l r c a b).Pairwise (· < ·) ∧
    ∀ x, x ∈ mergeL l r c a b ↔ (x ∈ a ∧ x ∉ b ∧ l = true) ∨ (x ∈ b ∧ x ∉ a ∧ r = true) ∨ (x ∈ a ∧ x ∈ b ∧ c = true) := by
  have cons : ∀ (t : Bool) (x : Int) (L : List Int), (∀ y ∈ L, x < y) → L.Pairwise (· < ·) → (if t = true then x :: L else L).Pairwise (· < ·) := by
    intro t x L h1 h2
    cases t
    · exact h2
    · exact List.pairwise_cons.2 ⟨h1, h2⟩
  have memc : ∀ (t : Bool) (x z : Int) (L : List Int), z ∈ (if t = true then x :: L else L) ↔ (t = true ∧ z = x) ∨ z ∈ L := by
    intro t x z L
    cases t <;> simp
  fun_induction mergeL l r c a b with
  | case1 => intro _ _; simp
  | case2 y bs hr ih =>
    intro ha hb
    obtain ⟨h1, h2⟩ := ih ha (List.pairwise_cons.1 hb).2
    refine ⟨List.pairwise_cons.2 ⟨fun z hz => ?_, h1⟩, fun x => ?_⟩
    · have := (h2 z).1 hz
      simp at this
      exact (List.pairwise_cons.1 hb).1 z this.1
    · rw [List.mem_cons, h2]; simp [hr]
  | case3 y bs hr ih =>
    intro ha hb
    obtain ⟨h1, h2⟩ := ih ha (List.pairwise_cons.1 hb).2
    refine ⟨h1, fun x => ?_⟩
    rw [h2]; simp [hr]
  | case4 x xs hl ih =>
    intro ha hb
    obtain ⟨h1, h2⟩ := ih (List.pairwise_cons.1 ha).2 hb
    refine ⟨List.pairwise_cons.2 ⟨fun z hz => ?_, h1⟩, fun z => ?_⟩
    · have := (h2 z).1 hz
      simp at this
      exact (List.pairwise_cons.1 ha).1 z this.1
    · rw [List.mem_cons, h2]; simp [hl]
  | case5 x xs hl ih =>
    intro ha hb
    obtain ⟨h1, h2⟩ := ih (List.pairwise_cons.1 ha).2 hb
    refine ⟨h1, fun z => ?_⟩
    rw [h2]; simp [hl]
  | case6 x xs y bs hxy hl ih =>
    intro ha hb
    obtain ⟨h1, h2⟩ := ih (List.pairwise_cons.1 ha).2 hb
    have ga := (List.pairwise_cons.1 ha).1
    have gb := (List.pairwise_cons.1 hb).1
    refine ⟨List.pairwise_cons.2 ⟨fun z hz => ?_, h1⟩, fun z => ?_⟩
    · have hz := (h2 z).1 hz
      have : z ∈ xs ∨ z = y ∨ z ∈ bs := by
        simp only [List.mem_cons] at hz
        rcases hz with h | h | h <;> simp [h]
      rcases this with h | h | h
      · exact ga z h
      · omega
      · have := gb z h; omega
    · rw [List.mem_cons, h2]
      have hx1 : x ∉ xs := fun h => by have := ga x h; omega
      have hx2 : x ∉ bs := fun h => by have := gb x h; omega
      by_cases e : z = x
      · subst e; simp [hx2, hl, show z ≠ y by omega]
      · simp [e]
  | case7 x xs y bs hxy hl ih =>
    intro ha hb
    obtain ⟨h1, h2⟩ := ih (List.pairwise_cons.1 ha).2 hb
    have ga := (List.pairwise_cons.1 ha).1
    have gb := (List.pairwise_cons.1 hb).1
    refine ⟨h1, fun z => ?_⟩
    rw [h2]
    have hx1 : x ∉ xs := fun h => by have := ga x h; omega
    have hx2 : x ∉ bs := fun h => by have := gb x h; omega
    by_cases e : z = x
    · subst e; simp [hx1, hx2, hl, show z ≠ y by omega]
    · simp [e]
  | case8 x xs y bs h0 hxy hr ih =>
    intro ha hb
    obtain ⟨h1, h2⟩ := ih ha (List.pairwise_cons.1 hb).2
    have ga := (List.pairwise_cons.1 ha).1
    have gb := (List.pairwise_cons.1 hb).1
    refine ⟨List.pairwise_cons.2 ⟨fun z hz => ?_, h1⟩, fun z => ?_⟩
    · have hz := (h2 z).1 hz
      have : (z = x ∨ z ∈ xs) ∨ z ∈ bs := by
        simp only [List.mem_cons] at hz
        rcases hz with h | h | h <;> simp [h]
      rcases this with (h | h) | h
      · omega
      · have := ga z h; omega
      · exact gb z h
    · rw [List.mem_cons, h2]
      have hx1 : y ∉ xs := fun h => by have := ga y h; omega
      have hx2 : y ∉ bs := fun h => by have := gb y h; omega
      by_cases e : z = y
      · subst e; simp [hx1, hr, show z ≠ x by omega]
      · simp [e]
  | case9 x xs y bs h0 hxy hr ih =>
    intro ha hb
    obtain ⟨h1, h2⟩ := ih ha (List.pairwise_cons.1 hb).2
    have ga := (List.pairwise_cons.1 ha).1
    have gb := (List.pairwise_cons.1 hb).1
    refine ⟨h1, fun z => ?_⟩
    rw [h2]
    have hx1 : y ∉ xs := fun h => by have := ga y h; omega
    have hx2 : y ∉ bs := fun h => by have := gb y h; omega
    by_cases e : z = y
    · subst e; simp [hx1, hx2, hr, show z ≠ x by omega]
    · simp [e]
  | case10 x xs y bs h0 h0' hc ih =>
    intro ha hb
    have exy : y = x := by omega
    subst exy
    obtain ⟨h1, h2⟩ := ih (List.pairwise_cons.1 ha).2 (List.pairwise_cons.1 hb).2
    have ga := (List.pairwise_cons.1 ha).1
    have gb := (List.pairwise_cons.1 hb).1
    refine ⟨List.pairwise_cons.2 ⟨fun z hz => ?_, h1⟩, fun z => ?_⟩
    · have hz := (h2 z).1 hz
      have : z ∈ xs ∨ z ∈ bs := by rcases hz with h | h | h <;> simp [h]
      rcases this with h | h
      · exact ga z h
      · exact gb z h
    · rw [List.mem_cons, h2]
      have hx1 : y ∉ xs := fun h => by have := ga y h; omega
      have hx2 : y ∉ bs := fun h => by have := gb y h; omega
      by_cases e : z = y
      · subst e; simp [hc]
      · simp [e]
  | case11 x xs y bs h0 h0' hc ih =>
    intro ha hb
    have exy : y = x := by omega
    subst exy
    obtain ⟨h1, h2⟩ := ih (List.pairwise_cons.1 ha).2 (List.pairwise_cons.1 hb).2
    have ga := (List.pairwise_cons.1 ha).1
    have gb := (List.pairwise_cons.1 hb).1
    refine ⟨h1, fun z => ?_⟩
    rw [h2]
    have hx1 : y ∉ xs := fun h => by have := ga y h; omega
    have hx2 : y ∉ bs := fun h => by have := gb y h; omega
    by_cases e : z = y
    · subst e; simp [hx1, hx2, hc]
    · simp [e]
section
variable {a b : List Int} (ha : IsSet a) (hb : IsSet b)
include ha hb
theorem unionL_spec : IsSet (unionL a b) ∧ ∀ x, x ∈ unionL a b ↔ x ∈ a ∨ x ∈ b := by
  rw [unionL, rises_iff.2 ha, rises_iff.2 hb]
  simp only [Bool.and_self, if_true]
  obtain ⟨h1, h2⟩ := mergeL_spec true true true a b ha.up hb.up
  have h3 : ∀ x, x ∈ mergeL true true true a b ↔ x ∈ a ∨ x ∈ b := by
    intro x; rw [h2]
    by_cases p : x ∈ a <;> by_cases q : x ∈ b <;> simp [p, q]
  exact ⟨⟨h1, fun x hx => by rcases (h3 x).1 hx with h | h; (· exact ha.ok x h); (· exact hb.ok x h)⟩, h3⟩
theorem minusL_spec : IsSet (minusL a b) ∧ ∀ x, x ∈ minusL a b ↔ x ∈ a ∧ x ∉ b := by
  rw [minusL, rises_iff.2 ha, rises_iff.2 hb]
  simp only [Bool.and_self, if_true]
  obtain ⟨h1, h2⟩ := mergeL_spec true false false a b ha.up hb.up
  have h3 : ∀ x, x ∈ mergeL true false false a b ↔ x ∈ a ∧ x ∉ b := by
    intro x; rw [h2]; simp
  exact ⟨⟨h1, fun x hx => ha.ok x ((h3 x).1 hx).1⟩, h3⟩
theorem unionL_eq : unionL a b = unionR a b := (unionL_spec ha hb).1.ext (unionR_spec ha hb).1 fun x => by rw [(unionL_spec ha hb).2, (unionR_spec ha hb).2]
theorem minusL_eq : minusL a b = a.filter (fun x => !decide (x ∈ b)) := (minusL_spec ha hb).1.ext (ha.filter _) fun x => by rw [(minusL_spec ha hb).2, List.mem_filter]; simp
end
end Go.Am
namespace Go.Am
open Go
set_option linter.unusedVariables false
set_option linter.unusedSimpArgs false
structure Pts (n : Nat) (l : List Int) : Prop where
  set : IsSet l
  lt : ∀ x ∈ l, 0 ≤ x ∧ x < n
structure Gr (adj : List (List Int)) : Prop where
  len : adj.length ≤ 4096
  pts : ∀ l ∈ adj, Pts adj.length l
def out (adj : List (List Int)) (x : Int) : List Int := adj.getD x.toNat []
theorem out_eq {adj : List (List Int)} {x : Int} (h : x.toNat < adj.length) : out adj x = adj[x.toNat] := by simp [out, h]
theorem out_pts {adj : List (List Int)} (h : Gr adj) (x : Int) : Pts adj.length (out adj x) := by
  unfold out
  by_cases hx : x.toNat < adj.length
  · rw [List.getD_eq_getElem?_getD, List.getElem?_eq_getElem hx]
    exact h.pts _ (List.getElem_mem _)
  · rw [List.getD_eq_getElem?_getD, List.getElem?_eq_none (by omega)]
    exact ⟨.nil, by simp⟩
theorem Pts.nil {n : Nat} : Pts n [] := ⟨.nil, by simp⟩
theorem Pts.length {n : Nat} {l : List Int} (h : Pts n l) : l.length ≤ n := up_length h.set.up h.lt
theorem Pts.union {n : Nat} {a b : List Int} (ha : Pts n a) (hb : Pts n b) : Pts n (unionR a b) :=
  ⟨(unionR_spec ha.set hb.set).1, fun x hx => by rcases ((unionR_spec ha.set hb.set).2 x).1 hx with h | h; (· exact ha.lt x h); (· exact hb.lt x h)⟩
def nearL (adj : List (List Int)) (l : List Int) : List Int := l.foldl (fun o x => unionR o (out adj x)) l
theorem near_fold {adj : List (List Int)} (hg : Gr adj) (l : List Int) : ∀ o, Pts adj.length o → Pts adj.length (l.foldl (fun o x => unionR o (out adj x)) o) ∧
    ∀ x, x ∈ l.foldl (fun o x => unionR o (out adj x)) o ↔ x ∈ o ∨ ∃ y ∈ l, x ∈ out adj y := by
  induction l with
  | nil => intro o h; exact ⟨h, by simp⟩
  | cons y l ih =>
    intro o h
    have hy := out_pts hg y
    obtain ⟨h1, h2⟩ := ih _ (h.union hy)
    refine ⟨h1, fun x => ?_⟩
    rw [List.foldl_cons, h2, (unionR_spec h.set hy.set).2]
    simp only [List.mem_cons, exists_eq_or_imp]
    exact or_assoc
theorem near_pts {adj : List (List Int)} (hg : Gr adj) {l : List Int} (h : Pts adj.length l) : Pts adj.length (nearL adj l) := (near_fold hg l l h).1
theorem mem_near {adj : List (List Int)} (hg : Gr adj) {l : List Int} (h : Pts adj.length l) {x : Int} : x ∈ nearL adj l ↔ x ∈ l ∨ ∃ y ∈ l, x ∈ out adj y := (near_fold hg l l h).2 x
def levL (adj : List (List Int)) (l : List Int) : Nat → List Int
  | 0 => l
  | k + 1 => nearL adj (levL adj l k)
section
variable {adj : List (List Int)} (hg : Gr adj) {l : List Int} (hl : Pts adj.length l)
include hg hl
theorem lev_pts (k : Nat) : Pts adj.length (levL adj l k) := by
  induction k with
  | zero => exact hl
  | succ k ih => exact near_pts hg ih
theorem mem_lev {k : Nat} {x : Int} : x ∈ levL adj l (k + 1) ↔ x ∈ levL adj l k ∨ ∃ y ∈ levL adj l k, x ∈ out adj y := mem_near hg (lev_pts hg hl k)
theorem lev_mono {j k : Nat} (h : j ≤ k) {x : Int} (hx : x ∈ levL adj l j) : x ∈ levL adj l k := by
  induction k with
  | zero => have : j = 0 := by omega
            subst this; exact hx
  | succ k ih =>
    by_cases e : j = k + 1
    · subst e; exact hx
    · exact (mem_lev hg hl).2 (.inl (ih (by omega)))
omit hg hl in
theorem lev_stop {k : Nat} (h : levL adj l (k + 1) = levL adj l k) (j : Nat) : levL adj l (k + j) = levL adj l k := by
  induction j with
  | zero => rfl
  | succ j ih =>
    show nearL adj (levL adj l (k + j)) = _
    rw [ih]; exact h
theorem lev_grow (k : Nat) : (∃ j, j < k ∧ levL adj l (j + 1) = levL adj l j) ∨ l.length + k ≤ (levL adj l k).length := by
  induction k with
  | zero => exact .inr (by simp [levL])
  | succ k ih =>
    rcases ih with ⟨j, hj, h⟩ | h
    · exact .inl ⟨j, by omega, h⟩
    · by_cases e : levL adj l (k + 1) = levL adj l k
      · exact .inl ⟨k, by omega, e⟩
      · refine .inr ?_
        have hp := lev_pts hg hl k
        have hp' := lev_pts hg hl (k + 1)
        have : ∃ x, x ∈ levL adj l (k + 1) ∧ x ∉ levL adj l k := by
          refine Classical.byContradiction fun hno => e (hp'.set.ext hp.set fun x => ⟨fun hx => Classical.byContradiction fun hx' => hno ⟨x, hx, hx'⟩, fun hx => lev_mono hg hl (by omega) hx⟩)
        obtain ⟨x, hx, hx'⟩ := this
        have h1 := filter_grow (p := fun x => decide (x ∈ levL adj l k)) (q := fun _ => true) (l := levL adj l (k + 1)) (x := x) (fun _ _ => rfl) hx (by simpa using hx') rfl
        have h2 : (levL adj l (k + 1)).filter (fun x => decide (x ∈ levL adj l k)) = levL adj l k :=
          (hp'.set.filter _).ext hp.set fun y => by
            rw [List.mem_filter]
            exact ⟨fun h => by simpa using h.2, fun h => ⟨lev_mono hg hl (by omega) h, by simpa using h⟩⟩
        rw [h2, List.filter_eq_self.2 (fun _ _ => rfl)] at h1
        omega
theorem lev_all {k : Nat} (hk : adj.length ≤ k) : levL adj l k = levL adj l adj.length := by
  by_cases hnil : l = []
  · subst hnil
    have : ∀ k, levL adj [] k = [] := by
      intro k
      induction k with
      | zero => rfl
      | succ k ih => show nearL adj (levL adj [] k) = []; rw [ih]; rfl
    rw [this, this]
  · have hpos := List.length_pos_iff.2 hnil
    have hlen := (lev_pts hg hl adj.length).length
    rcases lev_grow hg hl adj.length with ⟨j, hj, h⟩ | h
    · have h1 := lev_stop h (k - j)
      have h2 := lev_stop h (adj.length - j)
      rw [show j + (k - j) = k by omega] at h1
      rw [show j + (adj.length - j) = adj.length by omega] at h2
      rw [h1, h2]
    · omega
theorem lev_le {k : Nat} {x : Int} (h : x ∈ levL adj l k) : x ∈ levL adj l adj.length := by
  rcases Nat.le_total k adj.length with hk | hk
  · exact lev_mono hg hl hk h
  · rwa [lev_all hg hl hk] at h
end
def distL (adj : List (List Int)) (l : List Int) (v : Int) : Int :=
  match (List.range (adj.length + 1)).find? fun k => decide (v ∈ levL adj l k) with
  | some k => k
  | none => -1
theorem find_range {p : Nat → Bool} {n : Nat} : (∃ k, k < n ∧ (List.range n).find? p = some k ∧ p k = true ∧ ∀ j, j < k → p j = false) ∨ ((List.range n).find? p = none ∧ ∀ j, j < n → p j = false) := by
  induction n with
  | zero => exact .inr ⟨rfl, by omega⟩
  | succ n ih =>
    rw [List.range_succ, List.find?_append]
    rcases ih with ⟨k, h1, h2, h3, h4⟩ | ⟨h1, h2⟩
    · exact .inl ⟨k, by omega, by rw [h2]; rfl, h3, h4⟩
    · rw [h1]
      cases hp : p n with
      | true => exact .inl ⟨n, by omega, by simp [hp], hp, h2⟩
      | false => exact .inr ⟨by simp [hp], fun j hj => by by_cases e : j = n; (· subst e; exact hp); (· exact h2 j (by omega))⟩
section
variable {adj : List (List Int)} (hg : Gr adj) {l : List Int} (hl : Pts adj.length l) {v : Int}
include hg hl
theorem dist_cases : (∃ d : Nat, d ≤ adj.length ∧ distL adj l v = d ∧ v ∈ levL adj l d ∧ ∀ j, j < d → v ∉ levL adj l j) ∨ (distL adj l v = -1 ∧ ∀ j, v ∉ levL adj l j) := by
  unfold distL
  rcases find_range (p := fun k => decide (v ∈ levL adj l k)) (n := adj.length + 1) with ⟨k, h1, h2, h3, h4⟩ | ⟨h1, h2⟩
  · rw [h2]
    exact .inl ⟨k, by omega, rfl, by simpa using h3, fun j hj => by simpa using h4 j hj⟩
  · rw [h1]
    refine .inr ⟨rfl, fun j hj => ?_⟩
    have := h2 adj.length (by omega)
    simp only [decide_eq_false_iff_not] at this
    exact this (lev_le hg hl hj)
theorem dist_le {k : Nat} (h : v ∈ levL adj l k) : 0 ≤ distL adj l v ∧ distL adj l v ≤ k := by
  rcases dist_cases hg hl (v := v) with ⟨d, h1, h2, h3, h4⟩ | ⟨h1, h2⟩
  · rw [h2]
    refine ⟨by omega, ?_⟩
    rcases Nat.lt_or_ge k d with hk | hk
    · exact absurd h (h4 k hk)
    · omega
  · exact absurd h (h2 k)
theorem dist_neg : distL adj l v = -1 ↔ v ∉ levL adj l adj.length := by
  rcases dist_cases hg hl (v := v) with ⟨d, h1, h2, h3, h4⟩ | ⟨h1, h2⟩
  · rw [h2]
    constructor
    · intro h; omega
    · intro h; exact absurd (lev_mono hg hl h1 h3) h
  · rw [h1]; simp [h2]
theorem dist_of {f : Int → Int} (ha : ∀ x : Int, 0 ≤ x → x < adj.length → f x ≠ -1 → 0 ≤ f x ∧ x ∈ levL adj l (f x).toNat) (hb : ∀ x ∈ l, f x = 0)
    (hc : ∀ x : Int, 0 ≤ x → x < adj.length → f x ≠ -1 → ∀ y ∈ out adj x, f y ≠ -1 ∧ f y ≤ f x + 1) (h0 : 0 ≤ v) (h1 : v < adj.length) : f v = distL adj l v := by
  have key : ∀ k x, x ∈ levL adj l k → f x ≠ -1 ∧ f x ≤ k := by
    intro k
    induction k with
    | zero => intro x hx; have := hb x hx; omega
    | succ k ih =>
      intro x hx
      rcases (mem_lev hg hl).1 hx with hx | ⟨y, hy, hx⟩
      · have := ih x hx; omega
      · have hy' := ih y hy
        have hp := (lev_pts hg hl k).lt y hy
        have := hc y hp.1 hp.2 hy'.1 x hx
        omega
  rcases dist_cases hg hl (v := v) with ⟨d, h2, h3, h4, h5⟩ | ⟨h2, h3⟩
  · have hk := key d v h4
    obtain ⟨p, q⟩ := ha v h0 h1 hk.1
    have := dist_le hg hl q
    rw [h3] at this ⊢
    omega
  · rw [h2]
    refine Classical.byContradiction fun h => ?_
    exact h3 _ (ha v h0 h1 h).2
end
structure BInv (adj : List (List Int)) (l : List Int) (f : Int → Int) (q : List Int) : Prop where
  vis : ∀ x : Int, 0 ≤ x → x < adj.length → f x ≠ -1 → 0 ≤ f x ∧ x ∈ levL adj l (f x).toNat
  src : ∀ x ∈ l, f x = 0
  qv : ∀ x ∈ q, 0 ≤ x ∧ x < adj.length ∧ f x ≠ -1
  up : q.Pairwise fun x y => f x ≤ f y
  near : ∀ x ∈ q, ∀ y ∈ q, f y ≤ f x + 1
  done : ∀ x : Int, 0 ≤ x → x < adj.length → f x ≠ -1 → x ∉ q → (∀ y ∈ q, f x ≤ f y) ∧ ∀ w ∈ out adj x, f w ≠ -1 ∧ f w ≤ f x + 1
structure BMid (adj : List (List Int)) (l : List Int) (v : Int) (ws : List Int) (f : Int → Int) (q : List Int) : Prop where
  vis : ∀ x : Int, 0 ≤ x → x < adj.length → f x ≠ -1 → 0 ≤ f x ∧ x ∈ levL adj l (f x).toNat
  src : ∀ x ∈ l, f x = 0
  qv : ∀ x ∈ q, 0 ≤ x ∧ x < adj.length ∧ f x ≠ -1
  up : q.Pairwise fun x y => f x ≤ f y
  vv : 0 ≤ v ∧ v < adj.length ∧ f v ≠ -1
  near : ∀ y ∈ q, f v ≤ f y ∧ f y ≤ f v + 1
  done : ∀ x : Int, 0 ≤ x → x < adj.length → f x ≠ -1 → x ∉ q → x ≠ v → f x ≤ f v ∧ ∀ w ∈ out adj x, f w ≠ -1 ∧ f w ≤ f x + 1
  ws : ∀ w ∈ ws, f w ≠ -1 ∧ f w ≤ f v + 1
theorem BInv.pop {adj : List (List Int)} {l : List Int} {f : Int → Int} {v : Int} {q : List Int} (h : BInv adj l f (v :: q)) : BMid adj l v [] f q := by
  refine ⟨h.vis, h.src, fun x hx => h.qv x (by simp [hx]), (List.pairwise_cons.1 h.up).2, h.qv v (by simp), fun y hy => ⟨(List.pairwise_cons.1 h.up).1 y hy, h.near v (by simp) y (by simp [hy])⟩, fun x h0 h1 h2 h3 h4 => ?_, by simp⟩
  have := h.done x h0 h1 h2 (by simp [h3, h4])
  exact ⟨this.1 v (by simp), this.2⟩
theorem BMid.end {adj : List (List Int)} {l : List Int} {f : Int → Int} {v : Int} {q : List Int} (h : BMid adj l v (out adj v) f q) : BInv adj l f q := by
  refine ⟨h.vis, h.src, h.qv, h.up, fun x hx y hy => by have := h.near x hx; have := h.near y hy; omega, fun x h0 h1 h2 h3 => ?_⟩
  by_cases e : x = v
  · subst e
    exact ⟨fun y hy => (h.near y hy).1, h.ws⟩
  · have := h.done x h0 h1 h2 h3 e
    exact ⟨fun y hy => by have := h.near y hy; omega, this.2⟩
theorem BMid.old {adj : List (List Int)} {l : List Int} {f : Int → Int} {v w : Int} {ws q : List Int} (h : BMid adj l v ws f q) (hw : 0 ≤ w ∧ w < adj.length) (hf : f w ≠ -1) : BMid adj l v (ws ++ [w]) f q := by
  refine ⟨h.vis, h.src, h.qv, h.up, h.vv, h.near, h.done, fun x hx => ?_⟩
  rcases List.mem_append.1 hx with hx | hx
  · exact h.ws x hx
  · simp at hx; subst hx
    refine ⟨hf, ?_⟩
    by_cases hq : x ∈ q
    · exact (h.near x hq).2
    · by_cases e : x = v
      · subst e; omega
      · have := (h.done x hw.1 hw.2 hf hq e).1; omega
theorem BMid.new {adj : List (List Int)} (hg : Gr adj) {l : List Int} (hl : Pts adj.length l) {f : Int → Int} {v w : Int} {ws q : List Int} (h : BMid adj l v ws f q) (hw : w ∈ out adj v) (hf : f w = -1) :
    BMid adj l v (ws ++ [w]) (fun x => if x = w then f v + 1 else f x) (q ++ [w]) := by
  have hwp := (out_pts hg v).lt w hw
  have hwq : w ∉ q := fun hq => (h.qv w hq).2.2 hf
  have hwv : v ≠ w := fun e => h.vv.2.2 (e ▸ hf)
  have hne : ∀ x, f x ≠ -1 → (if x = w then f v + 1 else f x) = f x := fun x hx => by rw [if_neg]; rintro rfl; exact hx hf
  have hfv := hne v h.vv.2.2
  have hv0 := (h.vis v h.vv.1 h.vv.2.1 h.vv.2.2)
  refine ⟨fun x h0 h1 h2 => ?_, fun x hx => ?_, fun x hx => ?_, ?_, ⟨h.vv.1, h.vv.2.1, by rw [hfv]; exact h.vv.2.2⟩, fun y hy => ?_, fun x h0 h1 h2 h3 h4 => ?_, fun x hx => ?_⟩
  · (try simp only at h2 ⊢)
    by_cases e : x = w
    · subst e
      rw [if_pos rfl]
      refine ⟨by omega, ?_⟩
      rw [show (f v + 1).toNat = (f v).toNat + 1 by omega]
      exact (mem_lev hg hl).2 (.inr ⟨v, hv0.2, hw⟩)
    · rw [if_neg e] at h2 ⊢; exact h.vis x h0 h1 h2
  · have := h.src x hx
    rw [hne x (by omega)]; exact this
  · rcases List.mem_append.1 hx with hx | hx
    · have := h.qv x hx
      rw [hne x this.2.2]; exact this
    · simp at hx; subst hx
      rw [if_pos rfl]; exact ⟨hwp.1, hwp.2, by omega⟩
  · rw [List.pairwise_append]
    refine ⟨h.up.imp_of_mem ?_, by simp, ?_⟩
    · intro x y hx hy hxy
      rw [hne x (h.qv x hx).2.2, hne y (h.qv y hy).2.2]; exact hxy
    · intro x hx y hy
      simp at hy; subst hy
      rw [hne x (h.qv x hx).2.2, if_pos rfl]
      exact (h.near x hx).2
  · rw [hfv]
    rcases List.mem_append.1 hy with hy | hy
    · rw [hne y (h.qv y hy).2.2]; exact h.near y hy
    · simp at hy; subst hy
      rw [if_pos rfl]; omega
  · (try simp only at h2 ⊢)
    have hxw : x ≠ w := fun e => h3 (by simp [e])
    rw [if_neg hxw] at h2 ⊢
    have := h.done x h0 h1 h2 (fun hq => h3 (by simp [hq])) h4
    rw [hfv]
    exact ⟨this.1, fun z hz => by have := this.2 z hz; rw [hne z this.1]; exact this⟩
  · rw [hfv]
    rcases List.mem_append.1 hx with hx | hx
    · have := h.ws x hx; rw [hne x this.1]; exact this
    · simp at hx; subst hx
      rw [if_pos rfl]
      exact ⟨by omega, by omega⟩
theorem BInv.start {adj : List (List Int)} {l : List Int} (hl : Pts adj.length l) : BInv adj l (fun x => if x ∈ l then 0 else -1) l := by
  refine ⟨fun x h0 h1 h2 => ?_, fun x hx => by simp [hx], fun x hx => ⟨(hl.lt x hx).1, (hl.lt x hx).2, by simp [hx]⟩, ?_, fun x hx y hy => by simp [hx, hy], fun x h0 h1 h2 h3 => by simp [h3] at h2⟩
  · by_cases hx : x ∈ l
    · simp [hx, levL]
    · simp [hx] at h2
  · exact List.pairwise_iff_forall_sublist.2 fun {a b} h => by
      have ha := h.subset (show a ∈ [a, b] by simp)
      have hb := h.subset (show b ∈ [a, b] by simp)
      simp [ha, hb]
theorem BInv.fin {adj : List (List Int)} (hg : Gr adj) {l : List Int} (hl : Pts adj.length l) {f : Int → Int} (h : BInv adj l f []) {x : Int} (h0 : 0 ≤ x) (h1 : x < adj.length) : f x = distL adj l x :=
  dist_of hg hl h.vis h.src (fun x h0 h1 h2 => (h.done x h0 h1 h2 (by simp)).2) h0 h1
def unfound (n : Nat) (f : Int → Int) : Nat := ((upto n).filter fun x => decide (f x = -1)).length
theorem unfound_new {n : Nat} {f : Int → Int} {w y : Int} (hw : 0 ≤ w ∧ w < n) (hf : f w = -1) (hy : y ≠ -1) : unfound n (fun x => if x = w then y else f x) + 1 = unfound n f := by
  have : ∀ l : List Int, l.Nodup → w ∈ l → (l.filter fun x => decide ((if x = w then y else f x) = -1)).length + 1 = (l.filter fun x => decide (f x = -1)).length := by
    intro l
    induction l with
    | nil => intro _ h; simp at h
    | cons z l ih =>
      intro hd hm
      rw [List.nodup_cons] at hd
      rw [List.filter_cons, List.filter_cons]
      by_cases e : z = w
      · subst e
        rw [if_pos rfl, hf]
        have hc : l.filter (fun x => decide ((if x = z then y else f x) = -1)) = l.filter fun x => decide (f x = -1) := by
          apply List.filter_congr
          intro x hx
          have : x ≠ z := fun e => hd.1 (e ▸ hx)
          rw [if_neg this]
        rw [hc]
        simp [hy]
      · rw [if_neg e]
        have := ih hd.2 ((List.mem_cons.1 hm).resolve_left fun h => e h.symm)
        by_cases hz : f z = -1
        · simp only [hz, decide_true, if_true, List.length_cons]; omega
        · simp only [hz, decide_false, Bool.false_eq_true, if_false]; omega
  exact this _ ((up_upto n).imp fun h e => by omega) (mem_upto.2 hw)
end Go.Am
namespace Go.Am
open Go Go.Proofs
set_option linter.unusedVariables false
set_option linter.unusedSimpArgs false
variable {w0 : World}
attribute [local irreducible] AWP ACalls
attribute [local congr] acalls_congr
theorem low_nat {y : Int} (h0 : 0 ≤ y) (h1 : y < 4294967296) : ((BitVec.ofInt 64 y &&& 4294967295#64).toNat : Int) = y := by
  obtain ⟨n, rfl⟩ := Int.eq_ofNat_of_zero_le h0
  have : (BitVec.ofInt 64 (n : Int) &&& 4294967295#64).toNat = n := by
    rw [BitVec.toNat_and]
    have e1 : (BitVec.ofInt 64 (n : Int)).toNat = n := by simp; omega
    have e2 : (4294967295#64).toNat = 2 ^ 32 - 1 := by decide
    rw [e1, e2, Nat.and_two_pow_sub_one_eq_mod, Nat.mod_eq_of_lt (by omega)]
  rw [this]
abbrev U (n : Int) : AV := .sc (.int .u64 n)
theorem mul_fin {y : Int} (h0 : 0 ≤ y) (h1 : y < 4294967296) : ((((BitVec.ofInt 64 y &&& 4294967295#64).toNat % 18446744073709551616 : Int).fdiv 4294967296 % 18446744073709551616).fdiv 4294967296 +
    (((BitVec.ofInt 64 (((BitVec.ofInt 64 y &&& 4294967295#64).toNat % 18446744073709551616 : Int).fdiv 4294967296 % 18446744073709551616) &&& 4294967295#64).toNat + y.fdiv 4294967296) % 18446744073709551616).fdiv 4294967296) % 18446744073709551616 = 0 ∧
    y % 18446744073709551616 = y := by
  have e0 : y % 18446744073709551616 = y := by omega
  have e1 : y.fdiv 4294967296 = 0 := by rw [Int.fdiv_eq_ediv_of_nonneg _ (by omega)]; omega
  rw [low_nat h0 h1, e0, e1]
  simp
theorem mul64_ret {y : Int} (h0 : 0 ≤ y) (h1 : y < 4294967296) : Ret Try.prog w0 116 [U 1, U y] (.tup [U 0, U y]) := by
  intro H
  refine w_enter Try.func116 rfl Try.ntmps116 (ts := [4, 5]) rfl (by simp) (by kernel_rfl) ?_
  repeat' (first
    | (with_reducible refine awp_skip ?_)
    | (with_reducible refine then_any ?_)
    | (with_reducible refine then_ret ?_)
    | (with_reducible refine then_exit ?_)
    | (with_reducible refine inBlock_normal ?_)
    | (with_reducible refine inBlock_ret ?_)
    | (with_reducible refine inBlock_hit ?_)
    | (with_reducible refine inBlock_miss (by decide) ?_)
    | (with_reducible refine awp_ret ?_)
    | (with_reducible refine awp_exit ?_)
    | (with_reducible refine post_ret ?_)
    | (with_reducible refine post_normal ?_)
    | (with_reducible refine awp_block ?_)
    | (with_reducible refine awp_scope_ret ?_)
    | (with_reducible refine awp_label ?_)
    | (with_reducible refine v_reg [] (fun K hK => ?_))
    | (with_reducible refine v_reg1 [] (fun K hK => ?_))
    | (with_reducible refine v_draw mixed [] [] (by kernel_rfl) (fun K hK => ?_))
    | (with_reducible refine v_draw1 mixed [] [] (by kernel_rfl) (fun K hK => ?_))
    | (with_reducible refine ev_nil (hK _ _ ?_); clear hK K)
    | (with_reducible refine ed_nil (hK _ _ ?_); clear hK K)
    | ((first | with_reducible refine ev_cons (fun K' hK' => ?_) | with_reducible refine ed_cons (fun K' hK' => ?_) | (with_reducible refine ev_id ?_; refine ev_guard rfl (fun K' hK' => ?_)) | (with_reducible refine ed_id ?_; refine ed_guard rfl (fun K' hK' => ?_))); simp [IntKind.bits]; repeat' (first | (with_reducible refine hK' _ _ ?_; clear hK' K') | (with_reducible refine And.intro ?_ ?_) | (with_reducible intro hg) | (clear hK' K'; omega)))
    | (with_reducible refine w_cond (fun A B hA hB => ?_); simp [IntKind.bits]; repeat' (first | (with_reducible refine hA ?_; clear hA hB A B) | (with_reducible refine hB ?_; clear hA hB A B) | (with_reducible refine And.intro ?_ ?_) | (with_reducible intro hc)))
    | (with_reducible refine awp_seq ?_))
  simp [IntKind.wrap, IntKind.bits, IntKind.signed, IntKind.min, IntKind.max]
  exact mul_fin h0 h1
theorem mul_ret {y : Int} (h0 : 0 ≤ y) (h1 : y < 4294967296) : Ret Try.prog w0 102 [U 1, U y] (.tup [U 0, U y]) := by
  intro H
  refine w_enter Try.func102 rfl Try.ntmps102 (ts := [4, 5]) rfl (by simp) (by kernel_rfl) ?_
  repeat' (first
    | (with_reducible refine awp_skip ?_)
    | (with_reducible refine then_any ?_)
    | (with_reducible refine then_ret ?_)
    | (with_reducible refine then_exit ?_)
    | (with_reducible refine inBlock_normal ?_)
    | (with_reducible refine inBlock_ret ?_)
    | (with_reducible refine inBlock_hit ?_)
    | (with_reducible refine inBlock_miss (by decide) ?_)
    | (with_reducible refine awp_ret ?_)
    | (with_reducible refine awp_exit ?_)
    | (with_reducible refine post_ret ?_)
    | (with_reducible refine post_normal ?_)
    | (with_reducible refine awp_block ?_)
    | (with_reducible refine awp_scope_ret ?_)
    | (with_reducible refine awp_label ?_)
    | (with_reducible refine v_reg [] (fun K hK => ?_))
    | (with_reducible refine v_reg1 [] (fun K hK => ?_))
    | (with_reducible refine v_draw mixed [] [] (by kernel_rfl) (fun K hK => ?_))
    | (with_reducible refine v_draw1 mixed [] [] (by kernel_rfl) (fun K hK => ?_))
    | (with_reducible refine ev_nil (hK _ _ ?_); clear hK K)
    | (with_reducible refine ed_nil (hK _ _ ?_); clear hK K)
    | ((first | with_reducible refine ev_cons (fun K' hK' => ?_) | with_reducible refine ed_cons (fun K' hK' => ?_) | (with_reducible refine ev_id ?_; refine ev_guard rfl (fun K' hK' => ?_)) | (with_reducible refine ed_id ?_; refine ed_guard rfl (fun K' hK' => ?_))); simp; repeat' (first | (with_reducible refine hK' _ _ ?_; clear hK' K') | (with_reducible refine Ret.use (mul64_ret h0 h1) ?_; try simp) | (with_reducible refine And.intro ?_ ?_) | (with_reducible intro hg) | (clear hK' K'; omega)))
    | (with_reducible refine w_cond (fun A B hA hB => ?_); simp; repeat' (first | (with_reducible refine hA ?_; clear hA hB A B) | (with_reducible refine hB ?_; clear hA hB A B) | (with_reducible refine And.intro ?_ ?_) | (with_reducible intro hc)))
    | (with_reducible refine awp_seq ?_))
  simp
theorem u64_wrap {y : Int} (h0 : 0 ≤ y) (h1 : y < 4294967296) : IntKind.u64.wrap y = y := by
  simp [IntKind.wrap, IntKind.bits, IntKind.signed, IntKind.min, IntKind.max]; omega
theorem setL_rep {α : Type} {f : α → AV} {m k j : Nat} (x z : α) : setL ((List.replicate m x ++ List.replicate (k + j) z).map f) m ((List.replicate k x).map f) = (List.replicate (m + k) x ++ List.replicate j z).map f := by
  induction k generalizing m with
  | zero => simp [setL]
  | succ k ih =>
    rw [List.replicate_succ, List.map_cons, setL]
    have : ((List.replicate m x ++ List.replicate (k + 1 + j) z).map f).set m (f x) = (List.replicate (m + 1) x ++ List.replicate (k + j) z).map f := by
      have h := set_next ((List.replicate m x).map f) (k + j) (f z) (f x)
      rw [List.length_map, List.length_replicate] at h
      rw [List.map_append, List.map_append, List.map_replicate (a := z), show k + 1 + j = k + j + 1 by omega, h]
      simp [List.replicate_succ']
    rw [this, ih]
    congr 2
    simp; omega
theorem repeat_new {x : Int} {n : Nat} (hn : n < 4294967296) : RetNew Try.prog w0 74 [.sl [I x] 1, I n] 1 3 ((List.replicate n x).map I) n := by
  intro H
  refine w_enter Try.func74 rfl Try.ntmps74 (ts := [4]) rfl (by simp) (by kernel_rfl) ?_
  have hw1 : IntKind.u64.wrap 1 = 1 := by decide
  have hwn := u64_wrap (y := (n : Int)) (by omega) (by omega)
  repeat' (first
    | (with_reducible refine awp_skip ?_)
    | (with_reducible refine then_any ?_)
    | (with_reducible refine then_ret ?_)
    | (with_reducible refine then_exit ?_)
    | (with_reducible refine inBlock_normal ?_)
    | (with_reducible refine inBlock_ret ?_)
    | (with_reducible refine inBlock_hit ?_)
    | (with_reducible refine inBlock_miss (by decide) ?_)
    | (with_reducible refine awp_ret ?_)
    | (with_reducible refine awp_exit ?_)
    | (with_reducible refine post_ret ?_)
    | (with_reducible refine post_normal ?_)
    | (with_reducible refine awp_block ?_)
    | (with_reducible refine awp_scope_ret ?_)
    | (with_reducible refine awp_label ?_)
    | (with_reducible refine v_reg [] (fun K hK => ?_))
    | (with_reducible refine v_reg1 [] (fun K hK => ?_))
    | (with_reducible refine v_draw mixed [] [] (by kernel_rfl) (fun K hK => ?_))
    | (with_reducible refine v_draw1 mixed [] [] (by kernel_rfl) (fun K hK => ?_))
    | (with_reducible refine ev_nil (hK _ _ ?_); clear hK K)
    | (with_reducible refine ed_nil (hK _ _ ?_); clear hK K)
    | ((first | with_reducible refine ev_cons (fun K' hK' => ?_) | with_reducible refine ed_cons (fun K' hK' => ?_) | (with_reducible refine ev_id ?_; refine ev_guard rfl (fun K' hK' => ?_)) | (with_reducible refine ed_id ?_; refine ed_guard rfl (fun K' hK' => ?_))); simp [hw1, hwn]; repeat' (first | (with_reducible refine hK' _ _ ?_; clear hK' K') | (with_reducible refine Ret.use (mul_ret (y := (n : Int)) (by omega) (by omega)) ?_; try simp [hw1, hwn]) | (with_reducible refine And.intro ?_ ?_) | (with_reducible intro hg) | (clear hK' K'; omega)))
    | (with_reducible refine w_cond (fun A B hA hB => ?_); simp [hw1, hwn]; repeat' (first | (with_reducible refine hA ?_; clear hA hB A B) | (with_reducible refine hB ?_; clear hA hB A B) | (with_reducible refine And.intro ?_ ?_) | (with_reducible intro hc)))
    | (with_reducible refine awp_seq ?_))
  rename_i r
  have hr : H r = none := hg
  clear hg
  refine awp_loop (fun env h => ∃ m : Nat, m ≤ n ∧ (n = 0 ∨ 0 < m) ∧ env 8 = I m ∧ env 7 = .ref r 0 n n ∧ h = upd H r (some (.arr 1 3 ((List.replicate m x ++ List.replicate (n - m) 0).map I) n))) (fun env _ => n - natA (env 8)) ?_ ?_
  · refine ⟨min 1 n, by omega, by omega, ?_, by simp, ?_⟩
    · simp
    · cases n with
      | zero => simp [setL]
      | succ n =>
        have : min 1 (n + 1) = 1 := by omega
        rw [this]
        simp [setL, List.replicate_succ]
  rintro env h ⟨m, hm, h01, h8, h7, rfl⟩
  have hnat : natA (env 8) = m := by simp [h8]
  rw [hnat]; clear hnat
  by_cases hlt : m < n
  · have hs := setL_rep (f := I) (m := m) (k := min m (n - m)) (j := n - (m + min m (n - m))) x (0 : Int)
    rw [show min m (n - m) + (n - (m + min m (n - m))) = n - m by omega] at hs
    simp only [List.map_append, List.map_replicate] at hs
    have hlen : ((List.replicate m x ++ List.replicate (n - m) 0).map I).length = n := by simp; omega
    repeat' (first
      | (with_reducible refine awp_skip ?_)
      | (with_reducible refine then_any ?_)
      | (with_reducible refine then_ret ?_)
      | (with_reducible refine then_exit ?_)
      | (with_reducible refine inBlock_normal ?_)
      | (with_reducible refine inBlock_ret ?_)
      | (with_reducible refine inBlock_hit ?_)
      | (with_reducible refine inBlock_miss (by decide) ?_)
      | (with_reducible refine awp_ret ?_)
      | (with_reducible refine awp_exit ?_)
      | (with_reducible refine post_ret ?_)
      | (with_reducible refine post_normal ?_)
      | (with_reducible refine awp_block ?_)
      | (with_reducible refine awp_scope_ret ?_)
      | (with_reducible refine awp_label ?_)
      | (with_reducible refine v_reg [] (fun K hK => ?_))
      | (with_reducible refine v_reg1 [] (fun K hK => ?_))
      | (with_reducible refine v_draw mixed [] [] (by kernel_rfl) (fun K hK => ?_))
      | (with_reducible refine v_draw1 mixed [] [] (by kernel_rfl) (fun K hK => ?_))
      | (with_reducible refine ev_nil (hK _ _ ?_); clear hK K)
      | (with_reducible refine ed_nil (hK _ _ ?_); clear hK K)
      | ((first | with_reducible refine ev_cons (fun K' hK' => ?_) | with_reducible refine ed_cons (fun K' hK' => ?_) | (with_reducible refine ev_id ?_; refine ev_guard rfl (fun K' hK' => ?_)) | (with_reducible refine ed_id ?_; refine ed_guard rfl (fun K' hK' => ?_))); simp [h8, h7, hlt, hlen]; repeat' (first | (with_reducible refine hK' _ _ ?_; clear hK' K') | (with_reducible refine And.intro ?_ ?_) | (with_reducible intro hg) | (clear hK' K'; omega)))
      | (with_reducible refine w_cond (fun A B hA hB => ?_); simp [h8, h7, hlt, hlen]; repeat' (first | (with_reducible refine hA ?_; clear hA hB A B) | (with_reducible refine hB ?_; clear hA hB A B) | (with_reducible refine And.intro ?_ ?_) | (with_reducible intro hc)))
      | (with_reducible refine awp_seq ?_))
    exact ⟨⟨m + min m (n - m), by omega, by omega, by simp, by simp [h7], by rw [hs]; simp⟩, by simp; omega⟩
  · have : m = n := by omega
    subst this
    repeat' (first
      | (with_reducible refine awp_skip ?_)
      | (with_reducible refine then_any ?_)
      | (with_reducible refine then_ret ?_)
      | (with_reducible refine then_exit ?_)
      | (with_reducible refine inBlock_normal ?_)
      | (with_reducible refine inBlock_ret ?_)
      | (with_reducible refine inBlock_hit ?_)
      | (with_reducible refine inBlock_miss (by decide) ?_)
      | (with_reducible refine awp_ret ?_)
      | (with_reducible refine awp_exit ?_)
      | (with_reducible refine post_ret ?_)
      | (with_reducible refine post_normal ?_)
      | (with_reducible refine awp_block ?_)
      | (with_reducible refine awp_scope_ret ?_)
      | (with_reducible refine awp_label ?_)
      | (with_reducible refine v_reg [] (fun K hK => ?_))
      | (with_reducible refine v_reg1 [] (fun K hK => ?_))
      | (with_reducible refine v_draw mixed [] [] (by kernel_rfl) (fun K hK => ?_))
      | (with_reducible refine v_draw1 mixed [] [] (by kernel_rfl) (fun K hK => ?_))
      | (with_reducible refine ev_nil (hK _ _ ?_); clear hK K)
      | (with_reducible refine ed_nil (hK _ _ ?_); clear hK K)
      | ((first | with_reducible refine ev_cons (fun K' hK' => ?_) | with_reducible refine ed_cons (fun K' hK' => ?_) | (with_reducible refine ev_id ?_; refine ev_guard rfl (fun K' hK' => ?_)) | (with_reducible refine ed_id ?_; refine ed_guard rfl (fun K' hK' => ?_))); simp [h8, h7]; repeat' (first | (with_reducible refine hK' _ _ ?_; clear hK' K') | (with_reducible refine And.intro ?_ ?_) | (with_reducible intro hg) | (clear hK' K'; omega)))
      | (with_reducible refine w_cond (fun A B hA hB => ?_); simp [h8, h7]; repeat' (first | (with_reducible refine hA ?_; clear hA hB A B) | (with_reducible refine hB ?_; clear hA hB A B) | (with_reducible refine And.intro ?_ ?_) | (with_reducible intro hc)))
      | (with_reducible refine awp_seq ?_))
    exact ⟨r, hr, by simp, by simp⟩
theorem clone_use {l : List Int} (hl : l.length ≤ 1099511627776) {H : Heap} {K : AV → Heap → Prop} (k0 : l = [] → K (.sl [] 0) H)
    (k1 : ∀ r, H r = none → K (.ref r 0 l.length l.length) (upd H r (some (.arr 1 3 (l.map I) l.length)))) : ACalls Try.prog w0 50 [ints l] H K := by
  refine (?_ : ACalls Try.prog w0 50 [ints l] H (fun v H' => (l = [] ∧ v = .sl [] 0 ∧ H' = H) ∨ ∃ r, H r = none ∧ v = .ref r 0 l.length l.length ∧ H' = upd H r (some (.arr 1 3 (l.map I) l.length)))).drop ?_
  · refine w_enter Try.func50 rfl Try.ntmps50 (ts := [2]) rfl (by simp) (by kernel_rfl) ?_
    cases l with
    | nil =>
      repeat' (first
        | (with_reducible refine awp_skip ?_)
        | (with_reducible refine then_any ?_)
        | (with_reducible refine then_ret ?_)
        | (with_reducible refine then_exit ?_)
        | (with_reducible refine inBlock_normal ?_)
        | (with_reducible refine inBlock_ret ?_)
        | (with_reducible refine inBlock_hit ?_)
        | (with_reducible refine inBlock_miss (by decide) ?_)
        | (with_reducible refine awp_ret ?_)
        | (with_reducible refine awp_exit ?_)
        | (with_reducible refine post_ret ?_)
        | (with_reducible refine post_normal ?_)
        | (with_reducible refine awp_block ?_)
        | (with_reducible refine awp_scope_ret ?_)
        | (with_reducible refine awp_label ?_)
        | (with_reducible refine v_reg [5] (fun K hK => ?_))
        | (with_reducible refine v_reg1 [5] (fun K hK => ?_))
        | (with_reducible refine v_draw mixed [5] [] (by kernel_rfl) (fun K hK => ?_))
        | (with_reducible refine v_draw1 mixed [5] [] (by kernel_rfl) (fun K hK => ?_))
        | (with_reducible refine ev_nil (hK _ _ ?_); clear hK K)
        | (with_reducible refine ed_nil (hK _ _ ?_); clear hK K)
        | ((first | with_reducible refine ev_cons (fun K' hK' => ?_) | with_reducible refine ed_cons (fun K' hK' => ?_) | (with_reducible refine ev_id ?_; refine ev_guard rfl (fun K' hK' => ?_)) | (with_reducible refine ed_id ?_; refine ed_guard rfl (fun K' hK' => ?_))); simp [ints]; repeat' (first | (with_reducible refine hK' _ _ ?_; clear hK' K') | (with_reducible refine And.intro ?_ ?_) | (with_reducible intro hg) | (clear hK' K'; omega)))
        | (with_reducible refine w_cond (fun A B hA hB => ?_); simp [ints]; repeat' (first | (with_reducible refine hA ?_; clear hA hB A B) | (with_reducible refine hB ?_; clear hA hB A B) | (with_reducible refine And.intro ?_ ?_) | (with_reducible intro hc)))
        | (with_reducible refine awp_seq ?_))
      · refine .inr ⟨_, hg, ?_, ?_⟩ <;> simp
      · refine .inl ⟨rfl, ?_, rfl⟩
        simp
    | cons x l =>
      have hl' : l.length + 1 ≤ 1099511627776 := by simpa using hl
      repeat' (first
        | (with_reducible refine awp_skip ?_)
        | (with_reducible refine then_any ?_)
        | (with_reducible refine then_ret ?_)
        | (with_reducible refine then_exit ?_)
        | (with_reducible refine inBlock_normal ?_)
        | (with_reducible refine inBlock_ret ?_)
        | (with_reducible refine inBlock_hit ?_)
        | (with_reducible refine inBlock_miss (by decide) ?_)
        | (with_reducible refine awp_ret ?_)
        | (with_reducible refine awp_exit ?_)
        | (with_reducible refine post_ret ?_)
        | (with_reducible refine post_normal ?_)
        | (with_reducible refine awp_block ?_)
        | (with_reducible refine awp_scope_ret ?_)
        | (with_reducible refine awp_label ?_)
        | (with_reducible refine v_reg [5] (fun K hK => ?_))
        | (with_reducible refine v_reg1 [5] (fun K hK => ?_))
        | (with_reducible refine v_draw mixed [5] [] (by kernel_rfl) (fun K hK => ?_))
        | (with_reducible refine v_draw1 mixed [5] [] (by kernel_rfl) (fun K hK => ?_))
        | (with_reducible refine ev_nil (hK _ _ ?_); clear hK K)
        | (with_reducible refine ed_nil (hK _ _ ?_); clear hK K)
        | ((first | with_reducible refine ev_cons (fun K' hK' => ?_) | with_reducible refine ed_cons (fun K' hK' => ?_) | (with_reducible refine ev_id ?_; refine ev_guard rfl (fun K' hK' => ?_)) | (with_reducible refine ed_id ?_; refine ed_guard rfl (fun K' hK' => ?_))); simp [ints]; repeat' (first | (with_reducible refine hK' _ _ ?_; clear hK' K') | (with_reducible refine And.intro ?_ ?_) | (with_reducible intro hg) | (clear hK' K'; omega)))
        | (with_reducible refine w_cond (fun A B hA hB => ?_); simp [ints]; repeat' (first | (with_reducible refine hA ?_; clear hA hB A B) | (with_reducible refine hB ?_; clear hA hB A B) | (with_reducible refine And.intro ?_ ?_) | (with_reducible intro hc)))
        | (with_reducible refine awp_seq ?_))
      all_goals try omega
      exact .inr ⟨_, hg, by simp, by simp⟩
  · rintro v H' (⟨h, rfl, rfl⟩ | ⟨r, hr, rfl, rfl⟩)
    · exact ⟨_, .refl _, k0 h⟩
    · exact ⟨_, .refl _, k1 r hr⟩
def ptsB (l : List Int) (n : Int) : Bool := risesB (-1) l && l.all fun x => decide (x < n)
theorem ptsB_last {l : List Int} {n : Int} (h : risesB (-1) l = true) (hne : l ≠ []) (hlt : l.length - 1 < l.length) : (l.all fun x => decide (x < n)) = decide (l[l.length - 1] < n) := by
  have hu := (rises_iff.1 h).up
  rw [Bool.eq_iff_iff]
  simp only [List.all_eq_true, decide_eq_true_eq]
  constructor
  · intro h; exact h _ (List.getElem_mem _)
  · intro h x hx
    obtain ⟨i, hi, rfl⟩ := List.mem_iff_getElem.1 hx
    by_cases e : i = l.length - 1
    · subst e; exact h
    · have := List.pairwise_iff_getElem.1 hu i (l.length - 1) hi hlt (by omega)
      omega
theorem points_ret {l : List Int} {n : Int} (hl : okLen l) : Ret Try.prog w0 80 [ints l, I n] (B (ptsB l n)) := by
  intro H
  refine w_enter Try.func80 rfl Try.ntmps80 (ts := [4]) rfl (by simp) (by kernel_rfl) ?_
  cases hr : risesB (-1) l with
  | false =>
    repeat' (first
      | (with_reducible refine awp_skip ?_)
      | (with_reducible refine then_any ?_)
      | (with_reducible refine then_ret ?_)
      | (with_reducible refine then_exit ?_)
      | (with_reducible refine inBlock_normal ?_)
      | (with_reducible refine inBlock_ret ?_)
      | (with_reducible refine inBlock_hit ?_)
      | (with_reducible refine inBlock_miss (by decide) ?_)
      | (with_reducible refine awp_ret ?_)
      | (with_reducible refine awp_exit ?_)
      | (with_reducible refine post_ret ?_)
      | (with_reducible refine post_normal ?_)
      | (with_reducible refine awp_block ?_)
      | (with_reducible refine awp_scope_ret ?_)
      | (with_reducible refine awp_label ?_)
      | (with_reducible refine v_reg [] (fun K hK => ?_))
      | (with_reducible refine v_reg1 [] (fun K hK => ?_))
      | (with_reducible refine v_draw mixed [] [] (by kernel_rfl) (fun K hK => ?_))
      | (with_reducible refine v_draw1 mixed [] [] (by kernel_rfl) (fun K hK => ?_))
      | (with_reducible refine ev_nil (hK _ _ ?_); clear hK K)
      | (with_reducible refine ed_nil (hK _ _ ?_); clear hK K)
      | ((first | with_reducible refine ev_cons (fun K' hK' => ?_) | with_reducible refine ed_cons (fun K' hK' => ?_) | (with_reducible refine ev_id ?_; refine ev_guard rfl (fun K' hK' => ?_)) | (with_reducible refine ed_id ?_; refine ed_guard rfl (fun K' hK' => ?_))); simp [ints, hr]; repeat' (first | (with_reducible refine hK' _ _ ?_; clear hK' K') | (with_reducible refine Ret.use (may_ret hl) ?_; try simp [ints, hr]) | (with_reducible refine And.intro ?_ ?_) | (with_reducible intro hg) | (clear hK' K'; omega)))
      | (with_reducible refine w_cond (fun A B hA hB => ?_); simp [ints, hr]; repeat' (first | (with_reducible refine hA ?_; clear hA hB A B) | (with_reducible refine hB ?_; clear hA hB A B) | (with_reducible refine And.intro ?_ ?_) | (with_reducible intro hc)))
      | (with_reducible refine awp_seq ?_))
    simp [ptsB, hr]
  | true =>
    by_cases hne : l = []
    · subst hne
      repeat' (first
        | (with_reducible refine awp_skip ?_)
        | (with_reducible refine then_any ?_)
        | (with_reducible refine then_ret ?_)
        | (with_reducible refine then_exit ?_)
        | (with_reducible refine inBlock_normal ?_)
        | (with_reducible refine inBlock_ret ?_)
        | (with_reducible refine inBlock_hit ?_)
        | (with_reducible refine inBlock_miss (by decide) ?_)
        | (with_reducible refine awp_ret ?_)
        | (with_reducible refine awp_exit ?_)
        | (with_reducible refine post_ret ?_)
        | (with_reducible refine post_normal ?_)
        | (with_reducible refine awp_block ?_)
        | (with_reducible refine awp_scope_ret ?_)
        | (with_reducible refine awp_label ?_)
        | (with_reducible refine v_reg [] (fun K hK => ?_))
        | (with_reducible refine v_reg1 [] (fun K hK => ?_))
        | (with_reducible refine v_draw mixed [] [] (by kernel_rfl) (fun K hK => ?_))
        | (with_reducible refine v_draw1 mixed [] [] (by kernel_rfl) (fun K hK => ?_))
        | (with_reducible refine ev_nil (hK _ _ ?_); clear hK K)
        | (with_reducible refine ed_nil (hK _ _ ?_); clear hK K)
        | ((first | with_reducible refine ev_cons (fun K' hK' => ?_) | with_reducible refine ed_cons (fun K' hK' => ?_) | (with_reducible refine ev_id ?_; refine ev_guard rfl (fun K' hK' => ?_)) | (with_reducible refine ed_id ?_; refine ed_guard rfl (fun K' hK' => ?_))); simp [ints, hr]; repeat' (first | (with_reducible refine hK' _ _ ?_; clear hK' K') | ((with_reducible refine Ret.use_eq (may_ret hl) ?_ ?_; (· simp)); try simp [ints, hr]) | (with_reducible refine And.intro ?_ ?_) | (with_reducible intro hg) | (clear hK' K'; omega)))
        | (with_reducible refine w_cond (fun A B hA hB => ?_); simp [ints, hr]; repeat' (first | (with_reducible refine hA ?_; clear hA hB A B) | (with_reducible refine hB ?_; clear hA hB A B) | (with_reducible refine And.intro ?_ ?_) | (with_reducible intro hc)))
        | (with_reducible refine awp_seq ?_))
      all_goals try simp [ptsB, hr]
    · have hpos := List.length_pos_iff.2 hne
      have hlt : l.length - 1 < l.length := by omega
      have hlast := ptsB_last (n := n) hr hne hlt
      have hi : ((l.length : Int) - 1).toNat = l.length - 1 := by omega
      have hi0 : (0 : Int) ≤ (l.length : Int) - 1 := by omega
      repeat' (first
        | (with_reducible refine awp_skip ?_)
        | (with_reducible refine then_any ?_)
        | (with_reducible refine then_ret ?_)
        | (with_reducible refine then_exit ?_)
        | (with_reducible refine inBlock_normal ?_)
        | (with_reducible refine inBlock_ret ?_)
        | (with_reducible refine inBlock_hit ?_)
        | (with_reducible refine inBlock_miss (by decide) ?_)
        | (with_reducible refine awp_ret ?_)
        | (with_reducible refine awp_exit ?_)
        | (with_reducible refine post_ret ?_)
        | (with_reducible refine post_normal ?_)
        | (with_reducible refine awp_block ?_)
        | (with_reducible refine awp_scope_ret ?_)
        | (with_reducible refine awp_label ?_)
        | (with_reducible refine v_reg [] (fun K hK => ?_))
        | (with_reducible refine v_reg1 [] (fun K hK => ?_))
        | (with_reducible refine v_draw mixed [] [] (by kernel_rfl) (fun K hK => ?_))
        | (with_reducible refine v_draw1 mixed [] [] (by kernel_rfl) (fun K hK => ?_))
        | (with_reducible refine ev_nil (hK _ _ ?_); clear hK K)
        | (with_reducible refine ed_nil (hK _ _ ?_); clear hK K)
        | ((first | with_reducible refine ev_cons (fun K' hK' => ?_) | with_reducible refine ed_cons (fun K' hK' => ?_) | (with_reducible refine ev_id ?_; refine ev_guard rfl (fun K' hK' => ?_)) | (with_reducible refine ed_id ?_; refine ed_guard rfl (fun K' hK' => ?_))); simp [ints, hr, hne, hi, hi0, hlt]; repeat' (first | (with_reducible refine hK' _ _ ?_; clear hK' K') | (with_reducible refine Ret.use (may_ret hl) ?_; try simp [ints, hr, hne, hi, hi0, hlt]) | (with_reducible refine And.intro ?_ ?_) | (with_reducible intro hg) | (clear hK' K'; omega)))
        | (with_reducible refine w_cond (fun A B hA hB => ?_); simp [ints, hr, hne, hi, hi0, hlt]; repeat' (first | (with_reducible refine hA ?_; clear hA hB A B) | (with_reducible refine hB ?_; clear hA hB A B) | (with_reducible refine And.intro ?_ ?_) | (with_reducible intro hc)))
        | (with_reducible refine awp_seq ?_))
      all_goals try omega
      all_goals try simp [ptsB, hr, hlast]
abbrev PredAt (w0 : World) (f : FuncId) (caps : List AV) (ls : List (List Int)) (p : List Int → Bool) (H : Heap) : Prop := ∀ l ∈ ls, RetAt Try.prog w0 f (ints l :: caps) (B (p l)) H
def idxI {α : Type} (p : α → Bool) (l : List α) : Int := match l.findIdx? p with
  | some k => k
  | none => -1
theorem idxI_take {α : Type} {p : α → Bool} {l : List α} {k : Nat} (h : k < l.length) (h0 : ∀ x ∈ l.take k, p x = false) (h1 : p l[k] = true) : idxI p l = k := by
  have : l.findIdx? p = some k := by
    rw [List.findIdx?_eq_some_iff_getElem]
    refine ⟨h, h1, fun j hj => ?_⟩
    have := h0 l[j] (by rw [List.mem_take_iff_getElem]; exact ⟨j, by omega, rfl⟩)
    simp [this]
  rw [idxI, this]
theorem idxI_none {α : Type} {p : α → Bool} {l : List α} (h0 : ∀ x ∈ l, p x = false) : idxI p l = -1 := by
  have : l.findIdx? p = none := by rw [List.findIdx?_eq_none_iff]; exact fun x hx => by simp [h0 x hx]
  rw [idxI, this]
theorem idxI_any {α : Type} (p : α → Bool) (l : List α) : decide (0 ≤ idxI p l) = l.any p := by
  unfold idxI
  cases h : l.findIdx? p with
  | none =>
    rw [List.findIdx?_eq_none_iff] at h
    symm
    simp only [Int.reduceNeg, Int.neg_nonneg, show ¬ (1 : Int) ≤ 0 by omega, decide_false]
    rw [List.any_eq_false]
    intro x hx; simp [h x hx]
  | some k =>
    rw [List.findIdx?_eq_some_iff_getElem] at h
    obtain ⟨hk, hp, _⟩ := h
    have : l.any p = true := by rw [List.any_eq_true]; exact ⟨_, List.getElem_mem hk, hp⟩
    simp [this]
theorem indexRows_at {ls : List (List Int)} {f : FuncId} {caps : List AV} {p : List Int → Bool} {H : Heap} (hls : okLen ls) (hp : PredAt w0 f caps ls p H) :
    RetAt Try.prog w0 117 [rows ls, .clo f [] caps] (I (idxI p ls)) H := by
  refine .of ?_
  refine w_enter Try.func117 rfl Try.ntmps117 (ts := [4]) rfl (by simp) (by kernel_rfl) ?_
  repeat' (first
    | (with_reducible refine awp_skip ?_)
    | (with_reducible refine then_any ?_)
    | (with_reducible refine then_ret ?_)
    | (with_reducible refine then_exit ?_)
    | (with_reducible refine inBlock_normal ?_)
    | (with_reducible refine inBlock_ret ?_)
    | (with_reducible refine inBlock_hit ?_)
    | (with_reducible refine inBlock_miss (by decide) ?_)
    | (with_reducible refine awp_ret ?_)
    | (with_reducible refine awp_exit ?_)
    | (with_reducible refine post_ret ?_)
    | (with_reducible refine post_normal ?_)
    | (with_reducible refine awp_block ?_)
    | (with_reducible refine awp_scope_ret ?_)
    | (with_reducible refine awp_label ?_)
    | (with_reducible refine v_reg [] (fun K hK => ?_))
    | (with_reducible refine v_reg1 [] (fun K hK => ?_))
    | (with_reducible refine v_draw mixed [] [] (by kernel_rfl) (fun K hK => ?_))
    | (with_reducible refine v_draw1 mixed [] [] (by kernel_rfl) (fun K hK => ?_))
    | (with_reducible refine ev_nil (hK _ _ ?_); clear hK K)
    | (with_reducible refine ed_nil (hK _ _ ?_); clear hK K)
    | ((first | with_reducible refine ev_cons (fun K' hK' => ?_) | with_reducible refine ed_cons (fun K' hK' => ?_) | (with_reducible refine ev_id ?_; refine ev_guard rfl (fun K' hK' => ?_)) | (with_reducible refine ed_id ?_; refine ed_guard rfl (fun K' hK' => ?_))); simp [rows]; repeat' (first | (with_reducible refine hK' _ _ ?_; clear hK' K') | (with_reducible refine And.intro ?_ ?_) | (with_reducible intro hg) | (clear hK' K'; omega)))
    | (with_reducible refine w_cond (fun A B hA hB => ?_); simp [rows]; repeat' (first | (with_reducible refine hA ?_; clear hA hB A B) | (with_reducible refine hB ?_; clear hA hB A B) | (with_reducible refine And.intro ?_ ?_) | (with_reducible intro hc)))
    | (with_reducible refine awp_seq ?_))
  refine awp_loop (fun env h => ∃ k : Nat, k ≤ ls.length ∧ env 8 = I k ∧ env 7 = I ls.length ∧ env 0 = rows ls ∧ env 1 = .clo f [] caps ∧ (∀ x ∈ ls.take k, p x = false) ∧ h = H) (fun env _ => ls.length - natA (env 8)) ?_ ?_
  · exact ⟨0, by omega, by simp, by simp, by simp [rows], by simp, by simp, rfl⟩
  rintro env h ⟨k, hk, h8, h7, h0, h1, ht, rfl⟩
  have hnat : natA (env 8) = k := by simp [h8]
  rw [hnat]; clear hnat
  by_cases hlt : k < ls.length
  · have hpk := hp ls[k] (List.getElem_mem _)
    cases hb : p ls[k] with
    | true =>
      have := idxI_take hlt ht hb
      repeat' (first
        | (with_reducible refine awp_skip ?_)
        | (with_reducible refine then_any ?_)
        | (with_reducible refine then_ret ?_)
        | (with_reducible refine then_exit ?_)
        | (with_reducible refine inBlock_normal ?_)
        | (with_reducible refine inBlock_ret ?_)
        | (with_reducible refine inBlock_hit ?_)
        | (with_reducible refine inBlock_miss (by decide) ?_)
        | (with_reducible refine awp_ret ?_)
        | (with_reducible refine awp_exit ?_)
        | (with_reducible refine post_ret ?_)
        | (with_reducible refine post_normal ?_)
        | (with_reducible refine awp_block ?_)
        | (with_reducible refine awp_scope_ret ?_)
        | (with_reducible refine awp_label ?_)
        | (with_reducible refine v_reg [] (fun K hK => ?_))
        | (with_reducible refine v_reg1 [] (fun K hK => ?_))
        | (with_reducible refine v_draw mixed [] [] (by kernel_rfl) (fun K hK => ?_))
        | (with_reducible refine v_draw1 mixed [] [] (by kernel_rfl) (fun K hK => ?_))
        | (with_reducible refine ev_nil (hK _ _ ?_); clear hK K)
        | (with_reducible refine ed_nil (hK _ _ ?_); clear hK K)
        | ((first | with_reducible refine ev_cons (fun K' hK' => ?_) | with_reducible refine ed_cons (fun K' hK' => ?_) | (with_reducible refine ev_id ?_; refine ev_guard rfl (fun K' hK' => ?_)) | (with_reducible refine ed_id ?_; refine ed_guard rfl (fun K' hK' => ?_))); simp [h8, h7, h0, h1, rows, hlt]; repeat' (first | (with_reducible refine hK' _ _ ?_; clear hK' K') | ((with_reducible refine RetAt.use hpk ?_; simp only [hb]); try simp [h8, h7, h0, h1, rows, hlt]) | (with_reducible refine And.intro ?_ ?_) | (with_reducible intro hg) | (clear hK' K'; omega)))
        | (with_reducible refine w_cond (fun A B hA hB => ?_); simp [h8, h7, h0, h1, rows, hlt]; repeat' (first | (with_reducible refine hA ?_; clear hA hB A B) | (with_reducible refine hB ?_; clear hA hB A B) | (with_reducible refine And.intro ?_ ?_) | (with_reducible intro hc)))
        | (with_reducible refine awp_seq ?_))
      simp [this]
    | false =>
      repeat' (first
        | (with_reducible refine awp_skip ?_)
        | (with_reducible refine then_any ?_)
        | (with_reducible refine then_ret ?_)
        | (with_reducible refine then_exit ?_)
        | (with_reducible refine inBlock_normal ?_)
        | (with_reducible refine inBlock_ret ?_)
        | (with_reducible refine inBlock_hit ?_)
        | (with_reducible refine inBlock_miss (by decide) ?_)
        | (with_reducible refine awp_ret ?_)
        | (with_reducible refine awp_exit ?_)
        | (with_reducible refine post_ret ?_)
        | (with_reducible refine post_normal ?_)
        | (with_reducible refine awp_block ?_)
        | (with_reducible refine awp_scope_ret ?_)
        | (with_reducible refine awp_label ?_)
        | (with_reducible refine v_reg [] (fun K hK => ?_))
        | (with_reducible refine v_reg1 [] (fun K hK => ?_))
        | (with_reducible refine v_draw mixed [] [] (by kernel_rfl) (fun K hK => ?_))
        | (with_reducible refine v_draw1 mixed [] [] (by kernel_rfl) (fun K hK => ?_))
        | (with_reducible refine ev_nil (hK _ _ ?_); clear hK K)
        | (with_reducible refine ed_nil (hK _ _ ?_); clear hK K)
        | ((first | with_reducible refine ev_cons (fun K' hK' => ?_) | with_reducible refine ed_cons (fun K' hK' => ?_) | (with_reducible refine ev_id ?_; refine ev_guard rfl (fun K' hK' => ?_)) | (with_reducible refine ed_id ?_; refine ed_guard rfl (fun K' hK' => ?_))); simp [h8, h7, h0, h1, rows, hlt]; repeat' (first | (with_reducible refine hK' _ _ ?_; clear hK' K') | ((with_reducible refine RetAt.use hpk ?_; simp only [hb]); try simp [h8, h7, h0, h1, rows, hlt]) | (with_reducible refine And.intro ?_ ?_) | (with_reducible intro hg) | (clear hK' K'; omega)))
        | (with_reducible refine w_cond (fun A B hA hB => ?_); simp [h8, h7, h0, h1, rows, hlt]; repeat' (first | (with_reducible refine hA ?_; clear hA hB A B) | (with_reducible refine hB ?_; clear hA hB A B) | (with_reducible refine And.intro ?_ ?_) | (with_reducible intro hc)))
        | (with_reducible refine awp_seq ?_))
      refine ⟨⟨k + 1, by omega, by simp, by simp [h7], by simp [h0], by simp [h1], fun x hx => ?_, rfl⟩, by simp; omega⟩
      rw [List.take_succ_eq_append_getElem hlt, List.mem_append, List.mem_singleton] at hx
      rcases hx with hx | rfl
      · exact ht x hx
      · exact hb
  · have : k = ls.length := by omega
    subst this
    rw [List.take_length] at ht
    have := idxI_none ht
    repeat' (first
      | (with_reducible refine awp_skip ?_)
      | (with_reducible refine then_any ?_)
      | (with_reducible refine then_ret ?_)
      | (with_reducible refine then_exit ?_)
      | (with_reducible refine inBlock_normal ?_)
      | (with_reducible refine inBlock_ret ?_)
      | (with_reducible refine inBlock_hit ?_)
      | (with_reducible refine inBlock_miss (by decide) ?_)
      | (with_reducible refine awp_ret ?_)
      | (with_reducible refine awp_exit ?_)
      | (with_reducible refine post_ret ?_)
      | (with_reducible refine post_normal ?_)
      | (with_reducible refine awp_block ?_)
      | (with_reducible refine awp_scope_ret ?_)
      | (with_reducible refine awp_label ?_)
      | (with_reducible refine v_reg [] (fun K hK => ?_))
      | (with_reducible refine v_reg1 [] (fun K hK => ?_))
      | (with_reducible refine v_draw mixed [] [] (by kernel_rfl) (fun K hK => ?_))
      | (with_reducible refine v_draw1 mixed [] [] (by kernel_rfl) (fun K hK => ?_))
      | (with_reducible refine ev_nil (hK _ _ ?_); clear hK K)
      | (with_reducible refine ed_nil (hK _ _ ?_); clear hK K)
      | ((first | with_reducible refine ev_cons (fun K' hK' => ?_) | with_reducible refine ed_cons (fun K' hK' => ?_) | (with_reducible refine ev_id ?_; refine ev_guard rfl (fun K' hK' => ?_)) | (with_reducible refine ed_id ?_; refine ed_guard rfl (fun K' hK' => ?_))); simp [h8, h7, h0, h1, rows]; repeat' (first | (with_reducible refine hK' _ _ ?_; clear hK' K') | (with_reducible refine And.intro ?_ ?_) | (with_reducible intro hg) | (clear hK' K'; omega)))
      | (with_reducible refine w_cond (fun A B hA hB => ?_); simp [h8, h7, h0, h1, rows]; repeat' (first | (with_reducible refine hA ?_; clear hA hB A B) | (with_reducible refine hB ?_; clear hA hB A B) | (with_reducible refine And.intro ?_ ?_) | (with_reducible intro hc)))
      | (with_reducible refine awp_seq ?_))
    simp [this]
theorem containsRows_at {ls : List (List Int)} {f : FuncId} {caps : List AV} {p : List Int → Bool} {H : Heap} (hls : okLen ls) (hp : PredAt w0 f caps ls p H) :
    RetAt Try.prog w0 103 [rows ls, .clo f [] caps] (B (ls.any p)) H := by
  refine .of ?_
  have hi := idxI_any p ls
  refine w_enter Try.func103 rfl Try.ntmps103 (ts := [4]) rfl (by simp) (by kernel_rfl) ?_
  repeat' (first
    | (with_reducible refine awp_skip ?_)
    | (with_reducible refine then_any ?_)
    | (with_reducible refine then_ret ?_)
    | (with_reducible refine then_exit ?_)
    | (with_reducible refine inBlock_normal ?_)
    | (with_reducible refine inBlock_ret ?_)
    | (with_reducible refine inBlock_hit ?_)
    | (with_reducible refine inBlock_miss (by decide) ?_)
    | (with_reducible refine awp_ret ?_)
    | (with_reducible refine awp_exit ?_)
    | (with_reducible refine post_ret ?_)
    | (with_reducible refine post_normal ?_)
    | (with_reducible refine awp_block ?_)
    | (with_reducible refine awp_scope_ret ?_)
    | (with_reducible refine awp_label ?_)
    | (with_reducible refine v_reg [] (fun K hK => ?_))
    | (with_reducible refine v_reg1 [] (fun K hK => ?_))
    | (with_reducible refine v_draw mixed [] [] (by kernel_rfl) (fun K hK => ?_))
    | (with_reducible refine v_draw1 mixed [] [] (by kernel_rfl) (fun K hK => ?_))
    | (with_reducible refine ev_nil (hK _ _ ?_); clear hK K)
    | (with_reducible refine ed_nil (hK _ _ ?_); clear hK K)
    | ((first | with_reducible refine ev_cons (fun K' hK' => ?_) | with_reducible refine ed_cons (fun K' hK' => ?_) | (with_reducible refine ev_id ?_; refine ev_guard rfl (fun K' hK' => ?_)) | (with_reducible refine ed_id ?_; refine ed_guard rfl (fun K' hK' => ?_))); simp [rows]; repeat' (first | (with_reducible refine hK' _ _ ?_; clear hK' K') | ((with_reducible refine RetAt.use (indexRows_at hls hp) ?_; try simp); try simp [rows]) | (with_reducible refine And.intro ?_ ?_) | (with_reducible intro hg) | (clear hK' K'; omega)))
    | (with_reducible refine w_cond (fun A B hA hB => ?_); simp [rows]; repeat' (first | (with_reducible refine hA ?_; clear hA hB A B) | (with_reducible refine hB ?_; clear hA hB A B) | (with_reducible refine And.intro ?_ ?_) | (with_reducible intro hc)))
    | (with_reducible refine awp_seq ?_))
  simp [hi]
def mayG (adj : List (List Int)) : Bool := decide (adj.length ≤ 4096) && adj.all fun l => ptsB l adj.length
theorem gr_iff {adj : List (List Int)} : mayG adj = true ↔ Gr adj := by
  simp only [mayG, ptsB, Bool.and_eq_true, decide_eq_true_eq, List.all_eq_true, rises_iff]
  constructor
  · rintro ⟨h1, h2⟩
    exact ⟨h1, fun l hl => ⟨(h2 l hl).1, fun x hx => ⟨((h2 l hl).1.ok x hx).1, (h2 l hl).2 x hx⟩⟩⟩
  · rintro ⟨h1, h2⟩
    exact ⟨h1, fun l hl => ⟨(h2 l hl).set, fun x hx => ((h2 l hl).lt x hx).2⟩⟩
theorem pts_iff {l : List Int} {n : Nat} : ptsB l n = true ↔ Pts n l := by
  simp only [ptsB, Bool.and_eq_true, decide_eq_true_eq, List.all_eq_true, rises_iff]
  exact ⟨fun h => ⟨h.1, fun x hx => ⟨(h.1.ok x hx).1, h.2 x hx⟩⟩, fun h => ⟨h.set, fun x hx => (h.lt x hx).2⟩⟩
theorem may1_at {adj : List (List Int)} {l : List Int} (hl : okLen l) {H : Heap} {r : Nat} (hr : H r = some (.box [rows adj])) : RetAt Try.prog w0 104 [ints l, .ptr r 0 0] (B (!ptsB l adj.length)) H := by
  refine .of ?_
  refine w_enter Try.func104 rfl Try.ntmps104 (ts := [3]) rfl (by simp) (by kernel_rfl) ?_
  repeat' (first
    | (with_reducible refine awp_skip ?_)
    | (with_reducible refine then_any ?_)
    | (with_reducible refine then_ret ?_)
    | (with_reducible refine then_exit ?_)
    | (with_reducible refine inBlock_normal ?_)
    | (with_reducible refine inBlock_ret ?_)
    | (with_reducible refine inBlock_hit ?_)
    | (with_reducible refine inBlock_miss (by decide) ?_)
    | (with_reducible refine awp_ret ?_)
    | (with_reducible refine awp_exit ?_)
    | (with_reducible refine post_ret ?_)
    | (with_reducible refine post_normal ?_)
    | (with_reducible refine awp_block ?_)
    | (with_reducible refine awp_scope_ret ?_)
    | (with_reducible refine awp_label ?_)
    | (with_reducible refine v_reg [] (fun K hK => ?_))
    | (with_reducible refine v_reg1 [] (fun K hK => ?_))
    | (with_reducible refine v_draw mixed [] [] (by kernel_rfl) (fun K hK => ?_))
    | (with_reducible refine v_draw1 mixed [] [] (by kernel_rfl) (fun K hK => ?_))
    | (with_reducible refine ev_nil (hK _ _ ?_); clear hK K)
    | (with_reducible refine ed_nil (hK _ _ ?_); clear hK K)
    | ((first | with_reducible refine ev_cons (fun K' hK' => ?_) | with_reducible refine ed_cons (fun K' hK' => ?_) | (with_reducible refine ev_id ?_; refine ev_guard rfl (fun K' hK' => ?_)) | (with_reducible refine ed_id ?_; refine ed_guard rfl (fun K' hK' => ?_))); simp [ints, rows, hr]; repeat' (first | (with_reducible refine hK' _ _ ?_; clear hK' K') | (with_reducible refine Ret.use (points_ret hl) ?_; try simp [ints, rows, hr]) | (with_reducible refine And.intro ?_ ?_) | (with_reducible intro hg) | (clear hK' K'; omega)))
    | (with_reducible refine w_cond (fun A B hA hB => ?_); simp [ints, rows, hr]; repeat' (first | (with_reducible refine hA ?_; clear hA hB A B) | (with_reducible refine hB ?_; clear hA hB A B) | (with_reducible refine And.intro ?_ ?_) | (with_reducible intro hc)))
    | (with_reducible refine awp_seq ?_))
  simp
theorem reachMay_ret {adj : List (List Int)} (ha : okLen adj) (hl : ∀ l ∈ adj, okLen l) : Ret Try.prog w0 79 [rows adj] (B (mayG adj)) := by
  intro H
  have hany : (!adj.any fun l => !ptsB l adj.length) = adj.all fun l => ptsB l adj.length := by rw [List.all_eq_not_any_not]
  refine w_enter Try.func79 rfl Try.ntmps79 (ts := [2]) rfl (by simp) (by kernel_rfl) ?_
  repeat' (first
    | (with_reducible refine awp_skip ?_)
    | (with_reducible refine then_any ?_)
    | (with_reducible refine then_ret ?_)
    | (with_reducible refine then_exit ?_)
    | (with_reducible refine inBlock_normal ?_)
    | (with_reducible refine inBlock_ret ?_)
    | (with_reducible refine inBlock_hit ?_)
    | (with_reducible refine inBlock_miss (by decide) ?_)
    | (with_reducible refine awp_ret ?_)
    | (with_reducible refine awp_exit ?_)
    | (with_reducible refine post_ret ?_)
    | (with_reducible refine post_normal ?_)
    | (with_reducible refine awp_block ?_)
    | (with_reducible refine awp_scope_ret ?_)
    | (with_reducible refine awp_label ?_)
    | (with_reducible refine v_reg [1] (fun K hK => ?_))
    | (with_reducible refine v_reg1 [1] (fun K hK => ?_))
    | (with_reducible refine v_draw mixed [1] [] (by kernel_rfl) (fun K hK => ?_))
    | (with_reducible refine v_draw1 mixed [1] [] (by kernel_rfl) (fun K hK => ?_))
    | (with_reducible refine ev_nil (hK _ _ ?_); clear hK K)
    | (with_reducible refine ed_nil (hK _ _ ?_); clear hK K)
    | ((first | with_reducible refine ev_cons (fun K' hK' => ?_) | with_reducible refine ed_cons (fun K' hK' => ?_) | (with_reducible refine ev_id ?_; refine ev_guard rfl (fun K' hK' => ?_)) | (with_reducible refine ed_id ?_; refine ed_guard rfl (fun K' hK' => ?_))); simp [rows]; repeat' (first | (with_reducible refine hK' _ _ ?_; clear hK' K') | ((with_reducible refine RetAt.use (containsRows_at (p := fun l => !ptsB l adj.length) ha (fun l hm => may1_at (hl l hm) (by simp [rows]))) ?_; try simp only [hany]); try simp [rows]) | (with_reducible refine And.intro ?_ ?_) | (with_reducible intro hg) | (clear hK' K'; omega)))
    | (with_reducible refine w_cond (fun A B hA hB => ?_); simp [rows]; repeat' (first | (with_reducible refine hA ?_; clear hA hB A B) | (with_reducible refine hB ?_; clear hA hB A B) | (with_reducible refine And.intro ?_ ?_) | (with_reducible intro hc)))
    | (with_reducible refine awp_seq ?_))
  · have hg' : adj.length ≤ 4096 := by omega
    refine ⟨by simp [mayG, hg', ← hany], ?_⟩
    exact sub_new (by assumption)
  · have hg' : ¬ adj.length ≤ 4096 := by omega
    refine ⟨by simp [mayG, hg'], ?_⟩
    exact sub_new (by assumption)
end Go.Am
namespace Go.Am
open Go Go.Proofs
set_option linter.unusedVariables false
set_option linter.unusedSimpArgs false
variable {w0 : World}
attribute [local irreducible] AWP ACalls
attribute [local congr] acalls_congr
def labI (n : Nat) (f : Int → Int) : List AV := (upto n).map fun x => I (f x)
theorem labI_length (n : Nat) (f : Int → Int) : (labI n f).length = n := by simp [labI]
theorem labI_at {n : Nat} {f : Int → Int} {x : Int} (h0 : 0 ≤ x) (h : x.toNat < (labI n f).length) : (labI n f)[x.toNat] = I (f x) := by
  simp only [labI, List.getElem_map, upto_get]
  rw [show ((x.toNat : Nat) : Int) = x by omega]
theorem labI_congr {n : Nat} {f g : Int → Int} (h : ∀ x : Int, 0 ≤ x → x < n → f x = g x) : labI n f = labI n g := by
  apply List.map_congr_left
  intro x hx
  rw [h x (mem_upto.1 hx).1 (mem_upto.1 hx).2]
theorem labI_set {n : Nat} {f : Int → Int} {w x : Int} (h0 : 0 ≤ w) : (labI n f).set w.toNat (I x) = labI n (fun y => if y = w then x else f y) := by
  refine List.ext_getElem? fun i => ?_
  rw [List.getElem?_set, labI_length]
  simp only [labI, List.getElem?_map]
  by_cases hi : i < n
  · have hu : (upto n)[i]? = some (i : Int) := by rw [List.getElem?_eq_getElem (by simpa using hi), upto_get]
    rw [hu]
    simp only [Option.map_some]
    by_cases e : w.toNat = i
    · rw [if_pos e, if_pos (by omega), if_pos (by omega)]
    · rw [if_neg e, if_neg (by omega)]
  · have hu : (upto n)[i]? = none := List.getElem?_eq_none (by simpa using hi)
    rw [hu]
    by_cases e : w.toNat = i
    · rw [if_pos e, if_neg (by omega)]; rfl
    · rw [if_neg e]; rfl
def bh (H : Heap) (r b n : Nat) (f : Int → Int) (cells : List AV) (top : Nat) : Heap := upd (upd H r (some (.arr 1 3 (labI n f) n))) b (some (.arr 1 3 cells top))
section
variable {H : Heap} {r b n top : Nat} {f : Int → Int} {cells : List AV}
theorem bh_b : bh H r b n f cells top b = some (.arr 1 3 cells top) := by simp [bh]
theorem bh_r (h : r ≠ b) : bh H r b n f cells top r = some (.arr 1 3 (labI n f) n) := by simp [bh, h]
theorem bh_set (h : r ≠ b) {w x : Int} (h0 : 0 ≤ w) : upd (bh H r b n f cells top) r (some (.arr 1 3 ((labI n f).set w.toNat (I x)) n)) = bh H r b n (fun y => if y = w then x else f y) cells top := by
  unfold bh
  rw [upd_comm _ _ _ (fun e => h e.symm), upd_upd, labI_set h0]
theorem bh_app {cells' : List AV} {top' : Nat} : upd (bh H r b n f cells top) b (some (.arr 1 3 cells' top')) = bh H r b n f cells' top' := by simp [bh]
theorem bh_new {b' : Nat} (hb : H b = none) (h : r ≠ b) {cells' : List AV} {top' : Nat} : upd (upd (bh H r b n f cells top) b none) b' (some (.arr 1 3 cells' top')) = bh H r b' n f cells' top' := by
  unfold bh
  rw [upd_upd]
  congr 1
  exact upd_none_self (by rw [upd_ne _ _ _ (fun e => h e.symm)]; exact hb)
theorem bh_none {b' : Nat} (h : bh H r b n f cells top b' = none) : b' ≠ b ∧ b' ≠ r ∧ H b' = none := by
  unfold bh at h
  by_cases e1 : b' = b
  · subst e1; simp [upd_same] at h
  · rw [upd_ne _ _ _ e1] at h
    by_cases e2 : b' = r
    · subst e2; simp [upd_same] at h
    · rw [upd_ne _ _ _ e2] at h; exact ⟨e1, e2, h⟩
end
theorem filter_parts {α : Type} (p : α → Bool) (l : List α) : (l.filter p).length + (l.filter fun x => !p x).length = l.length := by
  induction l with
  | nil => rfl
  | cons x l ih => rw [List.filter_cons, List.filter_cons]; cases p x <;> simp <;> omega
theorem unfound_start {n : Nat} {l : List Int} (hl : Pts n l) : unfound n (fun x => if x ∈ l then 0 else -1) + l.length = n := by
  have h := filter_parts (fun x => decide (x ∈ l)) (upto n)
  have h1 : (upto n).filter (fun x => decide (x ∈ l)) = l := up_ext ((up_upto n).filter _) hl.set.up fun x => by
    rw [List.mem_filter, mem_upto]
    exact ⟨fun h => by simpa using h.2, fun h => ⟨hl.lt x h, by simpa using h⟩⟩
  have h2 : (upto n).filter (fun x => decide ((if x ∈ l then (0 : Int) else -1) = -1)) = (upto n).filter (fun x => !decide (x ∈ l)) := by
    apply List.filter_congr
    intro x _
    by_cases hx : x ∈ l <;> simp [hx]
  rw [h1, upto_length] at h
  unfold unfound
  rw [h2]
  omega
theorem far_new {adj : List (List Int)} {l : List Int} (hg : Gr adj) (hl : Pts adj.length l) : RetNew Try.prog w0 81 [rows adj, ints l] 1 3 (labI adj.length (distL adj l)) adj.length := by
  intro H
  have hlen := hg.len
  have hll := hl.length
  have hrep : ((List.replicate adj.length (-1 : Int)).map I) = labI adj.length (fun x => if x ∈ l.take 0 then 0 else -1) := by
    simp only [labI, List.take_zero, List.not_mem_nil, if_false, List.map_const', List.map_replicate, upto_length]
  refine w_enter Try.func81 rfl Try.ntmps81 (ts := [4]) rfl (by simp) (by kernel_rfl) ?_
  repeat' (first
    | (with_reducible refine awp_skip ?_)
    | (with_reducible refine then_any ?_)
    | (with_reducible refine then_ret ?_)
    | (with_reducible refine then_exit ?_)
    | (with_reducible refine inBlock_normal ?_)
    | (with_reducible refine inBlock_ret ?_)
    | (with_reducible refine inBlock_hit ?_)
    | (with_reducible refine inBlock_miss (by decide) ?_)
    | (with_reducible refine awp_ret ?_)
    | (with_reducible refine awp_exit ?_)
    | (with_reducible refine post_ret ?_)
    | (with_reducible refine post_normal ?_)
    | (with_reducible refine awp_block ?_)
    | (with_reducible refine awp_scope_ret ?_)
    | (with_reducible refine awp_label ?_)
    | (with_reducible refine v_reg [] (fun K hK => ?_))
    | (with_reducible refine v_reg1 [] (fun K hK => ?_))
    | (with_reducible refine v_draw mixed [] [] (by kernel_rfl) (fun K hK => ?_))
    | (with_reducible refine v_draw1 mixed [] [] (by kernel_rfl) (fun K hK => ?_))
    | (with_reducible refine ev_nil (hK _ _ ?_); clear hK K)
    | (with_reducible refine ed_nil (hK _ _ ?_); clear hK K)
    | ((first | with_reducible refine ev_cons (fun K' hK' => ?_) | with_reducible refine ed_cons (fun K' hK' => ?_) | (with_reducible refine ev_id ?_; refine ev_guard rfl (fun K' hK' => ?_)) | (with_reducible refine ed_id ?_; refine ed_guard rfl (fun K' hK' => ?_))); simp [rows, ints]; repeat' (first | (with_reducible refine hK' _ _ ?_; clear hK' K') | ((with_reducible refine RetNew.use (repeat_new (x := -1) (n := adj.length) (by omega)) (fun r hr => ?_); simp only [hrep]); try simp [rows, ints]) | (with_reducible refine And.intro ?_ ?_) | (with_reducible intro hg) | (clear hK' K'; omega)))
    | (with_reducible refine w_cond (fun A B hA hB => ?_); simp [rows, ints]; repeat' (first | (with_reducible refine hA ?_; clear hA hB A B) | (with_reducible refine hB ?_; clear hA hB A B) | (with_reducible refine And.intro ?_ ?_) | (with_reducible intro hc)))
    | (with_reducible refine awp_seq ?_))
  refine awp_loop (fun env h => ∃ i : Nat, i ≤ l.length ∧ env 18 = I i ∧ env 17 = I l.length ∧ env 16 = ints l ∧ env 0 = rows adj ∧ env 1 = ints l ∧ env 5 = .ref r 0 adj.length adj.length ∧ h = upd H r (some (.arr 1 3 (labI adj.length (fun x => if x ∈ l.take i then 0 else -1)) adj.length))) (fun env _ => l.length - natA (env 18)) ?_ ?_
  · exact ⟨0, by omega, by simp, by simp, by simp [ints], by simp [rows], by simp [ints], by simp, by simp⟩
  rintro env h ⟨i, hi, h18, h17, h16, h0, h1, h5, rfl⟩
  have hnat : natA (env 18) = i := by simp [h18]
  rw [hnat]; clear hnat
  by_cases hlt : i < l.length
  · have hx := hl.lt l[i] (List.getElem_mem _)
    have hset := labI_set (n := adj.length) (f := fun x => if x ∈ l.take i then 0 else -1) (x := 0) hx.1
    have hf : (fun y => if y = l[i] then (0 : Int) else if y ∈ l.take i then 0 else -1) = fun x => if x ∈ l.take (i + 1) then 0 else -1 := by
      funext y
      rw [List.take_succ_eq_append_getElem hlt]
      simp only [List.mem_append, List.mem_singleton]
      by_cases h1 : y = l[i] <;> by_cases h2 : y ∈ l.take i <;> simp [h1, h2]
    rw [hf] at hset
    have hx2 : l[i].toNat < adj.length := by omega
    have hlab := labI_length adj.length (fun x => if x ∈ l.take i then 0 else -1)
    generalize labI adj.length (fun x => if x ∈ l.take i then 0 else -1) = cells at *
    repeat' (first
      | (with_reducible refine awp_skip ?_)
      | (with_reducible refine then_any ?_)
      | (with_reducible refine then_ret ?_)
      | (with_reducible refine then_exit ?_)
      | (with_reducible refine inBlock_normal ?_)
      | (with_reducible refine inBlock_ret ?_)
      | (with_reducible refine inBlock_hit ?_)
      | (with_reducible refine inBlock_miss (by decide) ?_)
      | (with_reducible refine awp_ret ?_)
      | (with_reducible refine awp_exit ?_)
      | (with_reducible refine post_ret ?_)
      | (with_reducible refine post_normal ?_)
      | (with_reducible refine awp_block ?_)
      | (with_reducible refine awp_scope_ret ?_)
      | (with_reducible refine awp_label ?_)
      | (with_reducible refine v_reg [] (fun K hK => ?_))
      | (with_reducible refine v_reg1 [] (fun K hK => ?_))
      | (with_reducible refine v_draw mixed [] [] (by kernel_rfl) (fun K hK => ?_))
      | (with_reducible refine v_draw1 mixed [] [] (by kernel_rfl) (fun K hK => ?_))
      | (with_reducible refine ev_nil (hK _ _ ?_); clear hK K)
      | (with_reducible refine ed_nil (hK _ _ ?_); clear hK K)
      | ((first | with_reducible refine ev_cons (fun K' hK' => ?_) | with_reducible refine ed_cons (fun K' hK' => ?_) | (with_reducible refine ev_id ?_; refine ev_guard rfl (fun K' hK' => ?_)) | (with_reducible refine ed_id ?_; refine ed_guard rfl (fun K' hK' => ?_))); simp [h18, h17, h16, h0, h1, h5, ints, rows, hlt, hx.1, hx2, hlab]; repeat' (first | (with_reducible refine hK' _ _ ?_; clear hK' K') | (with_reducible refine And.intro ?_ ?_) | (with_reducible intro hg) | (clear hK' K'; omega)))
      | (with_reducible refine w_cond (fun A B hA hB => ?_); simp [h18, h17, h16, h0, h1, h5, ints, rows, hlt, hx.1, hx2, hlab]; repeat' (first | (with_reducible refine hA ?_; clear hA hB A B) | (with_reducible refine hB ?_; clear hA hB A B) | (with_reducible refine And.intro ?_ ?_) | (with_reducible intro hc)))
      | (with_reducible refine awp_seq ?_))
    exact ⟨⟨i + 1, by omega, by simp, by simp [h17], by simp [h16], by simp [h0], by simp [h1], by simp [h5], by rw [← hset]⟩, by simp; omega⟩
  · have : i = l.length := by omega
    subst this
    rw [List.take_length]
    have hB := BInv.start hl
    have hn0 : l = [] → labI adj.length (fun x => if x ∈ l then 0 else -1) = labI adj.length (distL adj l) := by
      intro e
      subst e
      exact labI_congr fun x h0 h1 => hB.fin hg hl h0 h1
    repeat' (first
      | (with_reducible refine awp_skip ?_)
      | (with_reducible refine then_any ?_)
      | (with_reducible refine then_ret ?_)
      | (with_reducible refine then_exit ?_)
      | (with_reducible refine inBlock_normal ?_)
      | (with_reducible refine inBlock_ret ?_)
      | (with_reducible refine inBlock_hit ?_)
      | (with_reducible refine inBlock_miss (by decide) ?_)
      | (with_reducible refine awp_ret ?_)
      | (with_reducible refine awp_exit ?_)
      | (with_reducible refine post_ret ?_)
      | (with_reducible refine post_normal ?_)
      | (with_reducible refine awp_block ?_)
      | (with_reducible refine awp_scope_ret ?_)
      | (with_reducible refine awp_label ?_)
      | (with_reducible refine v_reg [] (fun K hK => ?_))
      | (with_reducible refine v_reg1 [] (fun K hK => ?_))
      | (with_reducible refine v_draw mixed [] [] (by kernel_rfl) (fun K hK => ?_))
      | (with_reducible refine v_draw1 mixed [] [] (by kernel_rfl) (fun K hK => ?_))
      | (with_reducible refine ev_nil (hK _ _ ?_); clear hK K)
      | (with_reducible refine ed_nil (hK _ _ ?_); clear hK K)
      | ((first | with_reducible refine ev_cons (fun K' hK' => ?_) | with_reducible refine ed_cons (fun K' hK' => ?_) | (with_reducible refine ev_id ?_; refine ev_guard rfl (fun K' hK' => ?_)) | (with_reducible refine ed_id ?_; refine ed_guard rfl (fun K' hK' => ?_))); simp [h18, h17, h16, h0, h1, h5, ints, rows]; repeat' (first | (with_reducible refine hK' _ _ ?_; clear hK' K') | ((with_reducible refine clone_use (l := l) (by omega) (fun hnil => ?_) (fun q hq => ?_)); try simp [h18, h17, h16, h0, h1, h5, ints, rows]) | (with_reducible refine And.intro ?_ ?_) | (with_reducible intro hg) | (clear hK' K'; omega)))
      | (with_reducible refine w_cond (fun A B hA hB => ?_); simp [h18, h17, h16, h0, h1, h5, ints, rows]; repeat' (first | (with_reducible refine hA ?_; clear hA hB A B) | (with_reducible refine hB ?_; clear hA hB A B) | (with_reducible refine And.intro ?_ ?_) | (with_reducible intro hc)))
      | (with_reducible refine awp_seq ?_))
    · -- nothing to begin with
      have hl0 := hn0 hnil
      refine awp_loop (fun env h => env 8 = .sl [] 0 ∧ env 5 = .ref r 0 adj.length adj.length ∧ h = upd H r (some (.arr 1 3 (labI adj.length (distL adj l)) adj.length))) (fun _ _ => 0) ?_ ?_
      · exact ⟨by simp, by simp [h5], by rw [hl0]⟩
      rintro env h ⟨h8, h5, rfl⟩
      repeat' (first
        | (with_reducible refine awp_skip ?_)
        | (with_reducible refine then_any ?_)
        | (with_reducible refine then_ret ?_)
        | (with_reducible refine then_exit ?_)
        | (with_reducible refine inBlock_normal ?_)
        | (with_reducible refine inBlock_ret ?_)
        | (with_reducible refine inBlock_hit ?_)
        | (with_reducible refine inBlock_miss (by decide) ?_)
        | (with_reducible refine awp_ret ?_)
        | (with_reducible refine awp_exit ?_)
        | (with_reducible refine post_ret ?_)
        | (with_reducible refine post_normal ?_)
        | (with_reducible refine awp_block ?_)
        | (with_reducible refine awp_scope_ret ?_)
        | (with_reducible refine awp_label ?_)
        | (with_reducible refine v_reg [] (fun K hK => ?_))
        | (with_reducible refine v_reg1 [] (fun K hK => ?_))
        | (with_reducible refine v_draw mixed [] [] (by kernel_rfl) (fun K hK => ?_))
        | (with_reducible refine v_draw1 mixed [] [] (by kernel_rfl) (fun K hK => ?_))
        | (with_reducible refine ev_nil (hK _ _ ?_); clear hK K)
        | (with_reducible refine ed_nil (hK _ _ ?_); clear hK K)
        | ((first | with_reducible refine ev_cons (fun K' hK' => ?_) | with_reducible refine ed_cons (fun K' hK' => ?_) | (with_reducible refine ev_id ?_; refine ev_guard rfl (fun K' hK' => ?_)) | (with_reducible refine ed_id ?_; refine ed_guard rfl (fun K' hK' => ?_))); simp [h8, h5]; repeat' (first | (with_reducible refine hK' _ _ ?_; clear hK' K') | (with_reducible refine And.intro ?_ ?_) | (with_reducible intro hg) | (clear hK' K'; omega)))
        | (with_reducible refine w_cond (fun A B hA hB => ?_); simp [h8, h5]; repeat' (first | (with_reducible refine hA ?_; clear hA hB A B) | (with_reducible refine hB ?_; clear hA hB A B) | (with_reducible refine And.intro ?_ ?_) | (with_reducible intro hc)))
        | (with_reducible refine awp_seq ?_))
      exact ⟨r, hr, by simp, by simp⟩
    · have hqr : q ≠ r := by rintro rfl; simp at hq
      have hrq : r ≠ q := fun e => hqr e.symm
      have hq0 : H q = none := by rw [upd_ne _ _ _ hqr] at hq; exact hq
      clear hq
      refine awp_loop_g (fun N env h => ∃ (f : Int → Int) (qu : List Int) (b off : Nat) (cells : List AV), BInv adj l f qu ∧ N = unfound adj.length f + qu.length ∧ N ≤ adj.length ∧ (∀ x, f x + N ≤ adj.length) ∧ env 0 = rows adj ∧ env 5 = .ref r 0 adj.length adj.length ∧
          b ≠ r ∧ H b = none ∧ env 8 = .ref b off qu.length (off + qu.length) ∧ cells.length = off + qu.length ∧ cells.drop off = qu.map I ∧ h = bh H r b adj.length f cells (off + qu.length)) ?_ ?_
      · exact ⟨_, _, l, q, 0, l.map I, hB, rfl, by rw [unfound_start hl]; omega, fun x => by have := unfound_start hl; split <;> omega, by simp [h0], by simp [h5], hqr, hq0, by simp, by simp, by simp, by simp [bh]⟩
      clear h18 h17 h16 h0 h1 h5 hB hqr hrq hq0
      rintro N env h ⟨f, qu, b, off, cells, hB, hN, hNn, hfN, h0, h5, hbr, hb0, h8, hcl, hcd, rfl⟩
      have hrb : r ≠ b := fun e => hbr e.symm
      cases qu with
      | nil =>
        have hfin : labI adj.length f = labI adj.length (distL adj l) := labI_congr fun x h0 h1 => hB.fin hg hl h0 h1
        simp only [List.length_nil, Nat.add_zero] at *
        repeat' (first
          | (with_reducible refine awp_skip ?_)
          | (with_reducible refine then_any ?_)
          | (with_reducible refine then_ret ?_)
          | (with_reducible refine then_exit ?_)
          | (with_reducible refine inBlock_normal ?_)
          | (with_reducible refine inBlock_ret ?_)
          | (with_reducible refine inBlock_hit ?_)
          | (with_reducible refine inBlock_miss (by decide) ?_)
          | (with_reducible refine awp_ret ?_)
          | (with_reducible refine awp_exit ?_)
          | (with_reducible refine post_ret ?_)
          | (with_reducible refine post_normal ?_)
          | (with_reducible refine awp_block ?_)
          | (with_reducible refine awp_scope_ret ?_)
          | (with_reducible refine awp_label ?_)
          | (with_reducible refine v_reg [] (fun K hK => ?_))
          | (with_reducible refine v_reg1 [] (fun K hK => ?_))
          | (with_reducible refine v_draw mixed [] [] (by kernel_rfl) (fun K hK => ?_))
          | (with_reducible refine v_draw1 mixed [] [] (by kernel_rfl) (fun K hK => ?_))
          | (with_reducible refine ev_nil (hK _ _ ?_); clear hK K)
          | (with_reducible refine ed_nil (hK _ _ ?_); clear hK K)
          | ((first | with_reducible refine ev_cons (fun K' hK' => ?_) | with_reducible refine ed_cons (fun K' hK' => ?_) | (with_reducible refine ev_id ?_; refine ev_guard rfl (fun K' hK' => ?_)) | (with_reducible refine ed_id ?_; refine ed_guard rfl (fun K' hK' => ?_))); simp [h0, h5, h8, rows]; repeat' (first | (with_reducible refine hK' _ _ ?_; clear hK' K') | (with_reducible refine And.intro ?_ ?_) | (with_reducible intro hg) | (clear hK' K'; omega)))
          | (with_reducible refine w_cond (fun A B hA hB => ?_); simp [h0, h5, h8, rows]; repeat' (first | (with_reducible refine hA ?_; clear hA hB A B) | (with_reducible refine hB ?_; clear hA hB A B) | (with_reducible refine And.intro ?_ ?_) | (with_reducible intro hc)))
          | (with_reducible refine awp_seq ?_))
        refine ⟨r, hr, by simp, ?_⟩
        unfold bh
        rw [hfin]
        exact sub_new (by rw [upd_ne _ _ _ hbr]; exact hb0)
      | cons v qu =>
        have hM := hB.pop
        have hv := hM.vv
        have hvn : v.toNat < adj.length := by omega
        have hout : ∀ h, adj[v.toNat]'h = out adj v := fun h => (out_eq h).symm
        have hop := out_pts hg v
        have hol := hop.length
        have hc0 : cells[off]? = some (I v) := by
          have := congrArg (·[0]?) hcd
          simpa [List.getElem?_drop] using this
        have hlt : off < cells.length := by rw [hcl]; simp
        have hc0' : ∀ h, cells[off]'h = I v := fun h => by rw [List.getElem?_eq_getElem h] at hc0; simpa using hc0
        have hcd1 : cells.drop (off + 1) = qu.map I := by
          have := congrArg (List.drop 1) hcd
          simpa [List.drop_drop] using this
        clear hcd hc0 hB
        simp only [List.length_cons] at *
        repeat' (first
          | (with_reducible refine awp_skip ?_)
          | (with_reducible refine then_any ?_)
          | (with_reducible refine then_ret ?_)
          | (with_reducible refine then_exit ?_)
          | (with_reducible refine inBlock_normal ?_)
          | (with_reducible refine inBlock_ret ?_)
          | (with_reducible refine inBlock_hit ?_)
          | (with_reducible refine inBlock_miss (by decide) ?_)
          | (with_reducible refine awp_ret ?_)
          | (with_reducible refine awp_exit ?_)
          | (with_reducible refine post_ret ?_)
          | (with_reducible refine post_normal ?_)
          | (with_reducible refine awp_block ?_)
          | (with_reducible refine awp_scope_ret ?_)
          | (with_reducible refine awp_label ?_)
          | (with_reducible refine v_reg [] (fun K hK => ?_))
          | (with_reducible refine v_reg1 [] (fun K hK => ?_))
          | (with_reducible refine v_draw mixed [] [] (by kernel_rfl) (fun K hK => ?_))
          | (with_reducible refine v_draw1 mixed [] [] (by kernel_rfl) (fun K hK => ?_))
          | (with_reducible refine ev_nil (hK _ _ ?_); clear hK K)
          | (with_reducible refine ed_nil (hK _ _ ?_); clear hK K)
          | ((first | with_reducible refine ev_cons (fun K' hK' => ?_) | with_reducible refine ed_cons (fun K' hK' => ?_) | (with_reducible refine ev_id ?_; refine ev_guard rfl (fun K' hK' => ?_)) | (with_reducible refine ed_id ?_; refine ed_guard rfl (fun K' hK' => ?_))); simp [h0, h5, h8, rows, ints, bh_b, bh_r hrb, hlt, hc0', hvn, hout, hv.1]; repeat' (first | (with_reducible refine hK' _ _ ?_; clear hK' K') | (with_reducible refine And.intro ?_ ?_) | (with_reducible intro hg) | (clear hK' K'; omega)))
          | (with_reducible refine w_cond (fun A B hA hB => ?_); simp [h0, h5, h8, rows, ints, bh_b, bh_r hrb, hlt, hc0', hvn, hout, hv.1]; repeat' (first | (with_reducible refine hA ?_; clear hA hB A B) | (with_reducible refine hB ?_; clear hA hB A B) | (with_reducible refine And.intro ?_ ?_) | (with_reducible intro hc)))
          | (with_reducible refine awp_seq ?_))
        generalize hws : out adj v = ws at *
        refine awp_loop (fun env h => ∃ (j : Nat) (f' : Int → Int) (q' : List Int) (b' off' : Nat) (cells' : List AV), j ≤ ws.length ∧ BMid adj l v (ws.take j) f' q' ∧ unfound adj.length f' + q'.length = unfound adj.length f + qu.length ∧ f' v = f v ∧ (∀ x, f' x + N ≤ adj.length + 1) ∧
            env 41 = I j ∧ env 40 = I ws.length ∧ env 39 = ints ws ∧ env 9 = I v ∧ env 0 = rows adj ∧ env 5 = .ref r 0 adj.length adj.length ∧
            b' ≠ r ∧ H b' = none ∧ env 8 = .ref b' off' q'.length (off' + q'.length) ∧ cells'.length = off' + q'.length ∧ cells'.drop off' = q'.map I ∧ h = bh H r b' adj.length f' cells' (off' + q'.length)) (fun env _ => ws.length - natA (env 41)) ?_ ?_
        · have e : off + (qu.length + 1) = off + 1 + qu.length := by omega
          exact ⟨0, f, qu, b, off + 1, cells, by omega, by simpa using hM, rfl, rfl, fun x => by have := hfN x; omega, by simp, by simp, by simp [ints], by simp, by simp [h0], by simp [h5], hbr, hb0, by simp [e], by omega, hcd1, by rw [e]⟩
        clear h0 h5 h8 hM hc0' hcl hcd1 hlt hbr hb0 hrb cells off b
        rintro env h ⟨j, f', q', b, off, cells, hj, hM, hsum, hfv, hfb, h41, h40, h39, h9, h0, h5, hbr, hb0, h8, hcl, hcd, rfl⟩
        have hrb : r ≠ b := fun e => hbr e.symm
        have hnat : natA (env 41) = j := by simp [h41]
        rw [hnat]; clear hnat
        by_cases hjl : j < ws.length
        · have hw := hop.lt ws[j] (List.getElem_mem _)
          have hwm : ws[j] ∈ out adj v := by rw [hws]; exact List.getElem_mem _
          have hwn : ws[j].toNat < adj.length := by omega
          have hlab := labI_length adj.length f'
          have hlw : ∀ h : ws[j].toNat < (labI adj.length f').length, (labI adj.length f')[ws[j].toNat]'h = I (f' ws[j]) := fun h => labI_at hw.1 h
          have hlv : ∀ h, (labI adj.length f')[v.toNat]'h = I (f' v) := fun h => labI_at hv.1 h
          have hts : ws.take (j + 1) = ws.take j ++ [ws[j]] := List.take_succ_eq_append_getElem hjl
          by_cases hfw : f' ws[j] = -1
          · have hM2 := hM.new hg hl hwm hfw
            have hun := unfound_new (y := f' v + 1) hw hfw (by have := hM.vis v hv.1 hv.2.1 hM.vv.2.2; omega)
            have hfv2 : 0 ≤ f' v ∧ f' v + N ≤ adj.length := by
              have := hM.vis v hv.1 hv.2.1 hM.vv.2.2
              have := hfN v
              omega
            have hset := bh_set (H := H) (b := b) (n := adj.length) (top := off + q'.length) (f := f') (cells := cells) hrb (x := f' v + 1) hw.1
            have hql : q'.length ≤ 4096 := by omega
            have hvw : v ≠ ws[j] := fun e => by rw [← e] at hfw; have := hM.vv.2.2; exact this hfw
            by_cases hoff : off = 0
            · subst hoff
              simp only [Nat.zero_add, List.drop_zero] at *
              repeat' (first
                | (with_reducible refine awp_skip ?_)
                | (with_reducible refine then_any ?_)
                | (with_reducible refine then_ret ?_)
                | (with_reducible refine then_exit ?_)
                | (with_reducible refine inBlock_normal ?_)
                | (with_reducible refine inBlock_ret ?_)
                | (with_reducible refine inBlock_hit ?_)
                | (with_reducible refine inBlock_miss (by decide) ?_)
                | (with_reducible refine awp_ret ?_)
                | (with_reducible refine awp_exit ?_)
                | (with_reducible refine post_ret ?_)
                | (with_reducible refine post_normal ?_)
                | (with_reducible refine awp_block ?_)
                | (with_reducible refine awp_scope_ret ?_)
                | (with_reducible refine awp_label ?_)
                | (with_reducible refine v_reg [] (fun K hK => ?_))
                | (with_reducible refine v_reg1 [] (fun K hK => ?_))
                | (with_reducible refine v_draw mixed [] [] (by kernel_rfl) (fun K hK => ?_))
                | (with_reducible refine v_draw1 mixed [] [] (by kernel_rfl) (fun K hK => ?_))
                | (with_reducible refine ev_nil (hK _ _ ?_); clear hK K)
                | (with_reducible refine ed_nil (hK _ _ ?_); clear hK K)
                | ((first | with_reducible refine ev_cons (fun K' hK' => ?_) | with_reducible refine ed_cons (fun K' hK' => ?_) | (with_reducible refine ev_id ?_; refine ev_guard rfl (fun K' hK' => ?_)) | (with_reducible refine ed_id ?_; refine ed_guard rfl (fun K' hK' => ?_))); simp [h41, h40, h39, h9, h0, h5, h8, ints, rows, hjl, bh_b, bh_r hrb, hwn, hvn, hlab, hlw, hlv, hfw, hw.1, hv.1, hset, bh_app]; repeat' (first | (with_reducible refine hK' _ _ ?_; clear hK' K') | (with_reducible refine And.intro ?_ ?_) | (with_reducible intro hg) | (clear hK' K'; omega)))
                | (with_reducible refine w_cond (fun A B hA hB => ?_); simp [h41, h40, h39, h9, h0, h5, h8, ints, rows, hjl, bh_b, bh_r hrb, hwn, hvn, hlab, hlw, hlv, hfw, hw.1, hv.1, hset, bh_app]; repeat' (first | (with_reducible refine hA ?_; clear hA hB A B) | (with_reducible refine hB ?_; clear hA hB A B) | (with_reducible refine And.intro ?_ ?_) | (with_reducible intro hc)))
                | (with_reducible refine awp_seq ?_))
              exact ⟨⟨j + 1, _, q' ++ [ws[j]], b, 0, cells ++ [I ws[j]], by omega, by rw [hts]; exact hM2, by simp only [List.length_append, List.length_singleton]; omega, by rw [if_neg hvw]; exact hfv,
                fun x => by have := hfb x; split <;> omega, by simp, by simp [h40], by simp [h39], by simp [h9], by simp [h0], by simp [h5], hbr, hb0, by simp, by simp [hcl], by simp [hcd], by simp⟩, by simp; omega⟩
            · repeat' (first
                | (with_reducible refine awp_skip ?_)
                | (with_reducible refine then_any ?_)
                | (with_reducible refine then_ret ?_)
                | (with_reducible refine then_exit ?_)
                | (with_reducible refine inBlock_normal ?_)
                | (with_reducible refine inBlock_ret ?_)
                | (with_reducible refine inBlock_hit ?_)
                | (with_reducible refine inBlock_miss (by decide) ?_)
                | (with_reducible refine awp_ret ?_)
                | (with_reducible refine awp_exit ?_)
                | (with_reducible refine post_ret ?_)
                | (with_reducible refine post_normal ?_)
                | (with_reducible refine awp_block ?_)
                | (with_reducible refine awp_scope_ret ?_)
                | (with_reducible refine awp_label ?_)
                | (with_reducible refine v_reg [] (fun K hK => ?_))
                | (with_reducible refine v_reg1 [] (fun K hK => ?_))
                | (with_reducible refine v_draw mixed [] [] (by kernel_rfl) (fun K hK => ?_))
                | (with_reducible refine v_draw1 mixed [] [] (by kernel_rfl) (fun K hK => ?_))
                | (with_reducible refine ev_nil (hK _ _ ?_); clear hK K)
                | (with_reducible refine ed_nil (hK _ _ ?_); clear hK K)
                | ((first | with_reducible refine ev_cons (fun K' hK' => ?_) | with_reducible refine ed_cons (fun K' hK' => ?_) | (with_reducible refine ev_id ?_; refine ev_guard rfl (fun K' hK' => ?_)) | (with_reducible refine ed_id ?_; refine ed_guard rfl (fun K' hK' => ?_))); simp [h41, h40, h39, h9, h0, h5, h8, ints, rows, hjl, bh_b, bh_r hrb, hwn, hvn, hlab, hlw, hlv, hfw, hw.1, hv.1, hset, hoff]; repeat' (first | (with_reducible refine hK' _ _ ?_; clear hK' K') | (with_reducible refine And.intro ?_ ?_) | (with_reducible intro hg) | (clear hK' K'; omega)))
                | (with_reducible refine w_cond (fun A B hA hB => ?_); simp [h41, h40, h39, h9, h0, h5, h8, ints, rows, hjl, bh_b, bh_r hrb, hwn, hvn, hlab, hlw, hlv, hfw, hw.1, hv.1, hset, hoff]; repeat' (first | (with_reducible refine hA ?_; clear hA hB A B) | (with_reducible refine hB ?_; clear hA hB A B) | (with_reducible refine And.intro ?_ ?_) | (with_reducible intro hc)))
                | (with_reducible refine awp_seq ?_))
              rename_i r2
              obtain ⟨n1, n2, n3⟩ := bh_none hg
              exact ⟨⟨j + 1, _, q' ++ [ws[j]], r2, 0, q'.map I ++ [I ws[j]], by omega, by rw [hts]; exact hM2, by simp only [List.length_append, List.length_singleton]; omega, by rw [if_neg hvw]; exact hfv,
                fun x => by have := hfb x; split <;> omega, by simp, by simp [h40], by simp [h39], by simp [h9], by simp [h0], by simp [h5], n2, n3, by simp, by simp, by simp, by simp [bh_new hb0 hrb, hcd]⟩, by simp; omega⟩
          · repeat' (first
              | (with_reducible refine awp_skip ?_)
              | (with_reducible refine then_any ?_)
              | (with_reducible refine then_ret ?_)
              | (with_reducible refine then_exit ?_)
              | (with_reducible refine inBlock_normal ?_)
              | (with_reducible refine inBlock_ret ?_)
              | (with_reducible refine inBlock_hit ?_)
              | (with_reducible refine inBlock_miss (by decide) ?_)
              | (with_reducible refine awp_ret ?_)
              | (with_reducible refine awp_exit ?_)
              | (with_reducible refine post_ret ?_)
              | (with_reducible refine post_normal ?_)
              | (with_reducible refine awp_block ?_)
              | (with_reducible refine awp_scope_ret ?_)
              | (with_reducible refine awp_label ?_)
              | (with_reducible refine v_reg [] (fun K hK => ?_))
              | (with_reducible refine v_reg1 [] (fun K hK => ?_))
              | (with_reducible refine v_draw mixed [] [] (by kernel_rfl) (fun K hK => ?_))
              | (with_reducible refine v_draw1 mixed [] [] (by kernel_rfl) (fun K hK => ?_))
              | (with_reducible refine ev_nil (hK _ _ ?_); clear hK K)
              | (with_reducible refine ed_nil (hK _ _ ?_); clear hK K)
              | ((first | with_reducible refine ev_cons (fun K' hK' => ?_) | with_reducible refine ed_cons (fun K' hK' => ?_) | (with_reducible refine ev_id ?_; refine ev_guard rfl (fun K' hK' => ?_)) | (with_reducible refine ed_id ?_; refine ed_guard rfl (fun K' hK' => ?_))); simp [h41, h40, h39, h9, h0, h5, h8, ints, rows, hjl, bh_b, bh_r hrb, hwn, hlab, hlw, hfw, hw.1]; repeat' (first | (with_reducible refine hK' _ _ ?_; clear hK' K') | (with_reducible refine And.intro ?_ ?_) | (with_reducible intro hg) | (clear hK' K'; omega)))
              | (with_reducible refine w_cond (fun A B hA hB => ?_); simp [h41, h40, h39, h9, h0, h5, h8, ints, rows, hjl, bh_b, bh_r hrb, hwn, hlab, hlw, hfw, hw.1]; repeat' (first | (with_reducible refine hA ?_; clear hA hB A B) | (with_reducible refine hB ?_; clear hA hB A B) | (with_reducible refine And.intro ?_ ?_) | (with_reducible intro hc)))
              | (with_reducible refine awp_seq ?_))
            exact ⟨⟨j + 1, f', q', b, off, cells, by omega, by rw [hts]; exact hM.old hw hfw, hsum, hfv, hfb, by simp, by simp [h40], by simp [h39], by simp [h9], by simp [h0], by simp [h5], hbr, hb0, by simp [h8], hcl, hcd, rfl⟩, by simp; omega⟩
        · have : j = ws.length := by omega
          subst this
          rw [List.take_length] at hM
          repeat' (first
            | (with_reducible refine awp_skip ?_)
            | (with_reducible refine then_any ?_)
            | (with_reducible refine then_ret ?_)
            | (with_reducible refine then_exit ?_)
            | (with_reducible refine inBlock_normal ?_)
            | (with_reducible refine inBlock_ret ?_)
            | (with_reducible refine inBlock_hit ?_)
            | (with_reducible refine inBlock_miss (by decide) ?_)
            | (with_reducible refine awp_ret ?_)
            | (with_reducible refine awp_exit ?_)
            | (with_reducible refine post_ret ?_)
            | (with_reducible refine post_normal ?_)
            | (with_reducible refine awp_block ?_)
            | (with_reducible refine awp_scope_ret ?_)
            | (with_reducible refine awp_label ?_)
            | (with_reducible refine v_reg [] (fun K hK => ?_))
            | (with_reducible refine v_reg1 [] (fun K hK => ?_))
            | (with_reducible refine v_draw mixed [] [] (by kernel_rfl) (fun K hK => ?_))
            | (with_reducible refine v_draw1 mixed [] [] (by kernel_rfl) (fun K hK => ?_))
            | (with_reducible refine ev_nil (hK _ _ ?_); clear hK K)
            | (with_reducible refine ed_nil (hK _ _ ?_); clear hK K)
            | ((first | with_reducible refine ev_cons (fun K' hK' => ?_) | with_reducible refine ed_cons (fun K' hK' => ?_) | (with_reducible refine ev_id ?_; refine ev_guard rfl (fun K' hK' => ?_)) | (with_reducible refine ed_id ?_; refine ed_guard rfl (fun K' hK' => ?_))); simp [h41, h40, h39]; repeat' (first | (with_reducible refine hK' _ _ ?_; clear hK' K') | (with_reducible refine And.intro ?_ ?_) | (with_reducible intro hg) | (clear hK' K'; omega)))
            | (with_reducible refine w_cond (fun A B hA hB => ?_); simp [h41, h40, h39]; repeat' (first | (with_reducible refine hA ?_; clear hA hB A B) | (with_reducible refine hB ?_; clear hA hB A B) | (with_reducible refine And.intro ?_ ?_) | (with_reducible intro hc)))
            | (with_reducible refine awp_seq ?_))
          exact ⟨unfound adj.length f' + q'.length, by omega, f', q', b, off, cells, (by rw [← hws] at hM; exact hM.end), rfl, by omega, fun x => by have := hfb x; omega, by simp [h0], by simp [h5], hbr, hb0, by simp [h8], hcl, hcd, rfl⟩
end Go.Am
namespace Go.Am
set_option linter.unusedVariables false
section
variable {a b c : List Int} (ha : IsSet a) (hb : IsSet b) (hc : IsSet c)
include ha hb
theorem IsSet.union : IsSet (unionL a b) := (unionL_spec ha hb).1
theorem IsSet.minus : IsSet (minusL a b) := (minusL_spec ha hb).1
theorem mem_unionL {x : Int} : x ∈ unionL a b ↔ x ∈ a ∨ x ∈ b := (unionL_spec ha hb).2 x
theorem mem_minusL {x : Int} : x ∈ minusL a b ↔ x ∈ a ∧ x ∉ b := (minusL_spec ha hb).2 x
include hc
omit hc
theorem len_union' : (unionL a b).length = (minusL a b).length + b.length := by
  have h : (unionL a b).Perm (minusL a b ++ b) := by
    rw [List.perm_ext_iff_of_nodup (ha.union hb).nodup]
    · intro x
      rw [mem_unionL ha hb, List.mem_append, mem_minusL ha hb]
      by_cases h : x ∈ b <;> simp [h]
    · rw [List.nodup_append]
      refine ⟨(ha.minus hb).nodup, hb.nodup, fun x hx y hy e => ?_⟩
      subst e
      exact ((mem_minusL ha hb).1 hx).2 hy
  rw [h.length_eq, List.length_append]
end
theorem union_R (a b : List Int) : unionL a b = unionR a b := by
  cases ha : risesB (-1) a with
  | false => simp [unionL, unionR, ha]
  | true =>
    cases hb : risesB (-1) b with
    | false => simp [unionL, unionR, ha, hb]
    | true => exact unionL_eq (rises_iff.1 ha) (rises_iff.1 hb)
end Go.Am
namespace Go.Am
set_option linter.unusedVariables false
def nbM (adj : List (List Int)) (i : Int) : List Int := adj.getD i.toNat []
structure GrM (m : Nat) (adj : List (List Int)) : Prop where
  nle : adj.length ≤ 64
  mle : m ≤ 64
  set : ∀ l ∈ adj, IsSet l
  lt : ∀ l ∈ adj, ∀ x ∈ l, 0 ≤ x ∧ x < m
theorem GrM.nb {m : Nat} {adj : List (List Int)} (h : GrM m adj) {i x : Int} (hx : x ∈ nbM adj i) : 0 ≤ x ∧ x < m := by
  unfold nbM at hx
  rw [List.getD_eq_getElem?_getD] at hx
  cases hl : adj[i.toNat]? with
  | none => rw [hl] at hx; simp at hx
  | some l =>
    rw [hl] at hx
    exact h.lt l (List.mem_of_getElem? hl) x hx
structure Good (m : Nat) (adj : List (List Int)) (f g : Int → Int) : Prop where
  l : ∀ i : Int, 0 ≤ i → i < adj.length → f i = -1 ∨ (f i ∈ nbM adj i ∧ g (f i) = i)
  r : ∀ k : Int, 0 ≤ k → k < m → g k = -1 ∨ (0 ≤ g k ∧ g k < adj.length ∧ f (g k) = k)
def Closed (adj : List (List Int)) (g : Int → Int) (Z : Int → Prop) : Prop := ∀ k, Z k → g k ≠ -1 ∧ ∀ y ∈ nbM adj (g k), Z y
structure RF (adj : List (List Int)) (g : Int → Int) (s s' : Int → Bool) : Prop where
  le : ∀ k, s k = true → s' k = true
  new : ∀ k, s' k = true → s k = false → g k ≠ -1 ∧ ∀ y ∈ nbM adj (g k), s' y = true
theorem RF.refl (adj : List (List Int)) (g : Int → Int) (s : Int → Bool) : RF adj g s s := ⟨fun _ h => h, fun k h h' => by rw [h] at h'; cases h'⟩
def setF {α : Type} (f : Int → α) (x : Int) (v : α) : Int → α := fun y => if y = x then v else f y
theorem setF_same {α : Type} (f : Int → α) (x : Int) (v : α) : setF f x v x = v := by simp [setF]
theorem setF_ne {α : Type} (f : Int → α) {x y : Int} (v : α) (h : y ≠ x) : setF f x v y = f y := by simp [setF, h]
theorem RF.step {adj : List (List Int)} {g : Int → Int} {s s1 s2 : Int → Bool} {k : Int} (h : RF adj g s s1) (hk : s1 k = false) (hg : g k ≠ -1) (h2 : RF adj g (setF s1 k true) s2) (hn : ∀ y ∈ nbM adj (g k), s2 y = true) : RF adj g s s2 := by
  have hle : ∀ j, s1 j = true → s2 j = true := fun j hj => h2.le j (by by_cases e : j = k; (· subst e; exact setF_same _ _ _); (· rw [setF_ne _ _ e]; exact hj))
  refine ⟨fun j hj => hle j (h.le j hj), fun j hj hj0 => ?_⟩
  by_cases e : j = k
  · subst e; exact ⟨hg, hn⟩
  · by_cases h1 : s1 j = true
    · obtain ⟨a, b⟩ := h.new j h1 hj0
      exact ⟨a, fun y hy => hle y (b y hy)⟩
    · exact h2.new j hj (by rw [setF_ne _ _ e]; simpa using h1)
structure RT (m : Nat) (adj : List (List Int)) (i : Int) (f g : Int → Int) (s : Int → Bool) (f' g' : Int → Int) (s' : Int → Bool) : Prop where
  le : ∀ k, s k = true → s' k = true
  keep : ∀ k, s k = true → g' k = g k
  good : Good m adj f' (fun k => if f i ≠ -1 ∧ k = f i then -1 else g' k)
  has : f' i ≠ -1
  same : ∀ j : Int, 0 ≤ j → j < adj.length → j ≠ i → (f' j = -1 ↔ f j = -1)
  closed : ∀ Z, Closed adj g Z → (∀ k, Z k → g' k = g k) ∧ ¬ ∀ y ∈ nbM adj i, Z y
end Go.Am
namespace Go.Am
set_option linter.unusedVariables false
structure MInv (m : Nat) (adj : List (List Int)) (i : Nat) (f g : Int → Int) : Prop where
  good : Good m adj f g
  later : ∀ j : Int, (i : Int) ≤ j → j < adj.length → f j = -1
  why : ∃ Z, Closed adj g Z ∧ ∀ j : Int, 0 ≤ j → j < i → f j = -1 → ∀ y ∈ nbM adj j, Z y
theorem MInv.start (m : Nat) (adj : List (List Int)) : MInv m adj 0 (fun _ => -1) (fun _ => -1) :=
  ⟨⟨fun _ _ _ => .inl rfl, fun _ _ _ => .inl rfl⟩, fun _ _ _ => rfl, fun _ => False, fun _ h => h.elim, fun j h0 h1 => by omega⟩
section
variable {m : Nat} {adj : List (List Int)} {i : Nat} {f g : Int → Int} {s' : Int → Bool}
theorem MInv.no (h : MInv m adj i f g) (hi : i < adj.length) (r : RF adj g (fun _ => false) s') (hn : ∀ y ∈ nbM adj i, s' y = true) : MInv m adj (i + 1) f g := by
  obtain ⟨Z, z1, z2⟩ := h.why
  refine ⟨h.good, fun j a b => h.later j (by omega) b, fun k => Z k ∨ s' k = true, fun k hk => ?_, fun j a b c y hy => ?_⟩
  · rcases hk with hk | hk
    · exact ⟨(z1 k hk).1, fun y hy => .inl ((z1 k hk).2 y hy)⟩
    · obtain ⟨p, q⟩ := r.new k hk rfl
      exact ⟨p, fun y hy => .inr (q y hy)⟩
  · by_cases e : j = i
    · subst e; exact .inr (hn y hy)
    · exact .inl (z2 j a (by omega) c y hy)
theorem MInv.yes {f' g' : Int → Int} (h : MInv m adj i f g) (hi : i < adj.length) (r : RT m adj i f g (fun _ => false) f' g' s') : MInv m adj (i + 1) f' g' := by
  obtain ⟨Z, z1, z2⟩ := h.why
  have hfi := h.later i (Int.le_refl _) (by omega)
  have hg := r.good
  have e : (fun k => if f i ≠ -1 ∧ k = f i then -1 else g' k) = g' := by
    funext k
    rw [if_neg (fun h => h.1 hfi)]
  rw [e] at hg
  have hz := (r.closed Z z1).1
  refine ⟨hg, fun j a b => (r.same j (by omega) b (by omega)).2 (h.later j (by omega) b), Z, fun k hk => ?_, fun j a b c y hy => ?_⟩
  · rw [hz k hk]; exact z1 k hk
  · have hji : j ≠ i := fun e => by subst e; exact r.has c
    exact z2 j a (by omega) ((r.same j a (by omega) hji).1 c) y hy
end
def cntM (n : Nat) (f : Int → Int) : Nat := (upto n).countP fun j => decide (f j ≠ -1)
structure Mtc (adj : List (List Int)) (f : Int → Int) : Prop where
  nb : ∀ i : Int, 0 ≤ i → i < adj.length → f i ≠ -1 → f i ∈ nbM adj i
  inj : ∀ i j : Int, 0 ≤ i → i < adj.length → 0 ≤ j → j < adj.length → f i ≠ -1 → f i = f j → i = j
theorem Good.mtc {m : Nat} {adj : List (List Int)} {f g : Int → Int} (h : Good m adj f g) : Mtc adj f := by
  refine ⟨fun i a b c => ?_, fun i j a b a' b' c e => ?_⟩
  · rcases h.l i a b with x | x
    · exact absurd x c
    · exact x.1
  · rcases h.l i a b with x | x
    · exact absurd x c
    rcases h.l j a' b' with y | y
    · rw [e] at c; exact absurd y c
    rw [← x.2, e, y.2]
structure Cv (m : Nat) (adj : List (List Int)) (l r : List Int) : Prop where
  lset : IsSet l
  rset : IsSet r
  llt : ∀ x ∈ l, x < adj.length
  rlt : ∀ x ∈ r, x < m
  cover : ∀ i : Int, 0 ≤ i → i < adj.length → i ∉ l → ∀ y ∈ nbM adj i, y ∈ r
theorem nodup_le : ∀ (A B : List Int), A.Nodup → (∀ x ∈ A, x ∈ B) → A.length ≤ B.length := by
  intro A
  induction A with
  | nil => intro B _ _; simp
  | cons x A ih =>
    intro B hn hs
    have hx : x ∈ B := hs x (by simp)
    have h1 := ih (B.erase x) (List.nodup_cons.1 hn).2 fun y hy => by
      have hne : y ≠ x := fun e => by subst e; exact (List.nodup_cons.1 hn).1 hy
      exact (List.mem_erase_of_ne hne).2 (hs y (by simp [hy]))
    rw [List.length_erase_of_mem hx] at h1
    have := List.length_pos_of_mem hx
    simp only [List.length_cons]
    omega
theorem nodup_upto (n : Nat) : (upto n).Nodup := (up_upto n).imp fun h e => by omega
theorem nodup_mapF {A : List Int} {f : Int → Int} (h : A.Nodup) (hi : ∀ x ∈ A, ∀ y ∈ A, f x = f y → x = y) : (A.map f).Nodup := by
  induction A with
  | nil => simp
  | cons x A ih =>
    rw [List.map_cons, List.nodup_cons]
    refine ⟨fun hm => ?_, ih (List.nodup_cons.1 h).2 fun a ha b hb => hi a (by simp [ha]) b (by simp [hb])⟩
    obtain ⟨y, hy, e⟩ := List.mem_map.1 hm
    have := hi y (by simp [hy]) x (by simp) e
    subst this
    exact (List.nodup_cons.1 h).1 hy
theorem cnt_split (p q : Int → Bool) (l : List Int) : l.countP p = (l.filter fun x => p x && q x).length + (l.filter fun x => p x && !q x).length := by
  induction l with
  | nil => rfl
  | cons x l ih =>
    rw [List.countP_cons, List.filter_cons, List.filter_cons, ih]
    cases p x <;> cases q x <;> simp <;> omega
theorem Mtc.le {m : Nat} {adj : List (List Int)} {f : Int → Int} {l r : List Int} (h : Mtc adj f) (c : Cv m adj l r) : cntM adj.length f ≤ l.length + r.length := by
  unfold cntM
  rw [cnt_split _ (fun x => decide (x ∈ l))]
  refine Nat.add_le_add ?_ ?_
  · refine nodup_le _ _ ((nodup_upto _).filter _) fun x hx => ?_
    have := (List.mem_filter.1 hx).2
    simp at this; exact this.2
  · have hm : ∀ x ∈ (upto adj.length).filter (fun x => decide (f x ≠ -1) && !decide (x ∈ l)), 0 ≤ x ∧ x < adj.length ∧ f x ≠ -1 ∧ x ∉ l := by
      intro x hx
      have h1 := mem_upto.1 (List.mem_filter.1 hx).1
      have h2 := (List.mem_filter.1 hx).2
      simp at h2
      exact ⟨h1.1, h1.2, h2.1, h2.2⟩
    rw [← List.length_map (f := f)]
    refine nodup_le _ _ (nodup_mapF ((nodup_upto _).filter _) fun x hx y hy e => ?_) fun x hx => ?_
    · obtain ⟨a, b, c1, _⟩ := hm x hx
      obtain ⟨a', b', _, _⟩ := hm y hy
      exact h.inj x y a b a' b' c1 e
    · obtain ⟨y, hy, rfl⟩ := List.mem_map.1 hx
      obtain ⟨a, b, c1, c2⟩ := hm y hy
      exact c.cover y a b c2 _ (h.nb y a b c1)
structure Rch (m : Nat) (adj : List (List Int)) (f g : Int → Int) (rd s : Int → Bool) : Prop where
  none : ∀ j : Int, 0 ≤ j → j < adj.length → f j = -1 → rd j = true ∧ ∀ y ∈ nbM adj j, s y = true
  only : ∀ j : Int, 0 ≤ j → j < adj.length → rd j = true → f j = -1 ∨ ∃ k : Int, 0 ≤ k ∧ k < m ∧ s k = true ∧ g k = j
  seen : ∀ k : Int, 0 ≤ k → k < m → s k = true → g k ≠ -1 ∧ rd (g k) = true ∧ ∀ y ∈ nbM adj (g k), s y = true
theorem Rch.cover {m : Nat} {adj : List (List Int)} {f g : Int → Int} {rd s : Int → Bool} (hG : GrM m adj) (hf : Good m adj f g) (h : Rch m adj f g rd s) :
    Cv m adj ((upto adj.length).filter fun i => !rd i) ((upto m).filter s) ∧ ((upto adj.length).filter fun i => !rd i).length + ((upto m).filter s).length = cntM adj.length f := by
  have hnl := hG.nle
  have hml := hG.mle
  refine ⟨⟨(isSet_upto (by omega)).filter _, (isSet_upto (by omega)).filter _, fun x hx => (mem_upto.1 (List.mem_filter.1 hx).1).2, fun x hx => (mem_upto.1 (List.mem_filter.1 hx).1).2, fun i a b c y hy => ?_⟩, ?_⟩
  · have hr : rd i = true := by
      cases e : rd i with
      | true => rfl
      | false => exact absurd (List.mem_filter.2 ⟨mem_upto.2 ⟨a, b⟩, by simp [e]⟩) c
    have hy2 := hG.nb hy
    refine List.mem_filter.2 ⟨mem_upto.2 hy2, ?_⟩
    rcases h.only i a b hr with h1 | ⟨k, k0, km, hs, rfl⟩
    · exact (h.none i a b h1).2 y hy
    · exact (h.seen k k0 km hs).2.2 y hy
  · rw [cntM, cnt_split _ rd]
    have e1 : ((upto adj.length).filter fun x => decide (f x ≠ -1) && !rd x) = (upto adj.length).filter fun i => !rd i := by
      refine List.filter_congr fun x hx => ?_
      obtain ⟨a, b⟩ := mem_upto.1 hx
      cases e : rd x with
      | true => simp
      | false =>
        have : f x ≠ -1 := fun h1 => by rw [(h.none x a b h1).1] at e; cases e
        simp [this]
    rw [e1, Nat.add_comm]
    congr 1
    have hs : ∀ k ∈ (upto m).filter s, 0 ≤ k ∧ k < m ∧ s k = true := fun k hk => ⟨(mem_upto.1 (List.mem_filter.1 hk).1).1, (mem_upto.1 (List.mem_filter.1 hk).1).2, (List.mem_filter.1 hk).2⟩
    have hg : ∀ k ∈ (upto m).filter s, 0 ≤ g k ∧ g k < adj.length ∧ f (g k) = k := by
      intro k hk
      obtain ⟨a, b, c⟩ := hs k hk
      rcases hf.r k a b with h1 | h1
      · exact absurd h1 (h.seen k a b c).1
      · exact h1
    refine Nat.le_antisymm ?_ ?_
    · rw [← List.length_map (f := g)]
      refine nodup_le _ _ (nodup_mapF ((nodup_upto _).filter _) fun x hx y hy e => ?_) fun x hx => ?_
      · rw [← (hg x hx).2.2, e, (hg y hy).2.2]
      · obtain ⟨k, hk, rfl⟩ := List.mem_map.1 hx
        obtain ⟨a, b, c⟩ := hs k hk
        obtain ⟨a', b', c'⟩ := hg k hk
        refine List.mem_filter.2 ⟨mem_upto.2 ⟨a', b'⟩, ?_⟩
        rw [(h.seen k a b c).2.1, c']
        simp; omega
    · have hm : ∀ x ∈ (upto adj.length).filter (fun x => decide (f x ≠ -1) && rd x), 0 ≤ x ∧ x < adj.length ∧ f x ≠ -1 ∧ rd x = true := by
        intro x hx
        have h1 := mem_upto.1 (List.mem_filter.1 hx).1
        have h2 := (List.mem_filter.1 hx).2
        simp at h2
        exact ⟨h1.1, h1.2, h2.1, h2.2⟩
      have hlm : (((upto adj.length).filter fun x => decide (f x ≠ -1) && rd x).map f).length = ((upto adj.length).filter fun x => decide (f x ≠ -1) && rd x).length := List.length_map f
      rw [← hlm]
      refine nodup_le _ _ (nodup_mapF ((nodup_upto _).filter _) fun x hx y hy e => ?_) fun x hx => ?_
      · obtain ⟨a, b, c, _⟩ := hm x hx
        obtain ⟨a', b', _, _⟩ := hm y hy
        exact hf.mtc.inj x y a b a' b' c e
      · obtain ⟨y, hy, rfl⟩ := List.mem_map.1 hx
        obtain ⟨a, b, c, d⟩ := hm y hy
        rcases h.only y a b d with h1 | ⟨k, k0, km, hk, rfl⟩
        · exact absurd h1 c
        · have := hg k (List.mem_filter.2 ⟨mem_upto.2 ⟨k0, km⟩, hk⟩)
          rw [this.2.2]
          exact List.mem_filter.2 ⟨mem_upto.2 ⟨k0, km⟩, hk⟩
end Go.Am
namespace Go.Am
set_option linter.unusedVariables false
structure WQ (m : Nat) (adj : List (List Int)) (g : Int → Int) (i : Int) (q : Nat) (s rd s' rd' : Int → Bool) : Prop where
  le : ∀ k, s k = true → s' k = true
  rle : ∀ j, rd j = true → rd' j = true
  me : rd' i = true
  nb : ∀ y ∈ (nbM adj i).take q, s' y = true
  only : ∀ j, rd' j = true → rd j = true ∨ j = i ∨ ∃ k, s' k = true ∧ s k = false ∧ g k = j
  new : ∀ k, s' k = true → s k = false → 0 ≤ k ∧ k < m ∧ g k ≠ -1 ∧ rd' (g k) = true ∧ ∀ y ∈ nbM adj (g k), s' y = true
section
variable {m : Nat} {adj : List (List Int)} {g : Int → Int} {i : Int} {q : Nat} {s rd s1 rd1 s2 rd2 : Int → Bool}
theorem WQ.start : WQ m adj g i 0 s rd s (setF rd i true) := by
  refine ⟨fun _ h => h, fun j h => ?_, setF_same _ _ _, by simp, fun j h => ?_, fun k h h' => by rw [h] at h'; cases h'⟩
  · by_cases e : j = i
    · subst e; exact setF_same _ _ _
    · rw [setF_ne _ _ e]; exact h
  · by_cases e : j = i
    · exact .inr (.inl e)
    · rw [setF_ne _ _ e] at h; exact .inl h
theorem take_new {l : List Int} {k : Int} (hq : q < l.length) (hk : k = l[q]) {s : Int → Bool} (h : ∀ y ∈ l.take q, s y = true) (hs : s k = true) : ∀ y ∈ l.take (q + 1), s y = true := by
  intro y hy
  rw [List.take_succ_eq_append_getElem hq, List.mem_append, List.mem_singleton] at hy
  rcases hy with hy | rfl
  · exact h y hy
  · rw [← hk]; exact hs
theorem WQ.seen (h : WQ m adj g i q s rd s1 rd1) (hq : q < (nbM adj i).length) {k : Int} (hk : k = (nbM adj i)[q]) (hs : s1 k = true) : WQ m adj g i (q + 1) s rd s1 rd1 :=
  ⟨h.le, h.rle, h.me, take_new hq hk h.nb hs, h.only, h.new⟩
structure CI (m : Nat) (adj : List (List Int)) (f g : Int → Int) (q : Nat) (rd s : Int → Bool) : Prop where
  none : ∀ j : Int, 0 ≤ j → j < q → f j = -1 → rd j = true ∧ ∀ y ∈ nbM adj j, s y = true
  only : ∀ j : Int, rd j = true → (f j = -1 ∧ ∀ y ∈ nbM adj j, s y = true) ∨ ∃ k : Int, 0 ≤ k ∧ k < m ∧ s k = true ∧ g k = j
  seen : ∀ k : Int, s k = true → 0 ≤ k ∧ k < m ∧ g k ≠ -1 ∧ rd (g k) = true ∧ ∀ y ∈ nbM adj (g k), s y = true
theorem CI.start {f : Int → Int} : CI m adj f g 0 (fun _ => false) (fun _ => false) := ⟨fun j a b => by omega, fun j h => (Bool.false_ne_true h).elim, fun k h => (Bool.false_ne_true h).elim⟩
end
end Go.Am
namespace Go.Am
set_option linter.unusedVariables false
end Go.Am
namespace Go.Am
open Go Go.Proofs
set_option linter.unusedVariables false
set_option linter.unusedSimpArgs false
variable {w0 : World}
attribute [local irreducible] AWP ACalls
attribute [local congr] acalls_congr
def labB (n : Nat) (s : Int → Bool) : List AV := (upto n).map fun x => B (s x)
theorem labI_setF {n : Nat} {f : Int → Int} {w x : Int} (h0 : 0 ≤ w) : (labI n f).set w.toNat (I x) = labI n (setF f w x) := labI_set h0
def ms (H : Heap) (F L R S : Nat) (adj : List (List Int)) (m : Nat) (f g : Int → Int) (s : Int → Bool) : Heap :=
  upd (upd (upd (upd H L (some (.arr 1 3 (labI adj.length f) adj.length))) R (some (.arr 1 3 (labI m g) m))) F (some (.box [rows adj, .ref L 0 adj.length adj.length, .ref R 0 m m, .ref S 0 m m]))) S (some (.arr 1 4 (labB m s) m))
structure Ds (F L R S : Nat) : Prop where
  lr : L ≠ R
  lf : L ≠ F
  ls : L ≠ S
  rf : R ≠ F
  rs : R ≠ S
  fs : F ≠ S
end Go.Am
namespace Go.Am
open Go Go.Proofs
set_option linter.unusedVariables false
set_option linter.unusedSimpArgs false
variable {w0 : World}
attribute [local irreducible] AWP ACalls
attribute [local congr] acalls_congr
def mf (H : Heap) (F L R : Nat) (adj : List (List Int)) (m : Nat) (f g : Int → Int) (z : AV) : Heap :=
  upd (upd (upd H L (some (.arr 1 3 (labI adj.length f) adj.length))) R (some (.arr 1 3 (labI m g) m))) F (some (.box [rows adj, .ref L 0 adj.length adj.length, .ref R 0 m m, z]))
structure Dt (H : Heap) (F L R : Nat) : Prop where
  lr : L ≠ R
  lf : L ≠ F
  rf : R ≠ F
  hF : H F = none
  hL : H L = none
  hR : H R = none
section
variable {H : Heap} {F L R S m : Nat} {adj : List (List Int)} {f g : Int → Int} {s : Int → Bool} {z : AV} (d : Dt H F L R)
include d
theorem mf_none (h : mf H F L R adj m f g z S = none) : S ≠ F ∧ S ≠ L ∧ S ≠ R ∧ H S = none := by
  unfold mf at h
  by_cases e1 : S = F
  · subst e1; simp [upd_same] at h
  rw [upd_ne _ _ _ e1] at h
  by_cases e2 : S = R
  · subst e2; simp [upd_same] at h
  rw [upd_ne _ _ _ e2] at h
  by_cases e3 : S = L
  · subst e3; simp [upd_same] at h
  rw [upd_ne _ _ _ e3] at h
  exact ⟨e1, e3, e2, h⟩
theorem Dt.ds (h : mf H F L R adj m f g z S = none) : Ds F L R S := by
  obtain ⟨a, b, c, e⟩ := mf_none d h
  exact ⟨d.lr, d.lf, Ne.symm b, d.rf, Ne.symm c, Ne.symm a⟩
end
end Go.Am
namespace Go.Am
open Go Go.Proofs
set_option linter.unusedVariables false
set_option linter.unusedSimpArgs false
variable {w0 : World}
attribute [local irreducible] AWP ACalls
attribute [local congr] acalls_congr
theorem wrapU {y : Int} (h0 : 0 ≤ y) (h1 : y < 9223372036854775808) : IntKind.u64.wrap y = y := by
  simp [IntKind.wrap, IntKind.bits, IntKind.signed, IntKind.min, IntKind.max]; omega
theorem bsearch_use {l : List Int} {x : Int} (hl : l.length ≤ 1099511627776) {H : Heap} {K : AV → Heap → Prop} (k : ∀ (i : Int) (b : Bool), (l.Pairwise (· < ·) → b = decide (x ∈ l)) → K (.tup [I i, B b]) H) :
    ACalls Try.prog w0 85 [ints l, I x] H K := by
  refine (?_ : ACalls Try.prog w0 85 [ints l, I x] H (fun v H' => H' = H ∧ ∃ (i : Int) (b : Bool), (l.Pairwise (· < ·) → b = decide (x ∈ l)) ∧ v = .tup [I i, B b])).drop ?_
  · refine w_enter Try.func85 rfl Try.ntmps85 (ts := [4, 5]) rfl (by simp) (by kernel_rfl) ?_
    repeat' (first
      | (with_reducible refine awp_skip ?_)
      | (with_reducible refine then_any ?_)
      | (with_reducible refine then_ret ?_)
      | (with_reducible refine then_exit ?_)
      | (with_reducible refine inBlock_normal ?_)
      | (with_reducible refine inBlock_ret ?_)
      | (with_reducible refine inBlock_hit ?_)
      | (with_reducible refine inBlock_miss (by decide) ?_)
      | (with_reducible refine awp_ret ?_)
      | (with_reducible refine awp_exit ?_)
      | (with_reducible refine post_ret ?_)
      | (with_reducible refine post_normal ?_)
      | (with_reducible refine awp_block ?_)
      | (with_reducible refine awp_scope_ret ?_)
      | (with_reducible refine awp_label ?_)
      | (with_reducible refine v_reg [] (fun K hK => ?_))
      | (with_reducible refine v_reg1 [] (fun K hK => ?_))
      | (with_reducible refine v_draw mixed [] [] (by kernel_rfl) (fun K hK => ?_))
      | (with_reducible refine v_draw1 mixed [] [] (by kernel_rfl) (fun K hK => ?_))
      | (with_reducible refine ev_nil (hK _ _ ?_); clear hK K)
      | (with_reducible refine ed_nil (hK _ _ ?_); clear hK K)
      | ((first | with_reducible refine ev_cons (fun K' hK' => ?_) | with_reducible refine ed_cons (fun K' hK' => ?_) | (with_reducible refine ev_id ?_; refine ev_guard rfl (fun K' hK' => ?_)) | (with_reducible refine ed_id ?_; refine ed_guard rfl (fun K' hK' => ?_))); simp [ints]; repeat' (first | (with_reducible refine hK' _ _ ?_; clear hK' K') | (with_reducible refine And.intro ?_ ?_) | (with_reducible intro hg) | (clear hK' K'; omega)))
      | (with_reducible refine w_cond (fun A B hA hB => ?_); simp [ints]; repeat' (first | (with_reducible refine hA ?_; clear hA hB A B) | (with_reducible refine hB ?_; clear hA hB A B) | (with_reducible refine And.intro ?_ ?_) | (with_reducible intro hc)))
      | (with_reducible refine awp_seq ?_))
    refine awp_loop (fun env h => ∃ i j : Nat, i ≤ j ∧ j ≤ l.length ∧ env 7 = I i ∧ env 8 = I j ∧ env 6 = I l.length ∧ env 0 = ints l ∧ env 1 = I x ∧ h = H ∧
        (l.Pairwise (· < ·) → (∀ (q : Nat) (h : q < l.length), q < i → l[q] < x) ∧ ∀ (q : Nat) (h : q < l.length), j ≤ q → x ≤ l[q])) (fun env _ => natA (env 8) - natA (env 7)) ?_ ?_
    · exact ⟨0, l.length, by omega, by omega, by simp, by simp, by simp, by simp [ints], by simp, rfl, fun _ => ⟨fun q h hq => by omega, fun q h hq => by omega⟩⟩
    rintro env h ⟨i, j, hij, hj, h7, h8, h6, h0, h1, rfl, hs⟩
    have hnat : natA (env 8) - natA (env 7) = j - i := by simp [h7, h8]
    rw [hnat]; clear hnat
    by_cases hlt : i < j
    · have hw := wrapU (y := (i : Int) + j) (by omega) (by omega)
      have hf : ((i : Int) + j).fdiv 2 = ((i + j) / 2 : Nat) := by rw [Int.fdiv_eq_ediv_of_nonneg _ (by omega)]; omega
      have hm : (i + j) / 2 < l.length := by omega
      have hmj : (i + j) / 2 < j := by omega
      have hmi : i ≤ (i + j) / 2 := by omega
      generalize (i + j) / 2 = m at *
      by_cases hlm : l[m] < x
      · have hlr := less_ret (w0 := w0) (x := l[m]) (y := x)
        rw [decide_eq_true hlm] at hlr
        repeat' (first
          | (with_reducible refine awp_skip ?_)
          | (with_reducible refine then_any ?_)
          | (with_reducible refine then_ret ?_)
          | (with_reducible refine then_exit ?_)
          | (with_reducible refine inBlock_normal ?_)
          | (with_reducible refine inBlock_ret ?_)
          | (with_reducible refine inBlock_hit ?_)
          | (with_reducible refine inBlock_miss (by decide) ?_)
          | (with_reducible refine awp_ret ?_)
          | (with_reducible refine awp_exit ?_)
          | (with_reducible refine post_ret ?_)
          | (with_reducible refine post_normal ?_)
          | (with_reducible refine awp_block ?_)
          | (with_reducible refine awp_scope_ret ?_)
          | (with_reducible refine awp_label ?_)
          | (with_reducible refine v_reg [] (fun K hK => ?_))
          | (with_reducible refine v_reg1 [] (fun K hK => ?_))
          | (with_reducible refine v_draw mixed [] [] (by kernel_rfl) (fun K hK => ?_))
          | (with_reducible refine v_draw1 mixed [] [] (by kernel_rfl) (fun K hK => ?_))
          | (with_reducible refine ev_nil (hK _ _ ?_); clear hK K)
          | (with_reducible refine ed_nil (hK _ _ ?_); clear hK K)
          | ((first | with_reducible refine ev_cons (fun K' hK' => ?_) | with_reducible refine ed_cons (fun K' hK' => ?_) | (with_reducible refine ev_id ?_; refine ev_guard rfl (fun K' hK' => ?_)) | (with_reducible refine ed_id ?_; refine ed_guard rfl (fun K' hK' => ?_))); simp [h7, h8, h6, h0, h1, ints, hlt, hw, hf, hm, IntKind.bits]; repeat' (first | (with_reducible refine hK' _ _ ?_; clear hK' K') | (with_reducible refine Ret.use hlr ?_; try simp [h7, h8, h6, h0, h1, ints, hlt, hw, hf, hm, IntKind.bits]) | (with_reducible refine And.intro ?_ ?_) | (with_reducible intro hg) | (clear hK' K'; omega)))
          | (with_reducible refine w_cond (fun A B hA hB => ?_); simp [h7, h8, h6, h0, h1, ints, hlt, hw, hf, hm, IntKind.bits]; repeat' (first | (with_reducible refine hA ?_; clear hA hB A B) | (with_reducible refine hB ?_; clear hA hB A B) | (with_reducible refine And.intro ?_ ?_) | (with_reducible intro hc)))
          | (with_reducible refine awp_seq ?_))
        all_goals try omega
        refine ⟨⟨m + 1, j, by omega, hj, by simp, by simp [h8], by simp [h6], by simp [h0], by simp [h1], rfl, fun hp => ⟨fun q h hq => ?_, (hs hp).2⟩⟩, by simp [h8]; omega⟩
        by_cases e : q = m
        · subst e; exact hlm
        · have := List.pairwise_iff_getElem.1 hp q m h hm (by omega); omega
      · have hlr := less_ret (w0 := w0) (x := l[m]) (y := x)
        rw [decide_eq_false hlm] at hlr
        repeat' (first
          | (with_reducible refine awp_skip ?_)
          | (with_reducible refine then_any ?_)
          | (with_reducible refine then_ret ?_)
          | (with_reducible refine then_exit ?_)
          | (with_reducible refine inBlock_normal ?_)
          | (with_reducible refine inBlock_ret ?_)
          | (with_reducible refine inBlock_hit ?_)
          | (with_reducible refine inBlock_miss (by decide) ?_)
          | (with_reducible refine awp_ret ?_)
          | (with_reducible refine awp_exit ?_)
          | (with_reducible refine post_ret ?_)
          | (with_reducible refine post_normal ?_)
          | (with_reducible refine awp_block ?_)
          | (with_reducible refine awp_scope_ret ?_)
          | (with_reducible refine awp_label ?_)
          | (with_reducible refine v_reg [] (fun K hK => ?_))
          | (with_reducible refine v_reg1 [] (fun K hK => ?_))
          | (with_reducible refine v_draw mixed [] [] (by kernel_rfl) (fun K hK => ?_))
          | (with_reducible refine v_draw1 mixed [] [] (by kernel_rfl) (fun K hK => ?_))
          | (with_reducible refine ev_nil (hK _ _ ?_); clear hK K)
          | (with_reducible refine ed_nil (hK _ _ ?_); clear hK K)
          | ((first | with_reducible refine ev_cons (fun K' hK' => ?_) | with_reducible refine ed_cons (fun K' hK' => ?_) | (with_reducible refine ev_id ?_; refine ev_guard rfl (fun K' hK' => ?_)) | (with_reducible refine ed_id ?_; refine ed_guard rfl (fun K' hK' => ?_))); simp [h7, h8, h6, h0, h1, ints, hlt, hw, hf, hm, IntKind.bits]; repeat' (first | (with_reducible refine hK' _ _ ?_; clear hK' K') | (with_reducible refine Ret.use hlr ?_; try simp [h7, h8, h6, h0, h1, ints, hlt, hw, hf, hm, IntKind.bits]) | (with_reducible refine And.intro ?_ ?_) | (with_reducible intro hg) | (clear hK' K'; omega)))
          | (with_reducible refine w_cond (fun A B hA hB => ?_); simp [h7, h8, h6, h0, h1, ints, hlt, hw, hf, hm, IntKind.bits]; repeat' (first | (with_reducible refine hA ?_; clear hA hB A B) | (with_reducible refine hB ?_; clear hA hB A B) | (with_reducible refine And.intro ?_ ?_) | (with_reducible intro hc)))
          | (with_reducible refine awp_seq ?_))
        all_goals try omega
        refine ⟨⟨i, m, by omega, by omega, by simp [h7], by simp, by simp [h6], by simp [h0], by simp [h1], rfl, fun hp => ⟨(hs hp).1, fun q h hq => ?_⟩⟩, by simp [h7]; omega⟩
        by_cases e : q = m
        · subst e; omega
        · have := List.pairwise_iff_getElem.1 hp m q hm h (by omega); omega
    · have : i = j := by omega
      subst this
      by_cases hil : i < l.length
      · by_cases hx : l[i] = x
        · repeat' (first
            | (with_reducible refine awp_skip ?_)
            | (with_reducible refine then_any ?_)
            | (with_reducible refine then_ret ?_)
            | (with_reducible refine then_exit ?_)
            | (with_reducible refine inBlock_normal ?_)
            | (with_reducible refine inBlock_ret ?_)
            | (with_reducible refine inBlock_hit ?_)
            | (with_reducible refine inBlock_miss (by decide) ?_)
            | (with_reducible refine awp_ret ?_)
            | (with_reducible refine awp_exit ?_)
            | (with_reducible refine post_ret ?_)
            | (with_reducible refine post_normal ?_)
            | (with_reducible refine awp_block ?_)
            | (with_reducible refine awp_scope_ret ?_)
            | (with_reducible refine awp_label ?_)
            | (with_reducible refine v_reg [] (fun K hK => ?_))
            | (with_reducible refine v_reg1 [] (fun K hK => ?_))
            | (with_reducible refine v_draw mixed [] [] (by kernel_rfl) (fun K hK => ?_))
            | (with_reducible refine v_draw1 mixed [] [] (by kernel_rfl) (fun K hK => ?_))
            | (with_reducible refine ev_nil (hK _ _ ?_); clear hK K)
            | (with_reducible refine ed_nil (hK _ _ ?_); clear hK K)
            | ((first | with_reducible refine ev_cons (fun K' hK' => ?_) | with_reducible refine ed_cons (fun K' hK' => ?_) | (with_reducible refine ev_id ?_; refine ev_guard rfl (fun K' hK' => ?_)) | (with_reducible refine ed_id ?_; refine ed_guard rfl (fun K' hK' => ?_))); simp [h7, h8, h6, h0, h1, ints, hil, hx]; repeat' (first | (with_reducible refine hK' _ _ ?_; clear hK' K') | (with_reducible refine Ret.use isnan_ret ?_; try simp [h7, h8, h6, h0, h1, ints, hil, hx]) | (with_reducible refine And.intro ?_ ?_) | (with_reducible intro hg) | (clear hK' K'; omega)))
            | (with_reducible refine w_cond (fun A B hA hB => ?_); simp [h7, h8, h6, h0, h1, ints, hil, hx]; repeat' (first | (with_reducible refine hA ?_; clear hA hB A B) | (with_reducible refine hB ?_; clear hA hB A B) | (with_reducible refine And.intro ?_ ?_) | (with_reducible intro hc)))
            | (with_reducible refine awp_seq ?_))
          refine ⟨rfl, i, true, fun _ => ?_, by simp⟩
          symm; rw [decide_eq_true_eq, ← hx]; exact List.getElem_mem _
        · repeat' (first
            | (with_reducible refine awp_skip ?_)
            | (with_reducible refine then_any ?_)
            | (with_reducible refine then_ret ?_)
            | (with_reducible refine then_exit ?_)
            | (with_reducible refine inBlock_normal ?_)
            | (with_reducible refine inBlock_ret ?_)
            | (with_reducible refine inBlock_hit ?_)
            | (with_reducible refine inBlock_miss (by decide) ?_)
            | (with_reducible refine awp_ret ?_)
            | (with_reducible refine awp_exit ?_)
            | (with_reducible refine post_ret ?_)
            | (with_reducible refine post_normal ?_)
            | (with_reducible refine awp_block ?_)
            | (with_reducible refine awp_scope_ret ?_)
            | (with_reducible refine awp_label ?_)
            | (with_reducible refine v_reg [] (fun K hK => ?_))
            | (with_reducible refine v_reg1 [] (fun K hK => ?_))
            | (with_reducible refine v_draw mixed [] [] (by kernel_rfl) (fun K hK => ?_))
            | (with_reducible refine v_draw1 mixed [] [] (by kernel_rfl) (fun K hK => ?_))
            | (with_reducible refine ev_nil (hK _ _ ?_); clear hK K)
            | (with_reducible refine ed_nil (hK _ _ ?_); clear hK K)
            | ((first | with_reducible refine ev_cons (fun K' hK' => ?_) | with_reducible refine ed_cons (fun K' hK' => ?_) | (with_reducible refine ev_id ?_; refine ev_guard rfl (fun K' hK' => ?_)) | (with_reducible refine ed_id ?_; refine ed_guard rfl (fun K' hK' => ?_))); simp [h7, h8, h6, h0, h1, ints, hil, hx]; repeat' (first | (with_reducible refine hK' _ _ ?_; clear hK' K') | (with_reducible refine Ret.use isnan_ret ?_; try simp [h7, h8, h6, h0, h1, ints, hil, hx]) | (with_reducible refine And.intro ?_ ?_) | (with_reducible intro hg) | (clear hK' K'; omega)))
            | (with_reducible refine w_cond (fun A B hA hB => ?_); simp [h7, h8, h6, h0, h1, ints, hil, hx]; repeat' (first | (with_reducible refine hA ?_; clear hA hB A B) | (with_reducible refine hB ?_; clear hA hB A B) | (with_reducible refine And.intro ?_ ?_) | (with_reducible intro hc)))
            | (with_reducible refine awp_seq ?_))
          refine ⟨rfl, i, false, fun hp => ?_, by simp⟩
          symm; rw [decide_eq_false_iff_not]
          intro hm
          obtain ⟨q, hq, e⟩ := List.mem_iff_getElem.1 hm
          rcases Nat.lt_or_ge q i with h | h
          · have := (hs hp).1 q hq h; omega
          · by_cases e2 : q = i
            · subst e2; exact hx e
            · have := List.pairwise_iff_getElem.1 hp i q hil hq (by omega)
              have := (hs hp).2 i hil (Nat.le_refl _)
              omega
      · repeat' (first
          | (with_reducible refine awp_skip ?_)
          | (with_reducible refine then_any ?_)
          | (with_reducible refine then_ret ?_)
          | (with_reducible refine then_exit ?_)
          | (with_reducible refine inBlock_normal ?_)
          | (with_reducible refine inBlock_ret ?_)
          | (with_reducible refine inBlock_hit ?_)
          | (with_reducible refine inBlock_miss (by decide) ?_)
          | (with_reducible refine awp_ret ?_)
          | (with_reducible refine awp_exit ?_)
          | (with_reducible refine post_ret ?_)
          | (with_reducible refine post_normal ?_)
          | (with_reducible refine awp_block ?_)
          | (with_reducible refine awp_scope_ret ?_)
          | (with_reducible refine awp_label ?_)
          | (with_reducible refine v_reg [] (fun K hK => ?_))
          | (with_reducible refine v_reg1 [] (fun K hK => ?_))
          | (with_reducible refine v_draw mixed [] [] (by kernel_rfl) (fun K hK => ?_))
          | (with_reducible refine v_draw1 mixed [] [] (by kernel_rfl) (fun K hK => ?_))
          | (with_reducible refine ev_nil (hK _ _ ?_); clear hK K)
          | (with_reducible refine ed_nil (hK _ _ ?_); clear hK K)
          | ((first | with_reducible refine ev_cons (fun K' hK' => ?_) | with_reducible refine ed_cons (fun K' hK' => ?_) | (with_reducible refine ev_id ?_; refine ev_guard rfl (fun K' hK' => ?_)) | (with_reducible refine ed_id ?_; refine ed_guard rfl (fun K' hK' => ?_))); simp [h7, h8, h6, h0, h1, ints, hil]; repeat' (first | (with_reducible refine hK' _ _ ?_; clear hK' K') | (with_reducible refine Ret.use isnan_ret ?_; try simp [h7, h8, h6, h0, h1, ints, hil]) | (with_reducible refine And.intro ?_ ?_) | (with_reducible intro hg) | (clear hK' K'; omega)))
          | (with_reducible refine w_cond (fun A B hA hB => ?_); simp [h7, h8, h6, h0, h1, ints, hil]; repeat' (first | (with_reducible refine hA ?_; clear hA hB A B) | (with_reducible refine hB ?_; clear hA hB A B) | (with_reducible refine And.intro ?_ ?_) | (with_reducible intro hc)))
          | (with_reducible refine awp_seq ?_))
        refine ⟨rfl, i, false, fun hp => ?_, by simp⟩
        symm; rw [decide_eq_false_iff_not]
        intro hm
        obtain ⟨q, hq, e⟩ := List.mem_iff_getElem.1 hm
        have := (hs hp).1 q hq (by omega); omega
  · rintro v H' ⟨rfl, i, b, hb, rfl⟩
    exact ⟨_, .refl _, k i b hb⟩
theorem has_ret {l : List Int} {x : Int} (hl : l.length ≤ 1099511627776) : Ret Try.prog w0 66 [ints l, I x] (B (risesB (-1) l && decide (x ∈ l))) := by
  intro H
  have hl' : okLen l := by omega
  refine w_enter Try.func66 rfl Try.ntmps66 (ts := [4]) rfl (by simp) (by kernel_rfl) ?_
  cases hr : risesB (-1) l with
  | true =>
    have hp := (rises_iff.1 hr).up
    repeat' (first
      | (with_reducible refine awp_skip ?_)
      | (with_reducible refine then_any ?_)
      | (with_reducible refine then_ret ?_)
      | (with_reducible refine then_exit ?_)
      | (with_reducible refine inBlock_normal ?_)
      | (with_reducible refine inBlock_ret ?_)
      | (with_reducible refine inBlock_hit ?_)
      | (with_reducible refine inBlock_miss (by decide) ?_)
      | (with_reducible refine awp_ret ?_)
      | (with_reducible refine awp_exit ?_)
      | (with_reducible refine post_ret ?_)
      | (with_reducible refine post_normal ?_)
      | (with_reducible refine awp_block ?_)
      | (with_reducible refine awp_scope_ret ?_)
      | (with_reducible refine awp_label ?_)
      | (with_reducible refine v_reg [] (fun K hK => ?_))
      | (with_reducible refine v_reg1 [] (fun K hK => ?_))
      | (with_reducible refine v_draw mixed [] [] (by kernel_rfl) (fun K hK => ?_))
      | (with_reducible refine v_draw1 mixed [] [] (by kernel_rfl) (fun K hK => ?_))
      | (with_reducible refine ev_nil (hK _ _ ?_); clear hK K)
      | (with_reducible refine ed_nil (hK _ _ ?_); clear hK K)
      | ((first | with_reducible refine ev_cons (fun K' hK' => ?_) | with_reducible refine ed_cons (fun K' hK' => ?_) | (with_reducible refine ev_id ?_; refine ev_guard rfl (fun K' hK' => ?_)) | (with_reducible refine ed_id ?_; refine ed_guard rfl (fun K' hK' => ?_))); simp [ints, hr]; repeat' (first | (with_reducible refine hK' _ _ ?_; clear hK' K') | ((with_reducible refine bsearch_use hl (fun i b hb => ?_); rw [hb hp]); try simp [ints, hr]) | (with_reducible refine Ret.use (may_ret hl') ?_; try simp [ints, hr]) | (with_reducible refine And.intro ?_ ?_) | (with_reducible intro hg) | (clear hK' K'; omega)))
      | (with_reducible refine w_cond (fun A B hA hB => ?_); simp [ints, hr]; repeat' (first | (with_reducible refine hA ?_; clear hA hB A B) | (with_reducible refine hB ?_; clear hA hB A B) | (with_reducible refine And.intro ?_ ?_) | (with_reducible intro hc)))
      | (with_reducible refine awp_seq ?_))
    all_goals simp_all
  | false =>
    repeat' (first
      | (with_reducible refine awp_skip ?_)
      | (with_reducible refine then_any ?_)
      | (with_reducible refine then_ret ?_)
      | (with_reducible refine then_exit ?_)
      | (with_reducible refine inBlock_normal ?_)
      | (with_reducible refine inBlock_ret ?_)
      | (with_reducible refine inBlock_hit ?_)
      | (with_reducible refine inBlock_miss (by decide) ?_)
      | (with_reducible refine awp_ret ?_)
      | (with_reducible refine awp_exit ?_)
      | (with_reducible refine post_ret ?_)
      | (with_reducible refine post_normal ?_)
      | (with_reducible refine awp_block ?_)
      | (with_reducible refine awp_scope_ret ?_)
      | (with_reducible refine awp_label ?_)
      | (with_reducible refine v_reg [] (fun K hK => ?_))
      | (with_reducible refine v_reg1 [] (fun K hK => ?_))
      | (with_reducible refine v_draw mixed [] [] (by kernel_rfl) (fun K hK => ?_))
      | (with_reducible refine v_draw1 mixed [] [] (by kernel_rfl) (fun K hK => ?_))
      | (with_reducible refine ev_nil (hK _ _ ?_); clear hK K)
      | (with_reducible refine ed_nil (hK _ _ ?_); clear hK K)
      | ((first | with_reducible refine ev_cons (fun K' hK' => ?_) | with_reducible refine ed_cons (fun K' hK' => ?_) | (with_reducible refine ev_id ?_; refine ev_guard rfl (fun K' hK' => ?_)) | (with_reducible refine ed_id ?_; refine ed_guard rfl (fun K' hK' => ?_))); simp [ints, hr]; repeat' (first | (with_reducible refine hK' _ _ ?_; clear hK' K') | ((with_reducible refine bsearch_use hl (fun i b hb => ?_); clear hb); try simp [ints, hr]) | (with_reducible refine Ret.use (may_ret hl') ?_; try simp [ints, hr]) | (with_reducible refine And.intro ?_ ?_) | (with_reducible intro hg) | (clear hK' K'; omega)))
      | (with_reducible refine w_cond (fun A B hA hB => ?_); simp [ints, hr]; repeat' (first | (with_reducible refine hA ?_; clear hA hB A B) | (with_reducible refine hB ?_; clear hA hB A B) | (with_reducible refine And.intro ?_ ?_) | (with_reducible intro hc)))
      | (with_reducible refine awp_seq ?_))
    all_goals simp_all
end Go.Am
namespace Go.Am
open Go Go.Proofs
set_option linter.unusedVariables false
set_option linter.unusedSimpArgs false
variable {w0 : World}
attribute [local irreducible] AWP ACalls
attribute [local congr] acalls_congr
theorem len64_zero : Ret Try.prog w0 101 [.sc (.int .u64 0)] (I 0) := by
  intro H
  refine w_enter Try.func101 rfl Try.ntmps101 (ts := [2]) rfl (by simp) (by kernel_rfl) ?_
  repeat' (first
    | (with_reducible refine awp_skip ?_)
    | (with_reducible refine then_any ?_)
    | (with_reducible refine then_ret ?_)
    | (with_reducible refine then_exit ?_)
    | (with_reducible refine inBlock_normal ?_)
    | (with_reducible refine inBlock_ret ?_)
    | (with_reducible refine inBlock_hit ?_)
    | (with_reducible refine inBlock_miss (by decide) ?_)
    | (with_reducible refine awp_ret ?_)
    | (with_reducible refine awp_exit ?_)
    | (with_reducible refine post_ret ?_)
    | (with_reducible refine post_normal ?_)
    | (with_reducible refine awp_block ?_)
    | (with_reducible refine awp_scope_ret ?_)
    | (with_reducible refine awp_label ?_)
    | ((fail_if_success (with_reducible refine at_reg 10 ?_)); with_reducible refine v_reg [] (fun K hK => ?_))
    | ((fail_if_success (with_reducible refine (?_ : AWP _ _ _ (Code.region 10 _ _) _ _ _))); with_reducible refine v_reg1 [] (fun K hK => ?_))
    | ((fail_if_success (with_reducible refine at_reg 10 ?_)); with_reducible refine v_draw mixed [] [] (by kernel_rfl) (fun K hK => ?_))
    | ((fail_if_success (with_reducible refine (?_ : AWP _ _ _ (Code.region 10 _ _) _ _ _))); with_reducible refine v_draw1 mixed [] [] (by kernel_rfl) (fun K hK => ?_))
    | (with_reducible refine ev_nil (hK _ _ ?_); clear hK K)
    | (with_reducible refine ed_nil (hK _ _ ?_); clear hK K)
    | ((first | with_reducible refine ev_cons (fun K' hK' => ?_) | with_reducible refine ed_cons (fun K' hK' => ?_) | (with_reducible refine ev_id ?_; refine ev_guard rfl (fun K' hK' => ?_)) | (with_reducible refine ed_id ?_; refine ed_guard rfl (fun K' hK' => ?_))); simp [IntKind.bits]; repeat' (first | (with_reducible refine hK' _ _ ?_; clear hK' K') | (with_reducible refine And.intro ?_ ?_) | (with_reducible intro hg) | (clear hK' K'; omega)))
    | (with_reducible refine w_cond (fun A B hA hB => ?_); simp [IntKind.bits]; repeat' (first | (with_reducible refine hA ?_; clear hA hB A B) | (with_reducible refine hB ?_; clear hA hB A B) | (with_reducible refine And.intro ?_ ?_) | (with_reducible intro hc)))
    | ((fail_if_success (with_reducible refine at_reg 10 ?_)); with_reducible refine awp_seq ?_))
  generalize hs : Value.string _ = v
  obtain ⟨s, rfl, h1, h2⟩ : ∃ s : ByteArray, v = .string s ∧ ∃ h : 0 < s.size, s[0] = 0 := ⟨_, hs.symm, by decide +kernel, by decide +kernel⟩
  clear hs
  have w8 : IntKind.u8.wrap 0 = 0 := by decide
  repeat' (first
    | (with_reducible refine awp_skip ?_)
    | (with_reducible refine then_any ?_)
    | (with_reducible refine then_ret ?_)
    | (with_reducible refine then_exit ?_)
    | (with_reducible refine inBlock_normal ?_)
    | (with_reducible refine inBlock_ret ?_)
    | (with_reducible refine inBlock_hit ?_)
    | (with_reducible refine inBlock_miss (by decide) ?_)
    | (with_reducible refine awp_ret ?_)
    | (with_reducible refine awp_exit ?_)
    | (with_reducible refine post_ret ?_)
    | (with_reducible refine post_normal ?_)
    | (with_reducible refine awp_block ?_)
    | (with_reducible refine awp_scope_ret ?_)
    | (with_reducible refine awp_label ?_)
    | (with_reducible refine v_reg [] (fun K hK => ?_))
    | (with_reducible refine v_reg1 [] (fun K hK => ?_))
    | (with_reducible refine v_draw mixed [] [] (by kernel_rfl) (fun K hK => ?_))
    | (with_reducible refine v_draw1 mixed [] [] (by kernel_rfl) (fun K hK => ?_))
    | (with_reducible refine ev_nil (hK _ _ ?_); clear hK K)
    | (with_reducible refine ed_nil (hK _ _ ?_); clear hK K)
    | ((first | with_reducible refine ev_cons (fun K' hK' => ?_) | with_reducible refine ed_cons (fun K' hK' => ?_) | (with_reducible refine ev_id ?_; refine ev_guard rfl (fun K' hK' => ?_)) | (with_reducible refine ed_id ?_; refine ed_guard rfl (fun K' hK' => ?_))); simp [IntKind.bits, h1, h2, w8]; repeat' (first | (with_reducible refine hK' _ _ ?_; clear hK' K') | (with_reducible refine And.intro ?_ ?_) | (with_reducible intro hg) | (clear hK' K'; omega)))
    | (with_reducible refine w_cond (fun A B hA hB => ?_); simp [IntKind.bits, h1, h2, w8]; repeat' (first | (with_reducible refine hA ?_; clear hA hB A B) | (with_reducible refine hB ?_; clear hA hB A B) | (with_reducible refine And.intro ?_ ?_) | (with_reducible intro hc)))
    | (with_reducible refine awp_seq ?_))
  simp
theorem len_zero : Ret Try.prog w0 73 [.sc (.int .u64 0)] (I 0) := by
  intro H
  refine w_enter Try.func73 rfl Try.ntmps73 (ts := [2]) rfl (by simp) (by kernel_rfl) ?_
  repeat' (first
    | (with_reducible refine awp_skip ?_)
    | (with_reducible refine then_any ?_)
    | (with_reducible refine then_ret ?_)
    | (with_reducible refine then_exit ?_)
    | (with_reducible refine inBlock_normal ?_)
    | (with_reducible refine inBlock_ret ?_)
    | (with_reducible refine inBlock_hit ?_)
    | (with_reducible refine inBlock_miss (by decide) ?_)
    | (with_reducible refine awp_ret ?_)
    | (with_reducible refine awp_exit ?_)
    | (with_reducible refine post_ret ?_)
    | (with_reducible refine post_normal ?_)
    | (with_reducible refine awp_block ?_)
    | (with_reducible refine awp_scope_ret ?_)
    | (with_reducible refine awp_label ?_)
    | (with_reducible refine v_reg [] (fun K hK => ?_))
    | (with_reducible refine v_reg1 [] (fun K hK => ?_))
    | (with_reducible refine v_draw mixed [] [] (by kernel_rfl) (fun K hK => ?_))
    | (with_reducible refine v_draw1 mixed [] [] (by kernel_rfl) (fun K hK => ?_))
    | (with_reducible refine ev_nil (hK _ _ ?_); clear hK K)
    | (with_reducible refine ed_nil (hK _ _ ?_); clear hK K)
    | ((first | with_reducible refine ev_cons (fun K' hK' => ?_) | with_reducible refine ed_cons (fun K' hK' => ?_) | (with_reducible refine ev_id ?_; refine ev_guard rfl (fun K' hK' => ?_)) | (with_reducible refine ed_id ?_; refine ed_guard rfl (fun K' hK' => ?_))); simp; repeat' (first | (with_reducible refine hK' _ _ ?_; clear hK' K') | (with_reducible refine Ret.use len64_zero ?_; try simp) | (with_reducible refine And.intro ?_ ?_) | (with_reducible intro hg) | (clear hK' K'; omega)))
    | (with_reducible refine w_cond (fun A B hA hB => ?_); simp; repeat' (first | (with_reducible refine hA ?_; clear hA hB A B) | (with_reducible refine hB ?_; clear hA hB A B) | (with_reducible refine And.intro ?_ ?_) | (with_reducible intro hc)))
    | (with_reducible refine awp_seq ?_))
  simp
theorem insertion_zero : Ret Try.prog w0 91 [.sl [] 0, I 0, I 0] (.tup []) := by
  intro H
  refine w_enter Try.func91 rfl Try.ntmps91 (ts := []) rfl (by simp) (by kernel_rfl) ?_
  repeat' (first
    | (with_reducible refine awp_skip ?_)
    | (with_reducible refine then_any ?_)
    | (with_reducible refine then_ret ?_)
    | (with_reducible refine then_exit ?_)
    | (with_reducible refine inBlock_normal ?_)
    | (with_reducible refine inBlock_ret ?_)
    | (with_reducible refine inBlock_hit ?_)
    | (with_reducible refine inBlock_miss (by decide) ?_)
    | (with_reducible refine awp_ret ?_)
    | (with_reducible refine awp_exit ?_)
    | (with_reducible refine post_ret ?_)
    | (with_reducible refine post_normal ?_)
    | (with_reducible refine awp_block ?_)
    | (with_reducible refine awp_scope_ret ?_)
    | (with_reducible refine awp_label ?_)
    | (with_reducible refine v_reg [] (fun K hK => ?_))
    | (with_reducible refine v_reg1 [] (fun K hK => ?_))
    | (with_reducible refine v_draw mixed [] [] (by kernel_rfl) (fun K hK => ?_))
    | (with_reducible refine v_draw1 mixed [] [] (by kernel_rfl) (fun K hK => ?_))
    | (with_reducible refine ev_nil (hK _ _ ?_); clear hK K)
    | (with_reducible refine ed_nil (hK _ _ ?_); clear hK K)
    | ((first | with_reducible refine ev_cons (fun K' hK' => ?_) | with_reducible refine ed_cons (fun K' hK' => ?_) | (with_reducible refine ev_id ?_; refine ev_guard rfl (fun K' hK' => ?_)) | (with_reducible refine ed_id ?_; refine ed_guard rfl (fun K' hK' => ?_))); simp; repeat' (first | (with_reducible refine hK' _ _ ?_; clear hK' K') | (with_reducible refine And.intro ?_ ?_) | (with_reducible intro hg) | (clear hK' K'; omega)))
    | (with_reducible refine w_cond (fun A B hA hB => ?_); simp; repeat' (first | (with_reducible refine hA ?_; clear hA hB A B) | (with_reducible refine hB ?_; clear hA hB A B) | (with_reducible refine And.intro ?_ ?_) | (with_reducible intro hc)))
    | (with_reducible refine awp_seq ?_))
  refine awp_loop (fun env h => env 6 = I 1 ∧ env 2 = I 0 ∧ h = H) (fun _ _ => 0) ?_ ?_
  · exact ⟨by simp, by simp, rfl⟩
  rintro env h ⟨h6, h2, rfl⟩
  repeat' (first
    | (with_reducible refine awp_skip ?_)
    | (with_reducible refine then_any ?_)
    | (with_reducible refine then_ret ?_)
    | (with_reducible refine then_exit ?_)
    | (with_reducible refine inBlock_normal ?_)
    | (with_reducible refine inBlock_ret ?_)
    | (with_reducible refine inBlock_hit ?_)
    | (with_reducible refine inBlock_miss (by decide) ?_)
    | (with_reducible refine awp_ret ?_)
    | (with_reducible refine awp_exit ?_)
    | (with_reducible refine post_ret ?_)
    | (with_reducible refine post_normal ?_)
    | (with_reducible refine awp_block ?_)
    | (with_reducible refine awp_scope_ret ?_)
    | (with_reducible refine awp_label ?_)
    | (with_reducible refine v_reg [] (fun K hK => ?_))
    | (with_reducible refine v_reg1 [] (fun K hK => ?_))
    | (with_reducible refine v_draw mixed [] [] (by kernel_rfl) (fun K hK => ?_))
    | (with_reducible refine v_draw1 mixed [] [] (by kernel_rfl) (fun K hK => ?_))
    | (with_reducible refine ev_nil (hK _ _ ?_); clear hK K)
    | (with_reducible refine ed_nil (hK _ _ ?_); clear hK K)
    | ((first | with_reducible refine ev_cons (fun K' hK' => ?_) | with_reducible refine ed_cons (fun K' hK' => ?_) | (with_reducible refine ev_id ?_; refine ev_guard rfl (fun K' hK' => ?_)) | (with_reducible refine ed_id ?_; refine ed_guard rfl (fun K' hK' => ?_))); simp [h6, h2]; repeat' (first | (with_reducible refine hK' _ _ ?_; clear hK' K') | (with_reducible refine And.intro ?_ ?_) | (with_reducible intro hg) | (clear hK' K'; omega)))
    | (with_reducible refine w_cond (fun A B hA hB => ?_); simp [h6, h2]; repeat' (first | (with_reducible refine hA ?_; clear hA hB A B) | (with_reducible refine hB ?_; clear hA hB A B) | (with_reducible refine And.intro ?_ ?_) | (with_reducible intro hc)))
    | (with_reducible refine awp_seq ?_))
  all_goals simp
theorem pdq_zero : Ret Try.prog w0 72 [.sl [] 0, I 0, I 0, I 0] (.tup []) := by
  intro H
  refine w_enter Try.func72 rfl Try.ntmps72 (ts := []) rfl (by simp) (by kernel_rfl) ?_
  repeat' (first
    | (with_reducible refine awp_skip ?_)
    | (with_reducible refine then_any ?_)
    | (with_reducible refine then_ret ?_)
    | (with_reducible refine then_exit ?_)
    | (with_reducible refine inBlock_normal ?_)
    | (with_reducible refine inBlock_ret ?_)
    | (with_reducible refine inBlock_hit ?_)
    | (with_reducible refine inBlock_miss (by decide) ?_)
    | (with_reducible refine awp_ret ?_)
    | (with_reducible refine awp_exit ?_)
    | (with_reducible refine post_ret ?_)
    | (with_reducible refine post_normal ?_)
    | (with_reducible refine awp_block ?_)
    | (with_reducible refine awp_scope_ret ?_)
    | (with_reducible refine awp_label ?_)
    | (with_reducible refine v_reg [] (fun K hK => ?_))
    | (with_reducible refine v_reg1 [] (fun K hK => ?_))
    | (with_reducible refine v_draw mixed [] [] (by kernel_rfl) (fun K hK => ?_))
    | (with_reducible refine v_draw1 mixed [] [] (by kernel_rfl) (fun K hK => ?_))
    | (with_reducible refine ev_nil (hK _ _ ?_); clear hK K)
    | (with_reducible refine ed_nil (hK _ _ ?_); clear hK K)
    | ((first | with_reducible refine ev_cons (fun K' hK' => ?_) | with_reducible refine ed_cons (fun K' hK' => ?_) | (with_reducible refine ev_id ?_; refine ev_guard rfl (fun K' hK' => ?_)) | (with_reducible refine ed_id ?_; refine ed_guard rfl (fun K' hK' => ?_))); simp; repeat' (first | (with_reducible refine hK' _ _ ?_; clear hK' K') | (with_reducible refine And.intro ?_ ?_) | (with_reducible intro hg) | (clear hK' K'; omega)))
    | (with_reducible refine w_cond (fun A B hA hB => ?_); simp; repeat' (first | (with_reducible refine hA ?_; clear hA hB A B) | (with_reducible refine hB ?_; clear hA hB A B) | (with_reducible refine And.intro ?_ ?_) | (with_reducible intro hc)))
    | (with_reducible refine awp_seq ?_))
  refine awp_loop (fun env h => env 0 = .sl [] 0 ∧ env 1 = I 0 ∧ env 2 = I 0 ∧ h = H) (fun _ _ => 0) ?_ ?_
  · exact ⟨by simp, by simp, by simp, rfl⟩
  rintro env h ⟨h0, h1, h2, rfl⟩
  repeat' (first
    | (with_reducible refine awp_skip ?_)
    | (with_reducible refine then_any ?_)
    | (with_reducible refine then_ret ?_)
    | (with_reducible refine then_exit ?_)
    | (with_reducible refine inBlock_normal ?_)
    | (with_reducible refine inBlock_ret ?_)
    | (with_reducible refine inBlock_hit ?_)
    | (with_reducible refine inBlock_miss (by decide) ?_)
    | (with_reducible refine awp_ret ?_)
    | (with_reducible refine awp_exit ?_)
    | (with_reducible refine post_ret ?_)
    | (with_reducible refine post_normal ?_)
    | (with_reducible refine awp_block ?_)
    | (with_reducible refine awp_scope_ret ?_)
    | (with_reducible refine awp_label ?_)
    | (with_reducible refine v_reg [] (fun K hK => ?_))
    | (with_reducible refine v_reg1 [] (fun K hK => ?_))
    | (with_reducible refine v_draw mixed [] [] (by kernel_rfl) (fun K hK => ?_))
    | (with_reducible refine v_draw1 mixed [] [] (by kernel_rfl) (fun K hK => ?_))
    | (with_reducible refine ev_nil (hK _ _ ?_); clear hK K)
    | (with_reducible refine ed_nil (hK _ _ ?_); clear hK K)
    | ((first | with_reducible refine ev_cons (fun K' hK' => ?_) | with_reducible refine ed_cons (fun K' hK' => ?_) | (with_reducible refine ev_id ?_; refine ev_guard rfl (fun K' hK' => ?_)) | (with_reducible refine ed_id ?_; refine ed_guard rfl (fun K' hK' => ?_))); simp [h0, h1, h2]; repeat' (first | (with_reducible refine hK' _ _ ?_; clear hK' K') | (with_reducible refine Ret.use insertion_zero ?_; try simp [h0, h1, h2]) | (with_reducible refine And.intro ?_ ?_) | (with_reducible intro hg) | (clear hK' K'; omega)))
    | (with_reducible refine w_cond (fun A B hA hB => ?_); simp [h0, h1, h2]; repeat' (first | (with_reducible refine hA ?_; clear hA hB A B) | (with_reducible refine hB ?_; clear hA hB A B) | (with_reducible refine And.intro ?_ ?_) | (with_reducible intro hc)))
    | (with_reducible refine awp_seq ?_))
  all_goals simp
theorem sort_zero : Ret Try.prog w0 55 [.sl [] 0] (.tup []) := by
  intro H
  have w0 : IntKind.u64.wrap 0 = 0 := by decide
  refine w_enter Try.func55 rfl Try.ntmps55 (ts := []) rfl (by simp) (by kernel_rfl) ?_
  repeat' (first
    | (with_reducible refine awp_skip ?_)
    | (with_reducible refine then_any ?_)
    | (with_reducible refine then_ret ?_)
    | (with_reducible refine then_exit ?_)
    | (with_reducible refine inBlock_normal ?_)
    | (with_reducible refine inBlock_ret ?_)
    | (with_reducible refine inBlock_hit ?_)
    | (with_reducible refine inBlock_miss (by decide) ?_)
    | (with_reducible refine awp_ret ?_)
    | (with_reducible refine awp_exit ?_)
    | (with_reducible refine post_ret ?_)
    | (with_reducible refine post_normal ?_)
    | (with_reducible refine awp_block ?_)
    | (with_reducible refine awp_scope_ret ?_)
    | (with_reducible refine awp_label ?_)
    | (with_reducible refine v_reg [] (fun K hK => ?_))
    | (with_reducible refine v_reg1 [] (fun K hK => ?_))
    | (with_reducible refine v_draw mixed [] [] (by kernel_rfl) (fun K hK => ?_))
    | (with_reducible refine v_draw1 mixed [] [] (by kernel_rfl) (fun K hK => ?_))
    | (with_reducible refine ev_nil (hK _ _ ?_); clear hK K)
    | (with_reducible refine ed_nil (hK _ _ ?_); clear hK K)
    | ((first | with_reducible refine ev_cons (fun K' hK' => ?_) | with_reducible refine ed_cons (fun K' hK' => ?_) | (with_reducible refine ev_id ?_; refine ev_guard rfl (fun K' hK' => ?_)) | (with_reducible refine ed_id ?_; refine ed_guard rfl (fun K' hK' => ?_))); simp [w0]; repeat' (first | (with_reducible refine hK' _ _ ?_; clear hK' K') | (with_reducible refine Ret.use len_zero ?_; try simp [w0]) | (with_reducible refine Ret.use pdq_zero ?_; try simp [w0]) | (with_reducible refine And.intro ?_ ?_) | (with_reducible intro hg) | (clear hK' K'; omega)))
    | (with_reducible refine w_cond (fun A B hA hB => ?_); simp [w0]; repeat' (first | (with_reducible refine hA ?_; clear hA hB A B) | (with_reducible refine hB ?_; clear hA hB A B) | (with_reducible refine And.intro ?_ ?_) | (with_reducible intro hc)))
    | (with_reducible refine awp_seq ?_))
  all_goals simp
end Go.Am
namespace Go.Am
open Go
set_option linter.unusedVariables false
set_option linter.unusedSimpArgs false
def Wk (adj : List (List Int)) : Nat → Int → Int → Prop
  | 0, u, x => u = x
  | k + 1, u, x => Wk adj k u x ∨ ∃ y, Wk adj k u y ∧ x ∈ out adj y
section
variable {adj : List (List Int)} (hg : Gr adj)
include hg
theorem Wk.lt {k : Nat} {u x : Int} (h : Wk adj k u x) (hu : 0 ≤ u ∧ u < adj.length) : 0 ≤ x ∧ x < adj.length := by
  induction k generalizing x with
  | zero => simp only [Wk] at h; subst h; exact hu
  | succ k ih =>
    rcases h with h | ⟨y, h, hx⟩
    · exact ih h
    · exact (out_pts hg y).lt x hx
end
end Go.Am
