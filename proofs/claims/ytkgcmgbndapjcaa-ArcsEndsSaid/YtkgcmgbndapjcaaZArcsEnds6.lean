/- Contracts and plain laws that the law ArcsEnds needs, part 6. -/
import Derived.Test.YtkgcmgbndapjcaaZArcsEnds5
import Derived.Test.YtkgcmgbndapjcaaProg
import Derived.KernelRfl
namespace Go.Am
open Go Go.Proofs
@[simp] theorem scal3 : scal Try.prog 3 = true := by kernel_rfl
@[simp] theorem sz3 : sz Try.prog 3 = 1 := by kernel_rfl
@[simp] theorem byt3 : byt Try.prog 3 = 8 := by kernel_rfl
@[simp] theorem slE3 : slE Try.prog 3 = none := by kernel_rfl
@[simp] theorem arE3 : arE Try.prog 3 = none := by kernel_rfl
@[simp] theorem intOf3 : intOf? Try.prog 3 = some .i64 := by kernel_rfl
@[simp] theorem und3 : Try.prog.underlying 3 = some (.int .i64) := by kernel_rfl
@[simp] theorem isIface3 : isIface Try.prog 3 = false := by kernel_rfl
@[simp] theorem zer3 : zer Try.prog 3 = some [.int .i64 0] := by kernel_rfl
@[simp] theorem scal4 : scal Try.prog 4 = true := by kernel_rfl
@[simp] theorem sz4 : sz Try.prog 4 = 1 := by kernel_rfl
@[simp] theorem byt4 : byt Try.prog 4 = 1 := by kernel_rfl
@[simp] theorem slE4 : slE Try.prog 4 = none := by kernel_rfl
@[simp] theorem arE4 : arE Try.prog 4 = none := by kernel_rfl
@[simp] theorem und4 : Try.prog.underlying 4 = some .bool := by kernel_rfl
@[simp] theorem isIface4 : isIface Try.prog 4 = false := by kernel_rfl
@[simp] theorem zer4 : zer Try.prog 4 = some [.bool false] := by kernel_rfl
@[simp] theorem scal5 : scal Try.prog 5 = true := by kernel_rfl
@[simp] theorem sz5 : sz Try.prog 5 = 1 := by kernel_rfl
@[simp] theorem byt5 : byt Try.prog 5 = 1 := by kernel_rfl
@[simp] theorem slE5 : slE Try.prog 5 = none := by kernel_rfl
@[simp] theorem arE5 : arE Try.prog 5 = none := by kernel_rfl
@[simp] theorem intOf5 : intOf? Try.prog 5 = some .u8 := by kernel_rfl
@[simp] theorem und5 : Try.prog.underlying 5 = some (.int .u8) := by kernel_rfl
@[simp] theorem isIface5 : isIface Try.prog 5 = false := by kernel_rfl
@[simp] theorem zer5 : zer Try.prog 5 = some [.int .u8 0] := by kernel_rfl
@[simp] theorem scal9 : scal Try.prog 9 = true := by kernel_rfl
@[simp] theorem sz9 : sz Try.prog 9 = 1 := by kernel_rfl
@[simp] theorem byt9 : byt Try.prog 9 = 16 := by kernel_rfl
@[simp] theorem slE9 : slE Try.prog 9 = none := by kernel_rfl
@[simp] theorem arE9 : arE Try.prog 9 = none := by kernel_rfl
@[simp] theorem und9 : Try.prog.underlying 9 = some .string := by kernel_rfl
@[simp] theorem isIface9 : isIface Try.prog 9 = false := by kernel_rfl
@[simp] theorem scal20 : scal Try.prog 20 = true := by kernel_rfl
@[simp] theorem sz20 : sz Try.prog 20 = 1 := by kernel_rfl
@[simp] theorem byt20 : byt Try.prog 20 = 16 := by kernel_rfl
@[simp] theorem slE20 : slE Try.prog 20 = none := by kernel_rfl
@[simp] theorem arE20 : arE Try.prog 20 = none := by kernel_rfl
@[simp] theorem isIface20 : isIface Try.prog 20 = true := by kernel_rfl
@[simp] theorem zer20 : zer Try.prog 20 = some [.nilIface] := by kernel_rfl
@[simp] theorem scal22 : scal Try.prog 22 = true := by kernel_rfl
@[simp] theorem sz22 : sz Try.prog 22 = 1 := by kernel_rfl
@[simp] theorem byt22 : byt Try.prog 22 = 24 := by kernel_rfl
@[simp] theorem slE22 : slE Try.prog 22 = some 44 := by kernel_rfl
@[simp] theorem arE22 : arE Try.prog 22 = none := by kernel_rfl
@[simp] theorem isIface22 : isIface Try.prog 22 = false := by kernel_rfl
@[simp] theorem zer22 : zer Try.prog 22 = some [.slice none 0 0] := by kernel_rfl
@[simp] theorem scal24 : scal Try.prog 24 = false := by kernel_rfl
@[simp] theorem aggr24 : aggr Try.prog 24 = true := by kernel_rfl
@[simp] theorem sz24 : sz Try.prog 24 = 4 := by kernel_rfl
@[simp] theorem byt24 : byt Try.prog 24 = 48 := by kernel_rfl
@[simp] theorem slE24 : slE Try.prog 24 = none := by kernel_rfl
@[simp] theorem arE24 : arE Try.prog 24 = none := by kernel_rfl
@[simp] theorem fld24_0 : fld Try.prog 24 0 = some (0, 3) := by kernel_rfl
@[simp] theorem places24_0 : places Try.prog 24 0 = some (0, 1) := by kernel_rfl
@[simp] theorem fld24_1 : fld Try.prog 24 1 = some (1, 22) := by kernel_rfl
@[simp] theorem places24_1 : places Try.prog 24 1 = some (1, 1) := by kernel_rfl
@[simp] theorem fld24_2 : fld Try.prog 24 2 = some (2, 3) := by kernel_rfl
@[simp] theorem places24_2 : places Try.prog 24 2 = some (2, 1) := by kernel_rfl
@[simp] theorem fld24_3 : fld Try.prog 24 3 = some (3, 3) := by kernel_rfl
@[simp] theorem places24_3 : places Try.prog 24 3 = some (3, 1) := by kernel_rfl
@[simp] theorem isIface24 : isIface Try.prog 24 = false := by kernel_rfl
@[simp] theorem zer24 : zer Try.prog 24 = some [.int .i64 0, .slice none 0 0, .int .i64 0, .int .i64 0] := by kernel_rfl
@[simp] theorem scal26 : scal Try.prog 26 = true := by kernel_rfl
@[simp] theorem sz26 : sz Try.prog 26 = 1 := by kernel_rfl
@[simp] theorem byt26 : byt Try.prog 26 = 24 := by kernel_rfl
@[simp] theorem slE26 : slE Try.prog 26 = some 27 := by kernel_rfl
@[simp] theorem arE26 : arE Try.prog 26 = none := by kernel_rfl
@[simp] theorem isIface26 : isIface Try.prog 26 = false := by kernel_rfl
@[simp] theorem zer26 : zer Try.prog 26 = some [.slice none 0 0] := by kernel_rfl
@[simp] theorem scal27 : scal Try.prog 27 = true := by kernel_rfl
@[simp] theorem sz27 : sz Try.prog 27 = 1 := by kernel_rfl
@[simp] theorem byt27 : byt Try.prog 27 = 24 := by kernel_rfl
@[simp] theorem slE27 : slE Try.prog 27 = some 3 := by kernel_rfl
@[simp] theorem arE27 : arE Try.prog 27 = none := by kernel_rfl
@[simp] theorem isIface27 : isIface Try.prog 27 = false := by kernel_rfl
@[simp] theorem zer27 : zer Try.prog 27 = some [.slice none 0 0] := by kernel_rfl
@[simp] theorem scal28 : scal Try.prog 28 = true := by kernel_rfl
@[simp] theorem sz28 : sz Try.prog 28 = 1 := by kernel_rfl
@[simp] theorem byt28 : byt Try.prog 28 = 8 := by kernel_rfl
@[simp] theorem slE28 : slE Try.prog 28 = none := by kernel_rfl
@[simp] theorem arE28 : arE Try.prog 28 = none := by kernel_rfl
@[simp] theorem intOf28 : intOf? Try.prog 28 = some .i64 := by kernel_rfl
@[simp] theorem und28 : Try.prog.underlying 28 = some (.int .i64) := by kernel_rfl
@[simp] theorem isIface28 : isIface Try.prog 28 = false := by kernel_rfl
@[simp] theorem zer28 : zer Try.prog 28 = some [.int .i64 0] := by kernel_rfl
@[simp] theorem scal29 : scal Try.prog 29 = true := by kernel_rfl
@[simp] theorem sz29 : sz Try.prog 29 = 1 := by kernel_rfl
@[simp] theorem byt29 : byt Try.prog 29 = 0 := by kernel_rfl
@[simp] theorem slE29 : slE Try.prog 29 = none := by kernel_rfl
@[simp] theorem arE29 : arE Try.prog 29 = none := by kernel_rfl
@[simp] theorem isIface29 : isIface Try.prog 29 = false := by kernel_rfl
@[simp] theorem scal31 : scal Try.prog 31 = true := by kernel_rfl
@[simp] theorem sz31 : sz Try.prog 31 = 1 := by kernel_rfl
@[simp] theorem byt31 : byt Try.prog 31 = 0 := by kernel_rfl
@[simp] theorem slE31 : slE Try.prog 31 = none := by kernel_rfl
@[simp] theorem arE31 : arE Try.prog 31 = none := by kernel_rfl
@[simp] theorem isIface31 : isIface Try.prog 31 = false := by kernel_rfl
@[simp] theorem scal44 : scal Try.prog 44 = false := by kernel_rfl
@[simp] theorem aggr44 : aggr Try.prog 44 = true := by kernel_rfl
@[simp] theorem sz44 : sz Try.prog 44 = 2 := by kernel_rfl
@[simp] theorem byt44 : byt Try.prog 44 = 16 := by kernel_rfl
@[simp] theorem slE44 : slE Try.prog 44 = none := by kernel_rfl
@[simp] theorem arE44 : arE Try.prog 44 = some (2, 3) := by kernel_rfl
@[simp] theorem places44_0 : places Try.prog 44 0 = some (0, 1) := by kernel_rfl
@[simp] theorem places44_1 : places Try.prog 44 1 = some (1, 1) := by kernel_rfl
@[simp] theorem isIface44 : isIface Try.prog 44 = false := by kernel_rfl
@[simp] theorem zer44 : zer Try.prog 44 = some [.int .i64 0, .int .i64 0] := by kernel_rfl
@[simp] theorem scal47 : scal Try.prog 47 = false := by kernel_rfl
@[simp] theorem aggr47 : aggr Try.prog 47 = true := by kernel_rfl
@[simp] theorem sz47 : sz Try.prog 47 = 4 := by kernel_rfl
@[simp] theorem byt47 : byt Try.prog 47 = 64 := by kernel_rfl
@[simp] theorem slE47 : slE Try.prog 47 = none := by kernel_rfl
@[simp] theorem arE47 : arE Try.prog 47 = none := by kernel_rfl
@[simp] theorem fld47_0 : fld Try.prog 47 0 = some (0, 3) := by kernel_rfl
@[simp] theorem places47_0 : places Try.prog 47 0 = some (0, 1) := by kernel_rfl
@[simp] theorem fld47_1 : fld Try.prog 47 1 = some (1, 22) := by kernel_rfl
@[simp] theorem places47_1 : places Try.prog 47 1 = some (1, 1) := by kernel_rfl
@[simp] theorem fld47_2 : fld Try.prog 47 2 = some (2, 27) := by kernel_rfl
@[simp] theorem places47_2 : places Try.prog 47 2 = some (2, 1) := by kernel_rfl
@[simp] theorem fld47_3 : fld Try.prog 47 3 = some (3, 3) := by kernel_rfl
@[simp] theorem places47_3 : places Try.prog 47 3 = some (3, 1) := by kernel_rfl
@[simp] theorem isIface47 : isIface Try.prog 47 = false := by kernel_rfl
@[simp] theorem zer47 : zer Try.prog 47 = some [.int .i64 0, .slice none 0 0, .slice none 0 0, .int .i64 0] := by kernel_rfl
@[simp] theorem scal48 : scal Try.prog 48 = true := by kernel_rfl
@[simp] theorem sz48 : sz Try.prog 48 = 1 := by kernel_rfl
@[simp] theorem byt48 : byt Try.prog 48 = 24 := by kernel_rfl
@[simp] theorem slE48 : slE Try.prog 48 = some 52 := by kernel_rfl
@[simp] theorem arE48 : arE Try.prog 48 = none := by kernel_rfl
@[simp] theorem isIface48 : isIface Try.prog 48 = false := by kernel_rfl
@[simp] theorem zer48 : zer Try.prog 48 = some [.slice none 0 0] := by kernel_rfl
@[simp] theorem scal49 : scal Try.prog 49 = true := by kernel_rfl
@[simp] theorem sz49 : sz Try.prog 49 = 1 := by kernel_rfl
@[simp] theorem byt49 : byt Try.prog 49 = 0 := by kernel_rfl
@[simp] theorem slE49 : slE Try.prog 49 = none := by kernel_rfl
@[simp] theorem arE49 : arE Try.prog 49 = none := by kernel_rfl
@[simp] theorem isIface49 : isIface Try.prog 49 = false := by kernel_rfl
@[simp] theorem scal52 : scal Try.prog 52 = false := by kernel_rfl
@[simp] theorem aggr52 : aggr Try.prog 52 = true := by kernel_rfl
@[simp] theorem sz52 : sz Try.prog 52 = 2 := by kernel_rfl
@[simp] theorem byt52 : byt Try.prog 52 = 32 := by kernel_rfl
@[simp] theorem slE52 : slE Try.prog 52 = none := by kernel_rfl
@[simp] theorem arE52 : arE Try.prog 52 = none := by kernel_rfl
@[simp] theorem fld52_0 : fld Try.prog 52 0 = some (0, 27) := by kernel_rfl
@[simp] theorem places52_0 : places Try.prog 52 0 = some (0, 1) := by kernel_rfl
@[simp] theorem fld52_1 : fld Try.prog 52 1 = some (1, 3) := by kernel_rfl
@[simp] theorem places52_1 : places Try.prog 52 1 = some (1, 1) := by kernel_rfl
@[simp] theorem isIface52 : isIface Try.prog 52 = false := by kernel_rfl
@[simp] theorem zer52 : zer Try.prog 52 = some [.slice none 0 0, .int .i64 0] := by kernel_rfl
@[simp] theorem scal60 : scal Try.prog 60 = true := by kernel_rfl
@[simp] theorem sz60 : sz Try.prog 60 = 1 := by kernel_rfl
@[simp] theorem byt60 : byt Try.prog 60 = 24 := by kernel_rfl
@[simp] theorem slE60 : slE Try.prog 60 = some 4 := by kernel_rfl
@[simp] theorem arE60 : arE Try.prog 60 = none := by kernel_rfl
@[simp] theorem isIface60 : isIface Try.prog 60 = false := by kernel_rfl
@[simp] theorem zer60 : zer Try.prog 60 = some [.slice none 0 0] := by kernel_rfl
@[simp] theorem scal63 : scal Try.prog 63 = true := by kernel_rfl
@[simp] theorem sz63 : sz Try.prog 63 = 1 := by kernel_rfl
@[simp] theorem byt63 : byt Try.prog 63 = 0 := by kernel_rfl
@[simp] theorem slE63 : slE Try.prog 63 = none := by kernel_rfl
@[simp] theorem arE63 : arE Try.prog 63 = none := by kernel_rfl
@[simp] theorem isIface63 : isIface Try.prog 63 = false := by kernel_rfl
@[simp] theorem scal65 : scal Try.prog 65 = true := by kernel_rfl
@[simp] theorem sz65 : sz Try.prog 65 = 1 := by kernel_rfl
@[simp] theorem byt65 : byt Try.prog 65 = 0 := by kernel_rfl
@[simp] theorem slE65 : slE Try.prog 65 = none := by kernel_rfl
@[simp] theorem arE65 : arE Try.prog 65 = none := by kernel_rfl
@[simp] theorem isIface65 : isIface Try.prog 65 = false := by kernel_rfl
@[simp] theorem scal67 : scal Try.prog 67 = true := by kernel_rfl
@[simp] theorem sz67 : sz Try.prog 67 = 1 := by kernel_rfl
@[simp] theorem byt67 : byt Try.prog 67 = 8 := by kernel_rfl
@[simp] theorem slE67 : slE Try.prog 67 = none := by kernel_rfl
@[simp] theorem arE67 : arE Try.prog 67 = none := by kernel_rfl
@[simp] theorem isIface67 : isIface Try.prog 67 = false := by kernel_rfl
@[simp] theorem zer67 : zer Try.prog 67 = some [.nilFunc] := by kernel_rfl
@[simp] theorem scal71 : scal Try.prog 71 = true := by kernel_rfl
@[simp] theorem sz71 : sz Try.prog 71 = 1 := by kernel_rfl
@[simp] theorem byt71 : byt Try.prog 71 = 8 := by kernel_rfl
@[simp] theorem slE71 : slE Try.prog 71 = none := by kernel_rfl
@[simp] theorem arE71 : arE Try.prog 71 = none := by kernel_rfl
@[simp] theorem und71 : Try.prog.underlying 71 = some (.pointer 73) := by kernel_rfl
@[simp] theorem isIface71 : isIface Try.prog 71 = false := by kernel_rfl
@[simp] theorem zer71 : zer Try.prog 71 = some [.pointer none] := by kernel_rfl
@[simp] theorem scal73 : scal Try.prog 73 = false := by kernel_rfl
@[simp] theorem aggr73 : aggr Try.prog 73 = true := by kernel_rfl
@[simp] theorem sz73 : sz Try.prog 73 = 6 := by kernel_rfl
@[simp] theorem byt73 : byt Try.prog 73 = 112 := by kernel_rfl
@[simp] theorem slE73 : slE Try.prog 73 = none := by kernel_rfl
@[simp] theorem arE73 : arE Try.prog 73 = none := by kernel_rfl
@[simp] theorem fld73_0 : fld Try.prog 73 0 = some (0, 3) := by kernel_rfl
@[simp] theorem places73_0 : places Try.prog 73 0 = some (0, 1) := by kernel_rfl
@[simp] theorem fld73_1 : fld Try.prog 73 1 = some (1, 22) := by kernel_rfl
@[simp] theorem places73_1 : places Try.prog 73 1 = some (1, 1) := by kernel_rfl
@[simp] theorem fld73_2 : fld Try.prog 73 2 = some (2, 27) := by kernel_rfl
@[simp] theorem places73_2 : places Try.prog 73 2 = some (2, 1) := by kernel_rfl
@[simp] theorem fld73_3 : fld Try.prog 73 3 = some (3, 3) := by kernel_rfl
@[simp] theorem places73_3 : places Try.prog 73 3 = some (3, 1) := by kernel_rfl
@[simp] theorem fld73_4 : fld Try.prog 73 4 = some (4, 27) := by kernel_rfl
@[simp] theorem places73_4 : places Try.prog 73 4 = some (4, 1) := by kernel_rfl
@[simp] theorem fld73_5 : fld Try.prog 73 5 = some (5, 48) := by kernel_rfl
@[simp] theorem places73_5 : places Try.prog 73 5 = some (5, 1) := by kernel_rfl
@[simp] theorem isIface73 : isIface Try.prog 73 = false := by kernel_rfl
@[simp] theorem zer73 : zer Try.prog 73 = some [.int .i64 0, .slice none 0 0, .slice none 0 0, .int .i64 0, .slice none 0 0, .slice none 0 0] := by kernel_rfl
@[simp] theorem scal74 : scal Try.prog 74 = true := by kernel_rfl
@[simp] theorem sz74 : sz Try.prog 74 = 1 := by kernel_rfl
@[simp] theorem byt74 : byt Try.prog 74 = 0 := by kernel_rfl
@[simp] theorem slE74 : slE Try.prog 74 = none := by kernel_rfl
@[simp] theorem arE74 : arE Try.prog 74 = none := by kernel_rfl
@[simp] theorem isIface74 : isIface Try.prog 74 = false := by kernel_rfl
@[simp] theorem scal80 : scal Try.prog 80 = true := by kernel_rfl
@[simp] theorem sz80 : sz Try.prog 80 = 1 := by kernel_rfl
@[simp] theorem byt80 : byt Try.prog 80 = 8 := by kernel_rfl
@[simp] theorem slE80 : slE Try.prog 80 = none := by kernel_rfl
@[simp] theorem arE80 : arE Try.prog 80 = none := by kernel_rfl
@[simp] theorem und80 : Try.prog.underlying 80 = some (.pointer 82) := by kernel_rfl
@[simp] theorem isIface80 : isIface Try.prog 80 = false := by kernel_rfl
@[simp] theorem zer80 : zer Try.prog 80 = some [.pointer none] := by kernel_rfl
@[simp] theorem scal82 : scal Try.prog 82 = false := by kernel_rfl
@[simp] theorem aggr82 : aggr Try.prog 82 = true := by kernel_rfl
@[simp] theorem sz82 : sz Try.prog 82 = 4 := by kernel_rfl
@[simp] theorem byt82 : byt Try.prog 82 = 80 := by kernel_rfl
@[simp] theorem slE82 : slE Try.prog 82 = none := by kernel_rfl
@[simp] theorem arE82 : arE Try.prog 82 = none := by kernel_rfl
@[simp] theorem fld82_0 : fld Try.prog 82 0 = some (0, 3) := by kernel_rfl
@[simp] theorem places82_0 : places Try.prog 82 0 = some (0, 1) := by kernel_rfl
@[simp] theorem fld82_1 : fld Try.prog 82 1 = some (1, 22) := by kernel_rfl
@[simp] theorem places82_1 : places Try.prog 82 1 = some (1, 1) := by kernel_rfl
@[simp] theorem fld82_2 : fld Try.prog 82 2 = some (2, 60) := by kernel_rfl
@[simp] theorem places82_2 : places Try.prog 82 2 = some (2, 1) := by kernel_rfl
@[simp] theorem fld82_3 : fld Try.prog 82 3 = some (3, 60) := by kernel_rfl
@[simp] theorem places82_3 : places Try.prog 82 3 = some (3, 1) := by kernel_rfl
@[simp] theorem isIface82 : isIface Try.prog 82 = false := by kernel_rfl
@[simp] theorem zer82 : zer Try.prog 82 = some [.int .i64 0, .slice none 0 0, .slice none 0 0, .slice none 0 0] := by kernel_rfl
@[simp] theorem scal83 : scal Try.prog 83 = true := by kernel_rfl
@[simp] theorem sz83 : sz Try.prog 83 = 1 := by kernel_rfl
@[simp] theorem byt83 : byt Try.prog 83 = 0 := by kernel_rfl
@[simp] theorem slE83 : slE Try.prog 83 = none := by kernel_rfl
@[simp] theorem arE83 : arE Try.prog 83 = none := by kernel_rfl
@[simp] theorem isIface83 : isIface Try.prog 83 = false := by kernel_rfl
@[simp] theorem scal90 : scal Try.prog 90 = true := by kernel_rfl
@[simp] theorem sz90 : sz Try.prog 90 = 1 := by kernel_rfl
@[simp] theorem byt90 : byt Try.prog 90 = 8 := by kernel_rfl
@[simp] theorem slE90 : slE Try.prog 90 = none := by kernel_rfl
@[simp] theorem arE90 : arE Try.prog 90 = none := by kernel_rfl
@[simp] theorem isIface90 : isIface Try.prog 90 = false := by kernel_rfl
@[simp] theorem zer90 : zer Try.prog 90 = some [.nilFunc] := by kernel_rfl
@[simp] theorem scal91 : scal Try.prog 91 = true := by kernel_rfl
@[simp] theorem sz91 : sz Try.prog 91 = 1 := by kernel_rfl
@[simp] theorem byt91 : byt Try.prog 91 = 8 := by kernel_rfl
@[simp] theorem slE91 : slE Try.prog 91 = none := by kernel_rfl
@[simp] theorem arE91 : arE Try.prog 91 = none := by kernel_rfl
@[simp] theorem und91 : Try.prog.underlying 91 = some (.pointer 109) := by kernel_rfl
@[simp] theorem isIface91 : isIface Try.prog 91 = false := by kernel_rfl
@[simp] theorem zer91 : zer Try.prog 91 = some [.pointer none] := by kernel_rfl
@[simp] theorem scal94 : scal Try.prog 94 = true := by kernel_rfl
@[simp] theorem sz94 : sz Try.prog 94 = 1 := by kernel_rfl
@[simp] theorem byt94 : byt Try.prog 94 = 8 := by kernel_rfl
@[simp] theorem slE94 : slE Try.prog 94 = none := by kernel_rfl
@[simp] theorem arE94 : arE Try.prog 94 = none := by kernel_rfl
@[simp] theorem isIface94 : isIface Try.prog 94 = false := by kernel_rfl
@[simp] theorem zer94 : zer Try.prog 94 = some [.nilFunc] := by kernel_rfl
@[simp] theorem scal95 : scal Try.prog 95 = true := by kernel_rfl
@[simp] theorem sz95 : sz Try.prog 95 = 1 := by kernel_rfl
@[simp] theorem byt95 : byt Try.prog 95 = 0 := by kernel_rfl
@[simp] theorem slE95 : slE Try.prog 95 = none := by kernel_rfl
@[simp] theorem arE95 : arE Try.prog 95 = none := by kernel_rfl
@[simp] theorem isIface95 : isIface Try.prog 95 = false := by kernel_rfl
@[simp] theorem scal99 : scal Try.prog 99 = true := by kernel_rfl
@[simp] theorem sz99 : sz Try.prog 99 = 1 := by kernel_rfl
@[simp] theorem byt99 : byt Try.prog 99 = 8 := by kernel_rfl
@[simp] theorem slE99 : slE Try.prog 99 = none := by kernel_rfl
@[simp] theorem arE99 : arE Try.prog 99 = none := by kernel_rfl
@[simp] theorem intOf99 : intOf? Try.prog 99 = some .u64 := by kernel_rfl
@[simp] theorem und99 : Try.prog.underlying 99 = some (.int .u64) := by kernel_rfl
@[simp] theorem isIface99 : isIface Try.prog 99 = false := by kernel_rfl
@[simp] theorem zer99 : zer Try.prog 99 = some [.int .u64 0] := by kernel_rfl
@[simp] theorem scal104 : scal Try.prog 104 = true := by kernel_rfl
@[simp] theorem sz104 : sz Try.prog 104 = 1 := by kernel_rfl
@[simp] theorem byt104 : byt Try.prog 104 = 0 := by kernel_rfl
@[simp] theorem slE104 : slE Try.prog 104 = none := by kernel_rfl
@[simp] theorem arE104 : arE Try.prog 104 = none := by kernel_rfl
@[simp] theorem isIface104 : isIface Try.prog 104 = false := by kernel_rfl
@[simp] theorem scal107 : scal Try.prog 107 = true := by kernel_rfl
@[simp] theorem sz107 : sz Try.prog 107 = 1 := by kernel_rfl
@[simp] theorem byt107 : byt Try.prog 107 = 24 := by kernel_rfl
@[simp] theorem slE107 : slE Try.prog 107 = some 113 := by kernel_rfl
@[simp] theorem arE107 : arE Try.prog 107 = none := by kernel_rfl
@[simp] theorem isIface107 : isIface Try.prog 107 = false := by kernel_rfl
@[simp] theorem zer107 : zer Try.prog 107 = some [.slice none 0 0] := by kernel_rfl
@[simp] theorem scal109 : scal Try.prog 109 = false := by kernel_rfl
@[simp] theorem aggr109 : aggr Try.prog 109 = true := by kernel_rfl
@[simp] theorem sz109 : sz Try.prog 109 = 1 := by kernel_rfl
@[simp] theorem byt109 : byt Try.prog 109 = 24 := by kernel_rfl
@[simp] theorem slE109 : slE Try.prog 109 = none := by kernel_rfl
@[simp] theorem arE109 : arE Try.prog 109 = none := by kernel_rfl
@[simp] theorem fld109_0 : fld Try.prog 109 0 = some (0, 107) := by kernel_rfl
@[simp] theorem places109_0 : places Try.prog 109 0 = some (0, 1) := by kernel_rfl
@[simp] theorem isIface109 : isIface Try.prog 109 = false := by kernel_rfl
@[simp] theorem zer109 : zer Try.prog 109 = some [.slice none 0 0] := by kernel_rfl
@[simp] theorem scal111 : scal Try.prog 111 = true := by kernel_rfl
@[simp] theorem sz111 : sz Try.prog 111 = 1 := by kernel_rfl
@[simp] theorem byt111 : byt Try.prog 111 = 8 := by kernel_rfl
@[simp] theorem slE111 : slE Try.prog 111 = none := by kernel_rfl
@[simp] theorem arE111 : arE Try.prog 111 = none := by kernel_rfl
@[simp] theorem und111 : Try.prog.underlying 111 = some (.pointer 107) := by kernel_rfl
@[simp] theorem isIface111 : isIface Try.prog 111 = false := by kernel_rfl
@[simp] theorem zer111 : zer Try.prog 111 = some [.pointer none] := by kernel_rfl
@[simp] theorem scal113 : scal Try.prog 113 = false := by kernel_rfl
@[simp] theorem aggr113 : aggr Try.prog 113 = true := by kernel_rfl
@[simp] theorem sz113 : sz Try.prog 113 = 2 := by kernel_rfl
@[simp] theorem byt113 : byt Try.prog 113 = 16 := by kernel_rfl
@[simp] theorem slE113 : slE Try.prog 113 = none := by kernel_rfl
@[simp] theorem arE113 : arE Try.prog 113 = none := by kernel_rfl
@[simp] theorem fld113_0 : fld Try.prog 113 0 = some (0, 3) := by kernel_rfl
@[simp] theorem places113_0 : places Try.prog 113 0 = some (0, 1) := by kernel_rfl
@[simp] theorem fld113_1 : fld Try.prog 113 1 = some (1, 3) := by kernel_rfl
@[simp] theorem places113_1 : places Try.prog 113 1 = some (1, 1) := by kernel_rfl
@[simp] theorem isIface113 : isIface Try.prog 113 = false := by kernel_rfl
@[simp] theorem zer113 : zer Try.prog 113 = some [.int .i64 0, .int .i64 0] := by kernel_rfl
@[simp] theorem scal117 : scal Try.prog 117 = true := by kernel_rfl
@[simp] theorem sz117 : sz Try.prog 117 = 1 := by kernel_rfl
@[simp] theorem byt117 : byt Try.prog 117 = 8 := by kernel_rfl
@[simp] theorem slE117 : slE Try.prog 117 = none := by kernel_rfl
@[simp] theorem arE117 : arE Try.prog 117 = none := by kernel_rfl
@[simp] theorem intOf117 : intOf? Try.prog 117 = some .i64 := by kernel_rfl
@[simp] theorem und117 : Try.prog.underlying 117 = some (.int .i64) := by kernel_rfl
@[simp] theorem isIface117 : isIface Try.prog 117 = false := by kernel_rfl
@[simp] theorem zer117 : zer Try.prog 117 = some [.int .i64 0] := by kernel_rfl
@[simp] theorem scal118 : scal Try.prog 118 = true := by kernel_rfl
@[simp] theorem sz118 : sz Try.prog 118 = 1 := by kernel_rfl
@[simp] theorem byt118 : byt Try.prog 118 = 0 := by kernel_rfl
@[simp] theorem slE118 : slE Try.prog 118 = none := by kernel_rfl
@[simp] theorem arE118 : arE Try.prog 118 = none := by kernel_rfl
@[simp] theorem isIface118 : isIface Try.prog 118 = false := by kernel_rfl
@[simp] theorem scal125 : scal Try.prog 125 = true := by kernel_rfl
@[simp] theorem sz125 : sz Try.prog 125 = 1 := by kernel_rfl
@[simp] theorem byt125 : byt Try.prog 125 = 4 := by kernel_rfl
@[simp] theorem slE125 : slE Try.prog 125 = none := by kernel_rfl
@[simp] theorem arE125 : arE Try.prog 125 = none := by kernel_rfl
@[simp] theorem intOf125 : intOf? Try.prog 125 = some .u32 := by kernel_rfl
@[simp] theorem und125 : Try.prog.underlying 125 = some (.int .u32) := by kernel_rfl
@[simp] theorem isIface125 : isIface Try.prog 125 = false := by kernel_rfl
@[simp] theorem zer125 : zer Try.prog 125 = some [.int .u32 0] := by kernel_rfl
@[simp] theorem scal127 : scal Try.prog 127 = true := by kernel_rfl
@[simp] theorem sz127 : sz Try.prog 127 = 1 := by kernel_rfl
@[simp] theorem byt127 : byt Try.prog 127 = 8 := by kernel_rfl
@[simp] theorem slE127 : slE Try.prog 127 = none := by kernel_rfl
@[simp] theorem arE127 : arE Try.prog 127 = none := by kernel_rfl
@[simp] theorem intOf127 : intOf? Try.prog 127 = some .u64 := by kernel_rfl
@[simp] theorem und127 : Try.prog.underlying 127 = some (.int .u64) := by kernel_rfl
@[simp] theorem isIface127 : isIface Try.prog 127 = false := by kernel_rfl
@[simp] theorem zer127 : zer Try.prog 127 = some [.int .u64 0] := by kernel_rfl
@[simp] theorem scal128 : scal Try.prog 128 = true := by kernel_rfl
@[simp] theorem sz128 : sz Try.prog 128 = 1 := by kernel_rfl
@[simp] theorem byt128 : byt Try.prog 128 = 0 := by kernel_rfl
@[simp] theorem slE128 : slE Try.prog 128 = none := by kernel_rfl
@[simp] theorem arE128 : arE Try.prog 128 = none := by kernel_rfl
@[simp] theorem isIface128 : isIface Try.prog 128 = false := by kernel_rfl
@[simp] theorem scal132 : scal Try.prog 132 = true := by kernel_rfl
@[simp] theorem sz132 : sz Try.prog 132 = 1 := by kernel_rfl
@[simp] theorem byt132 : byt Try.prog 132 = 16 := by kernel_rfl
@[simp] theorem slE132 : slE Try.prog 132 = none := by kernel_rfl
@[simp] theorem arE132 : arE Try.prog 132 = none := by kernel_rfl
@[simp] theorem isIface132 : isIface Try.prog 132 = true := by kernel_rfl
@[simp] theorem zer132 : zer Try.prog 132 = some [.nilIface] := by kernel_rfl
@[simp] theorem scal137 : scal Try.prog 137 = true := by kernel_rfl
@[simp] theorem sz137 : sz Try.prog 137 = 1 := by kernel_rfl
@[simp] theorem byt137 : byt Try.prog 137 = 8 := by kernel_rfl
@[simp] theorem slE137 : slE Try.prog 137 = none := by kernel_rfl
@[simp] theorem arE137 : arE Try.prog 137 = none := by kernel_rfl
@[simp] theorem intOf137 : intOf? Try.prog 137 = some .u64 := by kernel_rfl
@[simp] theorem und137 : Try.prog.underlying 137 = some (.int .u64) := by kernel_rfl
@[simp] theorem isIface137 : isIface Try.prog 137 = false := by kernel_rfl
@[simp] theorem zer137 : zer Try.prog 137 = some [.int .u64 0] := by kernel_rfl
@[simp] theorem scal141 : scal Try.prog 141 = true := by kernel_rfl
@[simp] theorem sz141 : sz Try.prog 141 = 1 := by kernel_rfl
@[simp] theorem byt141 : byt Try.prog 141 = 8 := by kernel_rfl
@[simp] theorem slE141 : slE Try.prog 141 = none := by kernel_rfl
@[simp] theorem arE141 : arE Try.prog 141 = none := by kernel_rfl
@[simp] theorem und141 : Try.prog.underlying 141 = some (.pointer 3) := by kernel_rfl
@[simp] theorem isIface141 : isIface Try.prog 141 = false := by kernel_rfl
@[simp] theorem zer141 : zer Try.prog 141 = some [.pointer none] := by kernel_rfl
@[simp] theorem scal143 : scal Try.prog 143 = true := by kernel_rfl
@[simp] theorem sz143 : sz Try.prog 143 = 1 := by kernel_rfl
@[simp] theorem byt143 : byt Try.prog 143 = 0 := by kernel_rfl
@[simp] theorem slE143 : slE Try.prog 143 = none := by kernel_rfl
@[simp] theorem arE143 : arE Try.prog 143 = none := by kernel_rfl
@[simp] theorem isIface143 : isIface Try.prog 143 = false := by kernel_rfl
@[simp] theorem scal145 : scal Try.prog 145 = true := by kernel_rfl
@[simp] theorem sz145 : sz Try.prog 145 = 1 := by kernel_rfl
@[simp] theorem byt145 : byt Try.prog 145 = 0 := by kernel_rfl
@[simp] theorem slE145 : slE Try.prog 145 = none := by kernel_rfl
@[simp] theorem arE145 : arE Try.prog 145 = none := by kernel_rfl
@[simp] theorem isIface145 : isIface Try.prog 145 = false := by kernel_rfl
@[simp] theorem scal148 : scal Try.prog 148 = true := by kernel_rfl
@[simp] theorem sz148 : sz Try.prog 148 = 1 := by kernel_rfl
@[simp] theorem byt148 : byt Try.prog 148 = 8 := by kernel_rfl
@[simp] theorem slE148 : slE Try.prog 148 = none := by kernel_rfl
@[simp] theorem arE148 : arE Try.prog 148 = none := by kernel_rfl
@[simp] theorem und148 : Try.prog.underlying 148 = some (.pointer 137) := by kernel_rfl
@[simp] theorem isIface148 : isIface Try.prog 148 = false := by kernel_rfl
@[simp] theorem zer148 : zer Try.prog 148 = some [.pointer none] := by kernel_rfl
@[simp] theorem scal149 : scal Try.prog 149 = true := by kernel_rfl
@[simp] theorem sz149 : sz Try.prog 149 = 1 := by kernel_rfl
@[simp] theorem byt149 : byt Try.prog 149 = 0 := by kernel_rfl
@[simp] theorem slE149 : slE Try.prog 149 = none := by kernel_rfl
@[simp] theorem arE149 : arE Try.prog 149 = none := by kernel_rfl
@[simp] theorem isIface149 : isIface Try.prog 149 = false := by kernel_rfl
theorem mixed : Try.prog.follows .mixedOrders = true := by kernel_rfl
end Go.Am
namespace Go.Am
open Go Go.Proofs
set_option linter.unusedVariables false
set_option linter.unusedSimpArgs false
variable {w0 : World}
attribute [local irreducible] AWP ACalls
def risesB : Int → List Int → Bool
  | _, [] => true
  | last, x :: l => decide (last < x) && decide (x ≤ 1099511627776) && risesB x l
end Go.Am
namespace Go.Am
open Go Go.Proofs
set_option linter.unusedVariables false
set_option linter.unusedSimpArgs false
variable {w0 : World}
attribute [local irreducible] AWP ACalls
attribute [local congr] acalls_congr
abbrev okLen {α : Type} (l : List α) : Prop := l.length ≤ 4611686018427387904
theorem same_ret {a b : List Int} (ha : okLen a) (hb : okLen b) : Ret Try.prog w0 19 [ints a, ints b] (B (decide (a = b))) := by
  intro H
  refine w_enter Try.func19 rfl Try.ntmps19 (ts := [4]) rfl (by simp) (by kernel_rfl) ?_
  repeat' (first
    | (with_reducible refine awp_skip ?_)
    | (with_reducible refine then_any ?_)
    | (with_reducible refine then_ret ?_)
    | (with_reducible refine then_exit ?_)
    | (with_reducible refine inBlock_normal ?_)
    | (with_reducible refine inBlock_ret ?_)
    | (with_reducible refine inBlock_hit ?_)
    | (with_reducible refine inBlock_miss (by decide) ?_)
    | (with_reducible refine awp_ret ?_)
    | (with_reducible refine awp_exit ?_)
    | (with_reducible refine post_ret ?_)
    | (with_reducible refine post_normal ?_)
    | (with_reducible refine awp_block ?_)
    | (with_reducible refine v_reg [] (fun K hK => ?_))
    | (with_reducible refine v_reg1 [] (fun K hK => ?_))
    | (with_reducible refine v_draw mixed [] [] (by kernel_rfl) (fun K hK => ?_))
    | (with_reducible refine v_draw1 mixed [] [] (by kernel_rfl) (fun K hK => ?_))
    | (with_reducible refine ev_nil (hK _ _ ?_); clear hK K)
    | (with_reducible refine ed_nil (hK _ _ ?_); clear hK K)
    | ((first | with_reducible refine ev_cons (fun K' hK' => ?_) | with_reducible refine ed_cons (fun K' hK' => ?_) | (with_reducible refine ev_id ?_; refine ev_guard rfl (fun K' hK' => ?_)) | (with_reducible refine ed_id ?_; refine ed_guard rfl (fun K' hK' => ?_))); simp [ints]; repeat' (first | (with_reducible refine hK' _ _ ?_; clear hK' K') | (with_reducible refine And.intro ?_ ?_) | (with_reducible intro hg) | (clear hK' K'; omega)))
    | (with_reducible refine w_cond (fun A B hA hB => ?_); simp [ints]; repeat' (first | (with_reducible refine hA ?_; clear hA hB A B) | (with_reducible refine hB ?_; clear hA hB A B) | (with_reducible refine And.intro ?_ ?_) | (with_reducible intro hc)))
    | (with_reducible refine awp_seq ?_))
  · have : a ≠ b := fun e => by subst e; simp at hc
    simp [this]
  refine awp_loop (fun env h => ∃ (k : Nat), k ≤ a.length ∧ a.length = b.length ∧ env 5 = I k ∧ env 0 = ints a ∧ env 1 = ints b ∧ a.take k = b.take k ∧ h = H) (fun env _ => a.length - natA (env 5)) ?_ ?_
  · exact ⟨0, by simp [ints, upd_get]; omega⟩
  rintro env h ⟨n, hn, hab, h5, h0, h1, ht, rfl⟩
  have hnat : natA (env 5) = n := by simp [h5]
  rw [hnat]; clear hnat
  by_cases hlt : n < a.length
  · have hltb : n < b.length := by omega
    repeat' (first
      | (with_reducible refine awp_skip ?_)
      | (with_reducible refine then_any ?_)
      | (with_reducible refine then_ret ?_)
      | (with_reducible refine then_exit ?_)
      | (with_reducible refine inBlock_normal ?_)
      | (with_reducible refine inBlock_ret ?_)
      | (with_reducible refine inBlock_hit ?_)
      | (with_reducible refine inBlock_miss (by decide) ?_)
      | (with_reducible refine awp_ret ?_)
      | (with_reducible refine awp_exit ?_)
      | (with_reducible refine post_ret ?_)
      | (with_reducible refine post_normal ?_)
      | (with_reducible refine awp_block ?_)
      | (with_reducible refine v_reg [] (fun K hK => ?_))
      | (with_reducible refine v_reg1 [] (fun K hK => ?_))
      | (with_reducible refine v_draw mixed [] [] (by kernel_rfl) (fun K hK => ?_))
      | (with_reducible refine v_draw1 mixed [] [] (by kernel_rfl) (fun K hK => ?_))
      | (with_reducible refine ev_nil (hK _ _ ?_); clear hK K)
      | (with_reducible refine ed_nil (hK _ _ ?_); clear hK K)
      | ((first | with_reducible refine ev_cons (fun K' hK' => ?_) | with_reducible refine ed_cons (fun K' hK' => ?_) | (with_reducible refine ev_id ?_; refine ev_guard rfl (fun K' hK' => ?_)) | (with_reducible refine ed_id ?_; refine ed_guard rfl (fun K' hK' => ?_))); simp [h5, h0, h1, ints, hlt, hltb]; repeat' (first | (with_reducible refine hK' _ _ ?_; clear hK' K') | (with_reducible refine And.intro ?_ ?_) | (with_reducible intro hg) | (clear hK' K'; omega)))
      | (with_reducible refine w_cond (fun A B hA hB => ?_); simp [h5, h0, h1, ints, hlt, hltb]; repeat' (first | (with_reducible refine hA ?_; clear hA hB A B) | (with_reducible refine hB ?_; clear hA hB A B) | (with_reducible refine And.intro ?_ ?_) | (with_reducible intro hc)))
      | (with_reducible refine awp_seq ?_))
    · have : a ≠ b := fun e => by subst e; simp at hc
      simp [this]
    · refine ⟨⟨n + 1, ?_⟩, ?_⟩
      · have hc' : a[n] = b[n] := by simpa using hc
        have ht' : a.take (n + 1) = b.take (n + 1) := by rw [List.take_add_one, List.take_add_one, ht]; simp [hlt, hltb, hc']
        simp [h0, h1, ints, ht', hab]; omega
      · simp; omega
  · have : n = a.length := by omega
    subst this
    repeat' (first
      | (with_reducible refine awp_skip ?_)
      | (with_reducible refine then_any ?_)
      | (with_reducible refine then_ret ?_)
      | (with_reducible refine then_exit ?_)
      | (with_reducible refine inBlock_normal ?_)
      | (with_reducible refine inBlock_ret ?_)
      | (with_reducible refine inBlock_hit ?_)
      | (with_reducible refine inBlock_miss (by decide) ?_)
      | (with_reducible refine awp_ret ?_)
      | (with_reducible refine awp_exit ?_)
      | (with_reducible refine post_ret ?_)
      | (with_reducible refine post_normal ?_)
      | (with_reducible refine awp_block ?_)
      | (with_reducible refine v_reg [] (fun K hK => ?_))
      | (with_reducible refine v_reg1 [] (fun K hK => ?_))
      | (with_reducible refine v_draw mixed [] [] (by kernel_rfl) (fun K hK => ?_))
      | (with_reducible refine v_draw1 mixed [] [] (by kernel_rfl) (fun K hK => ?_))
      | (with_reducible refine ev_nil (hK _ _ ?_); clear hK K)
      | (with_reducible refine ed_nil (hK _ _ ?_); clear hK K)
      | ((first | with_reducible refine ev_cons (fun K' hK' => ?_) | with_reducible refine ed_cons (fun K' hK' => ?_) | (with_reducible refine ev_id ?_; refine ev_guard rfl (fun K' hK' => ?_)) | (with_reducible refine ed_id ?_; refine ed_guard rfl (fun K' hK' => ?_))); simp [h5, h0, h1, ints]; repeat' (first | (with_reducible refine hK' _ _ ?_; clear hK' K') | (with_reducible refine And.intro ?_ ?_) | (with_reducible intro hg) | (clear hK' K'; omega)))
      | (with_reducible refine w_cond (fun A B hA hB => ?_); simp [h5, h0, h1, ints]; repeat' (first | (with_reducible refine hA ?_; clear hA hB A B) | (with_reducible refine hB ?_; clear hA hB A B) | (with_reducible refine And.intro ?_ ?_) | (with_reducible intro hc)))
      | (with_reducible refine awp_seq ?_))
    have : a = b := by rw [List.take_of_length_le (Nat.le_refl _), List.take_of_length_le (by omega)] at ht; exact ht
    simp [this]
end Go.Am
namespace Go.Am
open Go Go.Proofs
set_option linter.unusedVariables false
set_option linter.unusedSimpArgs false
variable {w0 : World}
attribute [local irreducible] AWP ACalls
attribute [local congr] acalls_congr
abbrev smLen {α : Type} (l : List α) : Prop := l.length ≤ 1099511627776
def upto (n : Nat) : List Int := (List.range n).map Int.ofNat
@[simp] theorem upto_length (n : Nat) : (upto n).length = n := by simp [upto]
theorem upto_succ (n : Nat) : upto (n + 1) = upto n ++ [(n : Int)] := by simp [upto, List.range_succ]
theorem upto_zero : upto 0 = [] := rfl
theorem upto_get {n k : Nat} (h : k < (upto n).length) : (upto n)[k] = k := by simp [upto]
theorem mem_upto {n : Nat} {x : Int} : x ∈ upto n ↔ 0 ≤ x ∧ x < n := by
  simp only [upto, List.mem_map, List.mem_range]
  constructor
  · rintro ⟨k, hk, rfl⟩; simp only [Int.ofNat_eq_natCast]; omega
  · intro h; exact ⟨x.toNat, by omega, by simp only [Int.ofNat_eq_natCast]; omega⟩
end Go.Am
namespace Go.Am
open Go Go.Proofs
set_option linter.unusedVariables false
set_option linter.unusedSimpArgs false
variable {w0 : World}
attribute [local irreducible] AWP ACalls
attribute [local congr] acalls_congr
def mergeL (l r b : Bool) : List Int → List Int → List Int
  | [], [] => []
  | [], y :: bs => if r then y :: mergeL l r b [] bs else mergeL l r b [] bs
  | x :: xs, [] => if l then x :: mergeL l r b xs [] else mergeL l r b xs []
  | x :: xs, y :: bs =>
    if x < y then (if l then x :: mergeL l r b xs (y :: bs) else mergeL l r b xs (y :: bs))
    else if y < x then (if r then y :: mergeL l r b (x :: xs) bs else mergeL l r b (x :: xs) bs)
    else (if b then x :: mergeL l r b xs bs else mergeL l r b xs bs)
termination_by a b => a.length + b.length
end Go.Am
namespace Go.Am
open Go Go.Proofs
set_option linter.unusedVariables false
set_option linter.unusedSimpArgs false
variable {w0 : World}
attribute [local irreducible] AWP ACalls
attribute [local congr] acalls_congr
def unionL (a b : List Int) : List Int := if risesB (-1) a && risesB (-1) b then mergeL true true true a b else []
def insL (x : Int) : List Int → List Int
  | [] => [x]
  | y :: l => if x < y then x :: y :: l else y :: insL x l
def sortR (l : List Int) : List Int := l.foldl (fun out x => if x < 0 ∨ 1099511627776 < x ∨ x ∈ out then out else insL x out) []
def unionR (a b : List Int) : List Int := if risesB (-1) a && risesB (-1) b then sortR (a ++ b) else []
end Go.Am
namespace Go.Am
open Go Go.Proofs
set_option linter.unusedVariables false
set_option linter.unusedSimpArgs false
variable {w0 : World}
attribute [local irreducible] AWP ACalls
attribute [local congr] acalls_congr
def fst (H : Heap) (F R : Nat) (up : List Nat) (j : Nat) : Heap :=
  upd (upd H R (some (.arr 1 3 (up.map fun x : Nat => I (x : Int)) up.length))) F (some (.box [.ref R 0 up.length up.length, I (j : Int)]))
end Go.Am
namespace Go.Am
open Go Go.Proofs
set_option linter.unusedVariables false
set_option linter.unusedSimpArgs false
variable {w0 : World}
attribute [local irreducible] AWP ACalls
attribute [local congr] acalls_congr
def edgeOk (n : Int) (e : Int × Int) : Bool := decide (0 ≤ e.1) && decide (0 ≤ e.2) && decide (e.1 < n) && decide (e.2 < n)
def validG (n : Int) (es : List (Int × Int)) : Bool := decide (1 ≤ n) && decide (n ≤ 64) && decide (es.length ≤ 4096) && es.all (edgeOk n)
def stepC (s : (Nat → Nat) × Nat) (e : Int × Int) : (Nat → Nat) × Nat :=
  let a := s.1 e.1.toNat
  let b := s.1 e.2.toNat
  (fun w => if s.1 w = max a b then min a b else s.1 w, if a = b then s.2 else s.2 + 1)
def compJ (es : List (Int × Int)) : (Nat → Nat) × Nat := es.foldl stepC (id, 0)
theorem pairs_get {es : List (Int × Int)} {k : Nat} (h : k < es.length) : (es.flatMap fun e => [I e.1, I e.2])[k * 2]? = some (I es[k].1) ∧ (es.flatMap fun e => [I e.1, I e.2])[k * 2 + 1]? = some (I es[k].2) ∧
    ((es.flatMap fun e => [I e.1, I e.2]).drop (k * 2)).take 2 = [I es[k].1, I es[k].2] := by
  induction es generalizing k with
  | nil => simp at h
  | cons e es ih =>
    cases k with
    | zero => simp
    | succ k =>
      have := ih (k := k) (by simpa using h)
      simp only [List.flatMap_cons, List.getElem_cons_succ, Nat.succ_mul]
      refine ⟨?_, ?_, ?_⟩
      · have := this.1; simpa using this
      · have := this.2.1; simpa [Nat.add_right_comm] using this
      · have := this.2.2; simpa using this
theorem pairs_len (es : List (Int × Int)) : (es.flatMap fun e => [I e.1, I e.2]).length = es.length * 2 := by
  induction es with
  | nil => rfl
  | cons e es ih => simp [ih, Nat.succ_mul]
theorem sum2 (es : List (Int × Int)) : (es.map fun _ => 2).sum = es.length * 2 := by
  induction es with
  | nil => rfl
  | cons e es ih => simp [ih, Nat.succ_mul]; omega
def compsL (n : Int) (es : List (Int × Int)) : List Int := if validG n es then (List.range n.toNat).map fun w => ((compJ es).1 w : Int) else []
def okE (n : Int) (es : List (Int × Int)) : Int := if validG n es then 0 else 1
end Go.Am
namespace Go.Am
open Go Go.Proofs
set_option linter.unusedVariables false
set_option linter.unusedSimpArgs false
variable {w0 : World}
attribute [local irreducible] AWP ACalls
attribute [local congr] acalls_congr
def rootsK (c : Nat → Nat) (k : Nat) : List Nat := (List.range k).filter fun r => c r = r
def partK (c : Nat → Nat) (k r : Nat) : List Int := ((List.range k).filter fun w => c w = r).map fun w : Nat => (w : Int)
def partsK (c : Nat → Nat) (k : Nat) : List (List Int) := (rootsK c k).map (partK c k)
def partsL (n : Int) (es : List (Int × Int)) : List (List Int) := if validG n es then partsK (compJ es).1 n.toNat else []
end Go.Am
namespace Go.Am
open Go Go.Proofs
set_option linter.unusedVariables false
set_option linter.unusedSimpArgs false
variable {w0 : World}
attribute [local irreducible] AWP ACalls
attribute [local congr] acalls_congr
theorem c1 : compsL 3 [(0, 2)] = [0, 1, 0] := by rfl
theorem c2 : okE 3 [(0, 2)] = 0 := by rfl
theorem c3 : partsL 3 [(0, 2)] = [[0, 2], [1]] := by rfl
theorem c4 : okE 3 [(0, 3)] = 1 := by rfl
theorem c5 : okE 0 [] = 1 := by rfl
theorem c6 : (if validG 3 [(0, 2)] then ((compJ [(0, 2)]).2 : Int) else -1) = 1 := by rfl
theorem c7 : (if validG 3 [(0, 2), (2, 0)] then ((compJ [(0, 2), (2, 0)]).2 : Int) else -1) = 1 := by rfl
theorem c8 : (if validG 1 [(0, 0)] then ((compJ [(0, 0)]).2 : Int) else -1) = 0 := by rfl
end Go.Am
namespace Go.Am
open Go
set_option linter.unusedVariables false
set_option linter.unusedSimpArgs false
theorem filter_grow {α : Type} {p q : α → Bool} (h : ∀ x, p x = true → q x = true) {l : List α} {x : α} (hx : x ∈ l) (hp : p x = false) (hq : q x = true) : (l.filter p).length < (l.filter q).length := by
  have hle : ∀ l : List α, (l.filter p).length ≤ (l.filter q).length := by
    intro l
    induction l with
    | nil => simp
    | cons y l ih =>
      simp only [List.filter_cons]
      cases h1 : p y with
      | true => rw [h y h1]; simp [ih]
      | false => cases q y <;> simp <;> omega
  induction l with
  | nil => simp at hx
  | cons y l ih =>
    have := hle l
    simp only [List.filter_cons]
    rcases List.mem_cons.1 hx with rfl | hx
    · rw [hp, hq]; simp; omega
    · have := ih hx
      cases h1 : p y with
      | true => rw [h y h1]; simp; omega
      | false => cases q y <;> simp <;> omega
end Go.Am
namespace Go.Am
open Go
set_option linter.unusedVariables false
set_option linter.unusedSimpArgs false
structure IsSet (l : List Int) : Prop where
  up : l.Pairwise (· < ·)
  ok : ∀ x ∈ l, 0 ≤ x ∧ x ≤ 1099511627776
theorem rises_iff' {l : List Int} {last : Int} : risesB last l = true ↔ l.Pairwise (· < ·) ∧ ∀ x ∈ l, last < x ∧ x ≤ 1099511627776 := by
  induction l generalizing last with
  | nil => simp [risesB]
  | cons y l ih =>
    simp only [risesB, Bool.and_eq_true, decide_eq_true_eq, ih, List.pairwise_cons, List.mem_cons]
    constructor
    · rintro ⟨⟨h1, h2⟩, h3, h4⟩
      exact ⟨⟨fun x hx => (h4 x hx).1, h3⟩, fun x hx => hx.elim (fun e => by subst e; exact ⟨h1, h2⟩) fun hx => ⟨by have := (h4 x hx).1; omega, (h4 x hx).2⟩⟩
    · rintro ⟨⟨h1, h2⟩, h3⟩
      exact ⟨⟨(h3 y (.inl rfl)).1, (h3 y (.inl rfl)).2⟩, h2, fun x hx => ⟨h1 x hx, (h3 x (.inr hx)).2⟩⟩
theorem rises_iff {l : List Int} : risesB (-1) l = true ↔ IsSet l := by
  rw [rises_iff']
  exact ⟨fun h => ⟨h.1, fun x hx => by have := h.2 x hx; omega⟩, fun h => ⟨h.up, fun x hx => by have := h.ok x hx; omega⟩⟩
theorem up_ext {a b : List Int} (ha : a.Pairwise (· < ·)) (hb : b.Pairwise (· < ·)) (h : ∀ x, x ∈ a ↔ x ∈ b) : a = b := by
  induction a generalizing b with
  | nil =>
    cases b with
    | nil => rfl
    | cons y b => have := (h y).2 (by simp); simp at this
  | cons x a ih =>
    cases b with
    | nil => have := (h x).1 (by simp); simp at this
    | cons y b =>
      rw [List.pairwise_cons] at ha hb
      have e : x = y := by
        rcases List.mem_cons.1 ((h x).1 (by simp)) with e | e
        · exact e
        · rcases List.mem_cons.1 ((h y).2 (by simp)) with e' | e'
          · exact e'.symm
          · have := ha.1 y e'; have := hb.1 x e; omega
      subst e
      congr 1
      refine ih ha.2 hb.2 fun z => ?_
      constructor
      · intro hz
        rcases List.mem_cons.1 ((h z).1 (by simp [hz])) with e | e
        · subst e; have := ha.1 z hz; omega
        · exact e
      · intro hz
        rcases List.mem_cons.1 ((h z).2 (by simp [hz])) with e | e
        · subst e; have := hb.1 z hz; omega
        · exact e
theorem IsSet.ext {a b : List Int} (ha : IsSet a) (hb : IsSet b) (h : ∀ x, x ∈ a ↔ x ∈ b) : a = b := up_ext ha.up hb.up h
theorem IsSet.nil : IsSet [] := ⟨.nil, by simp⟩
theorem IsSet.one {x : Int} (h : 0 ≤ x ∧ x ≤ 1099511627776) : IsSet [x] := ⟨by simp, by simpa using h⟩
theorem IsSet.filter {a : List Int} (h : IsSet a) (p : Int → Bool) : IsSet (a.filter p) := ⟨h.up.filter p, fun x hx => h.ok x (List.mem_filter.1 hx).1⟩
theorem IsSet.nodup {a : List Int} (h : IsSet a) : a.Nodup := h.up.imp fun h e => by omega
theorem up_upto (n : Nat) : (upto n).Pairwise (· < ·) := by
  unfold upto
  rw [List.pairwise_map]
  exact List.pairwise_lt_range.imp fun h => by simp only [Int.ofNat_eq_natCast]; omega
theorem isSet_upto {n : Nat} (h : n ≤ 1099511627776) : IsSet (upto n) := ⟨up_upto n, fun x hx => by have := mem_upto.1 hx; omega⟩
theorem up_length {l : List Int} {n : Nat} (h : l.Pairwise (· < ·)) (hb : ∀ x ∈ l, 0 ≤ x ∧ x < n) : l.length ≤ n := by
  have : ∀ (l : List Int) (m : Int), l.Pairwise (· < ·) → (∀ x ∈ l, m ≤ x ∧ x < n) → m ≤ n → m + l.length ≤ n := by
    intro l
    induction l with
    | nil => intro m _ _ h; simpa using h
    | cons x l ih =>
      intro m hp hm hmn
      rw [List.pairwise_cons] at hp
      have := hm x (by simp)
      have := ih (x + 1) hp.2 (fun y hy => ⟨by have := hp.1 y hy; omega, (hm y (by simp [hy])).2⟩) (by omega)
      simp only [List.length_cons]
      omega
  have := this l 0 h hb (by omega)
  omega
theorem mem_insL {x z : Int} {l : List Int} : z ∈ insL x l ↔ z = x ∨ z ∈ l := by
  induction l with
  | nil => simp [insL]
  | cons y l ih =>
    rw [insL]
    split
    · simp
    · simp only [List.mem_cons, ih]
      constructor
      · rintro (h | h | h) <;> simp [h]
      · rintro (h | h | h) <;> simp [h]
theorem up_insL {x : Int} {l : List Int} (h : l.Pairwise (· < ·)) (hx : x ∉ l) : (insL x l).Pairwise (· < ·) := by
  induction l with
  | nil => simp [insL]
  | cons y l ih =>
    rw [List.pairwise_cons] at h
    simp only [List.mem_cons, not_or] at hx
    rw [insL]
    split
    · rename_i hxy
      rw [List.pairwise_cons, List.pairwise_cons]
      refine ⟨fun z hz => ?_, h⟩
      rcases List.mem_cons.1 hz with rfl | hz
      · exact hxy
      · have := h.1 z hz; omega
    · rename_i hxy
      rw [List.pairwise_cons]
      refine ⟨fun z hz => ?_, ih h.2 hx.2⟩
      rcases mem_insL.1 hz with rfl | hz
      · have := hx.1; omega
      · exact h.1 z hz
theorem sortR_spec (l : List Int) : IsSet (sortR l) ∧ ∀ x, x ∈ sortR l ↔ x ∈ l ∧ 0 ≤ x ∧ x ≤ 1099511627776 := by
  have : ∀ (l : List Int) (out : List Int), IsSet out → IsSet (l.foldl (fun out x => if x < 0 ∨ 1099511627776 < x ∨ x ∈ out then out else insL x out) out) ∧
      ∀ x, x ∈ (l.foldl (fun out x => if x < 0 ∨ 1099511627776 < x ∨ x ∈ out then out else insL x out) out) ↔ x ∈ out ∨ x ∈ l ∧ 0 ≤ x ∧ x ≤ 1099511627776 := by
    intro l
    induction l with
    | nil => intro out h; exact ⟨h, by simp⟩
    | cons y l ih =>
      intro out h
      simp only [List.foldl_cons]
      by_cases hy : y < 0 ∨ 1099511627776 < y ∨ y ∈ out
      · rw [if_pos hy]
        obtain ⟨h1, h2⟩ := ih out h
        refine ⟨h1, fun x => ?_⟩
        rw [h2]
        constructor
        · rintro (h | h)
          · exact .inl h
          · exact .inr ⟨by simp [h.1], h.2⟩
        · rintro (h | ⟨h, hb⟩)
          · exact .inl h
          · rcases List.mem_cons.1 h with rfl | h
            · rcases hy with hy | hy | hy
              · omega
              · omega
              · exact .inl hy
            · exact .inr ⟨h, hb⟩
      · rw [if_neg hy]
        have hyo : y ∉ out := fun h => hy (.inr (.inr h))
        obtain ⟨h1, h2⟩ := ih (insL y out) ⟨up_insL h.up hyo, fun x hx => by rcases mem_insL.1 hx with rfl | hx; (· omega); (· exact h.ok x hx)⟩
        refine ⟨h1, fun x => ?_⟩
        rw [h2, mem_insL]
        constructor
        · rintro ((h | h) | h)
          · subst h; exact .inr ⟨by simp, by omega⟩
          · exact .inl h
          · exact .inr ⟨by simp [h.1], h.2⟩
        · rintro (h | ⟨h, hb⟩)
          · exact .inl (.inr h)
          · rcases List.mem_cons.1 h with rfl | h
            · exact .inl (.inl rfl)
            · exact .inr ⟨h, hb⟩
  obtain ⟨h1, h2⟩ := this l [] .nil
  exact ⟨h1, fun x => by rw [sortR, h2]; simp⟩
theorem unionR_spec {a b : List Int} (ha : IsSet a) (hb : IsSet b) : IsSet (unionR a b) ∧ ∀ x, x ∈ unionR a b ↔ x ∈ a ∨ x ∈ b := by
  have e : unionR a b = sortR (a ++ b) := by rw [unionR, rises_iff.2 ha, rises_iff.2 hb]; rfl
  rw [e]
  refine ⟨(sortR_spec _).1, fun x => ?_⟩
  rw [(sortR_spec _).2, List.mem_append]
  constructor
  · exact fun h => h.1
  · rintro (h | h)
    · exact ⟨.inl h, ha.ok x h⟩
    · exact ⟨.inr h, hb.ok x h⟩
theorem mergeL_spec (l r c : Bool) (a b : List Int) : a.Pairwise (· < ·) → b.Pairwise (· < ·) → (mergeL l r c a b).Pairwise (· < ·) ∧
    ∀ x, x ∈ mergeL l r c a b ↔ (x ∈ a ∧ x ∉ b ∧ l = true) ∨ (x ∈ b ∧ x ∉ a ∧ r = true) ∨ (x ∈ a ∧ x ∈ b ∧ c = true) := by
  have cons : ∀ (t : Bool) (x : Int) (L : List Int), (∀ y ∈ L, x < y) → L.Pairwise (· < ·) → (if t = true then x :: L else L).Pairwise (· < ·) := by
    intro t x L h1 h2
    cases t
    · exact h2
    · exact List.pairwise_cons.2 ⟨h1, h2⟩
  have memc : ∀ (t : Bool) (x z : Int) (L : List Int), z ∈ (if t = true then x :: L else L) ↔ (t = true ∧ z = x) ∨ z ∈ L := by
    intro t x z L
    cases t <;> simp
  fun_induction mergeL l r c a b with
  | case1 => intro _ _; simp
  | case2 y bs hr ih =>
    intro ha hb
    obtain ⟨h1, h2⟩ := ih ha (List.pairwise_cons.1 hb).2
    refine ⟨List.pairwise_cons.2 ⟨fun z hz => ?_, h1⟩, fun x => ?_⟩
    · have := (h2 z).1 hz
      simp at this
      exact (List.pairwise_cons.1 hb).1 z this.1
    · rw [List.mem_cons, h2]; simp [hr]
  | case3 y bs hr ih =>
    intro ha hb
    obtain ⟨h1, h2⟩ := ih ha (List.pairwise_cons.1 hb).2
    refine ⟨h1, fun x => ?_⟩
    rw [h2]; simp [hr]
  | case4 x xs hl ih =>
    intro ha hb
    obtain ⟨h1, h2⟩ := ih (List.pairwise_cons.1 ha).2 hb
    refine ⟨List.pairwise_cons.2 ⟨fun z hz => ?_, h1⟩, fun z => ?_⟩
    · have := (h2 z).1 hz
      simp at this
      exact (List.pairwise_cons.1 ha).1 z this.1
    · rw [List.mem_cons, h2]; simp [hl]
  | case5 x xs hl ih =>
    intro ha hb
    obtain ⟨h1, h2⟩ := ih (List.pairwise_cons.1 ha).2 hb
    refine ⟨h1, fun z => ?_⟩
    rw [h2]; simp [hl]
  | case6 x xs y bs hxy hl ih =>
    intro ha hb
    obtain ⟨h1, h2⟩ := ih (List.pairwise_cons.1 ha).2 hb
    have ga := (List.pairwise_cons.1 ha).1
    have gb := (List.pairwise_cons.1 hb).1
    refine ⟨List.pairwise_cons.2 ⟨fun z hz => ?_, h1⟩, fun z => ?_⟩
    · have hz := (h2 z).1 hz
      have : z ∈ xs ∨ z = y ∨ z ∈ bs := by
        simp only [List.mem_cons] at hz
        rcases hz with h | h | h <;> simp [h]
      rcases this with h | h | h
      · exact ga z h
      · omega
      · have := gb z h; omega
    · rw [List.mem_cons, h2]
      have hx1 : x ∉ xs := fun h => by have := ga x h; omega
      have hx2 : x ∉ bs := fun h => by have := gb x h; omega
      by_cases e : z = x
      · subst e; simp [hx2, hl, show z ≠ y by omega]
      · simp [e]
  | case7 x xs y bs hxy hl ih =>
    intro ha hb
    obtain ⟨h1, h2⟩ := ih (List.pairwise_cons.1 ha).2 hb
    have ga := (List.pairwise_cons.1 ha).1
    have gb := (List.pairwise_cons.1 hb).1
    refine ⟨h1, fun z => ?_⟩
    rw [h2]
    have hx1 : x ∉ xs := fun h => by have := ga x h; omega
    have hx2 : x ∉ bs := fun h => by have := gb x h; omega
    by_cases e : z = x
    · subst e; simp [hx1, hx2, hl, show z ≠ y by omega]
    · simp [e]
  | case8 x xs y bs h0 hxy hr ih =>
    intro ha hb
    obtain ⟨h1, h2⟩ := ih ha (List.pairwise_cons.1 hb).2
    have ga := (List.pairwise_cons.1 ha).1
    have gb := (List.pairwise_cons.1 hb).1
    refine ⟨List.pairwise_cons.2 ⟨fun z hz => ?_, h1⟩, fun z => ?_⟩
    · have hz := (h2 z).1 hz
      have : (z = x ∨ z ∈ xs) ∨ z ∈ bs := by
        simp only [List.mem_cons] at hz
        rcases hz with h | h | h <;> simp [h]
      rcases this with (h | h) | h
      · omega
      · have := ga z h; omega
      · exact gb z h
    · rw [List.mem_cons, h2]
      have hx1 : y ∉ xs := fun h => by have := ga y h; omega
      have hx2 : y ∉ bs := fun h => by have := gb y h; omega
      by_cases e : z = y
      · subst e; simp [hx1, hr, show z ≠ x by omega]
      · simp [e]
  | case9 x xs y bs h0 hxy hr ih =>
    intro ha hb
    obtain ⟨h1, h2⟩ := ih ha (List.pairwise_cons.1 hb).2
    have ga := (List.pairwise_cons.1 ha).1
    have gb := (List.pairwise_cons.1 hb).1
    refine ⟨h1, fun z => ?_⟩
    rw [h2]
    have hx1 : y ∉ xs := fun h => by have := ga y h; omega
    have hx2 : y ∉ bs := fun h => by have := gb y h; omega
    by_cases e : z = y
    · subst e; simp [hx1, hx2, hr, show z ≠ x by omega]
    · simp [e]
  | case10 x xs y bs h0 h0' hc ih =>
    intro ha hb
    have exy : y = x := by omega
    subst exy
    obtain ⟨h1, h2⟩ := ih (List.pairwise_cons.1 ha).2 (List.pairwise_cons.1 hb).2
    have ga := (List.pairwise_cons.1 ha).1
    have gb := (List.pairwise_cons.1 hb).1
    refine ⟨List.pairwise_cons.2 ⟨fun z hz => ?_, h1⟩, fun z => ?_⟩
    · have hz := (h2 z).1 hz
      have : z ∈ xs ∨ z ∈ bs := by rcases hz with h | h | h <;> simp [h]
      rcases this with h | h
      · exact ga z h
      · exact gb z h
    · rw [List.mem_cons, h2]
      have hx1 : y ∉ xs := fun h => by have := ga y h; omega
      have hx2 : y ∉ bs := fun h => by have := gb y h; omega
      by_cases e : z = y
      · subst e; simp [hc]
      · simp [e]
  | case11 x xs y bs h0 h0' hc ih =>
    intro ha hb
    have exy : y = x := by omega
    subst exy
    obtain ⟨h1, h2⟩ := ih (List.pairwise_cons.1 ha).2 (List.pairwise_cons.1 hb).2
    have ga := (List.pairwise_cons.1 ha).1
    have gb := (List.pairwise_cons.1 hb).1
    refine ⟨h1, fun z => ?_⟩
    rw [h2]
    have hx1 : y ∉ xs := fun h => by have := ga y h; omega
    have hx2 : y ∉ bs := fun h => by have := gb y h; omega
    by_cases e : z = y
    · subst e; simp [hx1, hx2, hc]
    · simp [e]
section
variable {a b : List Int} (ha : IsSet a) (hb : IsSet b)
include ha hb
theorem unionL_spec : IsSet (unionL a b) ∧ ∀ x, x ∈ unionL a b ↔ x ∈ a ∨ x ∈ b := by
  rw [unionL, rises_iff.2 ha, rises_iff.2 hb]
  simp only [Bool.and_self, if_true]
  obtain ⟨h1, h2⟩ := mergeL_spec true true true a b ha.up hb.up
  have h3 : ∀ x, x ∈ mergeL true true true a b ↔ x ∈ a ∨ x ∈ b := by
    intro x; rw [h2]
    by_cases p : x ∈ a <;> by_cases q : x ∈ b <;> simp [p, q]
  exact ⟨⟨h1, fun x hx => by rcases (h3 x).1 hx with h | h; (· exact ha.ok x h); (· exact hb.ok x h)⟩, h3⟩
end
end Go.Am
namespace Go.Am
open Go
set_option linter.unusedVariables false
set_option linter.unusedSimpArgs false
structure Pts (n : Nat) (l : List Int) : Prop where
  set : IsSet l
  lt : ∀ x ∈ l, 0 ≤ x ∧ x < n
structure Gr (adj : List (List Int)) : Prop where
  len : adj.length ≤ 4096
  pts : ∀ l ∈ adj, Pts adj.length l
def out (adj : List (List Int)) (x : Int) : List Int := adj.getD x.toNat []
theorem out_pts {adj : List (List Int)} (h : Gr adj) (x : Int) : Pts adj.length (out adj x) := by
  unfold out
  by_cases hx : x.toNat < adj.length
  · rw [List.getD_eq_getElem?_getD, List.getElem?_eq_getElem hx]
    exact h.pts _ (List.getElem_mem _)
  · rw [List.getD_eq_getElem?_getD, List.getElem?_eq_none (by omega)]
    exact ⟨.nil, by simp⟩
theorem Pts.nil {n : Nat} : Pts n [] := ⟨.nil, by simp⟩
theorem Pts.length {n : Nat} {l : List Int} (h : Pts n l) : l.length ≤ n := up_length h.set.up h.lt
theorem Pts.union {n : Nat} {a b : List Int} (ha : Pts n a) (hb : Pts n b) : Pts n (unionR a b) :=
  ⟨(unionR_spec ha.set hb.set).1, fun x hx => by rcases ((unionR_spec ha.set hb.set).2 x).1 hx with h | h; (· exact ha.lt x h); (· exact hb.lt x h)⟩
def nearL (adj : List (List Int)) (l : List Int) : List Int := l.foldl (fun o x => unionR o (out adj x)) l
theorem near_fold {adj : List (List Int)} (hg : Gr adj) (l : List Int) : ∀ o, Pts adj.length o → Pts adj.length (l.foldl (fun o x => unionR o (out adj x)) o) ∧
    ∀ x, x ∈ l.foldl (fun o x => unionR o (out adj x)) o ↔ x ∈ o ∨ ∃ y ∈ l, x ∈ out adj y := by
  induction l with
  | nil => intro o h; exact ⟨h, by simp⟩
  | cons y l ih =>
    intro o h
    have hy := out_pts hg y
    obtain ⟨h1, h2⟩ := ih _ (h.union hy)
    refine ⟨h1, fun x => ?_⟩
    rw [List.foldl_cons, h2, (unionR_spec h.set hy.set).2]
    simp only [List.mem_cons, exists_eq_or_imp]
    exact or_assoc
theorem near_pts {adj : List (List Int)} (hg : Gr adj) {l : List Int} (h : Pts adj.length l) : Pts adj.length (nearL adj l) := (near_fold hg l l h).1
theorem mem_near {adj : List (List Int)} (hg : Gr adj) {l : List Int} (h : Pts adj.length l) {x : Int} : x ∈ nearL adj l ↔ x ∈ l ∨ ∃ y ∈ l, x ∈ out adj y := (near_fold hg l l h).2 x
def levL (adj : List (List Int)) (l : List Int) : Nat → List Int
  | 0 => l
  | k + 1 => nearL adj (levL adj l k)
section
variable {adj : List (List Int)} (hg : Gr adj) {l : List Int} (hl : Pts adj.length l)
include hg hl
theorem lev_pts (k : Nat) : Pts adj.length (levL adj l k) := by
  induction k with
  | zero => exact hl
  | succ k ih => exact near_pts hg ih
theorem mem_lev {k : Nat} {x : Int} : x ∈ levL adj l (k + 1) ↔ x ∈ levL adj l k ∨ ∃ y ∈ levL adj l k, x ∈ out adj y := mem_near hg (lev_pts hg hl k)
theorem lev_mono {j k : Nat} (h : j ≤ k) {x : Int} (hx : x ∈ levL adj l j) : x ∈ levL adj l k := by
  induction k with
  | zero => have : j = 0 := by omega
            subst this; exact hx
  | succ k ih =>
    by_cases e : j = k + 1
    · subst e; exact hx
    · exact (mem_lev hg hl).2 (.inl (ih (by omega)))
omit hg hl in
theorem lev_stop {k : Nat} (h : levL adj l (k + 1) = levL adj l k) (j : Nat) : levL adj l (k + j) = levL adj l k := by
  induction j with
  | zero => rfl
  | succ j ih =>
    show nearL adj (levL adj l (k + j)) = _
    rw [ih]; exact h
theorem lev_grow (k : Nat) : (∃ j, j < k ∧ levL adj l (j + 1) = levL adj l j) ∨ l.length + k ≤ (levL adj l k).length := by
  induction k with
  | zero => exact .inr (by simp [levL])
  | succ k ih =>
    rcases ih with ⟨j, hj, h⟩ | h
    · exact .inl ⟨j, by omega, h⟩
    · by_cases e : levL adj l (k + 1) = levL adj l k
      · exact .inl ⟨k, by omega, e⟩
      · refine .inr ?_
        have hp := lev_pts hg hl k
        have hp' := lev_pts hg hl (k + 1)
        have : ∃ x, x ∈ levL adj l (k + 1) ∧ x ∉ levL adj l k := by
          refine Classical.byContradiction fun hno => e (hp'.set.ext hp.set fun x => ⟨fun hx => Classical.byContradiction fun hx' => hno ⟨x, hx, hx'⟩, fun hx => lev_mono hg hl (by omega) hx⟩)
        obtain ⟨x, hx, hx'⟩ := this
        have h1 := filter_grow (p := fun x => decide (x ∈ levL adj l k)) (q := fun _ => true) (l := levL adj l (k + 1)) (x := x) (fun _ _ => rfl) hx (by simpa using hx') rfl
        have h2 : (levL adj l (k + 1)).filter (fun x => decide (x ∈ levL adj l k)) = levL adj l k :=
          (hp'.set.filter _).ext hp.set fun y => by
            rw [List.mem_filter]
            exact ⟨fun h => by simpa using h.2, fun h => ⟨lev_mono hg hl (by omega) h, by simpa using h⟩⟩
        rw [h2, List.filter_eq_self.2 (fun _ _ => rfl)] at h1
        omega
theorem lev_all {k : Nat} (hk : adj.length ≤ k) : levL adj l k = levL adj l adj.length := by
  by_cases hnil : l = []
  · subst hnil
    have : ∀ k, levL adj [] k = [] := by
      intro k
      induction k with
      | zero => rfl
      | succ k ih => show nearL adj (levL adj [] k) = []; rw [ih]; rfl
    rw [this, this]
  · have hpos := List.length_pos_iff.2 hnil
    have hlen := (lev_pts hg hl adj.length).length
    rcases lev_grow hg hl adj.length with ⟨j, hj, h⟩ | h
    · have h1 := lev_stop h (k - j)
      have h2 := lev_stop h (adj.length - j)
      rw [show j + (k - j) = k by omega] at h1
      rw [show j + (adj.length - j) = adj.length by omega] at h2
      rw [h1, h2]
    · omega
theorem lev_le {k : Nat} {x : Int} (h : x ∈ levL adj l k) : x ∈ levL adj l adj.length := by
  rcases Nat.le_total k adj.length with hk | hk
  · exact lev_mono hg hl hk h
  · rwa [lev_all hg hl hk] at h
end
def distL (adj : List (List Int)) (l : List Int) (v : Int) : Int :=
  match (List.range (adj.length + 1)).find? fun k => decide (v ∈ levL adj l k) with
  | some k => k
  | none => -1
theorem find_range {p : Nat → Bool} {n : Nat} : (∃ k, k < n ∧ (List.range n).find? p = some k ∧ p k = true ∧ ∀ j, j < k → p j = false) ∨ ((List.range n).find? p = none ∧ ∀ j, j < n → p j = false) := by
  induction n with
  | zero => exact .inr ⟨rfl, by omega⟩
  | succ n ih =>
    rw [List.range_succ, List.find?_append]
    rcases ih with ⟨k, h1, h2, h3, h4⟩ | ⟨h1, h2⟩
    · exact .inl ⟨k, by omega, by rw [h2]; rfl, h3, h4⟩
    · rw [h1]
      cases hp : p n with
      | true => exact .inl ⟨n, by omega, by simp [hp], hp, h2⟩
      | false => exact .inr ⟨by simp [hp], fun j hj => by by_cases e : j = n; (· subst e; exact hp); (· exact h2 j (by omega))⟩
section
variable {adj : List (List Int)} (hg : Gr adj) {l : List Int} (hl : Pts adj.length l) {v : Int}
include hg hl
theorem dist_cases : (∃ d : Nat, d ≤ adj.length ∧ distL adj l v = d ∧ v ∈ levL adj l d ∧ ∀ j, j < d → v ∉ levL adj l j) ∨ (distL adj l v = -1 ∧ ∀ j, v ∉ levL adj l j) := by
  unfold distL
  rcases find_range (p := fun k => decide (v ∈ levL adj l k)) (n := adj.length + 1) with ⟨k, h1, h2, h3, h4⟩ | ⟨h1, h2⟩
  · rw [h2]
    exact .inl ⟨k, by omega, rfl, by simpa using h3, fun j hj => by simpa using h4 j hj⟩
  · rw [h1]
    refine .inr ⟨rfl, fun j hj => ?_⟩
    have := h2 adj.length (by omega)
    simp only [decide_eq_false_iff_not] at this
    exact this (lev_le hg hl hj)
theorem dist_le {k : Nat} (h : v ∈ levL adj l k) : 0 ≤ distL adj l v ∧ distL adj l v ≤ k := by
  rcases dist_cases hg hl (v := v) with ⟨d, h1, h2, h3, h4⟩ | ⟨h1, h2⟩
  · rw [h2]
    refine ⟨by omega, ?_⟩
    rcases Nat.lt_or_ge k d with hk | hk
    · exact absurd h (h4 k hk)
    · omega
  · exact absurd h (h2 k)
theorem dist_of {f : Int → Int} (ha : ∀ x : Int, 0 ≤ x → x < adj.length → f x ≠ -1 → 0 ≤ f x ∧ x ∈ levL adj l (f x).toNat) (hb : ∀ x ∈ l, f x = 0)
    (hc : ∀ x : Int, 0 ≤ x → x < adj.length → f x ≠ -1 → ∀ y ∈ out adj x, f y ≠ -1 ∧ f y ≤ f x + 1) (h0 : 0 ≤ v) (h1 : v < adj.length) : f v = distL adj l v := by
  have key : ∀ k x, x ∈ levL adj l k → f x ≠ -1 ∧ f x ≤ k := by
    intro k
    induction k with
    | zero => intro x hx; have := hb x hx; omega
    | succ k ih =>
      intro x hx
      rcases (mem_lev hg hl).1 hx with hx | ⟨y, hy, hx⟩
      · have := ih x hx; omega
      · have hy' := ih y hy
        have hp := (lev_pts hg hl k).lt y hy
        have := hc y hp.1 hp.2 hy'.1 x hx
        omega
  rcases dist_cases hg hl (v := v) with ⟨d, h2, h3, h4, h5⟩ | ⟨h2, h3⟩
  · have hk := key d v h4
    obtain ⟨p, q⟩ := ha v h0 h1 hk.1
    have := dist_le hg hl q
    rw [h3] at this ⊢
    omega
  · rw [h2]
    refine Classical.byContradiction fun h => ?_
    exact h3 _ (ha v h0 h1 h).2
end
structure BInv (adj : List (List Int)) (l : List Int) (f : Int → Int) (q : List Int) : Prop where
  vis : ∀ x : Int, 0 ≤ x → x < adj.length → f x ≠ -1 → 0 ≤ f x ∧ x ∈ levL adj l (f x).toNat
  src : ∀ x ∈ l, f x = 0
  qv : ∀ x ∈ q, 0 ≤ x ∧ x < adj.length ∧ f x ≠ -1
  up : q.Pairwise fun x y => f x ≤ f y
  near : ∀ x ∈ q, ∀ y ∈ q, f y ≤ f x + 1
  done : ∀ x : Int, 0 ≤ x → x < adj.length → f x ≠ -1 → x ∉ q → (∀ y ∈ q, f x ≤ f y) ∧ ∀ w ∈ out adj x, f w ≠ -1 ∧ f w ≤ f x + 1
structure BMid (adj : List (List Int)) (l : List Int) (v : Int) (ws : List Int) (f : Int → Int) (q : List Int) : Prop where
  vis : ∀ x : Int, 0 ≤ x → x < adj.length → f x ≠ -1 → 0 ≤ f x ∧ x ∈ levL adj l (f x).toNat
  src : ∀ x ∈ l, f x = 0
  qv : ∀ x ∈ q, 0 ≤ x ∧ x < adj.length ∧ f x ≠ -1
  up : q.Pairwise fun x y => f x ≤ f y
  vv : 0 ≤ v ∧ v < adj.length ∧ f v ≠ -1
  near : ∀ y ∈ q, f v ≤ f y ∧ f y ≤ f v + 1
  done : ∀ x : Int, 0 ≤ x → x < adj.length → f x ≠ -1 → x ∉ q → x ≠ v → f x ≤ f v ∧ ∀ w ∈ out adj x, f w ≠ -1 ∧ f w ≤ f x + 1
  ws : ∀ w ∈ ws, f w ≠ -1 ∧ f w ≤ f v + 1
theorem BInv.pop {adj : List (List Int)} {l : List Int} {f : Int → Int} {v : Int} {q : List Int} (h : BInv adj l f (v :: q)) : BMid adj l v [] f q := by
  refine ⟨h.vis, h.src, fun x hx => h.qv x (by simp [hx]), (List.pairwise_cons.1 h.up).2, h.qv v (by simp), fun y hy => ⟨(List.pairwise_cons.1 h.up).1 y hy, h.near v (by simp) y (by simp [hy])⟩, fun x h0 h1 h2 h3 h4 => ?_, by simp⟩
  have := h.done x h0 h1 h2 (by simp [h3, h4])
  exact ⟨this.1 v (by simp), this.2⟩
theorem BMid.end {adj : List (List Int)} {l : List Int} {f : Int → Int} {v : Int} {q : List Int} (h : BMid adj l v (out adj v) f q) : BInv adj l f q := by
  refine ⟨h.vis, h.src, h.qv, h.up, fun x hx y hy => by have := h.near x hx; have := h.near y hy; omega, fun x h0 h1 h2 h3 => ?_⟩
  by_cases e : x = v
  · subst e
    exact ⟨fun y hy => (h.near y hy).1, h.ws⟩
  · have := h.done x h0 h1 h2 h3 e
    exact ⟨fun y hy => by have := h.near y hy; omega, this.2⟩
theorem BMid.old {adj : List (List Int)} {l : List Int} {f : Int → Int} {v w : Int} {ws q : List Int} (h : BMid adj l v ws f q) (hw : 0 ≤ w ∧ w < adj.length) (hf : f w ≠ -1) : BMid adj l v (ws ++ [w]) f q := by
  refine ⟨h.vis, h.src, h.qv, h.up, h.vv, h.near, h.done, fun x hx => ?_⟩
  rcases List.mem_append.1 hx with hx | hx
  · exact h.ws x hx
  · simp at hx; subst hx
    refine ⟨hf, ?_⟩
    by_cases hq : x ∈ q
    · exact (h.near x hq).2
    · by_cases e : x = v
      · subst e; omega
      · have := (h.done x hw.1 hw.2 hf hq e).1; omega
theorem BMid.new {adj : List (List Int)} (hg : Gr adj) {l : List Int} (hl : Pts adj.length l) {f : Int → Int} {v w : Int} {ws q : List Int} (h : BMid adj l v ws f q) (hw : w ∈ out adj v) (hf : f w = -1) :
    BMid adj l v (ws ++ [w]) (fun x => if x = w then f v + 1 else f x) (q ++ [w]) := by
  have hwp := (out_pts hg v).lt w hw
  have hwq : w ∉ q := fun hq => (h.qv w hq).2.2 hf
  have hwv : v ≠ w := fun e => h.vv.2.2 (e ▸ hf)
  have hne : ∀ x, f x ≠ -1 → (if x = w then f v + 1 else f x) = f x := fun x hx => by rw [if_neg]; rintro rfl; exact hx hf
  have hfv := hne v h.vv.2.2
  have hv0 := (h.vis v h.vv.1 h.vv.2.1 h.vv.2.2)
  refine ⟨fun x h0 h1 h2 => ?_, fun x hx => ?_, fun x hx => ?_, ?_, ⟨h.vv.1, h.vv.2.1, by rw [hfv]; exact h.vv.2.2⟩, fun y hy => ?_, fun x h0 h1 h2 h3 h4 => ?_, fun x hx => ?_⟩
  · (try simp only at h2 ⊢)
    by_cases e : x = w
    · subst e
      rw [if_pos rfl]
      refine ⟨by omega, ?_⟩
      rw [show (f v + 1).toNat = (f v).toNat + 1 by omega]
      exact (mem_lev hg hl).2 (.inr ⟨v, hv0.2, hw⟩)
    · rw [if_neg e] at h2 ⊢; exact h.vis x h0 h1 h2
  · have := h.src x hx
    rw [hne x (by omega)]; exact this
  · rcases List.mem_append.1 hx with hx | hx
    · have := h.qv x hx
      rw [hne x this.2.2]; exact this
    · simp at hx; subst hx
      rw [if_pos rfl]; exact ⟨hwp.1, hwp.2, by omega⟩
  · rw [List.pairwise_append]
    refine ⟨h.up.imp_of_mem ?_, by simp, ?_⟩
    · intro x y hx hy hxy
      rw [hne x (h.qv x hx).2.2, hne y (h.qv y hy).2.2]; exact hxy
    · intro x hx y hy
      simp at hy; subst hy
      rw [hne x (h.qv x hx).2.2, if_pos rfl]
      exact (h.near x hx).2
  · rw [hfv]
    rcases List.mem_append.1 hy with hy | hy
    · rw [hne y (h.qv y hy).2.2]; exact h.near y hy
    · simp at hy; subst hy
      rw [if_pos rfl]; omega
  · (try simp only at h2 ⊢)
    have hxw : x ≠ w := fun e => h3 (by simp [e])
    rw [if_neg hxw] at h2 ⊢
    have := h.done x h0 h1 h2 (fun hq => h3 (by simp [hq])) h4
    rw [hfv]
    exact ⟨this.1, fun z hz => by have := this.2 z hz; rw [hne z this.1]; exact this⟩
  · rw [hfv]
    rcases List.mem_append.1 hx with hx | hx
    · have := h.ws x hx; rw [hne x this.1]; exact this
    · simp at hx; subst hx
      rw [if_pos rfl]
      exact ⟨by omega, by omega⟩
theorem BInv.start {adj : List (List Int)} {l : List Int} (hl : Pts adj.length l) : BInv adj l (fun x => if x ∈ l then 0 else -1) l := by
  refine ⟨fun x h0 h1 h2 => ?_, fun x hx => by simp [hx], fun x hx => ⟨(hl.lt x hx).1, (hl.lt x hx).2, by simp [hx]⟩, ?_, fun x hx y hy => by simp [hx, hy], fun x h0 h1 h2 h3 => by simp [h3] at h2⟩
  · by_cases hx : x ∈ l
    · simp [hx, levL]
    · simp [hx] at h2
  · exact List.pairwise_iff_forall_sublist.2 fun {a b} h => by
      have ha := h.subset (show a ∈ [a, b] by simp)
      have hb := h.subset (show b ∈ [a, b] by simp)
      simp [ha, hb]
theorem BInv.fin {adj : List (List Int)} (hg : Gr adj) {l : List Int} (hl : Pts adj.length l) {f : Int → Int} (h : BInv adj l f []) {x : Int} (h0 : 0 ≤ x) (h1 : x < adj.length) : f x = distL adj l x :=
  dist_of hg hl h.vis h.src (fun x h0 h1 h2 => (h.done x h0 h1 h2 (by simp)).2) h0 h1
end Go.Am
namespace Go.Am
open Go Go.Proofs
set_option linter.unusedVariables false
set_option linter.unusedSimpArgs false
variable {w0 : World}
attribute [local irreducible] AWP ACalls
attribute [local congr] acalls_congr
theorem low_nat {y : Int} (h0 : 0 ≤ y) (h1 : y < 4294967296) : ((BitVec.ofInt 64 y &&& 4294967295#64).toNat : Int) = y := by
  obtain ⟨n, rfl⟩ := Int.eq_ofNat_of_zero_le h0
  have : (BitVec.ofInt 64 (n : Int) &&& 4294967295#64).toNat = n := by
    rw [BitVec.toNat_and]
    have e1 : (BitVec.ofInt 64 (n : Int)).toNat = n := by simp; omega
    have e2 : (4294967295#64).toNat = 2 ^ 32 - 1 := by decide
    rw [e1, e2, Nat.and_two_pow_sub_one_eq_mod, Nat.mod_eq_of_lt (by omega)]
  rw [this]
abbrev U (n : Int) : AV := .sc (.int .u64 n)
theorem mul_fin {y : Int} (h0 : 0 ≤ y) (h1 : y < 4294967296) : ((((BitVec.ofInt 64 y &&& 4294967295#64).toNat % 18446744073709551616 : Int).fdiv 4294967296 % 18446744073709551616).fdiv 4294967296 +
    (((BitVec.ofInt 64 (((BitVec.ofInt 64 y &&& 4294967295#64).toNat % 18446744073709551616 : Int).fdiv 4294967296 % 18446744073709551616) &&& 4294967295#64).toNat + y.fdiv 4294967296) % 18446744073709551616).fdiv 4294967296) % 18446744073709551616 = 0 ∧
    y % 18446744073709551616 = y := by
  have e0 : y % 18446744073709551616 = y := by omega
  have e1 : y.fdiv 4294967296 = 0 := by rw [Int.fdiv_eq_ediv_of_nonneg _ (by omega)]; omega
  rw [low_nat h0 h1, e0, e1]
  simp
theorem mul64_ret {y : Int} (h0 : 0 ≤ y) (h1 : y < 4294967296) : Ret Try.prog w0 116 [U 1, U y] (.tup [U 0, U y]) := by
  intro H
  refine w_enter Try.func116 rfl Try.ntmps116 (ts := [4, 5]) rfl (by simp) (by kernel_rfl) ?_
  repeat' (first
    | (with_reducible refine awp_skip ?_)
    | (with_reducible refine then_any ?_)
    | (with_reducible refine then_ret ?_)
    | (with_reducible refine then_exit ?_)
    | (with_reducible refine inBlock_normal ?_)
    | (with_reducible refine inBlock_ret ?_)
    | (with_reducible refine inBlock_hit ?_)
    | (with_reducible refine inBlock_miss (by decide) ?_)
    | (with_reducible refine awp_ret ?_)
    | (with_reducible refine awp_exit ?_)
    | (with_reducible refine post_ret ?_)
    | (with_reducible refine post_normal ?_)
    | (with_reducible refine awp_block ?_)
    | (with_reducible refine v_reg [] (fun K hK => ?_))
    | (with_reducible refine v_reg1 [] (fun K hK => ?_))
    | (with_reducible refine v_draw mixed [] [] (by kernel_rfl) (fun K hK => ?_))
    | (with_reducible refine v_draw1 mixed [] [] (by kernel_rfl) (fun K hK => ?_))
    | (with_reducible refine ev_nil (hK _ _ ?_); clear hK K)
    | (with_reducible refine ed_nil (hK _ _ ?_); clear hK K)
    | ((first | with_reducible refine ev_cons (fun K' hK' => ?_) | with_reducible refine ed_cons (fun K' hK' => ?_) | (with_reducible refine ev_id ?_; refine ev_guard rfl (fun K' hK' => ?_)) | (with_reducible refine ed_id ?_; refine ed_guard rfl (fun K' hK' => ?_))); simp [IntKind.bits]; repeat' (first | (with_reducible refine hK' _ _ ?_; clear hK' K') | (with_reducible refine And.intro ?_ ?_) | (with_reducible intro hg) | (clear hK' K'; omega)))
    | (with_reducible refine w_cond (fun A B hA hB => ?_); simp [IntKind.bits]; repeat' (first | (with_reducible refine hA ?_; clear hA hB A B) | (with_reducible refine hB ?_; clear hA hB A B) | (with_reducible refine And.intro ?_ ?_) | (with_reducible intro hc)))
    | (with_reducible refine awp_seq ?_))
  simp [IntKind.wrap, IntKind.bits, IntKind.signed, IntKind.min, IntKind.max]
  exact mul_fin h0 h1
theorem mul_ret {y : Int} (h0 : 0 ≤ y) (h1 : y < 4294967296) : Ret Try.prog w0 102 [U 1, U y] (.tup [U 0, U y]) := by
  intro H
  refine w_enter Try.func102 rfl Try.ntmps102 (ts := [4, 5]) rfl (by simp) (by kernel_rfl) ?_
  repeat' (first
    | (with_reducible refine awp_skip ?_)
    | (with_reducible refine then_any ?_)
    | (with_reducible refine then_ret ?_)
    | (with_reducible refine then_exit ?_)
    | (with_reducible refine inBlock_normal ?_)
    | (with_reducible refine inBlock_ret ?_)
    | (with_reducible refine inBlock_hit ?_)
    | (with_reducible refine inBlock_miss (by decide) ?_)
    | (with_reducible refine awp_ret ?_)
    | (with_reducible refine awp_exit ?_)
    | (with_reducible refine post_ret ?_)
    | (with_reducible refine post_normal ?_)
    | (with_reducible refine awp_block ?_)
    | (with_reducible refine v_reg [] (fun K hK => ?_))
    | (with_reducible refine v_reg1 [] (fun K hK => ?_))
    | (with_reducible refine v_draw mixed [] [] (by kernel_rfl) (fun K hK => ?_))
    | (with_reducible refine v_draw1 mixed [] [] (by kernel_rfl) (fun K hK => ?_))
    | (with_reducible refine ev_nil (hK _ _ ?_); clear hK K)
    | (with_reducible refine ed_nil (hK _ _ ?_); clear hK K)
    | ((first | with_reducible refine ev_cons (fun K' hK' => ?_) | with_reducible refine ed_cons (fun K' hK' => ?_) | (with_reducible refine ev_id ?_; refine ev_guard rfl (fun K' hK' => ?_)) | (with_reducible refine ed_id ?_; refine ed_guard rfl (fun K' hK' => ?_))); simp; repeat' (first | (with_reducible refine hK' _ _ ?_; clear hK' K') | (with_reducible refine Ret.use (mul64_ret h0 h1) ?_; try simp) | (with_reducible refine And.intro ?_ ?_) | (with_reducible intro hg) | (clear hK' K'; omega)))
    | (with_reducible refine w_cond (fun A B hA hB => ?_); simp; repeat' (first | (with_reducible refine hA ?_; clear hA hB A B) | (with_reducible refine hB ?_; clear hA hB A B) | (with_reducible refine And.intro ?_ ?_) | (with_reducible intro hc)))
    | (with_reducible refine awp_seq ?_))
  simp
theorem u64_wrap {y : Int} (h0 : 0 ≤ y) (h1 : y < 4294967296) : IntKind.u64.wrap y = y := by
  simp [IntKind.wrap, IntKind.bits, IntKind.signed, IntKind.min, IntKind.max]; omega
theorem setL_rep {α : Type} {f : α → AV} {m k j : Nat} (x z : α) : setL ((List.replicate m x ++ List.replicate (k + j) z).map f) m ((List.replicate k x).map f) = (List.replicate (m + k) x ++ List.replicate j z).map f := by
  induction k generalizing m with
  | zero => simp [setL]
  | succ k ih =>
    rw [List.replicate_succ, List.map_cons, setL]
    have : ((List.replicate m x ++ List.replicate (k + 1 + j) z).map f).set m (f x) = (List.replicate (m + 1) x ++ List.replicate (k + j) z).map f := by
      have h := set_next ((List.replicate m x).map f) (k + j) (f z) (f x)
      rw [List.length_map, List.length_replicate] at h
      rw [List.map_append, List.map_append, List.map_replicate (a := z), show k + 1 + j = k + j + 1 by omega, h]
      simp [List.replicate_succ']
    rw [this, ih]
    congr 2
    simp; omega
theorem repeat_new {x : Int} {n : Nat} (hn : n < 4294967296) : RetNew Try.prog w0 74 [.sl [I x] 1, I n] 1 3 ((List.replicate n x).map I) n := by
  intro H
  refine w_enter Try.func74 rfl Try.ntmps74 (ts := [4]) rfl (by simp) (by kernel_rfl) ?_
  have hw1 : IntKind.u64.wrap 1 = 1 := by decide
  have hwn := u64_wrap (y := (n : Int)) (by omega) (by omega)
  repeat' (first
    | (with_reducible refine awp_skip ?_)
    | (with_reducible refine then_any ?_)
    | (with_reducible refine then_ret ?_)
    | (with_reducible refine then_exit ?_)
    | (with_reducible refine inBlock_normal ?_)
    | (with_reducible refine inBlock_ret ?_)
    | (with_reducible refine inBlock_hit ?_)
    | (with_reducible refine inBlock_miss (by decide) ?_)
    | (with_reducible refine awp_ret ?_)
    | (with_reducible refine awp_exit ?_)
    | (with_reducible refine post_ret ?_)
    | (with_reducible refine post_normal ?_)
    | (with_reducible refine awp_block ?_)
    | (with_reducible refine v_reg [] (fun K hK => ?_))
    | (with_reducible refine v_reg1 [] (fun K hK => ?_))
    | (with_reducible refine v_draw mixed [] [] (by kernel_rfl) (fun K hK => ?_))
    | (with_reducible refine v_draw1 mixed [] [] (by kernel_rfl) (fun K hK => ?_))
    | (with_reducible refine ev_nil (hK _ _ ?_); clear hK K)
    | (with_reducible refine ed_nil (hK _ _ ?_); clear hK K)
    | ((first | with_reducible refine ev_cons (fun K' hK' => ?_) | with_reducible refine ed_cons (fun K' hK' => ?_) | (with_reducible refine ev_id ?_; refine ev_guard rfl (fun K' hK' => ?_)) | (with_reducible refine ed_id ?_; refine ed_guard rfl (fun K' hK' => ?_))); simp [hw1, hwn]; repeat' (first | (with_reducible refine hK' _ _ ?_; clear hK' K') | (with_reducible refine Ret.use (mul_ret (y := (n : Int)) (by omega) (by omega)) ?_; try simp [hw1, hwn]) | (with_reducible refine And.intro ?_ ?_) | (with_reducible intro hg) | (clear hK' K'; omega)))
    | (with_reducible refine w_cond (fun A B hA hB => ?_); simp [hw1, hwn]; repeat' (first | (with_reducible refine hA ?_; clear hA hB A B) | (with_reducible refine hB ?_; clear hA hB A B) | (with_reducible refine And.intro ?_ ?_) | (with_reducible intro hc)))
    | (with_reducible refine awp_seq ?_))
  rename_i r
  have hr : H r = none := hg
  clear hg
  refine awp_loop (fun env h => ∃ m : Nat, m ≤ n ∧ (n = 0 ∨ 0 < m) ∧ env 8 = I m ∧ env 7 = .ref r 0 n n ∧ h = upd H r (some (.arr 1 3 ((List.replicate m x ++ List.replicate (n - m) 0).map I) n))) (fun env _ => n - natA (env 8)) ?_ ?_
  · refine ⟨min 1 n, by omega, by omega, ?_, by simp, ?_⟩
    · simp
    · cases n with
      | zero => simp [setL]
      | succ n =>
        have : min 1 (n + 1) = 1 := by omega
        rw [this]
        simp [setL, List.replicate_succ]
  rintro env h ⟨m, hm, h01, h8, h7, rfl⟩
  have hnat : natA (env 8) = m := by simp [h8]
  rw [hnat]; clear hnat
  by_cases hlt : m < n
  · have hs := setL_rep (f := I) (m := m) (k := min m (n - m)) (j := n - (m + min m (n - m))) x (0 : Int)
    rw [show min m (n - m) + (n - (m + min m (n - m))) = n - m by omega] at hs
    simp only [List.map_append, List.map_replicate] at hs
    have hlen : ((List.replicate m x ++ List.replicate (n - m) 0).map I).length = n := by simp; omega
    repeat' (first
      | (with_reducible refine awp_skip ?_)
      | (with_reducible refine then_any ?_)
      | (with_reducible refine then_ret ?_)
      | (with_reducible refine then_exit ?_)
      | (with_reducible refine inBlock_normal ?_)
      | (with_reducible refine inBlock_ret ?_)
      | (with_reducible refine inBlock_hit ?_)
      | (with_reducible refine inBlock_miss (by decide) ?_)
      | (with_reducible refine awp_ret ?_)
      | (with_reducible refine awp_exit ?_)
      | (with_reducible refine post_ret ?_)
      | (with_reducible refine post_normal ?_)
      | (with_reducible refine awp_block ?_)
      | (with_reducible refine v_reg [] (fun K hK => ?_))
      | (with_reducible refine v_reg1 [] (fun K hK => ?_))
      | (with_reducible refine v_draw mixed [] [] (by kernel_rfl) (fun K hK => ?_))
      | (with_reducible refine v_draw1 mixed [] [] (by kernel_rfl) (fun K hK => ?_))
      | (with_reducible refine ev_nil (hK _ _ ?_); clear hK K)
      | (with_reducible refine ed_nil (hK _ _ ?_); clear hK K)
      | ((first | with_reducible refine ev_cons (fun K' hK' => ?_) | with_reducible refine ed_cons (fun K' hK' => ?_) | (with_reducible refine ev_id ?_; refine ev_guard rfl (fun K' hK' => ?_)) | (with_reducible refine ed_id ?_; refine ed_guard rfl (fun K' hK' => ?_))); simp [h8, h7, hlt, hlen]; repeat' (first | (with_reducible refine hK' _ _ ?_; clear hK' K') | (with_reducible refine And.intro ?_ ?_) | (with_reducible intro hg) | (clear hK' K'; omega)))
      | (with_reducible refine w_cond (fun A B hA hB => ?_); simp [h8, h7, hlt, hlen]; repeat' (first | (with_reducible refine hA ?_; clear hA hB A B) | (with_reducible refine hB ?_; clear hA hB A B) | (with_reducible refine And.intro ?_ ?_) | (with_reducible intro hc)))
      | (with_reducible refine awp_seq ?_))
    exact ⟨⟨m + min m (n - m), by omega, by omega, by simp, by simp [h7], by rw [hs]; simp⟩, by simp; omega⟩
  · have : m = n := by omega
    subst this
    repeat' (first
      | (with_reducible refine awp_skip ?_)
      | (with_reducible refine then_any ?_)
      | (with_reducible refine then_ret ?_)
      | (with_reducible refine then_exit ?_)
      | (with_reducible refine inBlock_normal ?_)
      | (with_reducible refine inBlock_ret ?_)
      | (with_reducible refine inBlock_hit ?_)
      | (with_reducible refine inBlock_miss (by decide) ?_)
      | (with_reducible refine awp_ret ?_)
      | (with_reducible refine awp_exit ?_)
      | (with_reducible refine post_ret ?_)
      | (with_reducible refine post_normal ?_)
      | (with_reducible refine awp_block ?_)
      | (with_reducible refine v_reg [] (fun K hK => ?_))
      | (with_reducible refine v_reg1 [] (fun K hK => ?_))
      | (with_reducible refine v_draw mixed [] [] (by kernel_rfl) (fun K hK => ?_))
      | (with_reducible refine v_draw1 mixed [] [] (by kernel_rfl) (fun K hK => ?_))
      | (with_reducible refine ev_nil (hK _ _ ?_); clear hK K)
      | (with_reducible refine ed_nil (hK _ _ ?_); clear hK K)
      | ((first | with_reducible refine ev_cons (fun K' hK' => ?_) | with_reducible refine ed_cons (fun K' hK' => ?_) | (with_reducible refine ev_id ?_; refine ev_guard rfl (fun K' hK' => ?_)) | (with_reducible refine ed_id ?_; refine ed_guard rfl (fun K' hK' => ?_))); simp [h8, h7]; repeat' (first | (with_reducible refine hK' _ _ ?_; clear hK' K') | (with_reducible refine And.intro ?_ ?_) | (with_reducible intro hg) | (clear hK' K'; omega)))
      | (with_reducible refine w_cond (fun A B hA hB => ?_); simp [h8, h7]; repeat' (first | (with_reducible refine hA ?_; clear hA hB A B) | (with_reducible refine hB ?_; clear hA hB A B) | (with_reducible refine And.intro ?_ ?_) | (with_reducible intro hc)))
      | (with_reducible refine awp_seq ?_))
    exact ⟨r, hr, by simp, by simp⟩
end Go.Am
namespace Go.Am
open Go Go.Proofs
set_option linter.unusedVariables false
set_option linter.unusedSimpArgs false
variable {w0 : World}
attribute [local irreducible] AWP ACalls
attribute [local congr] acalls_congr
def labI (n : Nat) (f : Int → Int) : List AV := (upto n).map fun x => I (f x)
theorem labI_length (n : Nat) (f : Int → Int) : (labI n f).length = n := by simp [labI]
theorem labI_at {n : Nat} {f : Int → Int} {x : Int} (h0 : 0 ≤ x) (h : x.toNat < (labI n f).length) : (labI n f)[x.toNat] = I (f x) := by
  simp only [labI, List.getElem_map, upto_get]
  rw [show ((x.toNat : Nat) : Int) = x by omega]
theorem labI_set {n : Nat} {f : Int → Int} {w x : Int} (h0 : 0 ≤ w) : (labI n f).set w.toNat (I x) = labI n (fun y => if y = w then x else f y) := by
  refine List.ext_getElem? fun i => ?_
  rw [List.getElem?_set, labI_length]
  simp only [labI, List.getElem?_map]
  by_cases hi : i < n
  · have hu : (upto n)[i]? = some (i : Int) := by rw [List.getElem?_eq_getElem (by simpa using hi), upto_get]
    rw [hu]
    simp only [Option.map_some]
    by_cases e : w.toNat = i
    · rw [if_pos e, if_pos (by omega), if_pos (by omega)]
    · rw [if_neg e, if_neg (by omega)]
  · have hu : (upto n)[i]? = none := List.getElem?_eq_none (by simpa using hi)
    rw [hu]
    by_cases e : w.toNat = i
    · rw [if_pos e, if_neg (by omega)]; rfl
    · rw [if_neg e]; rfl
end Go.Am
namespace Go.Am
set_option linter.unusedVariables false
section
variable {a b c : List Int} (ha : IsSet a) (hb : IsSet b) (hc : IsSet c)
include ha hb
theorem IsSet.union : IsSet (unionL a b) := (unionL_spec ha hb).1
include hc
omit hc
end
end Go.Am
namespace Go.Am
set_option linter.unusedVariables false
def nbM (adj : List (List Int)) (i : Int) : List Int := adj.getD i.toNat []
structure GrM (m : Nat) (adj : List (List Int)) : Prop where
  nle : adj.length ≤ 64
  mle : m ≤ 64
  set : ∀ l ∈ adj, IsSet l
  lt : ∀ l ∈ adj, ∀ x ∈ l, 0 ≤ x ∧ x < m
theorem GrM.nb {m : Nat} {adj : List (List Int)} (h : GrM m adj) {i x : Int} (hx : x ∈ nbM adj i) : 0 ≤ x ∧ x < m := by
  unfold nbM at hx
  rw [List.getD_eq_getElem?_getD] at hx
  cases hl : adj[i.toNat]? with
  | none => rw [hl] at hx; simp at hx
  | some l =>
    rw [hl] at hx
    exact h.lt l (List.mem_of_getElem? hl) x hx
structure Good (m : Nat) (adj : List (List Int)) (f g : Int → Int) : Prop where
  l : ∀ i : Int, 0 ≤ i → i < adj.length → f i = -1 ∨ (f i ∈ nbM adj i ∧ g (f i) = i)
  r : ∀ k : Int, 0 ≤ k → k < m → g k = -1 ∨ (0 ≤ g k ∧ g k < adj.length ∧ f (g k) = k)
def Closed (adj : List (List Int)) (g : Int → Int) (Z : Int → Prop) : Prop := ∀ k, Z k → g k ≠ -1 ∧ ∀ y ∈ nbM adj (g k), Z y
structure RF (adj : List (List Int)) (g : Int → Int) (s s' : Int → Bool) : Prop where
  le : ∀ k, s k = true → s' k = true
  new : ∀ k, s' k = true → s k = false → g k ≠ -1 ∧ ∀ y ∈ nbM adj (g k), s' y = true
theorem RF.refl (adj : List (List Int)) (g : Int → Int) (s : Int → Bool) : RF adj g s s := ⟨fun _ h => h, fun k h h' => by rw [h] at h'; cases h'⟩
def setF {α : Type} (f : Int → α) (x : Int) (v : α) : Int → α := fun y => if y = x then v else f y
theorem setF_same {α : Type} (f : Int → α) (x : Int) (v : α) : setF f x v x = v := by simp [setF]
theorem setF_ne {α : Type} (f : Int → α) {x y : Int} (v : α) (h : y ≠ x) : setF f x v y = f y := by simp [setF, h]
theorem RF.step {adj : List (List Int)} {g : Int → Int} {s s1 s2 : Int → Bool} {k : Int} (h : RF adj g s s1) (hk : s1 k = false) (hg : g k ≠ -1) (h2 : RF adj g (setF s1 k true) s2) (hn : ∀ y ∈ nbM adj (g k), s2 y = true) : RF adj g s s2 := by
  have hle : ∀ j, s1 j = true → s2 j = true := fun j hj => h2.le j (by by_cases e : j = k; (· subst e; exact setF_same _ _ _); (· rw [setF_ne _ _ e]; exact hj))
  refine ⟨fun j hj => hle j (h.le j hj), fun j hj hj0 => ?_⟩
  by_cases e : j = k
  · subst e; exact ⟨hg, hn⟩
  · by_cases h1 : s1 j = true
    · obtain ⟨a, b⟩ := h.new j h1 hj0
      exact ⟨a, fun y hy => hle y (b y hy)⟩
    · exact h2.new j hj (by rw [setF_ne _ _ e]; simpa using h1)
structure RT (m : Nat) (adj : List (List Int)) (i : Int) (f g : Int → Int) (s : Int → Bool) (f' g' : Int → Int) (s' : Int → Bool) : Prop where
  le : ∀ k, s k = true → s' k = true
  keep : ∀ k, s k = true → g' k = g k
  good : Good m adj f' (fun k => if f i ≠ -1 ∧ k = f i then -1 else g' k)
  has : f' i ≠ -1
  same : ∀ j : Int, 0 ≤ j → j < adj.length → j ≠ i → (f' j = -1 ↔ f j = -1)
  closed : ∀ Z, Closed adj g Z → (∀ k, Z k → g' k = g k) ∧ ¬ ∀ y ∈ nbM adj i, Z y
end Go.Am
namespace Go.Am
set_option linter.unusedVariables false
structure MInv (m : Nat) (adj : List (List Int)) (i : Nat) (f g : Int → Int) : Prop where
  good : Good m adj f g
  later : ∀ j : Int, (i : Int) ≤ j → j < adj.length → f j = -1
  why : ∃ Z, Closed adj g Z ∧ ∀ j : Int, 0 ≤ j → j < i → f j = -1 → ∀ y ∈ nbM adj j, Z y
theorem MInv.start (m : Nat) (adj : List (List Int)) : MInv m adj 0 (fun _ => -1) (fun _ => -1) :=
  ⟨⟨fun _ _ _ => .inl rfl, fun _ _ _ => .inl rfl⟩, fun _ _ _ => rfl, fun _ => False, fun _ h => h.elim, fun j h0 h1 => by omega⟩
section
variable {m : Nat} {adj : List (List Int)} {i : Nat} {f g : Int → Int} {s' : Int → Bool}
theorem MInv.no (h : MInv m adj i f g) (hi : i < adj.length) (r : RF adj g (fun _ => false) s') (hn : ∀ y ∈ nbM adj i, s' y = true) : MInv m adj (i + 1) f g := by
  obtain ⟨Z, z1, z2⟩ := h.why
  refine ⟨h.good, fun j a b => h.later j (by omega) b, fun k => Z k ∨ s' k = true, fun k hk => ?_, fun j a b c y hy => ?_⟩
  · rcases hk with hk | hk
    · exact ⟨(z1 k hk).1, fun y hy => .inl ((z1 k hk).2 y hy)⟩
    · obtain ⟨p, q⟩ := r.new k hk rfl
      exact ⟨p, fun y hy => .inr (q y hy)⟩
  · by_cases e : j = i
    · subst e; exact .inr (hn y hy)
    · exact .inl (z2 j a (by omega) c y hy)
theorem MInv.yes {f' g' : Int → Int} (h : MInv m adj i f g) (hi : i < adj.length) (r : RT m adj i f g (fun _ => false) f' g' s') : MInv m adj (i + 1) f' g' := by
  obtain ⟨Z, z1, z2⟩ := h.why
  have hfi := h.later i (Int.le_refl _) (by omega)
  have hg := r.good
  have e : (fun k => if f i ≠ -1 ∧ k = f i then -1 else g' k) = g' := by
    funext k
    rw [if_neg (fun h => h.1 hfi)]
  rw [e] at hg
  have hz := (r.closed Z z1).1
  refine ⟨hg, fun j a b => (r.same j (by omega) b (by omega)).2 (h.later j (by omega) b), Z, fun k hk => ?_, fun j a b c y hy => ?_⟩
  · rw [hz k hk]; exact z1 k hk
  · have hji : j ≠ i := fun e => by subst e; exact r.has c
    exact z2 j a (by omega) ((r.same j a (by omega) hji).1 c) y hy
end
def cntM (n : Nat) (f : Int → Int) : Nat := (upto n).countP fun j => decide (f j ≠ -1)
structure Mtc (adj : List (List Int)) (f : Int → Int) : Prop where
  nb : ∀ i : Int, 0 ≤ i → i < adj.length → f i ≠ -1 → f i ∈ nbM adj i
  inj : ∀ i j : Int, 0 ≤ i → i < adj.length → 0 ≤ j → j < adj.length → f i ≠ -1 → f i = f j → i = j
theorem Good.mtc {m : Nat} {adj : List (List Int)} {f g : Int → Int} (h : Good m adj f g) : Mtc adj f := by
  refine ⟨fun i a b c => ?_, fun i j a b a' b' c e => ?_⟩
  · rcases h.l i a b with x | x
    · exact absurd x c
    · exact x.1
  · rcases h.l i a b with x | x
    · exact absurd x c
    rcases h.l j a' b' with y | y
    · rw [e] at c; exact absurd y c
    rw [← x.2, e, y.2]
structure Cv (m : Nat) (adj : List (List Int)) (l r : List Int) : Prop where
  lset : IsSet l
  rset : IsSet r
  llt : ∀ x ∈ l, x < adj.length
  rlt : ∀ x ∈ r, x < m
  cover : ∀ i : Int, 0 ≤ i → i < adj.length → i ∉ l → ∀ y ∈ nbM adj i, y ∈ r
theorem nodup_le : ∀ (A B : List Int), A.Nodup → (∀ x ∈ A, x ∈ B) → A.length ≤ B.length := by
  intro A
  induction A with
  | nil => intro B _ _; simp
  | cons x A ih =>
    intro B hn hs
    have hx : x ∈ B := hs x (by simp)
    have h1 := ih (B.erase x) (List.nodup_cons.1 hn).2 fun y hy => by
      have hne : y ≠ x := fun e => by subst e; exact (List.nodup_cons.1 hn).1 hy
      exact (List.mem_erase_of_ne hne).2 (hs y (by simp [hy]))
    rw [List.length_erase_of_mem hx] at h1
    have := List.length_pos_of_mem hx
    simp only [List.length_cons]
    omega
theorem nodup_upto (n : Nat) : (upto n).Nodup := (up_upto n).imp fun h e => by omega
theorem nodup_mapF {A : List Int} {f : Int → Int} (h : A.Nodup) (hi : ∀ x ∈ A, ∀ y ∈ A, f x = f y → x = y) : (A.map f).Nodup := by
  induction A with
  | nil => simp
  | cons x A ih =>
    rw [List.map_cons, List.nodup_cons]
    refine ⟨fun hm => ?_, ih (List.nodup_cons.1 h).2 fun a ha b hb => hi a (by simp [ha]) b (by simp [hb])⟩
    obtain ⟨y, hy, e⟩ := List.mem_map.1 hm
    have := hi y (by simp [hy]) x (by simp) e
    subst this
    exact (List.nodup_cons.1 h).1 hy
theorem cnt_split (p q : Int → Bool) (l : List Int) : l.countP p = (l.filter fun x => p x && q x).length + (l.filter fun x => p x && !q x).length := by
  induction l with
  | nil => rfl
  | cons x l ih =>
    rw [List.countP_cons, List.filter_cons, List.filter_cons, ih]
    cases p x <;> cases q x <;> simp <;> omega
theorem Mtc.le {m : Nat} {adj : List (List Int)} {f : Int → Int} {l r : List Int} (h : Mtc adj f) (c : Cv m adj l r) : cntM adj.length f ≤ l.length + r.length := by
  unfold cntM
  rw [cnt_split _ (fun x => decide (x ∈ l))]
  refine Nat.add_le_add ?_ ?_
  · refine nodup_le _ _ ((nodup_upto _).filter _) fun x hx => ?_
    have := (List.mem_filter.1 hx).2
    simp at this; exact this.2
  · have hm : ∀ x ∈ (upto adj.length).filter (fun x => decide (f x ≠ -1) && !decide (x ∈ l)), 0 ≤ x ∧ x < adj.length ∧ f x ≠ -1 ∧ x ∉ l := by
      intro x hx
      have h1 := mem_upto.1 (List.mem_filter.1 hx).1
      have h2 := (List.mem_filter.1 hx).2
      simp at h2
      exact ⟨h1.1, h1.2, h2.1, h2.2⟩
    rw [← List.length_map (f := f)]
    refine nodup_le _ _ (nodup_mapF ((nodup_upto _).filter _) fun x hx y hy e => ?_) fun x hx => ?_
    · obtain ⟨a, b, c1, _⟩ := hm x hx
      obtain ⟨a', b', _, _⟩ := hm y hy
      exact h.inj x y a b a' b' c1 e
    · obtain ⟨y, hy, rfl⟩ := List.mem_map.1 hx
      obtain ⟨a, b, c1, c2⟩ := hm y hy
      exact c.cover y a b c2 _ (h.nb y a b c1)
structure Rch (m : Nat) (adj : List (List Int)) (f g : Int → Int) (rd s : Int → Bool) : Prop where
  none : ∀ j : Int, 0 ≤ j → j < adj.length → f j = -1 → rd j = true ∧ ∀ y ∈ nbM adj j, s y = true
  only : ∀ j : Int, 0 ≤ j → j < adj.length → rd j = true → f j = -1 ∨ ∃ k : Int, 0 ≤ k ∧ k < m ∧ s k = true ∧ g k = j
  seen : ∀ k : Int, 0 ≤ k → k < m → s k = true → g k ≠ -1 ∧ rd (g k) = true ∧ ∀ y ∈ nbM adj (g k), s y = true
theorem Rch.cover {m : Nat} {adj : List (List Int)} {f g : Int → Int} {rd s : Int → Bool} (hG : GrM m adj) (hf : Good m adj f g) (h : Rch m adj f g rd s) :
    Cv m adj ((upto adj.length).filter fun i => !rd i) ((upto m).filter s) ∧ ((upto adj.length).filter fun i => !rd i).length + ((upto m).filter s).length = cntM adj.length f := by
  have hnl := hG.nle
  have hml := hG.mle
  refine ⟨⟨(isSet_upto (by omega)).filter _, (isSet_upto (by omega)).filter _, fun x hx => (mem_upto.1 (List.mem_filter.1 hx).1).2, fun x hx => (mem_upto.1 (List.mem_filter.1 hx).1).2, fun i a b c y hy => ?_⟩, ?_⟩
  · have hr : rd i = true := by
      cases e : rd i with
      | true => rfl
      | false => exact absurd (List.mem_filter.2 ⟨mem_upto.2 ⟨a, b⟩, by simp [e]⟩) c
    have hy2 := hG.nb hy
    refine List.mem_filter.2 ⟨mem_upto.2 hy2, ?_⟩
    rcases h.only i a b hr with h1 | ⟨k, k0, km, hs, rfl⟩
    · exact (h.none i a b h1).2 y hy
    · exact (h.seen k k0 km hs).2.2 y hy
  · rw [cntM, cnt_split _ rd]
    have e1 : ((upto adj.length).filter fun x => decide (f x ≠ -1) && !rd x) = (upto adj.length).filter fun i => !rd i := by
      refine List.filter_congr fun x hx => ?_
      obtain ⟨a, b⟩ := mem_upto.1 hx
      cases e : rd x with
      | true => simp
      | false =>
        have : f x ≠ -1 := fun h1 => by rw [(h.none x a b h1).1] at e; cases e
        simp [this]
    rw [e1, Nat.add_comm]
    congr 1
    have hs : ∀ k ∈ (upto m).filter s, 0 ≤ k ∧ k < m ∧ s k = true := fun k hk => ⟨(mem_upto.1 (List.mem_filter.1 hk).1).1, (mem_upto.1 (List.mem_filter.1 hk).1).2, (List.mem_filter.1 hk).2⟩
    have hg : ∀ k ∈ (upto m).filter s, 0 ≤ g k ∧ g k < adj.length ∧ f (g k) = k := by
      intro k hk
      obtain ⟨a, b, c⟩ := hs k hk
      rcases hf.r k a b with h1 | h1
      · exact absurd h1 (h.seen k a b c).1
      · exact h1
    refine Nat.le_antisymm ?_ ?_
    · rw [← List.length_map (f := g)]
      refine nodup_le _ _ (nodup_mapF ((nodup_upto _).filter _) fun x hx y hy e => ?_) fun x hx => ?_
      · rw [← (hg x hx).2.2, e, (hg y hy).2.2]
      · obtain ⟨k, hk, rfl⟩ := List.mem_map.1 hx
        obtain ⟨a, b, c⟩ := hs k hk
        obtain ⟨a', b', c'⟩ := hg k hk
        refine List.mem_filter.2 ⟨mem_upto.2 ⟨a', b'⟩, ?_⟩
        rw [(h.seen k a b c).2.1, c']
        simp; omega
    · have hm : ∀ x ∈ (upto adj.length).filter (fun x => decide (f x ≠ -1) && rd x), 0 ≤ x ∧ x < adj.length ∧ f x ≠ -1 ∧ rd x = true := by
        intro x hx
        have h1 := mem_upto.1 (List.mem_filter.1 hx).1
        have h2 := (List.mem_filter.1 hx).2
        simp at h2
        exact ⟨h1.1, h1.2, h2.1, h2.2⟩
      have hlm : (((upto adj.length).filter fun x => decide (f x ≠ -1) && rd x).map f).length = ((upto adj.length).filter fun x => decide (f x ≠ -1) && rd x).length := List.length_map f
      rw [← hlm]
      refine nodup_le _ _ (nodup_mapF ((nodup_upto _).filter _) fun x hx y hy e => ?_) fun x hx => ?_
      · obtain ⟨a, b, c, _⟩ := hm x hx
        obtain ⟨a', b', _, _⟩ := hm y hy
        exact hf.mtc.inj x y a b a' b' c e
      · obtain ⟨y, hy, rfl⟩ := List.mem_map.1 hx
        obtain ⟨a, b, c, d⟩ := hm y hy
        rcases h.only y a b d with h1 | ⟨k, k0, km, hk, rfl⟩
        · exact absurd h1 c
        · have := hg k (List.mem_filter.2 ⟨mem_upto.2 ⟨k0, km⟩, hk⟩)
          rw [this.2.2]
          exact List.mem_filter.2 ⟨mem_upto.2 ⟨k0, km⟩, hk⟩
end Go.Am
namespace Go.Am
set_option linter.unusedVariables false
structure WQ (m : Nat) (adj : List (List Int)) (g : Int → Int) (i : Int) (q : Nat) (s rd s' rd' : Int → Bool) : Prop where
  le : ∀ k, s k = true → s' k = true
  rle : ∀ j, rd j = true → rd' j = true
  me : rd' i = true
  nb : ∀ y ∈ (nbM adj i).take q, s' y = true
  only : ∀ j, rd' j = true → rd j = true ∨ j = i ∨ ∃ k, s' k = true ∧ s k = false ∧ g k = j
  new : ∀ k, s' k = true → s k = false → 0 ≤ k ∧ k < m ∧ g k ≠ -1 ∧ rd' (g k) = true ∧ ∀ y ∈ nbM adj (g k), s' y = true
section
variable {m : Nat} {adj : List (List Int)} {g : Int → Int} {i : Int} {q : Nat} {s rd s1 rd1 s2 rd2 : Int → Bool}
theorem WQ.start : WQ m adj g i 0 s rd s (setF rd i true) := by
  refine ⟨fun _ h => h, fun j h => ?_, setF_same _ _ _, by simp, fun j h => ?_, fun k h h' => by rw [h] at h'; cases h'⟩
  · by_cases e : j = i
    · subst e; exact setF_same _ _ _
    · rw [setF_ne _ _ e]; exact h
  · by_cases e : j = i
    · exact .inr (.inl e)
    · rw [setF_ne _ _ e] at h; exact .inl h
theorem take_new {l : List Int} {k : Int} (hq : q < l.length) (hk : k = l[q]) {s : Int → Bool} (h : ∀ y ∈ l.take q, s y = true) (hs : s k = true) : ∀ y ∈ l.take (q + 1), s y = true := by
  intro y hy
  rw [List.take_succ_eq_append_getElem hq, List.mem_append, List.mem_singleton] at hy
  rcases hy with hy | rfl
  · exact h y hy
  · rw [← hk]; exact hs
theorem WQ.seen (h : WQ m adj g i q s rd s1 rd1) (hq : q < (nbM adj i).length) {k : Int} (hk : k = (nbM adj i)[q]) (hs : s1 k = true) : WQ m adj g i (q + 1) s rd s1 rd1 :=
  ⟨h.le, h.rle, h.me, take_new hq hk h.nb hs, h.only, h.new⟩
theorem WQ.go (h : WQ m adj g i q s rd s1 rd1) (hq : q < (nbM adj i).length) {k : Int} (hk : k = (nbM adj i)[q]) (h0 : 0 ≤ k) (hm : k < m) (hs : s1 k = false) (hg : g k ≠ -1)
    (h2 : WQ m adj g (g k) (nbM adj (g k)).length (setF s1 k true) rd1 s2 rd2) : WQ m adj g i (q + 1) s rd s2 rd2 := by
  have hup : ∀ j, s1 j = true → s2 j = true := fun j hj => h2.le j (by by_cases e : j = k; (· subst e; exact setF_same _ _ _); (· rw [setF_ne _ _ e]; exact hj))
  have hk2 : s2 k = true := h2.le k (setF_same _ _ _)
  have hsk : s k = false := by
    cases e : s k with
    | false => rfl
    | true => rw [h.le k e] at hs; cases hs
  have hnb := h2.nb
  rw [List.take_length] at hnb
  refine ⟨fun j hj => hup j (h.le j hj), fun j hj => h2.rle j (h.rle j hj), h2.rle i h.me, take_new hq hk (fun y hy => hup y (h.nb y hy)) hk2, fun j hj => ?_, fun j hj hj0 => ?_⟩
  · rcases h2.only j hj with h3 | h3 | ⟨k', a, b, c⟩
    · rcases h.only j h3 with h4 | h4 | ⟨k', a, b, c⟩
      · exact .inl h4
      · exact .inr (.inl h4)
      · exact .inr (.inr ⟨k', hup k' a, b, c⟩)
    · exact .inr (.inr ⟨k, hk2, hsk, h3.symm⟩)
    · refine .inr (.inr ⟨k', a, ?_, c⟩)
      by_cases e : k' = k
      · subst e; exact hsk
      · rw [setF_ne _ _ e] at b
        cases e2 : s k' with
        | false => rfl
        | true => rw [h.le k' e2] at b; cases b
  · by_cases e : j = k
    · subst e; exact ⟨h0, hm, hg, h2.me, hnb⟩
    · cases e1 : s1 j with
      | true =>
        obtain ⟨a, b, c, d, f⟩ := h.new j e1 hj0
        exact ⟨a, b, c, h2.rle _ d, fun y hy => hup y (f y hy)⟩
      | false => exact h2.new j hj (by rw [setF_ne _ _ e]; exact e1)
structure CI (m : Nat) (adj : List (List Int)) (f g : Int → Int) (q : Nat) (rd s : Int → Bool) : Prop where
  none : ∀ j : Int, 0 ≤ j → j < q → f j = -1 → rd j = true ∧ ∀ y ∈ nbM adj j, s y = true
  only : ∀ j : Int, rd j = true → (f j = -1 ∧ ∀ y ∈ nbM adj j, s y = true) ∨ ∃ k : Int, 0 ≤ k ∧ k < m ∧ s k = true ∧ g k = j
  seen : ∀ k : Int, s k = true → 0 ≤ k ∧ k < m ∧ g k ≠ -1 ∧ rd (g k) = true ∧ ∀ y ∈ nbM adj (g k), s y = true
theorem CI.start {f : Int → Int} : CI m adj f g 0 (fun _ => false) (fun _ => false) := ⟨fun j a b => by omega, fun j h => (Bool.false_ne_true h).elim, fun k h => (Bool.false_ne_true h).elim⟩
theorem CI.go {f : Int → Int} (h : CI m adj f g q rd s) (hq : f q = -1) (w : WQ m adj g q (nbM adj q).length s rd s1 rd1) : CI m adj f g (q + 1) rd1 s1 := by
  have hnb := w.nb
  rw [List.take_length] at hnb
  refine ⟨fun j a b c => ?_, fun j hj => ?_, fun k hk => ?_⟩
  · by_cases e : j = q
    · subst e; exact ⟨w.me, hnb⟩
    · obtain ⟨p, r⟩ := h.none j a (by omega) c
      exact ⟨w.rle j p, fun y hy => w.le y (r y hy)⟩
  · rcases w.only j hj with h1 | h1 | ⟨k, a, b, c⟩
    · rcases h.only j h1 with ⟨h2, h3⟩ | ⟨k, a1, a2, a3, a4⟩
      · exact .inl ⟨h2, fun y hy => w.le y (h3 y hy)⟩
      · exact .inr ⟨k, a1, a2, w.le k a3, a4⟩
    · subst h1; exact .inl ⟨hq, hnb⟩
    · obtain ⟨x, y, _⟩ := w.new k a b
      exact .inr ⟨k, x, y, a, c⟩
  · cases e : s k with
    | true =>
      obtain ⟨a, b, c, d, x⟩ := h.seen k e
      exact ⟨a, b, c, w.rle _ d, fun y hy => w.le y (x y hy)⟩
    | false => exact w.new k hk e
end
end Go.Am
namespace Go.Am
set_option linter.unusedVariables false
end Go.Am
namespace Go.Am
open Go Go.Proofs
set_option linter.unusedVariables false
set_option linter.unusedSimpArgs false
variable {w0 : World}
attribute [local irreducible] AWP ACalls
attribute [local congr] acalls_congr
def labB (n : Nat) (s : Int → Bool) : List AV := (upto n).map fun x => B (s x)
theorem labB_length (n : Nat) (s : Int → Bool) : (labB n s).length = n := by simp [labB]
theorem labB_at {n : Nat} {s : Int → Bool} {x : Int} (h0 : 0 ≤ x) (h : x.toNat < (labB n s).length) : (labB n s)[x.toNat] = B (s x) := by
  simp only [labB, List.getElem_map, upto_get]
  rw [show ((x.toNat : Nat) : Int) = x by omega]
theorem labB_set {n : Nat} {s : Int → Bool} {w : Int} {x : Bool} (h0 : 0 ≤ w) : (labB n s).set w.toNat (B x) = labB n (setF s w x) := by
  refine List.ext_getElem? fun i => ?_
  rw [List.getElem?_set, labB_length]
  simp only [labB, List.getElem?_map]
  by_cases hi : i < n
  · have hu : (upto n)[i]? = some (i : Int) := by rw [List.getElem?_eq_getElem (by simpa using hi), upto_get]
    rw [hu]
    simp only [Option.map_some, setF]
    by_cases e : w.toNat = i
    · rw [if_pos e, if_pos (by omega), if_pos (by omega)]
    · rw [if_neg e, if_neg (by omega)]
  · have hu : (upto n)[i]? = none := List.getElem?_eq_none (by simpa using hi)
    rw [hu]
    by_cases e : w.toNat = i
    · rw [if_pos e, if_neg (by omega)]; rfl
    · rw [if_neg e]; rfl
theorem labI_setF {n : Nat} {f : Int → Int} {w x : Int} (h0 : 0 ≤ w) : (labI n f).set w.toNat (I x) = labI n (setF f w x) := labI_set h0
def ms (H : Heap) (F L R S : Nat) (adj : List (List Int)) (m : Nat) (f g : Int → Int) (s : Int → Bool) : Heap :=
  upd (upd (upd (upd H L (some (.arr 1 3 (labI adj.length f) adj.length))) R (some (.arr 1 3 (labI m g) m))) F (some (.box [rows adj, .ref L 0 adj.length adj.length, .ref R 0 m m, .ref S 0 m m]))) S (some (.arr 1 4 (labB m s) m))
structure Ds (F L R S : Nat) : Prop where
  lr : L ≠ R
  lf : L ≠ F
  ls : L ≠ S
  rf : R ≠ F
  rs : R ≠ S
  fs : F ≠ S
def unseen (m : Nat) (s : Int → Bool) : Nat := (upto m).countP fun k => !s k
theorem unseen_lt {m : Nat} {s : Int → Bool} {k : Int} (h0 : 0 ≤ k) (hm : k < m) (h : s k = false) : unseen m (setF s k true) < unseen m s := by
  unfold unseen
  have hk : k ∈ upto m := mem_upto.2 ⟨h0, hm⟩
  generalize upto m = l at hk
  induction l with
  | nil => cases hk
  | cons x l ih =>
    have hle : (l.countP fun y => !setF s k true y) ≤ l.countP fun y => !s y := by
      refine List.countP_mono_left fun y _ hy => ?_
      by_cases e : y = k
      · subst e; simp [setF_same] at hy
      · simpa [setF_ne _ _ e] using hy
    rw [List.countP_cons, List.countP_cons]
    by_cases e : x = k
    · subst e
      simp [setF_same, h]
      omega
    · have hk' : k ∈ l := by
        rcases List.mem_cons.1 hk with h | h
        · exact absurd h.symm e
        · exact h
      have := ih hk'
      rw [setF_ne _ _ e]
      omega
end Go.Am
namespace Go.Am
open Go Go.Proofs
set_option linter.unusedVariables false
set_option linter.unusedSimpArgs false
variable {w0 : World}
attribute [local irreducible] AWP ACalls
attribute [local congr] acalls_congr
theorem labI_rep (n : Nat) (x : Int) : (List.replicate n x).map I = labI n (fun _ => x) := by
  rw [labI, List.map_replicate]
  have : (upto n).length = n := upto_length n
  generalize upto n = l at this
  subst this
  induction l with
  | nil => rfl
  | cons a l ih => simp only [List.length_cons, List.replicate_succ, List.map_cons, ih]
theorem labB_rep (n : Nat) (x : Bool) : List.replicate n (B x) = labB n (fun _ => x) := by
  rw [labB]
  have : (upto n).length = n := upto_length n
  generalize upto n = l at this
  subst this
  induction l with
  | nil => rfl
  | cons a l ih => simp only [List.length_cons, List.replicate_succ, List.map_cons, ih]
def mf (H : Heap) (F L R : Nat) (adj : List (List Int)) (m : Nat) (f g : Int → Int) (z : AV) : Heap :=
  upd (upd (upd H L (some (.arr 1 3 (labI adj.length f) adj.length))) R (some (.arr 1 3 (labI m g) m))) F (some (.box [rows adj, .ref L 0 adj.length adj.length, .ref R 0 m m, z]))
structure Dt (H : Heap) (F L R : Nat) : Prop where
  lr : L ≠ R
  lf : L ≠ F
  rf : R ≠ F
  hF : H F = none
  hL : H L = none
  hR : H R = none
section
variable {H : Heap} {F L R S m : Nat} {adj : List (List Int)} {f g : Int → Int} {s : Int → Bool} {z : AV} (d : Dt H F L R)
include d
theorem mf_none (h : mf H F L R adj m f g z S = none) : S ≠ F ∧ S ≠ L ∧ S ≠ R ∧ H S = none := by
  unfold mf at h
  by_cases e1 : S = F
  · subst e1; simp [upd_same] at h
  rw [upd_ne _ _ _ e1] at h
  by_cases e2 : S = R
  · subst e2; simp [upd_same] at h
  rw [upd_ne _ _ _ e2] at h
  by_cases e3 : S = L
  · subst e3; simp [upd_same] at h
  rw [upd_ne _ _ _ e3] at h
  exact ⟨e1, e3, e2, h⟩
theorem Dt.ds (h : mf H F L R adj m f g z S = none) : Ds F L R S := by
  obtain ⟨a, b, c, e⟩ := mf_none d h
  exact ⟨d.lr, d.lf, Ne.symm b, d.rf, Ne.symm c, Ne.symm a⟩
end
end Go.Am
namespace Go.Am
open Go Go.Proofs
set_option linter.unusedVariables false
set_option linter.unusedSimpArgs false
variable {w0 : World}
attribute [local irreducible] AWP ACalls
attribute [local congr] acalls_congr
theorem len64_zero : Ret Try.prog w0 101 [.sc (.int .u64 0)] (I 0) := by
  intro H
  refine w_enter Try.func101 rfl Try.ntmps101 (ts := [2]) rfl (by simp) (by kernel_rfl) ?_
  repeat' (first
    | (with_reducible refine awp_skip ?_)
    | (with_reducible refine then_any ?_)
    | (with_reducible refine then_ret ?_)
    | (with_reducible refine then_exit ?_)
    | (with_reducible refine inBlock_normal ?_)
    | (with_reducible refine inBlock_ret ?_)
    | (with_reducible refine inBlock_hit ?_)
    | (with_reducible refine inBlock_miss (by decide) ?_)
    | (with_reducible refine awp_ret ?_)
    | (with_reducible refine awp_exit ?_)
    | (with_reducible refine post_ret ?_)
    | (with_reducible refine post_normal ?_)
    | (with_reducible refine awp_block ?_)
    | ((fail_if_success (with_reducible refine at_reg 10 ?_)); with_reducible refine v_reg [] (fun K hK => ?_))
    | (with_reducible refine v_reg1 [] (fun K hK => ?_))
    | ((fail_if_success (with_reducible refine at_reg 10 ?_)); with_reducible refine v_draw mixed [] [] (by kernel_rfl) (fun K hK => ?_))
    | (with_reducible refine v_draw1 mixed [] [] (by kernel_rfl) (fun K hK => ?_))
    | (with_reducible refine ev_nil (hK _ _ ?_); clear hK K)
    | (with_reducible refine ed_nil (hK _ _ ?_); clear hK K)
    | ((first | with_reducible refine ev_cons (fun K' hK' => ?_) | with_reducible refine ed_cons (fun K' hK' => ?_) | (with_reducible refine ev_id ?_; refine ev_guard rfl (fun K' hK' => ?_)) | (with_reducible refine ed_id ?_; refine ed_guard rfl (fun K' hK' => ?_))); simp [IntKind.bits]; repeat' (first | (with_reducible refine hK' _ _ ?_; clear hK' K') | (with_reducible refine And.intro ?_ ?_) | (with_reducible intro hg) | (clear hK' K'; omega)))
    | (with_reducible refine w_cond (fun A B hA hB => ?_); simp [IntKind.bits]; repeat' (first | (with_reducible refine hA ?_; clear hA hB A B) | (with_reducible refine hB ?_; clear hA hB A B) | (with_reducible refine And.intro ?_ ?_) | (with_reducible intro hc)))
    | ((fail_if_success (with_reducible refine at_reg 10 ?_)); with_reducible refine awp_seq ?_))
  generalize hs : Value.string _ = v
  obtain ⟨s, rfl, h1, h2⟩ : ∃ s : ByteArray, v = .string s ∧ ∃ h : 0 < s.size, s[0] = 0 := ⟨_, hs.symm, by decide +kernel, by decide +kernel⟩
  clear hs
  have w8 : IntKind.u8.wrap 0 = 0 := by decide
  repeat' (first
    | (with_reducible refine awp_skip ?_)
    | (with_reducible refine then_any ?_)
    | (with_reducible refine then_ret ?_)
    | (with_reducible refine then_exit ?_)
    | (with_reducible refine inBlock_normal ?_)
    | (with_reducible refine inBlock_ret ?_)
    | (with_reducible refine inBlock_hit ?_)
    | (with_reducible refine inBlock_miss (by decide) ?_)
    | (with_reducible refine awp_ret ?_)
    | (with_reducible refine awp_exit ?_)
    | (with_reducible refine post_ret ?_)
    | (with_reducible refine post_normal ?_)
    | (with_reducible refine awp_block ?_)
    | (with_reducible refine v_reg [] (fun K hK => ?_))
    | (with_reducible refine v_reg1 [] (fun K hK => ?_))
    | (with_reducible refine v_draw mixed [] [] (by kernel_rfl) (fun K hK => ?_))
    | (with_reducible refine v_draw1 mixed [] [] (by kernel_rfl) (fun K hK => ?_))
    | (with_reducible refine ev_nil (hK _ _ ?_); clear hK K)
    | (with_reducible refine ed_nil (hK _ _ ?_); clear hK K)
    | ((first | with_reducible refine ev_cons (fun K' hK' => ?_) | with_reducible refine ed_cons (fun K' hK' => ?_) | (with_reducible refine ev_id ?_; refine ev_guard rfl (fun K' hK' => ?_)) | (with_reducible refine ed_id ?_; refine ed_guard rfl (fun K' hK' => ?_))); simp [IntKind.bits, h1, h2, w8]; repeat' (first | (with_reducible refine hK' _ _ ?_; clear hK' K') | (with_reducible refine And.intro ?_ ?_) | (with_reducible intro hg) | (clear hK' K'; omega)))
    | (with_reducible refine w_cond (fun A B hA hB => ?_); simp [IntKind.bits, h1, h2, w8]; repeat' (first | (with_reducible refine hA ?_; clear hA hB A B) | (with_reducible refine hB ?_; clear hA hB A B) | (with_reducible refine And.intro ?_ ?_) | (with_reducible intro hc)))
    | (with_reducible refine awp_seq ?_))
  simp
theorem len_zero : Ret Try.prog w0 73 [.sc (.int .u64 0)] (I 0) := by
  intro H
  refine w_enter Try.func73 rfl Try.ntmps73 (ts := [2]) rfl (by simp) (by kernel_rfl) ?_
  repeat' (first
    | (with_reducible refine awp_skip ?_)
    | (with_reducible refine then_any ?_)
    | (with_reducible refine then_ret ?_)
    | (with_reducible refine then_exit ?_)
    | (with_reducible refine inBlock_normal ?_)
    | (with_reducible refine inBlock_ret ?_)
    | (with_reducible refine inBlock_hit ?_)
    | (with_reducible refine inBlock_miss (by decide) ?_)
    | (with_reducible refine awp_ret ?_)
    | (with_reducible refine awp_exit ?_)
    | (with_reducible refine post_ret ?_)
    | (with_reducible refine post_normal ?_)
    | (with_reducible refine awp_block ?_)
    | (with_reducible refine v_reg [] (fun K hK => ?_))
    | (with_reducible refine v_reg1 [] (fun K hK => ?_))
    | (with_reducible refine v_draw mixed [] [] (by kernel_rfl) (fun K hK => ?_))
    | (with_reducible refine v_draw1 mixed [] [] (by kernel_rfl) (fun K hK => ?_))
    | (with_reducible refine ev_nil (hK _ _ ?_); clear hK K)
    | (with_reducible refine ed_nil (hK _ _ ?_); clear hK K)
    | ((first | with_reducible refine ev_cons (fun K' hK' => ?_) | with_reducible refine ed_cons (fun K' hK' => ?_) | (with_reducible refine ev_id ?_; refine ev_guard rfl (fun K' hK' => ?_)) | (with_reducible refine ed_id ?_; refine ed_guard rfl (fun K' hK' => ?_))); simp; repeat' (first | (with_reducible refine hK' _ _ ?_; clear hK' K') | (with_reducible refine Ret.use len64_zero ?_; try simp) | (with_reducible refine And.intro ?_ ?_) | (with_reducible intro hg) | (clear hK' K'; omega)))
    | (with_reducible refine w_cond (fun A B hA hB => ?_); simp; repeat' (first | (with_reducible refine hA ?_; clear hA hB A B) | (with_reducible refine hB ?_; clear hA hB A B) | (with_reducible refine And.intro ?_ ?_) | (with_reducible intro hc)))
    | (with_reducible refine awp_seq ?_))
  simp
theorem insertion_zero : Ret Try.prog w0 91 [.sl [] 0, I 0, I 0] (.tup []) := by
  intro H
  refine w_enter Try.func91 rfl Try.ntmps91 (ts := []) rfl (by simp) (by kernel_rfl) ?_
  repeat' (first
    | (with_reducible refine awp_skip ?_)
    | (with_reducible refine then_any ?_)
    | (with_reducible refine then_ret ?_)
    | (with_reducible refine then_exit ?_)
    | (with_reducible refine inBlock_normal ?_)
    | (with_reducible refine inBlock_ret ?_)
    | (with_reducible refine inBlock_hit ?_)
    | (with_reducible refine inBlock_miss (by decide) ?_)
    | (with_reducible refine awp_ret ?_)
    | (with_reducible refine awp_exit ?_)
    | (with_reducible refine post_ret ?_)
    | (with_reducible refine post_normal ?_)
    | (with_reducible refine awp_block ?_)
    | (with_reducible refine v_reg [] (fun K hK => ?_))
    | (with_reducible refine v_reg1 [] (fun K hK => ?_))
    | (with_reducible refine v_draw mixed [] [] (by kernel_rfl) (fun K hK => ?_))
    | (with_reducible refine v_draw1 mixed [] [] (by kernel_rfl) (fun K hK => ?_))
    | (with_reducible refine ev_nil (hK _ _ ?_); clear hK K)
    | (with_reducible refine ed_nil (hK _ _ ?_); clear hK K)
    | ((first | with_reducible refine ev_cons (fun K' hK' => ?_) | with_reducible refine ed_cons (fun K' hK' => ?_) | (with_reducible refine ev_id ?_; refine ev_guard rfl (fun K' hK' => ?_)) | (with_reducible refine ed_id ?_; refine ed_guard rfl (fun K' hK' => ?_))); simp; repeat' (first | (with_reducible refine hK' _ _ ?_; clear hK' K') | (with_reducible refine And.intro ?_ ?_) | (with_reducible intro hg) | (clear hK' K'; omega)))
    | (with_reducible refine w_cond (fun A B hA hB => ?_); simp; repeat' (first | (with_reducible refine hA ?_; clear hA hB A B) | (with_reducible refine hB ?_; clear hA hB A B) | (with_reducible refine And.intro ?_ ?_) | (with_reducible intro hc)))
    | (with_reducible refine awp_seq ?_))
  refine awp_loop (fun env h => env 6 = I 1 ∧ env 2 = I 0 ∧ h = H) (fun _ _ => 0) ?_ ?_
  · exact ⟨by simp, by simp, rfl⟩
  rintro env h ⟨h6, h2, rfl⟩
  repeat' (first
    | (with_reducible refine awp_skip ?_)
    | (with_reducible refine then_any ?_)
    | (with_reducible refine then_ret ?_)
    | (with_reducible refine then_exit ?_)
    | (with_reducible refine inBlock_normal ?_)
    | (with_reducible refine inBlock_ret ?_)
    | (with_reducible refine inBlock_hit ?_)
    | (with_reducible refine inBlock_miss (by decide) ?_)
    | (with_reducible refine awp_ret ?_)
    | (with_reducible refine awp_exit ?_)
    | (with_reducible refine post_ret ?_)
    | (with_reducible refine post_normal ?_)
    | (with_reducible refine awp_block ?_)
    | (with_reducible refine v_reg [] (fun K hK => ?_))
    | (with_reducible refine v_reg1 [] (fun K hK => ?_))
    | (with_reducible refine v_draw mixed [] [] (by kernel_rfl) (fun K hK => ?_))
    | (with_reducible refine v_draw1 mixed [] [] (by kernel_rfl) (fun K hK => ?_))
    | (with_reducible refine ev_nil (hK _ _ ?_); clear hK K)
    | (with_reducible refine ed_nil (hK _ _ ?_); clear hK K)
    | ((first | with_reducible refine ev_cons (fun K' hK' => ?_) | with_reducible refine ed_cons (fun K' hK' => ?_) | (with_reducible refine ev_id ?_; refine ev_guard rfl (fun K' hK' => ?_)) | (with_reducible refine ed_id ?_; refine ed_guard rfl (fun K' hK' => ?_))); simp [h6, h2]; repeat' (first | (with_reducible refine hK' _ _ ?_; clear hK' K') | (with_reducible refine And.intro ?_ ?_) | (with_reducible intro hg) | (clear hK' K'; omega)))
    | (with_reducible refine w_cond (fun A B hA hB => ?_); simp [h6, h2]; repeat' (first | (with_reducible refine hA ?_; clear hA hB A B) | (with_reducible refine hB ?_; clear hA hB A B) | (with_reducible refine And.intro ?_ ?_) | (with_reducible intro hc)))
    | (with_reducible refine awp_seq ?_))
  all_goals simp
theorem pdq_zero : Ret Try.prog w0 72 [.sl [] 0, I 0, I 0, I 0] (.tup []) := by
  intro H
  refine w_enter Try.func72 rfl Try.ntmps72 (ts := []) rfl (by simp) (by kernel_rfl) ?_
  repeat' (first
    | (with_reducible refine awp_skip ?_)
    | (with_reducible refine then_any ?_)
    | (with_reducible refine then_ret ?_)
    | (with_reducible refine then_exit ?_)
    | (with_reducible refine inBlock_normal ?_)
    | (with_reducible refine inBlock_ret ?_)
    | (with_reducible refine inBlock_hit ?_)
    | (with_reducible refine inBlock_miss (by decide) ?_)
    | (with_reducible refine awp_ret ?_)
    | (with_reducible refine awp_exit ?_)
    | (with_reducible refine post_ret ?_)
    | (with_reducible refine post_normal ?_)
    | (with_reducible refine awp_block ?_)
    | (with_reducible refine v_reg [] (fun K hK => ?_))
    | (with_reducible refine v_reg1 [] (fun K hK => ?_))
    | (with_reducible refine v_draw mixed [] [] (by kernel_rfl) (fun K hK => ?_))
    | (with_reducible refine v_draw1 mixed [] [] (by kernel_rfl) (fun K hK => ?_))
    | (with_reducible refine ev_nil (hK _ _ ?_); clear hK K)
    | (with_reducible refine ed_nil (hK _ _ ?_); clear hK K)
    | ((first | with_reducible refine ev_cons (fun K' hK' => ?_) | with_reducible refine ed_cons (fun K' hK' => ?_) | (with_reducible refine ev_id ?_; refine ev_guard rfl (fun K' hK' => ?_)) | (with_reducible refine ed_id ?_; refine ed_guard rfl (fun K' hK' => ?_))); simp; repeat' (first | (with_reducible refine hK' _ _ ?_; clear hK' K') | (with_reducible refine And.intro ?_ ?_) | (with_reducible intro hg) | (clear hK' K'; omega)))
    | (with_reducible refine w_cond (fun A B hA hB => ?_); simp; repeat' (first | (with_reducible refine hA ?_; clear hA hB A B) | (with_reducible refine hB ?_; clear hA hB A B) | (with_reducible refine And.intro ?_ ?_) | (with_reducible intro hc)))
    | (with_reducible refine awp_seq ?_))
  refine awp_loop (fun env h => env 0 = .sl [] 0 ∧ env 1 = I 0 ∧ env 2 = I 0 ∧ h = H) (fun _ _ => 0) ?_ ?_
  · exact ⟨by simp, by simp, by simp, rfl⟩
  rintro env h ⟨h0, h1, h2, rfl⟩
  repeat' (first
    | (with_reducible refine awp_skip ?_)
    | (with_reducible refine then_any ?_)
    | (with_reducible refine then_ret ?_)
    | (with_reducible refine then_exit ?_)
    | (with_reducible refine inBlock_normal ?_)
    | (with_reducible refine inBlock_ret ?_)
    | (with_reducible refine inBlock_hit ?_)
    | (with_reducible refine inBlock_miss (by decide) ?_)
    | (with_reducible refine awp_ret ?_)
    | (with_reducible refine awp_exit ?_)
    | (with_reducible refine post_ret ?_)
    | (with_reducible refine post_normal ?_)
    | (with_reducible refine awp_block ?_)
    | (with_reducible refine v_reg [] (fun K hK => ?_))
    | (with_reducible refine v_reg1 [] (fun K hK => ?_))
    | (with_reducible refine v_draw mixed [] [] (by kernel_rfl) (fun K hK => ?_))
    | (with_reducible refine v_draw1 mixed [] [] (by kernel_rfl) (fun K hK => ?_))
    | (with_reducible refine ev_nil (hK _ _ ?_); clear hK K)
    | (with_reducible refine ed_nil (hK _ _ ?_); clear hK K)
    | ((first | with_reducible refine ev_cons (fun K' hK' => ?_) | with_reducible refine ed_cons (fun K' hK' => ?_) | (with_reducible refine ev_id ?_; refine ev_guard rfl (fun K' hK' => ?_)) | (with_reducible refine ed_id ?_; refine ed_guard rfl (fun K' hK' => ?_))); simp [h0, h1, h2]; repeat' (first | (with_reducible refine hK' _ _ ?_; clear hK' K') | (with_reducible refine Ret.use insertion_zero ?_; try simp [h0, h1, h2]) | (with_reducible refine And.intro ?_ ?_) | (with_reducible intro hg) | (clear hK' K'; omega)))
    | (with_reducible refine w_cond (fun A B hA hB => ?_); simp [h0, h1, h2]; repeat' (first | (with_reducible refine hA ?_; clear hA hB A B) | (with_reducible refine hB ?_; clear hA hB A B) | (with_reducible refine And.intro ?_ ?_) | (with_reducible intro hc)))
    | (with_reducible refine awp_seq ?_))
  all_goals simp
theorem sort_zero : Ret Try.prog w0 55 [.sl [] 0] (.tup []) := by
  intro H
  have w0 : IntKind.u64.wrap 0 = 0 := by decide
  refine w_enter Try.func55 rfl Try.ntmps55 (ts := []) rfl (by simp) (by kernel_rfl) ?_
  repeat' (first
    | (with_reducible refine awp_skip ?_)
    | (with_reducible refine then_any ?_)
    | (with_reducible refine then_ret ?_)
    | (with_reducible refine then_exit ?_)
    | (with_reducible refine inBlock_normal ?_)
    | (with_reducible refine inBlock_ret ?_)
    | (with_reducible refine inBlock_hit ?_)
    | (with_reducible refine inBlock_miss (by decide) ?_)
    | (with_reducible refine awp_ret ?_)
    | (with_reducible refine awp_exit ?_)
    | (with_reducible refine post_ret ?_)
    | (with_reducible refine post_normal ?_)
    | (with_reducible refine awp_block ?_)
    | (with_reducible refine v_reg [] (fun K hK => ?_))
    | (with_reducible refine v_reg1 [] (fun K hK => ?_))
    | (with_reducible refine v_draw mixed [] [] (by kernel_rfl) (fun K hK => ?_))
    | (with_reducible refine v_draw1 mixed [] [] (by kernel_rfl) (fun K hK => ?_))
    | (with_reducible refine ev_nil (hK _ _ ?_); clear hK K)
    | (with_reducible refine ed_nil (hK _ _ ?_); clear hK K)
    | ((first | with_reducible refine ev_cons (fun K' hK' => ?_) | with_reducible refine ed_cons (fun K' hK' => ?_) | (with_reducible refine ev_id ?_; refine ev_guard rfl (fun K' hK' => ?_)) | (with_reducible refine ed_id ?_; refine ed_guard rfl (fun K' hK' => ?_))); simp [w0]; repeat' (first | (with_reducible refine hK' _ _ ?_; clear hK' K') | (with_reducible refine Ret.use len_zero ?_; try simp [w0]) | (with_reducible refine Ret.use pdq_zero ?_; try simp [w0]) | (with_reducible refine And.intro ?_ ?_) | (with_reducible intro hg) | (clear hK' K'; omega)))
    | (with_reducible refine w_cond (fun A B hA hB => ?_); simp [w0]; repeat' (first | (with_reducible refine hA ?_; clear hA hB A B) | (with_reducible refine hB ?_; clear hA hB A B) | (with_reducible refine And.intro ?_ ?_) | (with_reducible intro hc)))
    | (with_reducible refine awp_seq ?_))
  all_goals simp
end Go.Am
namespace Go.Am
open Go
set_option linter.unusedVariables false
set_option linter.unusedSimpArgs false
def Wk (adj : List (List Int)) : Nat → Int → Int → Prop
  | 0, u, x => u = x
  | k + 1, u, x => Wk adj k u x ∨ ∃ y, Wk adj k u y ∧ x ∈ out adj y
section
variable {adj : List (List Int)} (hg : Gr adj)
include hg
theorem Wk.lt {k : Nat} {u x : Int} (h : Wk adj k u x) (hu : 0 ≤ u ∧ u < adj.length) : 0 ≤ x ∧ x < adj.length := by
  induction k generalizing x with
  | zero => simp only [Wk] at h; subst h; exact hu
  | succ k ih =>
    rcases h with h | ⟨y, h, hx⟩
    · exact ih h
    · exact (out_pts hg y).lt x hx
end
end Go.Am
namespace Go.Am
set_option linter.unusedVariables false
theorem sum_zero {α : Type} (l : List α) : (l.map fun _ => (0 : Int)).sum = 0 := by
  induction l with
  | nil => rfl
  | cons a l ih => simp [ih]
theorem sum_add {α : Type} (l : List α) (f g : α → Int) : (l.map fun x => f x + g x).sum = (l.map f).sum + (l.map g).sum := by
  induction l with
  | nil => rfl
  | cons a l ih => simp only [List.map_cons, List.sum_cons, ih]; omega
theorem sum_congr {α : Type} {l : List α} {f g : α → Int} (h : ∀ x ∈ l, f x = g x) : (l.map f).sum = (l.map g).sum := by
  rw [List.map_congr_left h]
theorem sum_comm {α β : Type} (A : List α) (B : List β) (f : α → β → Int) : (A.map fun a => (B.map (f a)).sum).sum = (B.map fun b => (A.map fun a => f a b).sum).sum := by
  induction A with
  | nil => simp [sum_zero]
  | cons a A ih => simp only [List.map_cons, List.sum_cons, ih, sum_add]
theorem sum_one {l : List Int} (hn : l.Nodup) {f g : Int → Int} {i : Int} (hi : i ∈ l) (h : ∀ x ∈ l, x ≠ i → f x = g x) : (l.map f).sum = (l.map g).sum + (f i - g i) := by
  induction l with
  | nil => cases hi
  | cons a l ih =>
    obtain ⟨h1, h2⟩ := List.nodup_cons.1 hn
    simp only [List.map_cons, List.sum_cons]
    by_cases e : a = i
    · subst e
      have : (l.map f).sum = (l.map g).sum := sum_congr fun x hx => h x (by simp [hx]) fun e => by subst e; exact h1 hx
      omega
    · have hi' : i ∈ l := by
        rcases List.mem_cons.1 hi with hh | hh
        · exact absurd hh.symm e
        · exact hh
      have := ih h2 hi' fun x hx hne => h x (by simp [hx]) hne
      have := h a (by simp) e
      omega
def b2i (b : Bool) : Int := if b then 1 else 0
theorem sum_b2i {T : List Int} (hn : T.Nodup) (x : Int) : (T.map fun u => b2i (decide (x = u))).sum = b2i (decide (x ∈ T)) := by
  induction T with
  | nil => rfl
  | cons a T ih =>
    obtain ⟨h1, h2⟩ := List.nodup_cons.1 hn
    simp only [List.map_cons, List.sum_cons, ih h2]
    by_cases e : x = a
    · subst e; simp [b2i, h1]
    · simp [b2i, e]
section
variable (arcs : List (Int × Int))
def tlA (i : Int) : Int := (arcs.getD i.toNat (0, 0)).1
def hdA (i : Int) : Int := (arcs.getD i.toNat (0, 0)).2
def exA (full : Int → Bool) (u : Int) : Int := ((upto arcs.length).map fun i => if full i then b2i (decide (hdA arcs i = u)) - b2i (decide (tlA arcs i = u)) else 0).sum
theorem ex_cut (full : Int → Bool) {T : List Int} (hn : T.Nodup) :
    (T.map (exA arcs full)).sum = ((upto arcs.length).map fun i => if full i then b2i (decide (hdA arcs i ∈ T)) - b2i (decide (tlA arcs i ∈ T)) else 0).sum := by
  unfold exA
  rw [sum_comm]
  refine sum_congr fun i _ => ?_
  by_cases h : full i = true
  · simp only [h, if_true]
    have := sum_add T (fun u => b2i (decide (hdA arcs i = u))) (fun u => - b2i (decide (tlA arcs i = u)))
    have e : (T.map fun u => - b2i (decide (tlA arcs i = u))).sum = - (T.map fun u => b2i (decide (tlA arcs i = u))).sum := by
      clear this hn
      induction T with
      | nil => rfl
      | cons a T ih => simp only [List.map_cons, List.sum_cons, ih]; omega
    simp only [Int.sub_eq_add_neg]
    rw [this, e, sum_b2i hn, sum_b2i hn]
  · simp [h, sum_zero]
theorem ex_turn {full : Int → Bool} {i : Int} (h0 : 0 ≤ i) (h1 : i < arcs.length) (u : Int) :
    exA arcs (setF full i (!full i)) u = exA arcs full u + (if full i then b2i (decide (tlA arcs i = u)) - b2i (decide (hdA arcs i = u)) else b2i (decide (hdA arcs i = u)) - b2i (decide (tlA arcs i = u))) := by
  unfold exA
  rw [sum_one (nodup_upto _) (g := fun i => if full i then b2i (decide (hdA arcs i = u)) - b2i (decide (tlA arcs i = u)) else 0) (i := i) (mem_upto.2 ⟨h0, h1⟩) fun x _ hx => by rw [setF_ne _ _ hx]]
  rw [setF_same]
  cases full i <;> simp <;> omega
end
end Go.Am
namespace Go.Am
set_option linter.unusedVariables false
section
variable (arcs : List (Int × Int))
def frA (full : Int → Bool) (i : Int) : Int := if full i then hdA arcs i else tlA arcs i
def toA (full : Int → Bool) (i : Int) : Int := if full i then tlA arcs i else hdA arcs i
structure FlowS (gone full : Int → Bool) (root v : Int) (units : Nat) : Prop where
  rng : ∀ i : Int, full i = true → 0 ≤ i ∧ i < arcs.length ∧ gone i = false
  zero : ∀ u : Int, u ≠ root → u ≠ v → exA arcs full u = 0
  most : exA arcs full v = units
structure WkA (n : Nat) (gone full : Int → Bool) (root : Int) (by' : Int → Int) (come : Int → Bool) : Prop where
  src : come root = true
  step : ∀ i : Int, 0 ≤ i → i < arcs.length → gone i = false → come (frA arcs full i) = true → come (toA arcs full i) = true
  back : ∃ rank : Int → Nat, ∀ u, come u = true → u ≠ root → 0 ≤ by' u ∧ by' u < arcs.length ∧ gone (by' u) = false ∧ toA arcs full (by' u) = u ∧ come (frA arcs full (by' u)) = true ∧ rank (frA arcs full (by' u)) < rank u
  rng : ∀ u, come u = true → 0 ≤ u ∧ u < n
def entA (gone : Int → Bool) (T : List Int) : List Int := (upto arcs.length).filter fun i => !gone i && decide (hdA arcs i ∈ T) && !decide (tlA arcs i ∈ T)
theorem len_sum {l : List Int} (p : Int → Bool) : ((l.filter p).length : Int) = (l.map fun x => b2i (p x)).sum := by
  induction l with
  | nil => rfl
  | cons a l ih =>
    rw [List.filter_cons]
    simp only [List.map_cons, List.sum_cons, ← ih]
    cases h : p a <;> simp [b2i] <;> omega
theorem sum_le {α : Type} {l : List α} {f g : α → Int} (h : ∀ x ∈ l, f x ≤ g x) : (l.map f).sum ≤ (l.map g).sum := by
  induction l with
  | nil => simp
  | cons a l ih =>
    simp only [List.map_cons, List.sum_cons]
    have := h a (by simp)
    have := ih fun x hx => h x (by simp [hx])
    omega
theorem sum_eq_all {α : Type} {l : List α} {f g : α → Int} (h : ∀ x ∈ l, f x ≤ g x) (e : (l.map f).sum = (l.map g).sum) : ∀ x ∈ l, f x = g x := by
  induction l with
  | nil => intro x hx; cases hx
  | cons a l ih =>
    simp only [List.map_cons, List.sum_cons] at e
    have h1 := h a (by simp)
    have h2 := sum_le fun x hx => h x (List.mem_cons_of_mem a hx)
    intro x hx
    rcases List.mem_cons.1 hx with rfl | hx
    · omega
    · exact ih (fun x hx => h x (by simp [hx])) (by omega) x hx
variable {arcs} {gone full : Int → Bool} {root v : Int} {units : Nat}
theorem FlowS.cut (h : FlowS arcs gone full root v units) {T : List Int} (hn : T.Nodup) (hr : root ∉ T) (hv : v ∈ T) :
    (units : Int) = ((upto arcs.length).map fun i => if full i then b2i (decide (hdA arcs i ∈ T)) - b2i (decide (tlA arcs i ∈ T)) else 0).sum := by
  rw [← ex_cut arcs full hn]
  have := sum_one hn (f := exA arcs full) (g := fun _ => 0) hv fun x hx hne => h.zero x (fun e => by subst e; exact hr hx) hne
  rw [sum_zero] at this
  have := h.most
  omega
theorem ent_term (h : FlowS arcs gone full root v units) (T : List Int) (i : Int) :
    (if full i then b2i (decide (hdA arcs i ∈ T)) - b2i (decide (tlA arcs i ∈ T)) else 0) ≤ b2i (!gone i && decide (hdA arcs i ∈ T) && !decide (tlA arcs i ∈ T)) := by
  cases hf : full i with
  | false => simp [b2i]; split <;> omega
  | true =>
    have := (h.rng i hf).2.2
    by_cases a : hdA arcs i ∈ T <;> by_cases b : tlA arcs i ∈ T <;> simp [b2i, a, b, this]
theorem FlowS.le (h : FlowS arcs gone full root v units) {T : List Int} (hn : T.Nodup) (hr : root ∉ T) (hv : v ∈ T) : units ≤ (entA arcs gone T).length := by
  have h1 := h.cut hn hr hv
  have h2 := len_sum (l := upto arcs.length) fun i => !gone i && decide (hdA arcs i ∈ T) && !decide (tlA arcs i ∈ T)
  have h3 := sum_le (l := upto arcs.length) fun i _ => ent_term h T i
  unfold entA
  omega
end
end Go.Am
namespace Go.Am
set_option linter.unusedVariables false
section
variable {arcs : List (Int × Int)} {n : Nat} {gone full : Int → Bool} {root v : Int} {units : Nat} {by' : Int → Int} {come : Int → Bool}
def notC (n : Nat) (come : Int → Bool) : List Int := (upto n).filter fun u => !come u
theorem mem_notC {u : Int} : u ∈ notC n come ↔ (0 ≤ u ∧ u < n) ∧ come u = false := by
  unfold notC
  rw [List.mem_filter, mem_upto]
  simp
theorem FlowS.tight (h : FlowS arcs gone full root v units) (w : WkA arcs n gone full root by' come) (hin : ∀ i : Int, 0 ≤ i → i < arcs.length → (0 ≤ tlA arcs i ∧ tlA arcs i < n) ∧ 0 ≤ hdA arcs i ∧ hdA arcs i < n)
    (hv : 0 ≤ v ∧ v < n) (hc : come v = false) : units = (entA arcs gone (notC n come)).length := by
  have hn : (notC n come).Nodup := (nodup_upto n).filter _
  have hr : root ∉ notC n come := fun hx => by have := (mem_notC.1 hx).2; rw [w.src] at this; cases this
  have h1 := h.cut hn hr (mem_notC.2 ⟨hv, hc⟩)
  have h2 := len_sum (l := upto arcs.length) fun i => !gone i && decide (hdA arcs i ∈ notC n come) && !decide (tlA arcs i ∈ notC n come)
  have h3 : ((upto arcs.length).map fun i => if full i then b2i (decide (hdA arcs i ∈ notC n come)) - b2i (decide (tlA arcs i ∈ notC n come)) else 0).sum
      = ((upto arcs.length).map fun i => b2i (!gone i && decide (hdA arcs i ∈ notC n come) && !decide (tlA arcs i ∈ notC n come))).sum := by
    refine sum_congr fun i hi => ?_
    obtain ⟨a, b⟩ := mem_upto.1 hi
    obtain ⟨ht, hh⟩ := hin i a b
    have mh : hdA arcs i ∈ notC n come ↔ come (hdA arcs i) = false := by rw [mem_notC]; exact ⟨fun x => x.2, fun x => ⟨hh, x⟩⟩
    have mt : tlA arcs i ∈ notC n come ↔ come (tlA arcs i) = false := by rw [mem_notC]; exact ⟨fun x => x.2, fun x => ⟨ht, x⟩⟩
    have hs := w.step i a b
    unfold frA toA at hs
    cases hf : full i with
    | true =>
      have hg := (h.rng i hf).2.2
      rw [hf] at hs
      simp only [if_true, hg, forall_const] at hs
      cases c1 : come (hdA arcs i) <;> cases c2 : come (tlA arcs i) <;> simp_all [b2i]
    | false =>
      rw [hf] at hs
      cases hg : gone i <;> cases c1 : come (hdA arcs i) <;> cases c2 : come (tlA arcs i) <;> simp_all [b2i]
  unfold entA
  omega
end
end Go.Am
namespace Go.Am
set_option linter.unusedVariables false
section
variable {arcs : List (Int × Int)} {n : Nat} {gone full : Int → Bool} {root v : Int} {units : Nat} {by' : Int → Int} {come : Int → Bool}
theorem FlowS.within (h : FlowS arcs gone full root v units) (w : WkA arcs n gone full root by' come) {T : List Int} (hn : T.Nodup) (hr : root ∉ T) (hv : v ∈ T) (he : units = (entA arcs gone T).length) :
    ∀ u, come u = true → u ∉ T := by
  have h1 := h.cut hn hr hv
  have h2 := len_sum (l := upto arcs.length) fun i => !gone i && decide (hdA arcs i ∈ T) && !decide (tlA arcs i ∈ T)
  have h3 := sum_eq_all (l := upto arcs.length) (fun i _ => ent_term h T i) (by unfold entA at he; omega)
  obtain ⟨rank, hb⟩ := w.back
  have key : ∀ (N : Nat) (u : Int), rank u ≤ N → come u = true → u ∉ T := by
    intro N
    induction N with
    | zero =>
      intro u hu hc
      by_cases e : u = root
      · subst e; exact hr
      · have := (hb u hc e).2.2.2.2.2; omega
    | succ N ih =>
      intro u hu hc
      by_cases e : u = root
      · subst e; exact hr
      · obtain ⟨a0, a1, a2, a3, a4, a5⟩ := hb u hc e
        have hfr := ih _ (by omega) a4
        have ht := h3 (by' u) (mem_upto.2 ⟨a0, a1⟩)
        unfold frA at hfr
        unfold toA at a3
        intro hu2
        cases hf : full (by' u) with
        | true =>
          simp only [hf, if_true] at hfr a3 ht
          rw [a3] at ht
          simp [b2i, hfr, hu2] at ht
        | false =>
          simp only [hf, if_neg Bool.false_ne_true] at hfr a3 ht
          rw [a3] at ht
          simp [b2i, hfr, hu2, a2] at ht
  exact fun u hc => key _ u (Nat.le_refl _) hc
end
end Go.Am
namespace Go.Am
set_option linter.unusedVariables false
def BackA (arcs : List (Int × Int)) (gone full : Int → Bool) (root : Int) (by' : Int → Int) (come : Int → Bool) (rank : Int → Nat) : Prop :=
  ∀ u, come u = true → u ≠ root → 0 ≤ by' u ∧ by' u < arcs.length ∧ gone (by' u) = false ∧ toA arcs full (by' u) = u ∧ come (frA arcs full (by' u)) = true ∧ rank (frA arcs full (by' u)) < rank u
structure SendI (arcs : List (Int × Int)) (gone full full' : Int → Bool) (root : Int) (by' : Int → Int) (come : Int → Bool) (rank : Int → Nat) (e v : Int) : Prop where
  ex : ∀ u : Int, exA arcs full' u = exA arcs full u + b2i (decide (u = e)) - b2i (decide (u = v))
  same : ∀ u : Int, come u = true → u ≠ root → rank u ≤ rank v → full' (by' u) = full (by' u)
  rng : ∀ i : Int, full' i = true → 0 ≤ i ∧ i < arcs.length ∧ gone i = false
  at' : come v = true
section
variable {arcs : List (Int × Int)} {gone full full' : Int → Bool} {root e v : Int} {by' : Int → Int} {come : Int → Bool} {rank : Int → Nat}
theorem SendI.start (hr : ∀ i : Int, full i = true → 0 ≤ i ∧ i < arcs.length ∧ gone i = false) (hc : come e = true) : SendI arcs gone full full root by' come rank e e :=
  ⟨fun u => by omega, fun u _ _ _ => rfl, hr, hc⟩
theorem SendI.go (h : SendI arcs gone full full' root by' come rank e v) (hb : BackA arcs gone full root by' come rank) (hv : v ≠ root) :
    SendI arcs gone full (setF full' (by' v) (!full' (by' v))) root by' come rank e (frA arcs full (by' v)) ∧ rank (frA arcs full (by' v)) < rank v := by
  obtain ⟨a0, a1, a2, a3, a4, a5⟩ := hb v h.at' hv
  have hs := h.same v h.at' hv (Nat.le_refl _)
  refine ⟨⟨fun u => ?_, fun u hc hu hru => ?_, fun i hi => ?_, a4⟩, a5⟩
  · rw [ex_turn arcs a0 a1 u, h.ex u, hs]
    unfold frA
    unfold toA at a3
    cases hf : full (by' v) with
    | true =>
      simp only [hf, if_true] at a3 ⊢
      rw [a3]
      have e1 : b2i (decide (v = u)) = b2i (decide (u = v)) := by simp only [eq_comm]
      have e2 : b2i (decide (hdA arcs (by' v) = u)) = b2i (decide (u = hdA arcs (by' v))) := by simp only [eq_comm]
      omega
    | false =>
      simp only [hf, if_neg Bool.false_ne_true] at a3 ⊢
      rw [a3]
      have e1 : b2i (decide (v = u)) = b2i (decide (u = v)) := by simp only [eq_comm]
      have e2 : b2i (decide (tlA arcs (by' v) = u)) = b2i (decide (u = tlA arcs (by' v))) := by simp only [eq_comm]
      omega
  · have hne : by' u ≠ by' v := fun e => by
      have := (hb u hc hu).2.2.2.1
      rw [e, a3] at this
      subst this
      omega
    rw [setF_ne _ _ hne]
    exact h.same u hc hu (by omega)
  · by_cases e : i = by' v
    · subst e; exact ⟨a0, a1, a2⟩
    · rw [setF_ne _ _ e] at hi; exact h.rng i hi
end
end Go.Am
namespace Go.Am
set_option linter.unusedVariables false
structure WMid (arcs : List (Int × Int)) (n : Nat) (gone full : Int → Bool) (root : Int) (by' : Int → Int) (come : Int → Bool) (q : List Int) (u : Int) (i : Int) : Prop where
  src : come root = true
  rng : ∀ x, come x = true → 0 ≤ x ∧ x < n
  inq : ∀ x ∈ q, come x = true
  cur : come u = true
  back : ∃ (rank : Int → Nat) (c : Nat), (∀ x, come x = true → rank x < c) ∧ BackA arcs gone full root by' come rank
  step : ∀ j : Int, 0 ≤ j → j < arcs.length → gone j = false → come (frA arcs full j) = true → frA arcs full j ∉ q → (frA arcs full j = u → j < i) → come (toA arcs full j) = true
structure WOut (arcs : List (Int × Int)) (n : Nat) (gone full : Int → Bool) (root : Int) (by' : Int → Int) (come : Int → Bool) (q : List Int) : Prop where
  src : come root = true
  rng : ∀ x, come x = true → 0 ≤ x ∧ x < n
  inq : ∀ x ∈ q, come x = true
  back : ∃ (rank : Int → Nat) (c : Nat), (∀ x, come x = true → rank x < c) ∧ BackA arcs gone full root by' come rank
  step : ∀ j : Int, 0 ≤ j → j < arcs.length → gone j = false → come (frA arcs full j) = true → frA arcs full j ∉ q → come (toA arcs full j) = true
section
variable {arcs : List (Int × Int)} {n : Nat} {gone full : Int → Bool} {root u i : Int} {by' : Int → Int} {come : Int → Bool} {q : List Int}
theorem WOut.start (h : 0 ≤ root ∧ root < n) : WOut arcs n gone full root by' (setF (fun _ => false) root true) [root] where
  src := setF_same _ _ _
  rng x hx := by
    by_cases e : x = root
    · subst e; exact h
    · rw [setF_ne _ _ e] at hx; cases hx
  inq x hx := by simp at hx; subst hx; exact setF_same _ _ _
  back := ⟨fun _ => 0, 1, fun _ _ => Nat.zero_lt_one, fun x hx hne => by rw [setF_ne _ _ hne] at hx; cases hx⟩
  step j _ _ _ hc hq := by
    by_cases e : frA arcs full j = root
    · rw [e] at hq; simp at hq
    · rw [setF_ne _ _ e] at hc; cases hc
theorem WOut.pop (h : WOut arcs n gone full root by' come (u :: q)) : WMid arcs n gone full root by' come q u 0 where
  src := h.src
  rng := h.rng
  inq x hx := h.inq x (by simp [hx])
  cur := h.inq u (by simp)
  back := h.back
  step j h0 h1 hg hc hq hu := h.step j h0 h1 hg hc fun hx => by
    rcases List.mem_cons.1 hx with e | e
    · have := hu e; omega
    · exact hq e
theorem WMid.skip (h : WMid arcs n gone full root by' come q u i) (hs : gone i = true ∨ frA arcs full i ≠ u ∨ come (toA arcs full i) = true) : WMid arcs n gone full root by' come q u (i + 1) where
  src := h.src
  rng := h.rng
  inq := h.inq
  cur := h.cur
  back := h.back
  step j h0 h1 hg hc hq hu := by
    by_cases e : j = i
    · subst e
      rcases hs with hs | hs | hs
      · rw [hs] at hg; cases hg
      · exact h.step j h0 h1 hg hc hq fun e => absurd e hs
      · exact hs
    · exact h.step j h0 h1 hg hc hq fun e' => by have := hu e'; omega
theorem WMid.new (h : WMid arcs n gone full root by' come q u i) (h0 : 0 ≤ i) (h1 : i < arcs.length) (hg : gone i = false) (hf : frA arcs full i = u) (hc : come (toA arcs full i) = false) (hr : 0 ≤ toA arcs full i ∧ toA arcs full i < n) :
    WMid arcs n gone full root (setF by' (toA arcs full i) i) (setF come (toA arcs full i) true) (q ++ [toA arcs full i]) u (i + 1) := by
  have hne : ∀ {x}, come x = true → x ≠ toA arcs full i := fun hx e => by rw [e, hc] at hx; cases hx
  have hup : ∀ {x}, come x = true → setF come (toA arcs full i) true x = true := fun hx => by rw [setF_ne _ _ (hne hx)]; exact hx
  obtain ⟨rank, c, hb, hB⟩ := h.back
  refine ⟨hup h.src, fun x hx => ?_, fun x hx => ?_, hup h.cur, ⟨setF rank (toA arcs full i) c, c + 1, fun x hx => ?_, fun x hx hne' => ?_⟩, fun j j0 j1 jg jc jq ju => ?_⟩
  · by_cases e : x = toA arcs full i
    · subst e; exact hr
    · rw [setF_ne _ _ e] at hx; exact h.rng x hx
  · rcases List.mem_append.1 hx with hx | hx
    · exact hup (h.inq x hx)
    · simp at hx; subst hx; exact setF_same _ _ _
  · by_cases e : x = toA arcs full i
    · subst e; rw [setF_same]; omega
    · rw [setF_ne _ _ e] at hx ⊢; have := hb x hx; omega
  · by_cases e : x = toA arcs full i
    · subst e
      rw [setF_same, setF_same, hf]
      refine ⟨h0, h1, hg, rfl, hup h.cur, ?_⟩
      rw [setF_ne _ _ (hne h.cur)]
      exact hb u h.cur
    · rw [setF_ne _ _ e] at hx
      obtain ⟨a0, a1, a2, a3, a4, a5⟩ := hB x hx hne'
      rw [setF_ne _ _ e, setF_ne _ _ e]
      exact ⟨a0, a1, a2, a3, hup a4, by rw [setF_ne _ _ (hne a4)]; exact a5⟩
  · rw [List.mem_append] at jq
    have jf : frA arcs full j ≠ toA arcs full i := fun e => jq (.inr (by simp [e]))
    rw [setF_ne _ _ jf] at jc
    by_cases e : j = i
    · subst e; exact setF_same _ _ _
    · exact hup (h.step j j0 j1 jg jc (fun h => jq (.inl h)) fun e' => by have := ju e'; omega)
theorem WMid.end (h : WMid arcs n gone full root by' come q u arcs.length) : WOut arcs n gone full root by' come q :=
  ⟨h.src, h.rng, h.inq, h.back, fun j h0 h1 hg hc hq => h.step j h0 h1 hg hc hq fun _ => h1⟩
theorem WOut.fin (h : WOut arcs n gone full root by' come []) : WkA arcs n gone full root by' come :=
  ⟨h.src, fun j h0 h1 hg hc => h.step j h0 h1 hg hc (by simp), by obtain ⟨rank, c, _, hB⟩ := h.back; exact ⟨rank, hB⟩, h.rng⟩
end
end Go.Am
namespace Go.Am
open Go Go.Proofs
set_option linter.unusedVariables false
set_option linter.unusedSimpArgs false
variable {w0 : World}
attribute [local irreducible] AWP ACalls
attribute [local congr] acalls_congr
def qh (H : Heap) (R C b n : Nat) (f : Int → Int) (s : Int → Bool) (cells : List AV) (top : Nat) : Heap :=
  upd (upd (upd H R (some (.arr 1 3 (labI n f) n))) C (some (.arr 1 4 (labB n s) n))) b (some (.arr 1 3 cells top))
structure Dq (H : Heap) (R C b : Nat) : Prop where
  rc : R ≠ C
  rb : R ≠ b
  cb : C ≠ b
  hR : H R = none
  hC : H C = none
  hb : H b = none
section
variable {H : Heap} {R C b n top : Nat} {f : Int → Int} {s : Int → Bool} {cells : List AV}
theorem qh_b : qh H R C b n f s cells top b = some (.arr 1 3 cells top) := by simp [qh]
theorem qh_C (d : Dq H R C b) : qh H R C b n f s cells top C = some (.arr 1 4 (labB n s) n) := by simp [qh, d.cb]
theorem qh_R (d : Dq H R C b) : qh H R C b n f s cells top R = some (.arr 1 3 (labI n f) n) := by simp [qh, d.rc, d.rb]
theorem qh_at (d : Dq H R C b) {x : Nat} {k : Blk} (h : H x = some k) : qh H R C b n f s cells top x = some k := by
  have h1 : x ≠ R := fun e => by rw [e, d.hR] at h; cases h
  have h2 : x ≠ C := fun e => by rw [e, d.hC] at h; cases h
  have h3 : x ≠ b := fun e => by rw [e, d.hb] at h; cases h
  simp [qh, h1, h2, h3, h]
theorem qh_setC (d : Dq H R C b) {w : Int} {x : Bool} (h0 : 0 ≤ w) : upd (qh H R C b n f s cells top) C (some (.arr 1 4 ((labB n s).set w.toNat (B x)) n)) = qh H R C b n f (setF s w x) cells top := by
  unfold qh; rw [upd_comm _ _ _ (Ne.symm d.cb), upd_upd, labB_set h0]
theorem qh_setR (d : Dq H R C b) {w x : Int} (h0 : 0 ≤ w) : upd (qh H R C b n f s cells top) R (some (.arr 1 3 ((labI n f).set w.toNat (I x)) n)) = qh H R C b n (setF f w x) s cells top := by
  unfold qh; rw [upd_comm _ _ _ (Ne.symm d.rb), upd_comm _ _ _ (Ne.symm d.rc), upd_upd, labI_setF h0]
theorem qh_app {cells' : List AV} {top' : Nat} : upd (qh H R C b n f s cells top) b (some (.arr 1 3 cells' top')) = qh H R C b n f s cells' top' := by simp [qh]
theorem qh_none (d : Dq H R C b) {b' : Nat} (h : qh H R C b n f s cells top b' = none) : b' ≠ b ∧ Dq H R C b' := by
  unfold qh at h
  by_cases e1 : b' = b
  · subst e1; simp [upd_same] at h
  rw [upd_ne _ _ _ e1] at h
  by_cases e2 : b' = C
  · subst e2; simp [upd_same] at h
  rw [upd_ne _ _ _ e2] at h
  by_cases e3 : b' = R
  · subst e3; simp [upd_same] at h
  rw [upd_ne _ _ _ e3] at h
  exact ⟨e1, d.rc, Ne.symm e3, Ne.symm e2, d.hR, d.hC, h⟩
theorem qh_new (d : Dq H R C b) {b' : Nat} {cells' : List AV} {top' : Nat} : upd (upd (qh H R C b n f s cells top) b none) b' (some (.arr 1 3 cells' top')) = qh H R C b' n f s cells' top' := by
  unfold qh
  rw [upd_upd]
  congr 1
  exact upd_none_self (by rw [upd_ne _ _ _ (Ne.symm d.cb), upd_ne _ _ _ (Ne.symm d.rb)]; exact d.hb)
end
structure NetA (n : Nat) (arcs : List (Int × Int)) (root : Int) : Prop where
  nle : n ≤ 64
  mle : arcs.length ≤ 64
  root : 0 ≤ root ∧ root < n
  ends : ∀ i : Int, 0 ≤ i → i < arcs.length → (0 ≤ tlA arcs i ∧ tlA arcs i < n) ∧ 0 ≤ hdA arcs i ∧ hdA arcs i < n
theorem tlA_get {arcs : List (Int × Int)} {k : Nat} (h : k < arcs.length) : arcs[k].1 = tlA arcs k := by simp [tlA, h]
theorem hdA_get {arcs : List (Int × Int)} {k : Nat} (h : k < arcs.length) : arcs[k].2 = hdA arcs k := by simp [hdA, h]
structure FlowH (H : Heap) (F G L n : Nat) (arcs : List (Int × Int)) (gone full : Int → Bool) : Prop where
  lg : L ≠ G
  hF : H F = some (.box [I n, pairs arcs, .ref G 0 arcs.length arcs.length, .ref L 0 arcs.length arcs.length])
  hG : H G = some (.arr 1 4 (labB arcs.length gone) arcs.length)
  hL : H L = some (.arr 1 4 (labB arcs.length full) arcs.length)
theorem labI_rep' (n : Nat) (x : Int) : List.replicate n (I x) = labI n (fun _ => x) := by rw [← labI_rep, List.map_replicate]
set_option maxHeartbeats 4000000 in
theorem walk_use {H : Heap} {F G L n : Nat} {arcs : List (Int × Int)} {gone full : Int → Bool} {root : Int} (N : NetA n arcs root) (fh : FlowH H F G L n arcs gone full) {K : AV → Heap → Prop}
    (k : ∀ by' come, WkA arcs n gone full root by' come → K (.tup [.sl (labI n by') n, .sl (labB n come) n]) H) : ACalls Try.prog w0 57 [.ptr F 0 0, I root] H K := by
  refine (?_ : ACalls Try.prog w0 57 [.ptr F 0 0, I root] H (fun v H' => ∃ by' come, WkA arcs n gone full root by' come ∧ v = .tup [.sl (labI n by') n, .sl (labB n come) n] ∧ Sub H H')).drop ?_
  rotate_left
  · rintro v H' ⟨by', come, w, rfl, s⟩
    exact ⟨_, s, k by' come w⟩
  clear k K
  have hn := N.nle
  have hm := N.mle
  have hF := fh.hF
  refine w_enter Try.func57 rfl Try.ntmps57 (ts := [4, 5]) rfl (by simp) (by kernel_rfl) ?_
  repeat' (first
    | (with_reducible refine awp_skip ?_)
    | (with_reducible refine then_any ?_)
    | (with_reducible refine then_ret ?_)
    | (with_reducible refine then_exit ?_)
    | (with_reducible refine inBlock_normal ?_)
    | (with_reducible refine inBlock_ret ?_)
    | (with_reducible refine inBlock_hit ?_)
    | (with_reducible refine inBlock_miss (by decide) ?_)
    | (with_reducible refine awp_ret ?_)
    | (with_reducible refine awp_exit ?_)
    | (with_reducible refine post_ret ?_)
    | (with_reducible refine post_normal ?_)
    | (with_reducible refine awp_block ?_)
    | ((fail_if_success (with_reducible refine at_reg 2 ?_)); with_reducible refine v_reg [] (fun K hK => ?_))
    | (with_reducible refine v_reg1 [] (fun K hK => ?_))
    | ((fail_if_success (with_reducible refine at_reg 2 ?_)); with_reducible refine v_draw mixed [] [] (by kernel_rfl) (fun K hK => ?_))
    | (with_reducible refine v_draw1 mixed [] [] (by kernel_rfl) (fun K hK => ?_))
    | (with_reducible refine ev_nil (hK _ _ ?_); clear hK K)
    | (with_reducible refine ed_nil (hK _ _ ?_); clear hK K)
    | ((first | with_reducible refine ev_cons (fun K' hK' => ?_) | with_reducible refine ed_cons (fun K' hK' => ?_) | (with_reducible refine ev_id ?_; refine ev_guard rfl (fun K' hK' => ?_)) | (with_reducible refine ed_id ?_; refine ed_guard rfl (fun K' hK' => ?_))); simp [hF]; repeat' (first | (with_reducible refine hK' _ _ ?_; clear hK' K') | ((with_reducible refine RetNew.use (repeat_new (x := -1) (n := n) (by omega)) (fun R hR => ?_)); try simp [hF]) | (with_reducible refine And.intro ?_ ?_) | (with_reducible intro hg) | (clear hK' K'; omega)))
    | (with_reducible refine w_cond (fun A B hA hB => ?_); simp [hF]; repeat' (first | (with_reducible refine hA ?_; clear hA hB A B) | (with_reducible refine hB ?_; clear hA hB A B) | (with_reducible refine And.intro ?_ ?_) | (with_reducible intro hc)))
    | ((fail_if_success (with_reducible refine at_reg 2 ?_)); with_reducible refine awp_seq ?_))
  have hFR : F ≠ R := fun e => by rw [e, hR] at hF; cases hF
  have hRF : R ≠ F := Ne.symm hFR
  repeat' (first
    | (with_reducible refine awp_skip ?_)
    | (with_reducible refine then_any ?_)
    | (with_reducible refine then_ret ?_)
    | (with_reducible refine then_exit ?_)
    | (with_reducible refine inBlock_normal ?_)
    | (with_reducible refine inBlock_ret ?_)
    | (with_reducible refine inBlock_hit ?_)
    | (with_reducible refine inBlock_miss (by decide) ?_)
    | (with_reducible refine awp_ret ?_)
    | (with_reducible refine awp_exit ?_)
    | (with_reducible refine post_ret ?_)
    | (with_reducible refine post_normal ?_)
    | (with_reducible refine awp_block ?_)
    | ((fail_if_success (with_reducible refine at_reg 3 ?_)); with_reducible refine v_reg [] (fun K hK => ?_))
    | (with_reducible refine v_reg1 [] (fun K hK => ?_))
    | ((fail_if_success (with_reducible refine at_reg 3 ?_)); with_reducible refine v_draw mixed [] [] (by kernel_rfl) (fun K hK => ?_))
    | (with_reducible refine v_draw1 mixed [] [] (by kernel_rfl) (fun K hK => ?_))
    | (with_reducible refine ev_nil (hK _ _ ?_); clear hK K)
    | (with_reducible refine ed_nil (hK _ _ ?_); clear hK K)
    | ((first | with_reducible refine ev_cons (fun K' hK' => ?_) | with_reducible refine ed_cons (fun K' hK' => ?_) | (with_reducible refine ev_id ?_; refine ev_guard rfl (fun K' hK' => ?_)) | (with_reducible refine ed_id ?_; refine ed_guard rfl (fun K' hK' => ?_))); simp [hF, hFR, hRF]; repeat' (first | (with_reducible refine hK' _ _ ?_; clear hK' K') | (with_reducible refine And.intro ?_ ?_) | (with_reducible intro hg) | (clear hK' K'; omega)))
    | (with_reducible refine w_cond (fun A B hA hB => ?_); simp [hF, hFR, hRF]; repeat' (first | (with_reducible refine hA ?_; clear hA hB A B) | (with_reducible refine hB ?_; clear hA hB A B) | (with_reducible refine And.intro ?_ ?_) | (with_reducible intro hc)))
    | ((fail_if_success (with_reducible refine at_reg 3 ?_)); with_reducible refine awp_seq ?_))
  rename_i C
  have hCR : C ≠ R := by rintro rfl; simp at hg
  have hC : H C = none := by rw [if_neg hCR] at hg; exact hg
  clear hg
  have hrn : root.toNat < n := by have := N.root; omega
  have hset := labB_set (n := n) (s := fun _ => false) (x := true) N.root.1
  have hll := labB_length n (fun _ => false)
  rw [labI_rep', labB_rep]
  repeat' (first
    | (with_reducible refine awp_skip ?_)
    | (with_reducible refine then_any ?_)
    | (with_reducible refine then_ret ?_)
    | (with_reducible refine then_exit ?_)
    | (with_reducible refine inBlock_normal ?_)
    | (with_reducible refine inBlock_ret ?_)
    | (with_reducible refine inBlock_hit ?_)
    | (with_reducible refine inBlock_miss (by decide) ?_)
    | (with_reducible refine awp_ret ?_)
    | (with_reducible refine awp_exit ?_)
    | (with_reducible refine post_ret ?_)
    | (with_reducible refine post_normal ?_)
    | (with_reducible refine awp_block ?_)
    | (with_reducible refine v_reg [29] (fun K hK => ?_))
    | (with_reducible refine v_reg1 [29] (fun K hK => ?_))
    | (with_reducible refine v_draw mixed [29] [] (by kernel_rfl) (fun K hK => ?_))
    | (with_reducible refine v_draw1 mixed [29] [] (by kernel_rfl) (fun K hK => ?_))
    | (with_reducible refine ev_nil (hK _ _ ?_); clear hK K)
    | (with_reducible refine ed_nil (hK _ _ ?_); clear hK K)
    | ((first | with_reducible refine ev_cons (fun K' hK' => ?_) | with_reducible refine ed_cons (fun K' hK' => ?_) | (with_reducible refine ev_id ?_; refine ev_guard rfl (fun K' hK' => ?_)) | (with_reducible refine ed_id ?_; refine ed_guard rfl (fun K' hK' => ?_))); simp [N.root.1, N.root.2, hrn, hset, hll]; repeat' (first | (with_reducible refine hK' _ _ ?_; clear hK' K') | (with_reducible refine And.intro ?_ ?_) | (with_reducible intro hg) | (clear hK' K'; omega)))
    | (with_reducible refine w_cond (fun A B hA hB => ?_); simp [N.root.1, N.root.2, hrn, hset, hll]; repeat' (first | (with_reducible refine hA ?_; clear hA hB A B) | (with_reducible refine hB ?_; clear hA hB A B) | (with_reducible refine And.intro ?_ ?_) | (with_reducible intro hc)))
    | (with_reducible refine awp_seq ?_))
  rename_i b
  have d : Dq H R C b := by
    have h1 : b ≠ C := by rintro rfl; simp at hg
    rw [if_neg h1] at hg
    have h2 : b ≠ R := by rintro rfl; simp at hg
    rw [if_neg h2] at hg
    exact ⟨Ne.symm hCR, Ne.symm h2, Ne.symm h1, hR, hC, hg⟩
  clear hg hset hll
  refine awp_loop_g (fun m env h => ∃ (f : Int → Int) (s : Int → Bool) (q : List Int) (b off : Nat) (cells : List AV), WOut arcs n gone full root f s q ∧ m = 2 * unseen n s + q.length ∧ m ≤ 200 ∧ Dq H R C b ∧
      env 0 = .ptr F 0 0 ∧ env 6 = .ref R 0 n n ∧ env 7 = .ref C 0 n n ∧ env 8 = .ref b off q.length (off + q.length) ∧ cells.length = off + q.length ∧ cells.drop off = q.map I ∧ h = qh H R C b n f s cells (off + q.length)) ?_ ?_
  · have hu : unseen n (setF (fun _ => false) root true) ≤ n := by
      unfold unseen
      have := List.countP_le_length (p := fun k => !setF (fun _ => false) root true k) (l := upto n)
      rwa [upto_length] at this
    exact ⟨_, _, _, [root], b, 0, [I root], .start N.root, rfl, by simp only [List.length_singleton]; omega, d, by simp, by simp, by simp, by simp, by simp, by simp, rfl⟩
  clear d
  clear b
  rintro m env h ⟨f, s, q, b, off, cells, hO, hm', hm200, d, h0, h6, h7, h8, hcl, hcd, rfl⟩
  have eF : ∀ {f s b cells top}, Dq H R C b → qh H R C b n f s cells top F = _ := fun d => qh_at d hF
  have eG : ∀ {f s b cells top}, Dq H R C b → qh H R C b n f s cells top G = _ := fun d => qh_at d fh.hG
  have eL : ∀ {f s b cells top}, Dq H R C b → qh H R C b n f s cells top L = _ := fun d => qh_at d fh.hL
  cases q with
  | nil =>
    simp only [List.length_nil, Nat.add_zero] at *
    repeat' (first
      | (with_reducible refine awp_skip ?_)
      | (with_reducible refine then_any ?_)
      | (with_reducible refine then_ret ?_)
      | (with_reducible refine then_exit ?_)
      | (with_reducible refine inBlock_normal ?_)
      | (with_reducible refine inBlock_ret ?_)
      | (with_reducible refine inBlock_hit ?_)
      | (with_reducible refine inBlock_miss (by decide) ?_)
      | (with_reducible refine awp_ret ?_)
      | (with_reducible refine awp_exit ?_)
      | (with_reducible refine post_ret ?_)
      | (with_reducible refine post_normal ?_)
      | (with_reducible refine awp_block ?_)
      | ((fail_if_success (with_reducible refine at_reg 18 ?_)); with_reducible refine v_reg [] (fun K hK => ?_))
      | (with_reducible refine v_reg1 [] (fun K hK => ?_))
      | ((fail_if_success (with_reducible refine at_reg 18 ?_)); with_reducible refine v_draw mixed [] [] (by kernel_rfl) (fun K hK => ?_))
      | (with_reducible refine v_draw1 mixed [] [] (by kernel_rfl) (fun K hK => ?_))
      | (with_reducible refine ev_nil (hK _ _ ?_); clear hK K)
      | (with_reducible refine ed_nil (hK _ _ ?_); clear hK K)
      | ((first | with_reducible refine ev_cons (fun K' hK' => ?_) | with_reducible refine ed_cons (fun K' hK' => ?_) | (with_reducible refine ev_id ?_; refine ev_guard rfl (fun K' hK' => ?_)) | (with_reducible refine ed_id ?_; refine ed_guard rfl (fun K' hK' => ?_))); simp [h0, h6, h7, h8]; repeat' (first | (with_reducible refine hK' _ _ ?_; clear hK' K') | (with_reducible refine And.intro ?_ ?_) | (with_reducible intro hg) | (clear hK' K'; omega)))
      | (with_reducible refine w_cond (fun A B hA hB => ?_); simp [h0, h6, h7, h8]; repeat' (first | (with_reducible refine hA ?_; clear hA hB A B) | (with_reducible refine hB ?_; clear hA hB A B) | (with_reducible refine And.intro ?_ ?_) | (with_reducible intro hc)))
      | ((fail_if_success (with_reducible refine at_reg 18 ?_)); with_reducible refine awp_seq ?_))
    refine awp_freeze 6 (r := R) (off := 0) (len := n) (top := n) (by simp [h6]) (qh_R d) ?_
    refine awp_freeze 7 (r := C) (off := 0) (len := n) (top := n) (by simp [h7]) (by rw [upd_ne _ _ _ (Ne.symm d.rc)]; exact qh_C d) ?_
    rw [cut_all (by rw [labI_length]; omega), cut_all (by rw [labB_length]; omega)]
    repeat' (first
      | (with_reducible refine awp_skip ?_)
      | (with_reducible refine then_any ?_)
      | (with_reducible refine then_ret ?_)
      | (with_reducible refine then_exit ?_)
      | (with_reducible refine inBlock_normal ?_)
      | (with_reducible refine inBlock_ret ?_)
      | (with_reducible refine inBlock_hit ?_)
      | (with_reducible refine inBlock_miss (by decide) ?_)
      | (with_reducible refine awp_ret ?_)
      | (with_reducible refine awp_exit ?_)
      | (with_reducible refine post_ret ?_)
      | (with_reducible refine post_normal ?_)
      | (with_reducible refine awp_block ?_)
      | (with_reducible refine v_reg [] (fun K hK => ?_))
      | (with_reducible refine v_reg1 [] (fun K hK => ?_))
      | (with_reducible refine v_draw mixed [] [] (by kernel_rfl) (fun K hK => ?_))
      | (with_reducible refine v_draw1 mixed [] [] (by kernel_rfl) (fun K hK => ?_))
      | (with_reducible refine ev_nil (hK _ _ ?_); clear hK K)
      | (with_reducible refine ed_nil (hK _ _ ?_); clear hK K)
      | ((first | with_reducible refine ev_cons (fun K' hK' => ?_) | with_reducible refine ed_cons (fun K' hK' => ?_) | (with_reducible refine ev_id ?_; refine ev_guard rfl (fun K' hK' => ?_)) | (with_reducible refine ed_id ?_; refine ed_guard rfl (fun K' hK' => ?_))); simp; repeat' (first | (with_reducible refine hK' _ _ ?_; clear hK' K') | (with_reducible refine And.intro ?_ ?_) | (with_reducible intro hg) | (clear hK' K'; omega)))
      | (with_reducible refine w_cond (fun A B hA hB => ?_); simp; repeat' (first | (with_reducible refine hA ?_; clear hA hB A B) | (with_reducible refine hB ?_; clear hA hB A B) | (with_reducible refine And.intro ?_ ?_) | (with_reducible intro hc)))
      | (with_reducible refine awp_seq ?_))
    refine ⟨f, s, hO.fin, by simp, ?_⟩
    have s1 : Sub H (qh H R C b n f s cells off) := (((Sub.refl H).upd hR _).upd hC _).upd d.hb _
    exact (s1.upd hR _).upd hC _
  | cons v q =>
    have hM := hO.pop
    have hv := hM.rng v hM.cur
    have hvn : v.toNat < n := by omega
    have hc0 : cells[off]? = some (I v) := by
      have := congrArg (·[0]?) hcd
      simpa [List.getElem?_drop] using this
    have hlt : off < cells.length := by rw [hcl]; simp
    have hc0' : ∀ h, cells[off]'h = I v := fun h => by rw [List.getElem?_eq_getElem h] at hc0; simpa using hc0
    have hcd1 : cells.drop (off + 1) = q.map I := by
      have := congrArg (List.drop 1) hcd
      simpa [List.drop_drop] using this
    clear hcd hc0 hO
    simp only [List.length_cons] at *
    repeat' (first
      | (with_reducible refine awp_skip ?_)
      | (with_reducible refine then_any ?_)
      | (with_reducible refine then_ret ?_)
      | (with_reducible refine then_exit ?_)
      | (with_reducible refine inBlock_normal ?_)
      | (with_reducible refine inBlock_ret ?_)
      | (with_reducible refine inBlock_hit ?_)
      | (with_reducible refine inBlock_miss (by decide) ?_)
      | (with_reducible refine awp_ret ?_)
      | (with_reducible refine awp_exit ?_)
      | (with_reducible refine post_ret ?_)
      | (with_reducible refine post_normal ?_)
      | (with_reducible refine awp_block ?_)
      | (with_reducible refine v_reg [] (fun K hK => ?_))
      | (with_reducible refine v_reg1 [] (fun K hK => ?_))
      | (with_reducible refine v_draw mixed [] [] (by kernel_rfl) (fun K hK => ?_))
      | (with_reducible refine v_draw1 mixed [] [] (by kernel_rfl) (fun K hK => ?_))
      | (with_reducible refine ev_nil (hK _ _ ?_); clear hK K)
      | (with_reducible refine ed_nil (hK _ _ ?_); clear hK K)
      | ((first | with_reducible refine ev_cons (fun K' hK' => ?_) | with_reducible refine ed_cons (fun K' hK' => ?_) | (with_reducible refine ev_id ?_; refine ev_guard rfl (fun K' hK' => ?_)) | (with_reducible refine ed_id ?_; refine ed_guard rfl (fun K' hK' => ?_))); simp [h0, h6, h7, h8, pairs, qh_b, eF d, hlt, hc0']; repeat' (first | (with_reducible refine hK' _ _ ?_; clear hK' K') | (with_reducible refine And.intro ?_ ?_) | (with_reducible intro hg) | (clear hK' K'; omega)))
      | (with_reducible refine w_cond (fun A B hA hB => ?_); simp [h0, h6, h7, h8, pairs, qh_b, eF d, hlt, hc0']; repeat' (first | (with_reducible refine hA ?_; clear hA hB A B) | (with_reducible refine hB ?_; clear hA hB A B) | (with_reducible refine And.intro ?_ ?_) | (with_reducible intro hc)))
      | (with_reducible refine awp_seq ?_))
    refine awp_loop (fun env h => ∃ (j : Nat) (f' : Int → Int) (s' : Int → Bool) (q' : List Int) (b' off' : Nat) (cells' : List AV), j ≤ arcs.length ∧ WMid arcs n gone full root f' s' q' v j ∧ 2 * unseen n s' + q'.length ≤ 2 * unseen n s + q.length ∧
        env 43 = I j ∧ env 42 = I arcs.length ∧ env 41 = pairs arcs ∧ env 9 = I v ∧ env 0 = .ptr F 0 0 ∧ env 6 = .ref R 0 n n ∧ env 7 = .ref C 0 n n ∧ Dq H R C b' ∧
        env 8 = .ref b' off' q'.length (off' + q'.length) ∧ cells'.length = off' + q'.length ∧ cells'.drop off' = q'.map I ∧ h = qh H R C b' n f' s' cells' (off' + q'.length)) (fun env _ => arcs.length - natA (env 43)) ?_ ?_
    · have e : off + (q.length + 1) = off + 1 + q.length := by omega
      exact ⟨0, f, s, q, b, off + 1, cells, by omega, by simpa using hM, by omega, by simp, by simp, by simp [pairs], by simp, by simp [h0], by simp [h6], by simp [h7], d, by simp [e], by omega, hcd1, by rw [e]⟩
    clear h0 h6 h7 h8 hM hc0' hcl hcd1 hlt d cells off
    clear b
    rintro env h ⟨j, f', s', q', b, off, cells, hj, hM, hsum, h43, h42, h41, h9, h0, h6, h7, d, h8, hcl, hcd, rfl⟩
    have hnat : natA (env 43) = j := by simp [h43]
    rw [hnat]; clear hnat
    by_cases hjl : j < arcs.length
    · have hp := pairs_get hjl
      rw [tlA_get hjl, hdA_get hjl] at hp
      repeat' (first
        | (with_reducible refine awp_skip ?_)
        | (with_reducible refine then_any ?_)
        | (with_reducible refine then_ret ?_)
        | (with_reducible refine then_exit ?_)
        | (with_reducible refine inBlock_normal ?_)
        | (with_reducible refine inBlock_ret ?_)
        | (with_reducible refine inBlock_hit ?_)
        | (with_reducible refine inBlock_miss (by decide) ?_)
        | (with_reducible refine awp_ret ?_)
        | (with_reducible refine awp_exit ?_)
        | (with_reducible refine post_ret ?_)
        | (with_reducible refine post_normal ?_)
        | (with_reducible refine awp_block ?_)
        | ((fail_if_success (with_reducible refine at_reg 12 ?_)); with_reducible refine v_reg [] (fun K hK => ?_))
        | (with_reducible refine v_reg1 [] (fun K hK => ?_))
        | ((fail_if_success (with_reducible refine at_reg 12 ?_)); with_reducible refine v_draw mixed [] [] (by kernel_rfl) (fun K hK => ?_))
        | (with_reducible refine v_draw1 mixed [] [] (by kernel_rfl) (fun K hK => ?_))
        | (with_reducible refine ev_nil (hK _ _ ?_); clear hK K)
        | (with_reducible refine ed_nil (hK _ _ ?_); clear hK K)
        | ((first | with_reducible refine ev_cons (fun K' hK' => ?_) | with_reducible refine ed_cons (fun K' hK' => ?_) | (with_reducible refine ev_id ?_; refine ev_guard rfl (fun K' hK' => ?_)) | (with_reducible refine ed_id ?_; refine ed_guard rfl (fun K' hK' => ?_))); simp [h43, h42, h41, h9, h0, h6, h7, h8, hjl, pairs, pairs_len, sum2, hp.1, hp.2.1, hp.2.2]; repeat' (first | (with_reducible refine hK' _ _ ?_; clear hK' K') | (with_reducible refine And.intro ?_ ?_) | (with_reducible intro hg) | (clear hK' K'; omega)))
        | (with_reducible refine w_cond (fun A B hA hB => ?_); simp [h43, h42, h41, h9, h0, h6, h7, h8, hjl, pairs, pairs_len, sum2, hp.1, hp.2.1, hp.2.2]; repeat' (first | (with_reducible refine hA ?_; clear hA hB A B) | (with_reducible refine hB ?_; clear hA hB A B) | (with_reducible refine And.intro ?_ ?_) | (with_reducible intro hc)))
        | ((fail_if_success (with_reducible refine at_reg 12 ?_)); with_reducible refine awp_seq ?_))
      refine AWP.sub (sub_new hg) ?_
      have lat : ∀ (g : Int → Bool) h, (labB arcs.length g)[j]'h = B (g j) := fun g h => by
        have := labB_at (n := arcs.length) (s := g) (x := (j : Int)) (by omega) (by simpa using h)
        simpa using this
      have ljl : ∀ g : Int → Bool, j < (labB arcs.length g).length := fun g => by rw [labB_length]; exact hjl
      have hen := N.ends j (by omega) (by omega)
      have hto : 0 ≤ toA arcs full j ∧ toA arcs full j < n := by unfold toA; split <;> omega
      have htn : (toA arcs full j).toNat < n := by omega
      have hts : toA arcs full j = if full j then tlA arcs j else hdA arcs j := rfl
      have hfs : frA arcs full j = if full j then hdA arcs j else tlA arcs j := rfl
      obtain ⟨to, hto'⟩ : ∃ x, x = toA arcs full j := ⟨_, rfl⟩
      obtain ⟨fr, hfr'⟩ : ∃ x, x = frA arcs full j := ⟨_, rfl⟩
      rw [← hto'] at hto htn hts
      rw [← hfr'] at hfs
      have cat : ∀ (g : Int → Bool) h, (labB n g)[to.toNat]'h = B (g to) := fun g h => labB_at hto.1 h
      have cln : ∀ g : Int → Bool, to.toNat < (labB n g).length := fun g => by rw [labB_length]; exact htn
      have rln : ∀ g : Int → Int, to.toNat < (labI n g).length := fun g => by rw [labI_length]; exact htn
      have hql : q'.length ≤ 4096 := by omega
      by_cases hsk : gone j = true ∨ fr ≠ v ∨ s' to = true
      · have hM2 := hM.skip (by rw [← hfr', ← hto']; exact hsk)
        have hvals : gone j = true ∨ (gone j = false ∧ fr ≠ v) ∨ (gone j = false ∧ fr = v ∧ s' to = true) := by
          cases hg' : gone j
          · rw [hg'] at hsk; by_cases e : fr = v
            · exact .inr (.inr ⟨rfl, e, by simpa [e] using hsk⟩)
            · exact .inr (.inl ⟨rfl, e⟩)
          · exact .inl rfl
        clear hsk
        cases hf : full j
        all_goals
          rw [hf] at hts hfs
          simp only [Bool.false_eq_true, if_false, if_true] at hts hfs
          rw [← hts, ← hfs]
          rcases hvals with hv1 | ⟨hv1, hv2⟩ | ⟨hv1, hv2, hv3⟩
        · repeat' (first
            | (with_reducible refine awp_skip ?_)
            | (with_reducible refine then_any ?_)
            | (with_reducible refine then_ret ?_)
            | (with_reducible refine then_exit ?_)
            | (with_reducible refine inBlock_normal ?_)
            | (with_reducible refine inBlock_ret ?_)
            | (with_reducible refine inBlock_hit ?_)
            | (with_reducible refine inBlock_miss (by decide) ?_)
            | (with_reducible refine awp_ret ?_)
            | (with_reducible refine awp_exit ?_)
            | (with_reducible refine post_ret ?_)
            | (with_reducible refine post_normal ?_)
            | (with_reducible refine awp_block ?_)
            | (with_reducible refine v_reg [] (fun K hK => ?_))
            | (with_reducible refine v_reg1 [] (fun K hK => ?_))
            | (with_reducible refine v_draw mixed [] [] (by kernel_rfl) (fun K hK => ?_))
            | (with_reducible refine v_draw1 mixed [] [] (by kernel_rfl) (fun K hK => ?_))
            | (with_reducible refine ev_nil (hK _ _ ?_); clear hK K)
            | (with_reducible refine ed_nil (hK _ _ ?_); clear hK K)
            | ((first | with_reducible refine ev_cons (fun K' hK' => ?_) | with_reducible refine ed_cons (fun K' hK' => ?_) | (with_reducible refine ev_id ?_; refine ev_guard rfl (fun K' hK' => ?_)) | (with_reducible refine ed_id ?_; refine ed_guard rfl (fun K' hK' => ?_))); simp [h43, h42, h41, h9, h0, h6, h7, h8, pairs, eF d, eL d, eG d, lat, ljl, hf, hv1]; repeat' (first | (with_reducible refine hK' _ _ ?_; clear hK' K') | (with_reducible refine And.intro ?_ ?_) | (with_reducible intro hg) | (clear hK' K'; omega)))
            | (with_reducible refine w_cond (fun A B hA hB => ?_); simp [h43, h42, h41, h9, h0, h6, h7, h8, pairs, eF d, eL d, eG d, lat, ljl, hf, hv1]; repeat' (first | (with_reducible refine hA ?_; clear hA hB A B) | (with_reducible refine hB ?_; clear hA hB A B) | (with_reducible refine And.intro ?_ ?_) | (with_reducible intro hc)))
            | (with_reducible refine awp_seq ?_))
          exact ⟨⟨j + 1, f', s', q', b, off, cells, by omega, hM2, hsum, by simp, by simp [h42], by simp [h41], by simp [h9], by simp [h0], by simp [h6], by simp [h7], d, by simp [h8], hcl, hcd, rfl⟩, by simp; omega⟩
        · repeat' (first
            | (with_reducible refine awp_skip ?_)
            | (with_reducible refine then_any ?_)
            | (with_reducible refine then_ret ?_)
            | (with_reducible refine then_exit ?_)
            | (with_reducible refine inBlock_normal ?_)
            | (with_reducible refine inBlock_ret ?_)
            | (with_reducible refine inBlock_hit ?_)
            | (with_reducible refine inBlock_miss (by decide) ?_)
            | (with_reducible refine awp_ret ?_)
            | (with_reducible refine awp_exit ?_)
            | (with_reducible refine post_ret ?_)
            | (with_reducible refine post_normal ?_)
            | (with_reducible refine awp_block ?_)
            | (with_reducible refine v_reg [] (fun K hK => ?_))
            | (with_reducible refine v_reg1 [] (fun K hK => ?_))
            | (with_reducible refine v_draw mixed [] [] (by kernel_rfl) (fun K hK => ?_))
            | (with_reducible refine v_draw1 mixed [] [] (by kernel_rfl) (fun K hK => ?_))
            | (with_reducible refine ev_nil (hK _ _ ?_); clear hK K)
            | (with_reducible refine ed_nil (hK _ _ ?_); clear hK K)
            | ((first | with_reducible refine ev_cons (fun K' hK' => ?_) | with_reducible refine ed_cons (fun K' hK' => ?_) | (with_reducible refine ev_id ?_; refine ev_guard rfl (fun K' hK' => ?_)) | (with_reducible refine ed_id ?_; refine ed_guard rfl (fun K' hK' => ?_))); simp [h43, h42, h41, h9, h0, h6, h7, h8, pairs, eF d, eL d, eG d, lat, ljl, hf, hv1, hv2]; repeat' (first | (with_reducible refine hK' _ _ ?_; clear hK' K') | (with_reducible refine And.intro ?_ ?_) | (with_reducible intro hg) | (clear hK' K'; omega)))
            | (with_reducible refine w_cond (fun A B hA hB => ?_); simp [h43, h42, h41, h9, h0, h6, h7, h8, pairs, eF d, eL d, eG d, lat, ljl, hf, hv1, hv2]; repeat' (first | (with_reducible refine hA ?_; clear hA hB A B) | (with_reducible refine hB ?_; clear hA hB A B) | (with_reducible refine And.intro ?_ ?_) | (with_reducible intro hc)))
            | (with_reducible refine awp_seq ?_))
          exact ⟨⟨j + 1, f', s', q', b, off, cells, by omega, hM2, hsum, by simp, by simp [h42], by simp [h41], by simp [h9], by simp [h0], by simp [h6], by simp [h7], d, by simp [h8], hcl, hcd, rfl⟩, by simp; omega⟩
        · repeat' (first
            | (with_reducible refine awp_skip ?_)
            | (with_reducible refine then_any ?_)
            | (with_reducible refine then_ret ?_)
            | (with_reducible refine then_exit ?_)
            | (with_reducible refine inBlock_normal ?_)
            | (with_reducible refine inBlock_ret ?_)
            | (with_reducible refine inBlock_hit ?_)
            | (with_reducible refine inBlock_miss (by decide) ?_)
            | (with_reducible refine awp_ret ?_)
            | (with_reducible refine awp_exit ?_)
            | (with_reducible refine post_ret ?_)
            | (with_reducible refine post_normal ?_)
            | (with_reducible refine awp_block ?_)
            | (with_reducible refine v_reg [] (fun K hK => ?_))
            | (with_reducible refine v_reg1 [] (fun K hK => ?_))
            | (with_reducible refine v_draw mixed [] [] (by kernel_rfl) (fun K hK => ?_))
            | (with_reducible refine v_draw1 mixed [] [] (by kernel_rfl) (fun K hK => ?_))
            | (with_reducible refine ev_nil (hK _ _ ?_); clear hK K)
            | (with_reducible refine ed_nil (hK _ _ ?_); clear hK K)
            | ((first | with_reducible refine ev_cons (fun K' hK' => ?_) | with_reducible refine ed_cons (fun K' hK' => ?_) | (with_reducible refine ev_id ?_; refine ev_guard rfl (fun K' hK' => ?_)) | (with_reducible refine ed_id ?_; refine ed_guard rfl (fun K' hK' => ?_))); simp [h43, h42, h41, h9, h0, h6, h7, h8, pairs, eF d, eL d, eG d, qh_C d, cat, cln, labB_length, hjl, hto.1, htn, lat, ljl, hf, hv1, hv2, hv3]; repeat' (first | (with_reducible refine hK' _ _ ?_; clear hK' K') | (with_reducible refine And.intro ?_ ?_) | (with_reducible intro hg) | (clear hK' K'; omega)))
            | (with_reducible refine w_cond (fun A B hA hB => ?_); simp [h43, h42, h41, h9, h0, h6, h7, h8, pairs, eF d, eL d, eG d, qh_C d, cat, cln, labB_length, hjl, hto.1, htn, lat, ljl, hf, hv1, hv2, hv3]; repeat' (first | (with_reducible refine hA ?_; clear hA hB A B) | (with_reducible refine hB ?_; clear hA hB A B) | (with_reducible refine And.intro ?_ ?_) | (with_reducible intro hc)))
            | (with_reducible refine awp_seq ?_))
          exact ⟨⟨j + 1, f', s', q', b, off, cells, by omega, hM2, hsum, by simp, by simp [h42], by simp [h41], by simp [h9], by simp [h0], by simp [h6], by simp [h7], d, by simp [h8], hcl, hcd, rfl⟩, by simp; omega⟩
        · repeat' (first
            | (with_reducible refine awp_skip ?_)
            | (with_reducible refine then_any ?_)
            | (with_reducible refine then_ret ?_)
            | (with_reducible refine then_exit ?_)
            | (with_reducible refine inBlock_normal ?_)
            | (with_reducible refine inBlock_ret ?_)
            | (with_reducible refine inBlock_hit ?_)
            | (with_reducible refine inBlock_miss (by decide) ?_)
            | (with_reducible refine awp_ret ?_)
            | (with_reducible refine awp_exit ?_)
            | (with_reducible refine post_ret ?_)
            | (with_reducible refine post_normal ?_)
            | (with_reducible refine awp_block ?_)
            | (with_reducible refine v_reg [] (fun K hK => ?_))
            | (with_reducible refine v_reg1 [] (fun K hK => ?_))
            | (with_reducible refine v_draw mixed [] [] (by kernel_rfl) (fun K hK => ?_))
            | (with_reducible refine v_draw1 mixed [] [] (by kernel_rfl) (fun K hK => ?_))
            | (with_reducible refine ev_nil (hK _ _ ?_); clear hK K)
            | (with_reducible refine ed_nil (hK _ _ ?_); clear hK K)
            | ((first | with_reducible refine ev_cons (fun K' hK' => ?_) | with_reducible refine ed_cons (fun K' hK' => ?_) | (with_reducible refine ev_id ?_; refine ev_guard rfl (fun K' hK' => ?_)) | (with_reducible refine ed_id ?_; refine ed_guard rfl (fun K' hK' => ?_))); simp [h43, h42, h41, h9, h0, h6, h7, h8, pairs, eF d, eL d, eG d, lat, ljl, hf, hv1]; repeat' (first | (with_reducible refine hK' _ _ ?_; clear hK' K') | (with_reducible refine And.intro ?_ ?_) | (with_reducible intro hg) | (clear hK' K'; omega)))
            | (with_reducible refine w_cond (fun A B hA hB => ?_); simp [h43, h42, h41, h9, h0, h6, h7, h8, pairs, eF d, eL d, eG d, lat, ljl, hf, hv1]; repeat' (first | (with_reducible refine hA ?_; clear hA hB A B) | (with_reducible refine hB ?_; clear hA hB A B) | (with_reducible refine And.intro ?_ ?_) | (with_reducible intro hc)))
            | (with_reducible refine awp_seq ?_))
          exact ⟨⟨j + 1, f', s', q', b, off, cells, by omega, hM2, hsum, by simp, by simp [h42], by simp [h41], by simp [h9], by simp [h0], by simp [h6], by simp [h7], d, by simp [h8], hcl, hcd, rfl⟩, by simp; omega⟩
        · repeat' (first
            | (with_reducible refine awp_skip ?_)
            | (with_reducible refine then_any ?_)
            | (with_reducible refine then_ret ?_)
            | (with_reducible refine then_exit ?_)
            | (with_reducible refine inBlock_normal ?_)
            | (with_reducible refine inBlock_ret ?_)
            | (with_reducible refine inBlock_hit ?_)
            | (with_reducible refine inBlock_miss (by decide) ?_)
            | (with_reducible refine awp_ret ?_)
            | (with_reducible refine awp_exit ?_)
            | (with_reducible refine post_ret ?_)
            | (with_reducible refine post_normal ?_)
            | (with_reducible refine awp_block ?_)
            | (with_reducible refine v_reg [] (fun K hK => ?_))
            | (with_reducible refine v_reg1 [] (fun K hK => ?_))
            | (with_reducible refine v_draw mixed [] [] (by kernel_rfl) (fun K hK => ?_))
            | (with_reducible refine v_draw1 mixed [] [] (by kernel_rfl) (fun K hK => ?_))
            | (with_reducible refine ev_nil (hK _ _ ?_); clear hK K)
            | (with_reducible refine ed_nil (hK _ _ ?_); clear hK K)
            | ((first | with_reducible refine ev_cons (fun K' hK' => ?_) | with_reducible refine ed_cons (fun K' hK' => ?_) | (with_reducible refine ev_id ?_; refine ev_guard rfl (fun K' hK' => ?_)) | (with_reducible refine ed_id ?_; refine ed_guard rfl (fun K' hK' => ?_))); simp [h43, h42, h41, h9, h0, h6, h7, h8, pairs, eF d, eL d, eG d, lat, ljl, hf, hv1, hv2]; repeat' (first | (with_reducible refine hK' _ _ ?_; clear hK' K') | (with_reducible refine And.intro ?_ ?_) | (with_reducible intro hg) | (clear hK' K'; omega)))
            | (with_reducible refine w_cond (fun A B hA hB => ?_); simp [h43, h42, h41, h9, h0, h6, h7, h8, pairs, eF d, eL d, eG d, lat, ljl, hf, hv1, hv2]; repeat' (first | (with_reducible refine hA ?_; clear hA hB A B) | (with_reducible refine hB ?_; clear hA hB A B) | (with_reducible refine And.intro ?_ ?_) | (with_reducible intro hc)))
            | (with_reducible refine awp_seq ?_))
          exact ⟨⟨j + 1, f', s', q', b, off, cells, by omega, hM2, hsum, by simp, by simp [h42], by simp [h41], by simp [h9], by simp [h0], by simp [h6], by simp [h7], d, by simp [h8], hcl, hcd, rfl⟩, by simp; omega⟩
        · repeat' (first
            | (with_reducible refine awp_skip ?_)
            | (with_reducible refine then_any ?_)
            | (with_reducible refine then_ret ?_)
            | (with_reducible refine then_exit ?_)
            | (with_reducible refine inBlock_normal ?_)
            | (with_reducible refine inBlock_ret ?_)
            | (with_reducible refine inBlock_hit ?_)
            | (with_reducible refine inBlock_miss (by decide) ?_)
            | (with_reducible refine awp_ret ?_)
            | (with_reducible refine awp_exit ?_)
            | (with_reducible refine post_ret ?_)
            | (with_reducible refine post_normal ?_)
            | (with_reducible refine awp_block ?_)
            | (with_reducible refine v_reg [] (fun K hK => ?_))
            | (with_reducible refine v_reg1 [] (fun K hK => ?_))
            | (with_reducible refine v_draw mixed [] [] (by kernel_rfl) (fun K hK => ?_))
            | (with_reducible refine v_draw1 mixed [] [] (by kernel_rfl) (fun K hK => ?_))
            | (with_reducible refine ev_nil (hK _ _ ?_); clear hK K)
            | (with_reducible refine ed_nil (hK _ _ ?_); clear hK K)
            | ((first | with_reducible refine ev_cons (fun K' hK' => ?_) | with_reducible refine ed_cons (fun K' hK' => ?_) | (with_reducible refine ev_id ?_; refine ev_guard rfl (fun K' hK' => ?_)) | (with_reducible refine ed_id ?_; refine ed_guard rfl (fun K' hK' => ?_))); simp [h43, h42, h41, h9, h0, h6, h7, h8, pairs, eF d, eL d, eG d, qh_C d, cat, cln, labB_length, hjl, hto.1, htn, lat, ljl, hf, hv1, hv2, hv3]; repeat' (first | (with_reducible refine hK' _ _ ?_; clear hK' K') | (with_reducible refine And.intro ?_ ?_) | (with_reducible intro hg) | (clear hK' K'; omega)))
            | (with_reducible refine w_cond (fun A B hA hB => ?_); simp [h43, h42, h41, h9, h0, h6, h7, h8, pairs, eF d, eL d, eG d, qh_C d, cat, cln, labB_length, hjl, hto.1, htn, lat, ljl, hf, hv1, hv2, hv3]; repeat' (first | (with_reducible refine hA ?_; clear hA hB A B) | (with_reducible refine hB ?_; clear hA hB A B) | (with_reducible refine And.intro ?_ ?_) | (with_reducible intro hc)))
            | (with_reducible refine awp_seq ?_))
          exact ⟨⟨j + 1, f', s', q', b, off, cells, by omega, hM2, hsum, by simp, by simp [h42], by simp [h41], by simp [h9], by simp [h0], by simp [h6], by simp [h7], d, by simp [h8], hcl, hcd, rfl⟩, by simp; omega⟩
      · have hv1 : gone j = false := by cases e : gone j; (· rfl); (· exact absurd (.inl e) hsk)
        have hv2 : fr = v := Classical.byContradiction fun e => hsk (.inr (.inl e))
        have hv3 : s' to = false := by cases e : s' to; (· rfl); (· exact absurd (.inr (.inr e)) hsk)
        clear hsk
        have hM2 := hM.new (by omega) (by omega) hv1 (by rw [← hfr', hv2]) (by rw [← hto']; exact hv3) (by rw [← hto']; exact hto)
        rw [← hto'] at hM2
        have hun := unseen_lt hto.1 hto.2 hv3
        have hsetC := qh_setC (R := R) (n := n) (f := f') (s := s') (cells := cells) (top := off + q'.length) d (x := true) hto.1
        have hsetR := qh_setR (R := R) (n := n) (f := f') (s := setF s' to true) (cells := cells) (top := off + q'.length) d (x := (j : Int)) hto.1
        cases hf : full j
        all_goals
          rw [hf] at hts hfs
          simp only [Bool.false_eq_true, if_false, if_true] at hts hfs
          rw [← hts, ← hfs]
          by_cases hoff : off = 0
        · subst hoff
          simp only [Nat.zero_add, List.drop_zero] at *
          repeat' (first
            | (with_reducible refine awp_skip ?_)
            | (with_reducible refine then_any ?_)
            | (with_reducible refine then_ret ?_)
            | (with_reducible refine then_exit ?_)
            | (with_reducible refine inBlock_normal ?_)
            | (with_reducible refine inBlock_ret ?_)
            | (with_reducible refine inBlock_hit ?_)
            | (with_reducible refine inBlock_miss (by decide) ?_)
            | (with_reducible refine awp_ret ?_)
            | (with_reducible refine awp_exit ?_)
            | (with_reducible refine post_ret ?_)
            | (with_reducible refine post_normal ?_)
            | (with_reducible refine awp_block ?_)
            | (with_reducible refine v_reg [] (fun K hK => ?_))
            | (with_reducible refine v_reg1 [] (fun K hK => ?_))
            | (with_reducible refine v_draw mixed [] [] (by kernel_rfl) (fun K hK => ?_))
            | (with_reducible refine v_draw1 mixed [] [] (by kernel_rfl) (fun K hK => ?_))
            | (with_reducible refine ev_nil (hK _ _ ?_); clear hK K)
            | (with_reducible refine ed_nil (hK _ _ ?_); clear hK K)
            | ((first | with_reducible refine ev_cons (fun K' hK' => ?_) | with_reducible refine ed_cons (fun K' hK' => ?_) | (with_reducible refine ev_id ?_; refine ev_guard rfl (fun K' hK' => ?_)) | (with_reducible refine ed_id ?_; refine ed_guard rfl (fun K' hK' => ?_))); simp [h43, h42, h41, h9, h0, h6, h7, h8, pairs, eF d, eL d, eG d, qh_C d, qh_R d, qh_b, cat, cln, rln, labB_length, labI_length, hjl, hto.1, htn, lat, ljl, hf, hv1, hv2, hv3, hsetC, hsetR, qh_app]; repeat' (first | (with_reducible refine hK' _ _ ?_; clear hK' K') | (with_reducible refine And.intro ?_ ?_) | (with_reducible intro hg) | (clear hK' K'; omega)))
            | (with_reducible refine w_cond (fun A B hA hB => ?_); simp [h43, h42, h41, h9, h0, h6, h7, h8, pairs, eF d, eL d, eG d, qh_C d, qh_R d, qh_b, cat, cln, rln, labB_length, labI_length, hjl, hto.1, htn, lat, ljl, hf, hv1, hv2, hv3, hsetC, hsetR, qh_app]; repeat' (first | (with_reducible refine hA ?_; clear hA hB A B) | (with_reducible refine hB ?_; clear hA hB A B) | (with_reducible refine And.intro ?_ ?_) | (with_reducible intro hc)))
            | (with_reducible refine awp_seq ?_))
          exact ⟨⟨j + 1, _, _, q' ++ [to], b, 0, cells ++ [I to], by omega, hM2, by simp only [List.length_append, List.length_singleton]; omega, by simp, by simp [h42], by simp [h41], by simp [h9], by simp [h0], by simp [h6], by simp [h7], d, by simp, by simp [hcl], by simp [hcd], by simp⟩, by simp; omega⟩
        · repeat' (first
            | (with_reducible refine awp_skip ?_)
            | (with_reducible refine then_any ?_)
            | (with_reducible refine then_ret ?_)
            | (with_reducible refine then_exit ?_)
            | (with_reducible refine inBlock_normal ?_)
            | (with_reducible refine inBlock_ret ?_)
            | (with_reducible refine inBlock_hit ?_)
            | (with_reducible refine inBlock_miss (by decide) ?_)
            | (with_reducible refine awp_ret ?_)
            | (with_reducible refine awp_exit ?_)
            | (with_reducible refine post_ret ?_)
            | (with_reducible refine post_normal ?_)
            | (with_reducible refine awp_block ?_)
            | (with_reducible refine v_reg [] (fun K hK => ?_))
            | (with_reducible refine v_reg1 [] (fun K hK => ?_))
            | (with_reducible refine v_draw mixed [] [] (by kernel_rfl) (fun K hK => ?_))
            | (with_reducible refine v_draw1 mixed [] [] (by kernel_rfl) (fun K hK => ?_))
            | (with_reducible refine ev_nil (hK _ _ ?_); clear hK K)
            | (with_reducible refine ed_nil (hK _ _ ?_); clear hK K)
            | ((first | with_reducible refine ev_cons (fun K' hK' => ?_) | with_reducible refine ed_cons (fun K' hK' => ?_) | (with_reducible refine ev_id ?_; refine ev_guard rfl (fun K' hK' => ?_)) | (with_reducible refine ed_id ?_; refine ed_guard rfl (fun K' hK' => ?_))); simp [h43, h42, h41, h9, h0, h6, h7, h8, pairs, eF d, eL d, eG d, qh_C d, qh_R d, qh_b, cat, cln, rln, labB_length, labI_length, hjl, hto.1, htn, lat, ljl, hf, hv1, hv2, hv3, hsetC, hsetR, hoff]; repeat' (first | (with_reducible refine hK' _ _ ?_; clear hK' K') | (with_reducible refine And.intro ?_ ?_) | (with_reducible intro hg) | (clear hK' K'; omega)))
            | (with_reducible refine w_cond (fun A B hA hB => ?_); simp [h43, h42, h41, h9, h0, h6, h7, h8, pairs, eF d, eL d, eG d, qh_C d, qh_R d, qh_b, cat, cln, rln, labB_length, labI_length, hjl, hto.1, htn, lat, ljl, hf, hv1, hv2, hv3, hsetC, hsetR, hoff]; repeat' (first | (with_reducible refine hA ?_; clear hA hB A B) | (with_reducible refine hB ?_; clear hA hB A B) | (with_reducible refine And.intro ?_ ?_) | (with_reducible intro hc)))
            | (with_reducible refine awp_seq ?_))
          rename_i r2
          obtain ⟨n1, d2⟩ := qh_none d hg
          exact ⟨⟨j + 1, _, _, q' ++ [to], r2, 0, q'.map I ++ [I to], by omega, hM2, by simp only [List.length_append, List.length_singleton]; omega, by simp, by simp [h42], by simp [h41], by simp [h9], by simp [h0], by simp [h6], by simp [h7], d2, by simp, by simp, by simp, by simp [qh_new d, hcd]⟩, by simp; omega⟩
        · subst hoff
          simp only [Nat.zero_add, List.drop_zero] at *
          repeat' (first
            | (with_reducible refine awp_skip ?_)
            | (with_reducible refine then_any ?_)
            | (with_reducible refine then_ret ?_)
            | (with_reducible refine then_exit ?_)
            | (with_reducible refine inBlock_normal ?_)
            | (with_reducible refine inBlock_ret ?_)
            | (with_reducible refine inBlock_hit ?_)
            | (with_reducible refine inBlock_miss (by decide) ?_)
            | (with_reducible refine awp_ret ?_)
            | (with_reducible refine awp_exit ?_)
            | (with_reducible refine post_ret ?_)
            | (with_reducible refine post_normal ?_)
            | (with_reducible refine awp_block ?_)
            | (with_reducible refine v_reg [] (fun K hK => ?_))
            | (with_reducible refine v_reg1 [] (fun K hK => ?_))
            | (with_reducible refine v_draw mixed [] [] (by kernel_rfl) (fun K hK => ?_))
            | (with_reducible refine v_draw1 mixed [] [] (by kernel_rfl) (fun K hK => ?_))
            | (with_reducible refine ev_nil (hK _ _ ?_); clear hK K)
            | (with_reducible refine ed_nil (hK _ _ ?_); clear hK K)
            | ((first | with_reducible refine ev_cons (fun K' hK' => ?_) | with_reducible refine ed_cons (fun K' hK' => ?_) | (with_reducible refine ev_id ?_; refine ev_guard rfl (fun K' hK' => ?_)) | (with_reducible refine ed_id ?_; refine ed_guard rfl (fun K' hK' => ?_))); simp [h43, h42, h41, h9, h0, h6, h7, h8, pairs, eF d, eL d, eG d, qh_C d, qh_R d, qh_b, cat, cln, rln, labB_length, labI_length, hjl, hto.1, htn, lat, ljl, hf, hv1, hv2, hv3, hsetC, hsetR, qh_app]; repeat' (first | (with_reducible refine hK' _ _ ?_; clear hK' K') | (with_reducible refine And.intro ?_ ?_) | (with_reducible intro hg) | (clear hK' K'; omega)))
            | (with_reducible refine w_cond (fun A B hA hB => ?_); simp [h43, h42, h41, h9, h0, h6, h7, h8, pairs, eF d, eL d, eG d, qh_C d, qh_R d, qh_b, cat, cln, rln, labB_length, labI_length, hjl, hto.1, htn, lat, ljl, hf, hv1, hv2, hv3, hsetC, hsetR, qh_app]; repeat' (first | (with_reducible refine hA ?_; clear hA hB A B) | (with_reducible refine hB ?_; clear hA hB A B) | (with_reducible refine And.intro ?_ ?_) | (with_reducible intro hc)))
            | (with_reducible refine awp_seq ?_))
          exact ⟨⟨j + 1, _, _, q' ++ [to], b, 0, cells ++ [I to], by omega, hM2, by simp only [List.length_append, List.length_singleton]; omega, by simp, by simp [h42], by simp [h41], by simp [h9], by simp [h0], by simp [h6], by simp [h7], d, by simp, by simp [hcl], by simp [hcd], by simp⟩, by simp; omega⟩
        · repeat' (first
            | (with_reducible refine awp_skip ?_)
            | (with_reducible refine then_any ?_)
            | (with_reducible refine then_ret ?_)
            | (with_reducible refine then_exit ?_)
            | (with_reducible refine inBlock_normal ?_)
            | (with_reducible refine inBlock_ret ?_)
            | (with_reducible refine inBlock_hit ?_)
            | (with_reducible refine inBlock_miss (by decide) ?_)
            | (with_reducible refine awp_ret ?_)
            | (with_reducible refine awp_exit ?_)
            | (with_reducible refine post_ret ?_)
            | (with_reducible refine post_normal ?_)
            | (with_reducible refine awp_block ?_)
            | (with_reducible refine v_reg [] (fun K hK => ?_))
            | (with_reducible refine v_reg1 [] (fun K hK => ?_))
            | (with_reducible refine v_draw mixed [] [] (by kernel_rfl) (fun K hK => ?_))
            | (with_reducible refine v_draw1 mixed [] [] (by kernel_rfl) (fun K hK => ?_))
            | (with_reducible refine ev_nil (hK _ _ ?_); clear hK K)
            | (with_reducible refine ed_nil (hK _ _ ?_); clear hK K)
            | ((first | with_reducible refine ev_cons (fun K' hK' => ?_) | with_reducible refine ed_cons (fun K' hK' => ?_) | (with_reducible refine ev_id ?_; refine ev_guard rfl (fun K' hK' => ?_)) | (with_reducible refine ed_id ?_; refine ed_guard rfl (fun K' hK' => ?_))); simp [h43, h42, h41, h9, h0, h6, h7, h8, pairs, eF d, eL d, eG d, qh_C d, qh_R d, qh_b, cat, cln, rln, labB_length, labI_length, hjl, hto.1, htn, lat, ljl, hf, hv1, hv2, hv3, hsetC, hsetR, hoff]; repeat' (first | (with_reducible refine hK' _ _ ?_; clear hK' K') | (with_reducible refine And.intro ?_ ?_) | (with_reducible intro hg) | (clear hK' K'; omega)))
            | (with_reducible refine w_cond (fun A B hA hB => ?_); simp [h43, h42, h41, h9, h0, h6, h7, h8, pairs, eF d, eL d, eG d, qh_C d, qh_R d, qh_b, cat, cln, rln, labB_length, labI_length, hjl, hto.1, htn, lat, ljl, hf, hv1, hv2, hv3, hsetC, hsetR, hoff]; repeat' (first | (with_reducible refine hA ?_; clear hA hB A B) | (with_reducible refine hB ?_; clear hA hB A B) | (with_reducible refine And.intro ?_ ?_) | (with_reducible intro hc)))
            | (with_reducible refine awp_seq ?_))
          rename_i r2
          obtain ⟨n1, d2⟩ := qh_none d hg
          exact ⟨⟨j + 1, _, _, q' ++ [to], r2, 0, q'.map I ++ [I to], by omega, hM2, by simp only [List.length_append, List.length_singleton]; omega, by simp, by simp [h42], by simp [h41], by simp [h9], by simp [h0], by simp [h6], by simp [h7], d2, by simp, by simp, by simp, by simp [qh_new d, hcd]⟩, by simp; omega⟩
    · have : j = arcs.length := by omega
      subst this
      repeat' (first
        | (with_reducible refine awp_skip ?_)
        | (with_reducible refine then_any ?_)
        | (with_reducible refine then_ret ?_)
        | (with_reducible refine then_exit ?_)
        | (with_reducible refine inBlock_normal ?_)
        | (with_reducible refine inBlock_ret ?_)
        | (with_reducible refine inBlock_hit ?_)
        | (with_reducible refine inBlock_miss (by decide) ?_)
        | (with_reducible refine awp_ret ?_)
        | (with_reducible refine awp_exit ?_)
        | (with_reducible refine post_ret ?_)
        | (with_reducible refine post_normal ?_)
        | (with_reducible refine awp_block ?_)
        | (with_reducible refine v_reg [] (fun K hK => ?_))
        | (with_reducible refine v_reg1 [] (fun K hK => ?_))
        | (with_reducible refine v_draw mixed [] [] (by kernel_rfl) (fun K hK => ?_))
        | (with_reducible refine v_draw1 mixed [] [] (by kernel_rfl) (fun K hK => ?_))
        | (with_reducible refine ev_nil (hK _ _ ?_); clear hK K)
        | (with_reducible refine ed_nil (hK _ _ ?_); clear hK K)
        | ((first | with_reducible refine ev_cons (fun K' hK' => ?_) | with_reducible refine ed_cons (fun K' hK' => ?_) | (with_reducible refine ev_id ?_; refine ev_guard rfl (fun K' hK' => ?_)) | (with_reducible refine ed_id ?_; refine ed_guard rfl (fun K' hK' => ?_))); simp [h43, h42, h41]; repeat' (first | (with_reducible refine hK' _ _ ?_; clear hK' K') | (with_reducible refine And.intro ?_ ?_) | (with_reducible intro hg) | (clear hK' K'; omega)))
        | (with_reducible refine w_cond (fun A B hA hB => ?_); simp [h43, h42, h41]; repeat' (first | (with_reducible refine hA ?_; clear hA hB A B) | (with_reducible refine hB ?_; clear hA hB A B) | (with_reducible refine And.intro ?_ ?_) | (with_reducible intro hc)))
        | (with_reducible refine awp_seq ?_))
      exact ⟨2 * unseen n s' + q'.length, by omega, f', s', q', b, off, cells, hM.end, rfl, by omega, d, by simp [h0], by simp [h6], by simp [h7], by simp [h8], hcl, hcd, rfl⟩
end Go.Am
namespace Go.Am
open Go Go.Proofs
set_option linter.unusedVariables false
set_option linter.unusedSimpArgs false
variable {w0 : World}
attribute [local irreducible] AWP ACalls
attribute [local congr] acalls_congr
theorem FlowH.lf {H : Heap} {F G L n : Nat} {arcs : List (Int × Int)} {gone full : Int → Bool} (fh : FlowH H F G L n arcs gone full) : L ≠ F := fun e => by
  have := fh.hL
  rw [e, fh.hF] at this
  cases this
theorem FlowH.set {H : Heap} {F G L n : Nat} {arcs : List (Int × Int)} {gone full : Int → Bool} (fh : FlowH H F G L n arcs gone full) (full' : Int → Bool) :
    FlowH (upd H L (some (.arr 1 4 (labB arcs.length full') arcs.length))) F G L n arcs gone full' :=
  ⟨fh.lg, by rw [upd_ne _ _ _ (Ne.symm fh.lf)]; exact fh.hF, by rw [upd_ne _ _ _ (Ne.symm fh.lg)]; exact fh.hG, upd_same _ _ _⟩
theorem arcs_at {arcs : List (Int × Int)} {i : Nat} (h : i < arcs.length) : (∀ h', (arcs.flatMap fun e => [I e.1, I e.2])[i * 2]'h' = I (tlA arcs i)) ∧ ∀ h', (arcs.flatMap fun e => [I e.1, I e.2])[i * 2 + 1]'h' = I (hdA arcs i) := by
  have hp := pairs_get h
  rw [tlA_get h, hdA_get h] at hp
  exact ⟨fun h' => by have := hp.1; rw [List.getElem?_eq_getElem h'] at this; simpa using this, fun h' => by have := hp.2.1; rw [List.getElem?_eq_getElem h'] at this; simpa using this⟩
set_option maxHeartbeats 4000000 in
theorem send_use {H : Heap} {F G L n : Nat} {arcs : List (Int × Int)} {gone full : Int → Bool} {root v : Int} {by' : Int → Int} {come : Int → Bool} (N : NetA n arcs root) (fh : FlowH H F G L n arcs gone full)
    (w : WkA arcs n gone full root by' come) (hc : come v = true) (hr : ∀ i : Int, full i = true → 0 ≤ i ∧ i < arcs.length ∧ gone i = false) {K : AV → Heap → Prop}
    (k : ∀ x full', (∀ u : Int, exA arcs full' u = exA arcs full u + b2i (decide (u = v)) - b2i (decide (u = root))) → (∀ i : Int, full' i = true → 0 ≤ i ∧ i < arcs.length ∧ gone i = false) →
      K x (upd H L (some (.arr 1 4 (labB arcs.length full') arcs.length)))) : ACalls Try.prog w0 58 [.ptr F 0 0, .sl (labI n by') n, I root, I v] H K := by
  obtain ⟨rank, hb⟩ := w.back
  have hm := N.mle
  refine w_enter Try.func58 rfl Try.ntmps58 (ts := []) rfl (by simp) (by kernel_rfl) ?_
  repeat' (first
    | (with_reducible refine awp_skip ?_)
    | (with_reducible refine then_any ?_)
    | (with_reducible refine then_ret ?_)
    | (with_reducible refine then_exit ?_)
    | (with_reducible refine inBlock_normal ?_)
    | (with_reducible refine inBlock_ret ?_)
    | (with_reducible refine inBlock_hit ?_)
    | (with_reducible refine inBlock_miss (by decide) ?_)
    | (with_reducible refine awp_ret ?_)
    | (with_reducible refine awp_exit ?_)
    | (with_reducible refine post_ret ?_)
    | (with_reducible refine post_normal ?_)
    | (with_reducible refine awp_block ?_)
    | (with_reducible refine v_reg [] (fun K hK => ?_))
    | (with_reducible refine v_reg1 [] (fun K hK => ?_))
    | (with_reducible refine v_draw mixed [] [] (by kernel_rfl) (fun K hK => ?_))
    | (with_reducible refine v_draw1 mixed [] [] (by kernel_rfl) (fun K hK => ?_))
    | (with_reducible refine ev_nil (hK _ _ ?_); clear hK K)
    | (with_reducible refine ed_nil (hK _ _ ?_); clear hK K)
    | ((first | with_reducible refine ev_cons (fun K' hK' => ?_) | with_reducible refine ed_cons (fun K' hK' => ?_) | (with_reducible refine ev_id ?_; refine ev_guard rfl (fun K' hK' => ?_)) | (with_reducible refine ed_id ?_; refine ed_guard rfl (fun K' hK' => ?_))); simp; repeat' (first | (with_reducible refine hK' _ _ ?_; clear hK' K') | (with_reducible refine And.intro ?_ ?_) | (with_reducible intro hg) | (clear hK' K'; omega)))
    | (with_reducible refine w_cond (fun A B hA hB => ?_); simp; repeat' (first | (with_reducible refine hA ?_; clear hA hB A B) | (with_reducible refine hB ?_; clear hA hB A B) | (with_reducible refine And.intro ?_ ?_) | (with_reducible intro hc)))
    | (with_reducible refine awp_seq ?_))
  refine awp_loop_g (fun m env h => ∃ (full' : Int → Bool) (v' : Int), SendI arcs gone full full' root by' come rank v v' ∧ m = rank v' ∧ env 0 = .ptr F 0 0 ∧ env 1 = .sl (labI n by') n ∧ env 2 = I root ∧ env 3 = I v' ∧
    h = upd H L (some (.arr 1 4 (labB arcs.length full') arcs.length))) ?_ ?_
  · exact ⟨_, full, v, .start hr hc, rfl, by simp, by simp, by simp, by simp, by rw [← fh.hL, upd_self]⟩
  rintro m env h ⟨full', v', hS, hm', h0, h1, h2, h3, rfl⟩
  have fh' := fh.set full'
  generalize hH' : upd H L (some (.arr 1 4 (labB arcs.length full') arcs.length)) = H' at *
  by_cases hv : v' = root
  · subst hv
    repeat' (first
      | (with_reducible refine awp_skip ?_)
      | (with_reducible refine then_any ?_)
      | (with_reducible refine then_ret ?_)
      | (with_reducible refine then_exit ?_)
      | (with_reducible refine inBlock_normal ?_)
      | (with_reducible refine inBlock_ret ?_)
      | (with_reducible refine inBlock_hit ?_)
      | (with_reducible refine inBlock_miss (by decide) ?_)
      | (with_reducible refine awp_ret ?_)
      | (with_reducible refine awp_exit ?_)
      | (with_reducible refine post_ret ?_)
      | (with_reducible refine post_normal ?_)
      | (with_reducible refine awp_block ?_)
      | (with_reducible refine v_reg [] (fun K hK => ?_))
      | (with_reducible refine v_reg1 [] (fun K hK => ?_))
      | (with_reducible refine v_draw mixed [] [] (by kernel_rfl) (fun K hK => ?_))
      | (with_reducible refine v_draw1 mixed [] [] (by kernel_rfl) (fun K hK => ?_))
      | (with_reducible refine ev_nil (hK _ _ ?_); clear hK K)
      | (with_reducible refine ed_nil (hK _ _ ?_); clear hK K)
      | ((first | with_reducible refine ev_cons (fun K' hK' => ?_) | with_reducible refine ed_cons (fun K' hK' => ?_) | (with_reducible refine ev_id ?_; refine ev_guard rfl (fun K' hK' => ?_)) | (with_reducible refine ed_id ?_; refine ed_guard rfl (fun K' hK' => ?_))); simp [h0, h1, h2, h3]; repeat' (first | (with_reducible refine hK' _ _ ?_; clear hK' K') | (with_reducible refine And.intro ?_ ?_) | (with_reducible intro hg) | (clear hK' K'; omega)))
      | (with_reducible refine w_cond (fun A B hA hB => ?_); simp [h0, h1, h2, h3]; repeat' (first | (with_reducible refine hA ?_; clear hA hB A B) | (with_reducible refine hB ?_; clear hA hB A B) | (with_reducible refine And.intro ?_ ?_) | (with_reducible intro hc)))
      | (with_reducible refine awp_seq ?_))
    rw [← hH']
    exact k _ full' hS.ex hS.rng
  · obtain ⟨hgo, hlt⟩ := hS.go hb hv
    obtain ⟨a0, a1, a2, a3, a4, a5⟩ := hb v' hS.at' hv
    have hsame := hS.same v' hS.at' hv (Nat.le_refl _)
    have hvr := w.rng v' hS.at'
    have hvn : v'.toNat < n := by omega
    have hby : ∀ h, (labI n by')[v'.toNat]'h = I (by' v') := fun h => labI_at hvr.1 h
    have hbl : v'.toNat < (labI n by').length := by rw [labI_length]; exact hvn
    obtain ⟨i, hi⟩ : ∃ i : Nat, by' v' = i := Int.eq_ofNat_of_zero_le a0
    have hil : i < arcs.length := by omega
    have hp := arcs_at hil
    have hp3 : i * 2 + 1 < arcs.length * 2 := by omega
    have lat : ∀ (g : Int → Bool) h, (labB arcs.length g)[i]'h = B (g i) := fun g h => by
      have := labB_at (n := arcs.length) (s := g) (x := (i : Int)) (by omega) (by simpa using h)
      simpa using this
    have ljl : ∀ g : Int → Bool, i < (labB arcs.length g).length := fun g => by rw [labB_length]; exact hil
    have hset : ∀ x, upd H' L (some (.arr 1 4 ((labB arcs.length full').set i (B x)) arcs.length)) = upd H L (some (.arr 1 4 (labB arcs.length (setF full' i x)) arcs.length)) := fun x => by
      rw [← hH', upd_upd]
      have := labB_set (n := arcs.length) (s := full') (w := (i : Int)) (x := x) (by omega)
      rw [show ((i : Int)).toNat = i by omega] at this
      rw [this]
    have hfr : frA arcs full i = if full' i then hdA arcs i else tlA arcs i := by rw [hi] at hsame; unfold frA; rw [hsame]
    rw [hi] at hgo hlt
    cases hf : full' i
    · rw [hf] at hfr hgo
      simp only [Bool.false_eq_true, if_false] at hfr
      simp only [Bool.not_false] at hgo
      repeat' (first
        | (with_reducible refine awp_skip ?_)
        | (with_reducible refine then_any ?_)
        | (with_reducible refine then_ret ?_)
        | (with_reducible refine then_exit ?_)
        | (with_reducible refine inBlock_normal ?_)
        | (with_reducible refine inBlock_ret ?_)
        | (with_reducible refine inBlock_hit ?_)
        | (with_reducible refine inBlock_miss (by decide) ?_)
        | (with_reducible refine awp_ret ?_)
        | (with_reducible refine awp_exit ?_)
        | (with_reducible refine post_ret ?_)
        | (with_reducible refine post_normal ?_)
        | (with_reducible refine awp_block ?_)
        | (with_reducible refine v_reg [] (fun K hK => ?_))
        | (with_reducible refine v_reg1 [] (fun K hK => ?_))
        | (with_reducible refine v_draw mixed [] [] (by kernel_rfl) (fun K hK => ?_))
        | (with_reducible refine v_draw1 mixed [] [] (by kernel_rfl) (fun K hK => ?_))
        | (with_reducible refine ev_nil (hK _ _ ?_); clear hK K)
        | (with_reducible refine ed_nil (hK _ _ ?_); clear hK K)
        | ((first | with_reducible refine ev_cons (fun K' hK' => ?_) | with_reducible refine ed_cons (fun K' hK' => ?_) | (with_reducible refine ev_id ?_; refine ev_guard rfl (fun K' hK' => ?_)) | (with_reducible refine ed_id ?_; refine ed_guard rfl (fun K' hK' => ?_))); simp [h0, h1, h2, h3, hv, hby, hbl, hvr.1, hvn, hi, fh'.hF, fh'.hL, pairs, pairs_len, sum2, hp.1, hp.2, hp3, hil, lat, ljl, labB_length, hf, hset]; repeat' (first | (with_reducible refine hK' _ _ ?_; clear hK' K') | (with_reducible refine And.intro ?_ ?_) | (with_reducible intro hg) | (clear hK' K'; omega)))
        | (with_reducible refine w_cond (fun A B hA hB => ?_); simp [h0, h1, h2, h3, hv, hby, hbl, hvr.1, hvn, hi, fh'.hF, fh'.hL, pairs, pairs_len, sum2, hp.1, hp.2, hp3, hil, lat, ljl, labB_length, hf, hset]; repeat' (first | (with_reducible refine hA ?_; clear hA hB A B) | (with_reducible refine hB ?_; clear hA hB A B) | (with_reducible refine And.intro ?_ ?_) | (with_reducible intro hc)))
        | (with_reducible refine awp_seq ?_))
      exact ⟨_, by omega, _, _, hgo, rfl, by simp [h0], by simp [h1], by simp [h2], by simp [hfr], rfl⟩
    · rw [hf] at hfr hgo
      simp only [if_true] at hfr
      simp only [Bool.not_true] at hgo
      repeat' (first
        | (with_reducible refine awp_skip ?_)
        | (with_reducible refine then_any ?_)
        | (with_reducible refine then_ret ?_)
        | (with_reducible refine then_exit ?_)
        | (with_reducible refine inBlock_normal ?_)
        | (with_reducible refine inBlock_ret ?_)
        | (with_reducible refine inBlock_hit ?_)
        | (with_reducible refine inBlock_miss (by decide) ?_)
        | (with_reducible refine awp_ret ?_)
        | (with_reducible refine awp_exit ?_)
        | (with_reducible refine post_ret ?_)
        | (with_reducible refine post_normal ?_)
        | (with_reducible refine awp_block ?_)
        | (with_reducible refine v_reg [] (fun K hK => ?_))
        | (with_reducible refine v_reg1 [] (fun K hK => ?_))
        | (with_reducible refine v_draw mixed [] [] (by kernel_rfl) (fun K hK => ?_))
        | (with_reducible refine v_draw1 mixed [] [] (by kernel_rfl) (fun K hK => ?_))
        | (with_reducible refine ev_nil (hK _ _ ?_); clear hK K)
        | (with_reducible refine ed_nil (hK _ _ ?_); clear hK K)
        | ((first | with_reducible refine ev_cons (fun K' hK' => ?_) | with_reducible refine ed_cons (fun K' hK' => ?_) | (with_reducible refine ev_id ?_; refine ev_guard rfl (fun K' hK' => ?_)) | (with_reducible refine ed_id ?_; refine ed_guard rfl (fun K' hK' => ?_))); simp [h0, h1, h2, h3, hv, hby, hbl, hvr.1, hvn, hi, fh'.hF, fh'.hL, pairs, pairs_len, sum2, hp.1, hp.2, hp3, hil, lat, ljl, labB_length, hf, hset]; repeat' (first | (with_reducible refine hK' _ _ ?_; clear hK' K') | (with_reducible refine And.intro ?_ ?_) | (with_reducible intro hg) | (clear hK' K'; omega)))
        | (with_reducible refine w_cond (fun A B hA hB => ?_); simp [h0, h1, h2, h3, hv, hby, hbl, hvr.1, hvn, hi, fh'.hF, fh'.hL, pairs, pairs_len, sum2, hp.1, hp.2, hp3, hil, lat, ljl, labB_length, hf, hset]; repeat' (first | (with_reducible refine hA ?_; clear hA hB A B) | (with_reducible refine hB ?_; clear hA hB A B) | (with_reducible refine And.intro ?_ ?_) | (with_reducible intro hc)))
        | (with_reducible refine awp_seq ?_))
      exact ⟨_, by omega, _, _, hgo, rfl, by simp [h0], by simp [h1], by simp [h2], by simp [hfr], rfl⟩
end Go.Am
namespace Go.Am
open Go Go.Proofs
set_option linter.unusedVariables false
set_option linter.unusedSimpArgs false
variable {w0 : World}
attribute [local irreducible] AWP ACalls
attribute [local congr] acalls_congr
theorem FlowS.start (arcs : List (Int × Int)) (gone : Int → Bool) (root v : Int) : FlowS arcs gone (fun _ => false) root v 0 :=
  ⟨fun i h => (Bool.false_ne_true h).elim, fun u _ _ => by simp [exA, sum_zero], by simp [exA, sum_zero]⟩
theorem FlowS.next {arcs : List (Int × Int)} {gone full full' : Int → Bool} {root v : Int} {units : Nat} (h : FlowS arcs gone full root v units) (hv : v ≠ root)
    (e : ∀ u : Int, exA arcs full' u = exA arcs full u + b2i (decide (u = v)) - b2i (decide (u = root))) (r : ∀ i : Int, full' i = true → 0 ≤ i ∧ i < arcs.length ∧ gone i = false) : FlowS arcs gone full' root v (units + 1) where
  rng := r
  zero u h1 h2 := by rw [e u, h.zero u h1 h2]; simp [b2i, h1, h2]
  most := by rw [e v, h.most]; simp [b2i, hv]
def mh (H : Heap) (F G L n : Nat) (arcs : List (Int × Int)) (full : Int → Bool) : Heap :=
  upd (upd H L (some (.arr 1 4 (labB arcs.length full) arcs.length))) F (some (.box [I n, pairs arcs, .ref G 0 arcs.length arcs.length, .ref L 0 arcs.length arcs.length]))
set_option maxHeartbeats 4000000 in
theorem most_use {H : Heap} {G n enough : Nat} {arcs : List (Int × Int)} {gone : Int → Bool} {root v : Int} (N : NetA n arcs root) (hG : H G = some (.arr 1 4 (labB arcs.length gone) arcs.length))
    (hv : 0 ≤ v ∧ v < n) (hvr : v ≠ root) (he : enough ≤ 1000) {K : AV → Heap → Prop}
    (k : ∀ (units : Nat) full by' come, FlowS arcs gone full root v units → WkA arcs n gone full root by' come → (come v = false ∨ units = enough) → units ≤ enough → K (.tup [I units, .sl (labB n come) n]) H) :
    ACalls Try.prog w0 39 [I n, pairs arcs, .ref G 0 arcs.length arcs.length, I root, I v, I enough] H K := by
  refine (?_ : ACalls Try.prog w0 39 [I n, pairs arcs, .ref G 0 arcs.length arcs.length, I root, I v, I enough] H
    (fun x H' => ∃ (units : Nat) (full : Int → Bool) (by' : Int → Int) (come : Int → Bool), FlowS arcs gone full root v units ∧ WkA arcs n gone full root by' come ∧ (come v = false ∨ units = enough) ∧ units ≤ enough ∧ x = .tup [I units, .sl (labB n come) n] ∧ Sub H H')).drop ?_
  rotate_left
  · rintro x H' ⟨units, full, by', come, a, b, c, d, rfl, s⟩
    exact ⟨_, s, k units full by' come a b c d⟩
  clear k K
  have hm := N.mle
  refine w_enter Try.func39 rfl Try.ntmps39 (ts := [12, 13]) rfl (by simp) (by kernel_rfl) ?_
  repeat' (first
    | (with_reducible refine awp_skip ?_)
    | (with_reducible refine then_any ?_)
    | (with_reducible refine then_ret ?_)
    | (with_reducible refine then_exit ?_)
    | (with_reducible refine inBlock_normal ?_)
    | (with_reducible refine inBlock_ret ?_)
    | (with_reducible refine inBlock_hit ?_)
    | (with_reducible refine inBlock_miss (by decide) ?_)
    | (with_reducible refine awp_ret ?_)
    | (with_reducible refine awp_exit ?_)
    | (with_reducible refine post_ret ?_)
    | (with_reducible refine post_normal ?_)
    | (with_reducible refine awp_block ?_)
    | (with_reducible refine v_reg [] (fun K hK => ?_))
    | (with_reducible refine v_reg1 [] (fun K hK => ?_))
    | (with_reducible refine v_draw mixed [] [] (by kernel_rfl) (fun K hK => ?_))
    | (with_reducible refine v_draw1 mixed [] [] (by kernel_rfl) (fun K hK => ?_))
    | (with_reducible refine ev_nil (hK _ _ ?_); clear hK K)
    | (with_reducible refine ed_nil (hK _ _ ?_); clear hK K)
    | ((first | with_reducible refine ev_cons (fun K' hK' => ?_) | with_reducible refine ed_cons (fun K' hK' => ?_) | (with_reducible refine ev_id ?_; refine ev_guard rfl (fun K' hK' => ?_)) | (with_reducible refine ed_id ?_; refine ed_guard rfl (fun K' hK' => ?_))); simp [pairs]; repeat' (first | (with_reducible refine hK' _ _ ?_; clear hK' K') | (with_reducible refine And.intro ?_ ?_) | (with_reducible intro hg) | (clear hK' K'; omega)))
    | (with_reducible refine w_cond (fun A B hA hB => ?_); simp [pairs]; repeat' (first | (with_reducible refine hA ?_; clear hA hB A B) | (with_reducible refine hB ?_; clear hA hB A B) | (with_reducible refine And.intro ?_ ?_) | (with_reducible intro hc)))
    | (with_reducible refine awp_seq ?_))
  rename_i L hL F
  have hFL : F ≠ L := by rintro rfl; simp at hg
  have hF : H F = none := by rw [if_neg hFL] at hg; exact hg
  clear hg
  have hLG : L ≠ G := fun e => by rw [e, hG] at hL; cases hL
  have hFG : F ≠ G := fun e => by rw [e, hG] at hF; cases hF
  have fh : ∀ full, FlowH (mh H F G L n arcs full) F G L n arcs gone full := fun full =>
    ⟨hLG, by simp [mh], by simp only [mh]; rw [upd_ne _ _ _ (Ne.symm hFG), upd_ne _ _ _ (Ne.symm hLG)]; exact hG, by simp only [mh]; rw [upd_ne _ _ _ (Ne.symm hFL), upd_same]⟩
  have hset : ∀ full full', upd (mh H F G L n arcs full) L (some (.arr 1 4 (labB arcs.length full') arcs.length)) = mh H F G L n arcs full' := fun full full' => by
    unfold mh; rw [upd_comm _ _ _ hFL, upd_upd]
  have hsub : ∀ full, Sub H (mh H F G L n arcs full) := fun full => ((Sub.refl H).upd hL _).upd hF _
  refine awp_loop (fun env h => ∃ (units : Nat) (full : Int → Bool), units ≤ enough ∧ FlowS arcs gone full root v units ∧ env 15 = I units ∧ env 14 = .ptr F 0 0 ∧ env 3 = I root ∧ env 4 = I v ∧ env 5 = I enough ∧
    h = mh H F G L n arcs full) (fun env _ => enough - natA (env 15)) ?_ ?_
  · exact ⟨0, _, by omega, .start arcs gone root v, by simp, by simp, by simp, by simp, by simp, by simp [mh, ← labB_rep, pairs]⟩
  rintro env h ⟨units, full, hue, hf, h15, h14, h3, h4, h5, rfl⟩
  have hnat : natA (env 15) = units := by simp [h15]
  rw [hnat]; clear hnat
  have hwalk := fun K k => walk_use (w0 := w0) (K := K) N (fh full) k
  have hvn : v.toNat < n := by omega
  have cat : ∀ (g : Int → Bool) h, (labB n g)[v.toNat]'h = B (g v) := fun g h => labB_at hv.1 h
  have cln : ∀ g : Int → Bool, v.toNat < (labB n g).length := fun g => by rw [labB_length]; exact hvn
  have hsend := fun by' come (w : WkA arcs n gone full root by' come) (hc : come v = true) K k => send_use (w0 := w0) (K := K) N (fh full) w hc hf.rng k
  simp only [hset] at hsend
  repeat' (first
    | (with_reducible refine awp_skip ?_)
    | (with_reducible refine then_any ?_)
    | (with_reducible refine then_ret ?_)
    | (with_reducible refine then_exit ?_)
    | (with_reducible refine inBlock_normal ?_)
    | (with_reducible refine inBlock_ret ?_)
    | (with_reducible refine inBlock_hit ?_)
    | (with_reducible refine inBlock_miss (by decide) ?_)
    | (with_reducible refine awp_ret ?_)
    | (with_reducible refine awp_exit ?_)
    | (with_reducible refine post_ret ?_)
    | (with_reducible refine post_normal ?_)
    | (with_reducible refine awp_block ?_)
    | ((fail_if_success (with_reducible refine at_reg 5 ?_)); with_reducible refine v_reg [] (fun K hK => ?_))
    | (with_reducible refine v_reg1 [] (fun K hK => ?_))
    | ((fail_if_success (with_reducible refine at_reg 5 ?_)); with_reducible refine v_draw mixed [] [] (by kernel_rfl) (fun K hK => ?_))
    | (with_reducible refine v_draw1 mixed [] [] (by kernel_rfl) (fun K hK => ?_))
    | (with_reducible refine ev_nil (hK _ _ ?_); clear hK K)
    | (with_reducible refine ed_nil (hK _ _ ?_); clear hK K)
    | ((first | with_reducible refine ev_cons (fun K' hK' => ?_) | with_reducible refine ed_cons (fun K' hK' => ?_) | (with_reducible refine ev_id ?_; refine ev_guard rfl (fun K' hK' => ?_)) | (with_reducible refine ed_id ?_; refine ed_guard rfl (fun K' hK' => ?_))); simp [h15, h14, h3, h4, h5]; repeat' (first | (with_reducible refine hK' _ _ ?_; clear hK' K') | ((with_reducible refine hwalk _ (fun by' come hw => ?_)); try simp [h15, h14, h3, h4, h5]) | (with_reducible refine And.intro ?_ ?_) | (with_reducible intro hg) | (clear hK' K'; omega)))
    | (with_reducible refine w_cond (fun A B hA hB => ?_); simp [h15, h14, h3, h4, h5]; repeat' (first | (with_reducible refine hA ?_; clear hA hB A B) | (with_reducible refine hB ?_; clear hA hB A B) | (with_reducible refine And.intro ?_ ?_) | (with_reducible intro hc)))
    | ((fail_if_success (with_reducible refine at_reg 5 ?_)); with_reducible refine awp_seq ?_))
  cases hc : come v with
  | false =>
    repeat' (first
      | (with_reducible refine awp_skip ?_)
      | (with_reducible refine then_any ?_)
      | (with_reducible refine then_ret ?_)
      | (with_reducible refine then_exit ?_)
      | (with_reducible refine inBlock_normal ?_)
      | (with_reducible refine inBlock_ret ?_)
      | (with_reducible refine inBlock_hit ?_)
      | (with_reducible refine inBlock_miss (by decide) ?_)
      | (with_reducible refine awp_ret ?_)
      | (with_reducible refine awp_exit ?_)
      | (with_reducible refine post_ret ?_)
      | (with_reducible refine post_normal ?_)
      | (with_reducible refine awp_block ?_)
      | (with_reducible refine v_reg [] (fun K hK => ?_))
      | (with_reducible refine v_reg1 [] (fun K hK => ?_))
      | (with_reducible refine v_draw mixed [] [] (by kernel_rfl) (fun K hK => ?_))
      | (with_reducible refine v_draw1 mixed [] [] (by kernel_rfl) (fun K hK => ?_))
      | (with_reducible refine ev_nil (hK _ _ ?_); clear hK K)
      | (with_reducible refine ed_nil (hK _ _ ?_); clear hK K)
      | ((first | with_reducible refine ev_cons (fun K' hK' => ?_) | with_reducible refine ed_cons (fun K' hK' => ?_) | (with_reducible refine ev_id ?_; refine ev_guard rfl (fun K' hK' => ?_)) | (with_reducible refine ed_id ?_; refine ed_guard rfl (fun K' hK' => ?_))); simp [h15, h14, h3, h4, h5, cat, cln, hv.1, hvn, labB_length, hc]; repeat' (first | (with_reducible refine hK' _ _ ?_; clear hK' K') | (with_reducible refine And.intro ?_ ?_) | (with_reducible intro hg) | (clear hK' K'; omega)))
      | (with_reducible refine w_cond (fun A B hA hB => ?_); simp [h15, h14, h3, h4, h5, cat, cln, hv.1, hvn, labB_length, hc]; repeat' (first | (with_reducible refine hA ?_; clear hA hB A B) | (with_reducible refine hB ?_; clear hA hB A B) | (with_reducible refine And.intro ?_ ?_) | (with_reducible intro hc)))
      | (with_reducible refine awp_seq ?_))
    exact ⟨units, full, by', come, hf, hw, .inl hc, hue, by simp, hsub _⟩
  | true =>
    by_cases hue2 : units = enough
    · subst hue2
      repeat' (first
        | (with_reducible refine awp_skip ?_)
        | (with_reducible refine then_any ?_)
        | (with_reducible refine then_ret ?_)
        | (with_reducible refine then_exit ?_)
        | (with_reducible refine inBlock_normal ?_)
        | (with_reducible refine inBlock_ret ?_)
        | (with_reducible refine inBlock_hit ?_)
        | (with_reducible refine inBlock_miss (by decide) ?_)
        | (with_reducible refine awp_ret ?_)
        | (with_reducible refine awp_exit ?_)
        | (with_reducible refine post_ret ?_)
        | (with_reducible refine post_normal ?_)
        | (with_reducible refine awp_block ?_)
        | (with_reducible refine v_reg [] (fun K hK => ?_))
        | (with_reducible refine v_reg1 [] (fun K hK => ?_))
        | (with_reducible refine v_draw mixed [] [] (by kernel_rfl) (fun K hK => ?_))
        | (with_reducible refine v_draw1 mixed [] [] (by kernel_rfl) (fun K hK => ?_))
        | (with_reducible refine ev_nil (hK _ _ ?_); clear hK K)
        | (with_reducible refine ed_nil (hK _ _ ?_); clear hK K)
        | ((first | with_reducible refine ev_cons (fun K' hK' => ?_) | with_reducible refine ed_cons (fun K' hK' => ?_) | (with_reducible refine ev_id ?_; refine ev_guard rfl (fun K' hK' => ?_)) | (with_reducible refine ed_id ?_; refine ed_guard rfl (fun K' hK' => ?_))); simp [h15, h14, h3, h4, h5, cat, cln, hv.1, hvn, labB_length, hc]; repeat' (first | (with_reducible refine hK' _ _ ?_; clear hK' K') | (with_reducible refine And.intro ?_ ?_) | (with_reducible intro hg) | (clear hK' K'; omega)))
        | (with_reducible refine w_cond (fun A B hA hB => ?_); simp [h15, h14, h3, h4, h5, cat, cln, hv.1, hvn, labB_length, hc]; repeat' (first | (with_reducible refine hA ?_; clear hA hB A B) | (with_reducible refine hB ?_; clear hA hB A B) | (with_reducible refine And.intro ?_ ?_) | (with_reducible intro hc)))
        | (with_reducible refine awp_seq ?_))
      exact ⟨units, full, by', come, hf, hw, .inr rfl, hue, by simp, hsub _⟩
    · have hue3 : ((units : Int) = enough) = False := by simp; omega
      repeat' (first
        | (with_reducible refine awp_skip ?_)
        | (with_reducible refine then_any ?_)
        | (with_reducible refine then_ret ?_)
        | (with_reducible refine then_exit ?_)
        | (with_reducible refine inBlock_normal ?_)
        | (with_reducible refine inBlock_ret ?_)
        | (with_reducible refine inBlock_hit ?_)
        | (with_reducible refine inBlock_miss (by decide) ?_)
        | (with_reducible refine awp_ret ?_)
        | (with_reducible refine awp_exit ?_)
        | (with_reducible refine post_ret ?_)
        | (with_reducible refine post_normal ?_)
        | (with_reducible refine awp_block ?_)
        | (with_reducible refine v_reg [] (fun K hK => ?_))
        | (with_reducible refine v_reg1 [] (fun K hK => ?_))
        | (with_reducible refine v_draw mixed [] [] (by kernel_rfl) (fun K hK => ?_))
        | (with_reducible refine v_draw1 mixed [] [] (by kernel_rfl) (fun K hK => ?_))
        | (with_reducible refine ev_nil (hK _ _ ?_); clear hK K)
        | (with_reducible refine ed_nil (hK _ _ ?_); clear hK K)
        | ((first | with_reducible refine ev_cons (fun K' hK' => ?_) | with_reducible refine ed_cons (fun K' hK' => ?_) | (with_reducible refine ev_id ?_; refine ev_guard rfl (fun K' hK' => ?_)) | (with_reducible refine ed_id ?_; refine ed_guard rfl (fun K' hK' => ?_))); simp [h15, h14, h3, h4, h5, cat, cln, hv.1, hvn, labB_length, hc, hue3]; repeat' (first | (with_reducible refine hK' _ _ ?_; clear hK' K') | ((with_reducible refine hsend _ _ hw hc _ (fun x full' e' r' => ?_)); try simp [h15, h14, h3, h4, h5, cat, cln, hv.1, hvn, labB_length, hc, hue3]) | (with_reducible refine And.intro ?_ ?_) | (with_reducible intro hg) | (clear hK' K'; omega)))
        | (with_reducible refine w_cond (fun A B hA hB => ?_); simp [h15, h14, h3, h4, h5, cat, cln, hv.1, hvn, labB_length, hc, hue3]; repeat' (first | (with_reducible refine hA ?_; clear hA hB A B) | (with_reducible refine hB ?_; clear hA hB A B) | (with_reducible refine And.intro ?_ ?_) | (with_reducible intro hc)))
        | (with_reducible refine awp_seq ?_))
      exact ⟨⟨units + 1, full', by omega, hf.next hvr e' r', by simp, by simp [h14], by simp [h3], by simp [h4], by simp [h5], rfl⟩, by simp; omega⟩
end Go.Am
namespace Go.Am
open Go Go.Proofs
set_option linter.unusedVariables false
set_option linter.unusedSimpArgs false
variable {w0 : World}
attribute [local irreducible] AWP ACalls
attribute [local congr] acalls_congr
theorem pairs_at {es : List (Int × Int)} {k : Nat} (h : k < es.length) : (∀ h', (es.flatMap fun e => [I e.1, I e.2])[k * 2]'h' = I es[k].1) ∧ (∀ h', (es.flatMap fun e => [I e.1, I e.2])[k * 2 + 1]'h' = I es[k].2) ∧ k * 2 + 1 < es.length * 2 := by
  have hp := pairs_get h
  exact ⟨fun h' => by have := hp.1; rw [List.getElem?_eq_getElem h'] at this; simpa using this, fun h' => by have := hp.2.1; rw [List.getElem?_eq_getElem h'] at this; simpa using this, by omega⟩
def mayA (n : Int) (arcs : List (Int × Int)) (root : Int) : Bool := decide (1 ≤ n) && decide (n ≤ 64) && decide (arcs.length ≤ 64) && decide (0 ≤ root) && decide (root < n) && arcs.all (edgeOk n)
def costOk (x : Int) : Bool := decide (-2147483648 ≤ x) && decide (x ≤ 2147483648)
def mayC (n : Int) (arcs : List (Int × Int)) (cost : List Int) (root : Int) : Bool := mayA n arcs root && decide (cost.length = arcs.length) && cost.all costOk
theorem arborMay_ret {n root : Int} {arcs : List (Int × Int)} {cost : List Int} (ha : okLen arcs) (hc : okLen cost) : Ret Try.prog w0 41 [I n, pairs arcs, ints cost, I root] (B (mayC n arcs cost root)) := by
  intro H
  refine w_enter Try.func41 rfl Try.ntmps41 (ts := [8]) rfl (by simp) (by kernel_rfl) ?_
  by_cases h1 : 1 ≤ n ∧ n ≤ 64 ∧ arcs.length ≤ 64 ∧ cost.length = arcs.length ∧ 0 ≤ root ∧ root < n
  · obtain ⟨a1, a2, a3, a4, a5, a6⟩ := h1
    have b1 : ¬ n < 1 := by omega
    have b2 : ¬ 64 < n := by omega
    have b3 : ¬ (64 : Int) < arcs.length := by omega
    have b5 : ¬ root < 0 := by omega
    have b6 : ¬ n ≤ root := by omega
    repeat' (first
      | (with_reducible refine awp_skip ?_)
      | (with_reducible refine then_any ?_)
      | (with_reducible refine then_ret ?_)
      | (with_reducible refine then_exit ?_)
      | (with_reducible refine inBlock_normal ?_)
      | (with_reducible refine inBlock_ret ?_)
      | (with_reducible refine inBlock_hit ?_)
      | (with_reducible refine inBlock_miss (by decide) ?_)
      | (with_reducible refine awp_ret ?_)
      | (with_reducible refine awp_exit ?_)
      | (with_reducible refine post_ret ?_)
      | (with_reducible refine post_normal ?_)
      | (with_reducible refine awp_block ?_)
      | (with_reducible refine v_reg [] (fun K hK => ?_))
      | (with_reducible refine v_reg1 [] (fun K hK => ?_))
      | (with_reducible refine v_draw mixed [] [] (by kernel_rfl) (fun K hK => ?_))
      | (with_reducible refine v_draw1 mixed [] [] (by kernel_rfl) (fun K hK => ?_))
      | (with_reducible refine ev_nil (hK _ _ ?_); clear hK K)
      | (with_reducible refine ed_nil (hK _ _ ?_); clear hK K)
      | ((first | with_reducible refine ev_cons (fun K' hK' => ?_) | with_reducible refine ed_cons (fun K' hK' => ?_) | (with_reducible refine ev_id ?_; refine ev_guard rfl (fun K' hK' => ?_)) | (with_reducible refine ed_id ?_; refine ed_guard rfl (fun K' hK' => ?_))); simp [pairs, ints, b1, b2, b3, a4, b5, b6]; repeat' (first | (with_reducible refine hK' _ _ ?_; clear hK' K') | (with_reducible refine And.intro ?_ ?_) | (with_reducible intro hg) | (clear hK' K'; omega)))
      | (with_reducible refine w_cond (fun A B hA hB => ?_); simp [pairs, ints, b1, b2, b3, a4, b5, b6]; repeat' (first | (with_reducible refine hA ?_; clear hA hB A B) | (with_reducible refine hB ?_; clear hA hB A B) | (with_reducible refine And.intro ?_ ?_) | (with_reducible intro hc)))
      | (with_reducible refine awp_seq ?_))
    refine awp_loop_prep (fun env h => ∃ k : Nat, k ≤ arcs.length ∧ (arcs.take k).all (edgeOk n) = true ∧ (cost.take k).all costOk = true ∧ env 40 = I k ∧ env 39 = I arcs.length ∧ env 38 = pairs arcs ∧ env 0 = I n ∧ env 2 = ints cost ∧ h = H)
      (fun env h => ∃ k : Nat, k ≤ arcs.length ∧ (arcs.take k).all (edgeOk n) = true ∧ (cost.take k).all costOk = true ∧ env 40 = I k ∧ env 39 = I arcs.length ∧ env 38 = pairs arcs ∧ env 0 = I n ∧ env 2 = ints cost ∧ Sub H h) (fun env _ => arcs.length - natA (env 40)) ?_ ?_ ?_
    · exact ⟨0, by omega, by simp, by simp, by simp, by simp, by simp [pairs], by simp, by simp [ints, a4], .refl _⟩
    · rintro env h ⟨k, c1, c2, c3, c4, c5, c6, c7, c8, s⟩ Q' q
      exact AWP.sub s (q env _ ⟨k, c1, c2, c3, c4, c5, c6, c7, c8, rfl⟩ rfl)
    rintro env h ⟨k, hk, hE, hC, h40, h39, h38, h0, h2, rfl⟩
    have hnat : natA (env 40) = k := by simp [h40]
    rw [hnat]; clear hnat
    by_cases hlt : k < arcs.length
    · have hp := pairs_get hlt
      have hkc : k < cost.length := by omega
      have hE2 : (arcs.take (k + 1)).all (edgeOk n) = edgeOk n arcs[k] := by rw [List.take_succ_eq_append_getElem hlt, List.all_append, hE]; simp
      have hC2 : (cost.take (k + 1)).all costOk = costOk cost[k] := by rw [List.take_succ_eq_append_getElem hkc, List.all_append, hC]; simp
      have hno : (edgeOk n arcs[k] && costOk cost[k]) = false → mayC n arcs cost root = false := by
        intro e
        rw [Bool.and_eq_false_iff] at e
        rcases e with e | e
        · have : arcs.all (edgeOk n) = false := by rw [List.all_eq_false]; exact ⟨arcs[k], by simp, by simp [e]⟩
          simp [mayC, mayA, this]
        · have : cost.all costOk = false := by rw [List.all_eq_false]; exact ⟨cost[k], by simp, by simp [e]⟩
          simp [mayC, this]
      repeat' (first
        | (with_reducible refine awp_skip ?_)
        | (with_reducible refine then_any ?_)
        | (with_reducible refine then_ret ?_)
        | (with_reducible refine then_exit ?_)
        | (with_reducible refine inBlock_normal ?_)
        | (with_reducible refine inBlock_ret ?_)
        | (with_reducible refine inBlock_hit ?_)
        | (with_reducible refine inBlock_miss (by decide) ?_)
        | (with_reducible refine awp_ret ?_)
        | (with_reducible refine awp_exit ?_)
        | (with_reducible refine post_ret ?_)
        | (with_reducible refine post_normal ?_)
        | (with_reducible refine awp_block ?_)
        | (with_reducible refine v_reg [] (fun K hK => ?_))
        | (with_reducible refine v_reg1 [] (fun K hK => ?_))
        | (with_reducible refine v_draw mixed [] [] (by kernel_rfl) (fun K hK => ?_))
        | (with_reducible refine v_draw1 mixed [] [] (by kernel_rfl) (fun K hK => ?_))
        | (with_reducible refine ev_nil (hK _ _ ?_); clear hK K)
        | (with_reducible refine ed_nil (hK _ _ ?_); clear hK K)
        | ((first | with_reducible refine ev_cons (fun K' hK' => ?_) | with_reducible refine ed_cons (fun K' hK' => ?_) | (with_reducible refine ev_id ?_; refine ev_guard rfl (fun K' hK' => ?_)) | (with_reducible refine ed_id ?_; refine ed_guard rfl (fun K' hK' => ?_))); simp [h40, h39, h38, h0, h2, pairs, ints, hlt, hkc, hp.1, hp.2.1, hp.2.2, pairs_len, sum2, imin, imax]; repeat' (first | (with_reducible refine hK' _ _ ?_; clear hK' K') | (with_reducible refine And.intro ?_ ?_) | (with_reducible intro hg) | (clear hK' K'; omega)))
        | (with_reducible refine w_cond (fun A B hA hB => ?_); simp [h40, h39, h38, h0, h2, pairs, ints, hlt, hkc, hp.1, hp.2.1, hp.2.2, pairs_len, sum2, imin, imax]; repeat' (first | (with_reducible refine hA ?_; clear hA hB A B) | (with_reducible refine hB ?_; clear hA hB A B) | (with_reducible refine And.intro ?_ ?_) | (with_reducible intro hc)))
        | (with_reducible refine awp_seq ?_))
      all_goals first
        | exact ⟨⟨k + 1, by omega, by rw [hE2]; simp [edgeOk]; omega, by rw [hC2]; simp [costOk]; omega, by simp, by simp [h39], by simp [h38], by simp [h0], by simp [h2], sub_new (by assumption)⟩, by simp; omega⟩
        | exact ⟨by rw [hno (by simp [edgeOk, costOk]; omega)]; simp, sub_new (by assumption)⟩
    · have : k = arcs.length := by omega
      subst this
      rw [List.take_length] at hE
      rw [← a4, List.take_length] at hC
      repeat' (first
        | (with_reducible refine awp_skip ?_)
        | (with_reducible refine then_any ?_)
        | (with_reducible refine then_ret ?_)
        | (with_reducible refine then_exit ?_)
        | (with_reducible refine inBlock_normal ?_)
        | (with_reducible refine inBlock_ret ?_)
        | (with_reducible refine inBlock_hit ?_)
        | (with_reducible refine inBlock_miss (by decide) ?_)
        | (with_reducible refine awp_ret ?_)
        | (with_reducible refine awp_exit ?_)
        | (with_reducible refine post_ret ?_)
        | (with_reducible refine post_normal ?_)
        | (with_reducible refine awp_block ?_)
        | (with_reducible refine v_reg [] (fun K hK => ?_))
        | (with_reducible refine v_reg1 [] (fun K hK => ?_))
        | (with_reducible refine v_draw mixed [] [] (by kernel_rfl) (fun K hK => ?_))
        | (with_reducible refine v_draw1 mixed [] [] (by kernel_rfl) (fun K hK => ?_))
        | (with_reducible refine ev_nil (hK _ _ ?_); clear hK K)
        | (with_reducible refine ed_nil (hK _ _ ?_); clear hK K)
        | ((first | with_reducible refine ev_cons (fun K' hK' => ?_) | with_reducible refine ed_cons (fun K' hK' => ?_) | (with_reducible refine ev_id ?_; refine ev_guard rfl (fun K' hK' => ?_)) | (with_reducible refine ed_id ?_; refine ed_guard rfl (fun K' hK' => ?_))); simp [h40, h39, h38, h0, h2]; repeat' (first | (with_reducible refine hK' _ _ ?_; clear hK' K') | (with_reducible refine And.intro ?_ ?_) | (with_reducible intro hg) | (clear hK' K'; omega)))
        | (with_reducible refine w_cond (fun A B hA hB => ?_); simp [h40, h39, h38, h0, h2]; repeat' (first | (with_reducible refine hA ?_; clear hA hB A B) | (with_reducible refine hB ?_; clear hA hB A B) | (with_reducible refine And.intro ?_ ?_) | (with_reducible intro hc)))
        | (with_reducible refine awp_seq ?_))
      simp [mayC, mayA, *]
  · have hf : mayC n arcs cost root = false := by
      cases e : mayC n arcs cost root
      · rfl
      · simp [mayC, mayA] at e; omega
    repeat' (first
      | (with_reducible refine awp_skip ?_)
      | (with_reducible refine then_any ?_)
      | (with_reducible refine then_ret ?_)
      | (with_reducible refine then_exit ?_)
      | (with_reducible refine inBlock_normal ?_)
      | (with_reducible refine inBlock_ret ?_)
      | (with_reducible refine inBlock_hit ?_)
      | (with_reducible refine inBlock_miss (by decide) ?_)
      | (with_reducible refine awp_ret ?_)
      | (with_reducible refine awp_exit ?_)
      | (with_reducible refine post_ret ?_)
      | (with_reducible refine post_normal ?_)
      | (with_reducible refine awp_block ?_)
      | (with_reducible refine v_reg [] (fun K hK => ?_))
      | (with_reducible refine v_reg1 [] (fun K hK => ?_))
      | (with_reducible refine v_draw mixed [] [] (by kernel_rfl) (fun K hK => ?_))
      | (with_reducible refine v_draw1 mixed [] [] (by kernel_rfl) (fun K hK => ?_))
      | (with_reducible refine ev_nil (hK _ _ ?_); clear hK K)
      | (with_reducible refine ed_nil (hK _ _ ?_); clear hK K)
      | ((first | with_reducible refine ev_cons (fun K' hK' => ?_) | with_reducible refine ed_cons (fun K' hK' => ?_) | (with_reducible refine ev_id ?_; refine ev_guard rfl (fun K' hK' => ?_)) | (with_reducible refine ed_id ?_; refine ed_guard rfl (fun K' hK' => ?_))); simp [pairs, ints]; repeat' (first | (with_reducible refine hK' _ _ ?_; clear hK' K') | (with_reducible refine And.intro ?_ ?_) | (with_reducible intro hg) | (clear hK' K'; omega)))
      | (with_reducible refine w_cond (fun A B hA hB => ?_); simp [pairs, ints]; repeat' (first | (with_reducible refine hA ?_; clear hA hB A B) | (with_reducible refine hB ?_; clear hA hB A B) | (with_reducible refine And.intro ?_ ?_) | (with_reducible intro hc)))
      | (with_reducible refine awp_seq ?_))
    all_goals first
      | (exfalso; omega)
      | simp [hf]
theorem may19_ret {n root : Int} {arcs : List (Int × Int)} {cost : List Int} (ha : okLen arcs) (hc : okLen cost) : Ret Try.prog w0 30 [I n, pairs arcs, ints cost, I root] (B (mayC n arcs cost root)) := by
  intro H
  refine w_enter Try.func30 rfl Try.ntmps30 (ts := [8]) rfl (by simp) (by kernel_rfl) ?_
  repeat' (first
    | (with_reducible refine awp_skip ?_)
    | (with_reducible refine then_any ?_)
    | (with_reducible refine then_ret ?_)
    | (with_reducible refine then_exit ?_)
    | (with_reducible refine inBlock_normal ?_)
    | (with_reducible refine inBlock_ret ?_)
    | (with_reducible refine inBlock_hit ?_)
    | (with_reducible refine inBlock_miss (by decide) ?_)
    | (with_reducible refine awp_ret ?_)
    | (with_reducible refine awp_exit ?_)
    | (with_reducible refine post_ret ?_)
    | (with_reducible refine post_normal ?_)
    | (with_reducible refine awp_block ?_)
    | (with_reducible refine v_reg [] (fun K hK => ?_))
    | (with_reducible refine v_reg1 [] (fun K hK => ?_))
    | (with_reducible refine v_draw mixed [] [] (by kernel_rfl) (fun K hK => ?_))
    | (with_reducible refine v_draw1 mixed [] [] (by kernel_rfl) (fun K hK => ?_))
    | (with_reducible refine ev_nil (hK _ _ ?_); clear hK K)
    | (with_reducible refine ed_nil (hK _ _ ?_); clear hK K)
    | ((first | with_reducible refine ev_cons (fun K' hK' => ?_) | with_reducible refine ed_cons (fun K' hK' => ?_) | (with_reducible refine ev_id ?_; refine ev_guard rfl (fun K' hK' => ?_)) | (with_reducible refine ed_id ?_; refine ed_guard rfl (fun K' hK' => ?_))); simp [pairs, ints]; repeat' (first | (with_reducible refine hK' _ _ ?_; clear hK' K') | (with_reducible refine And.intro ?_ ?_) | (with_reducible intro hg) | (clear hK' K'; omega)))
    | (with_reducible refine w_cond (fun A B hA hB => ?_); simp [pairs, ints]; repeat' (first | (with_reducible refine hA ?_; clear hA hB A B) | (with_reducible refine hB ?_; clear hA hB A B) | (with_reducible refine And.intro ?_ ?_) | (with_reducible intro hc)))
    | (with_reducible refine awp_seq ?_))
  refine awp_loop (fun env h => ∃ k : Nat, k ≤ arcs.length ∧ (arcs.take k).all (edgeOk n) = true ∧ env 9 = I k ∧ env 0 = I n ∧ env 1 = pairs arcs ∧ env 2 = ints cost ∧ env 3 = I root ∧ h = H) (fun env _ => arcs.length - natA (env 9)) ?_ ?_
  · exact ⟨0, by omega, by simp, by simp, by simp, by simp [pairs], by simp [ints], by simp, rfl⟩
  rintro env h ⟨k, hk, hE, h9, h0, h1, h2, h3, rfl⟩
  have hnat : natA (env 9) = k := by simp [h9]
  rw [hnat]; clear hnat
  by_cases hlt : k < arcs.length
  · have hp := pairs_at hlt
    have hE2 : (arcs.take (k + 1)).all (edgeOk n) = edgeOk n arcs[k] := by rw [List.take_succ_eq_append_getElem hlt, List.all_append, hE]; simp
    have hno : edgeOk n arcs[k] = false → mayC n arcs cost root = false := by
      intro e
      have : arcs.all (edgeOk n) = false := by rw [List.all_eq_false]; exact ⟨arcs[k], by simp, by simp [e]⟩
      simp [mayC, mayA, this]
    repeat' (first
      | (with_reducible refine awp_skip ?_)
      | (with_reducible refine then_any ?_)
      | (with_reducible refine then_ret ?_)
      | (with_reducible refine then_exit ?_)
      | (with_reducible refine inBlock_normal ?_)
      | (with_reducible refine inBlock_ret ?_)
      | (with_reducible refine inBlock_hit ?_)
      | (with_reducible refine inBlock_miss (by decide) ?_)
      | (with_reducible refine awp_ret ?_)
      | (with_reducible refine awp_exit ?_)
      | (with_reducible refine post_ret ?_)
      | (with_reducible refine post_normal ?_)
      | (with_reducible refine awp_block ?_)
      | (with_reducible refine v_reg [] (fun K hK => ?_))
      | (with_reducible refine v_reg1 [] (fun K hK => ?_))
      | (with_reducible refine v_draw mixed [] [] (by kernel_rfl) (fun K hK => ?_))
      | (with_reducible refine v_draw1 mixed [] [] (by kernel_rfl) (fun K hK => ?_))
      | (with_reducible refine ev_nil (hK _ _ ?_); clear hK K)
      | (with_reducible refine ed_nil (hK _ _ ?_); clear hK K)
      | ((first | with_reducible refine ev_cons (fun K' hK' => ?_) | with_reducible refine ed_cons (fun K' hK' => ?_) | (with_reducible refine ev_id ?_; refine ev_guard rfl (fun K' hK' => ?_)) | (with_reducible refine ed_id ?_; refine ed_guard rfl (fun K' hK' => ?_))); simp [h9, h0, h1, h2, h3, pairs, ints, hlt, hp.1, hp.2.1, hp.2.2, pairs_len, sum2]; repeat' (first | (with_reducible refine hK' _ _ ?_; clear hK' K') | (with_reducible refine And.intro ?_ ?_) | (with_reducible intro hg) | (clear hK' K'; omega)))
      | (with_reducible refine w_cond (fun A B hA hB => ?_); simp [h9, h0, h1, h2, h3, pairs, ints, hlt, hp.1, hp.2.1, hp.2.2, pairs_len, sum2]; repeat' (first | (with_reducible refine hA ?_; clear hA hB A B) | (with_reducible refine hB ?_; clear hA hB A B) | (with_reducible refine And.intro ?_ ?_) | (with_reducible intro hc)))
      | (with_reducible refine awp_seq ?_))
    all_goals first
      | exact ⟨⟨k + 1, by omega, by rw [hE2]; simp [edgeOk]; omega, by simp, by simp [h0], by simp [h1], by simp [h2], by simp [h3], rfl⟩, by simp; omega⟩
      | (rw [hno (by simp [edgeOk]; omega)]; simp)
  · have : k = arcs.length := by omega
    subst this
    rw [List.take_length] at hE
    repeat' (first
      | (with_reducible refine awp_skip ?_)
      | (with_reducible refine then_any ?_)
      | (with_reducible refine then_ret ?_)
      | (with_reducible refine then_exit ?_)
      | (with_reducible refine inBlock_normal ?_)
      | (with_reducible refine inBlock_ret ?_)
      | (with_reducible refine inBlock_hit ?_)
      | (with_reducible refine inBlock_miss (by decide) ?_)
      | (with_reducible refine awp_ret ?_)
      | (with_reducible refine awp_exit ?_)
      | (with_reducible refine post_ret ?_)
      | (with_reducible refine post_normal ?_)
      | (with_reducible refine awp_block ?_)
      | (with_reducible refine v_reg [] (fun K hK => ?_))
      | (with_reducible refine v_reg1 [] (fun K hK => ?_))
      | (with_reducible refine v_draw mixed [] [] (by kernel_rfl) (fun K hK => ?_))
      | (with_reducible refine v_draw1 mixed [] [] (by kernel_rfl) (fun K hK => ?_))
      | (with_reducible refine ev_nil (hK _ _ ?_); clear hK K)
      | (with_reducible refine ed_nil (hK _ _ ?_); clear hK K)
      | ((first | with_reducible refine ev_cons (fun K' hK' => ?_) | with_reducible refine ed_cons (fun K' hK' => ?_) | (with_reducible refine ev_id ?_; refine ev_guard rfl (fun K' hK' => ?_)) | (with_reducible refine ed_id ?_; refine ed_guard rfl (fun K' hK' => ?_))); simp [h9, h0, h1, h2, h3, pairs, ints]; repeat' (first | (with_reducible refine hK' _ _ ?_; clear hK' K') | (with_reducible refine And.intro ?_ ?_) | (with_reducible intro hg) | (clear hK' K'; omega)))
      | (with_reducible refine w_cond (fun A B hA hB => ?_); simp [h9, h0, h1, h2, h3, pairs, ints]; repeat' (first | (with_reducible refine hA ?_; clear hA hB A B) | (with_reducible refine hB ?_; clear hA hB A B) | (with_reducible refine And.intro ?_ ?_) | (with_reducible intro hc)))
      | (with_reducible refine awp_seq ?_))
    refine awp_loop (fun env h' => ∃ k : Nat, k ≤ cost.length ∧ (cost.take k).all costOk = true ∧ env 10 = I k ∧ env 0 = I n ∧ env 1 = pairs arcs ∧ env 2 = ints cost ∧ env 3 = I root ∧ h' = h) (fun env _ => cost.length - natA (env 10)) ?_ ?_
    · exact ⟨0, by omega, by simp, by simp, by simp [h0], by simp [h1], by simp [h2], by simp [h3], rfl⟩
    clear h9 h0 h1 h2 h3
    rintro env h ⟨k, hk, hC, h10, h0, h1, h2, h3, rfl⟩
    have hnat : natA (env 10) = k := by simp [h10]
    rw [hnat]; clear hnat
    by_cases hlt : k < cost.length
    · have hC2 : (cost.take (k + 1)).all costOk = costOk cost[k] := by rw [List.take_succ_eq_append_getElem hlt, List.all_append, hC]; simp
      have hno : costOk cost[k] = false → mayC n arcs cost root = false := by
        intro e
        have : cost.all costOk = false := by rw [List.all_eq_false]; exact ⟨cost[k], by simp, by simp [e]⟩
        simp [mayC, this]
      repeat' (first
        | (with_reducible refine awp_skip ?_)
        | (with_reducible refine then_any ?_)
        | (with_reducible refine then_ret ?_)
        | (with_reducible refine then_exit ?_)
        | (with_reducible refine inBlock_normal ?_)
        | (with_reducible refine inBlock_ret ?_)
        | (with_reducible refine inBlock_hit ?_)
        | (with_reducible refine inBlock_miss (by decide) ?_)
        | (with_reducible refine awp_ret ?_)
        | (with_reducible refine awp_exit ?_)
        | (with_reducible refine post_ret ?_)
        | (with_reducible refine post_normal ?_)
        | (with_reducible refine awp_block ?_)
        | (with_reducible refine v_reg [] (fun K hK => ?_))
        | (with_reducible refine v_reg1 [] (fun K hK => ?_))
        | (with_reducible refine v_draw mixed [] [] (by kernel_rfl) (fun K hK => ?_))
        | (with_reducible refine v_draw1 mixed [] [] (by kernel_rfl) (fun K hK => ?_))
        | (with_reducible refine ev_nil (hK _ _ ?_); clear hK K)
        | (with_reducible refine ed_nil (hK _ _ ?_); clear hK K)
        | ((first | with_reducible refine ev_cons (fun K' hK' => ?_) | with_reducible refine ed_cons (fun K' hK' => ?_) | (with_reducible refine ev_id ?_; refine ev_guard rfl (fun K' hK' => ?_)) | (with_reducible refine ed_id ?_; refine ed_guard rfl (fun K' hK' => ?_))); simp [h10, h0, h1, h2, h3, pairs, ints, hlt]; repeat' (first | (with_reducible refine hK' _ _ ?_; clear hK' K') | (with_reducible refine And.intro ?_ ?_) | (with_reducible intro hg) | (clear hK' K'; omega)))
        | (with_reducible refine w_cond (fun A B hA hB => ?_); simp [h10, h0, h1, h2, h3, pairs, ints, hlt]; repeat' (first | (with_reducible refine hA ?_; clear hA hB A B) | (with_reducible refine hB ?_; clear hA hB A B) | (with_reducible refine And.intro ?_ ?_) | (with_reducible intro hc)))
        | (with_reducible refine awp_seq ?_))
      all_goals first
        | exact ⟨⟨k + 1, by omega, by rw [hC2]; simp [costOk]; omega, by simp, by simp [h0], by simp [h1], by simp [h2], by simp [h3], rfl⟩, by simp; omega⟩
        | (rw [hno (by simp [costOk]; omega)]; simp)
    · have : k = cost.length := by omega
      subst this
      rw [List.take_length] at hC
      repeat' (first
        | (with_reducible refine awp_skip ?_)
        | (with_reducible refine then_any ?_)
        | (with_reducible refine then_ret ?_)
        | (with_reducible refine then_exit ?_)
        | (with_reducible refine inBlock_normal ?_)
        | (with_reducible refine inBlock_ret ?_)
        | (with_reducible refine inBlock_hit ?_)
        | (with_reducible refine inBlock_miss (by decide) ?_)
        | (with_reducible refine awp_ret ?_)
        | (with_reducible refine awp_exit ?_)
        | (with_reducible refine post_ret ?_)
        | (with_reducible refine post_normal ?_)
        | (with_reducible refine awp_block ?_)
        | (with_reducible refine v_reg [] (fun K hK => ?_))
        | (with_reducible refine v_reg1 [] (fun K hK => ?_))
        | (with_reducible refine v_draw mixed [] [] (by kernel_rfl) (fun K hK => ?_))
        | (with_reducible refine v_draw1 mixed [] [] (by kernel_rfl) (fun K hK => ?_))
        | (with_reducible refine ev_nil (hK _ _ ?_); clear hK K)
        | (with_reducible refine ed_nil (hK _ _ ?_); clear hK K)
        | ((first | with_reducible refine ev_cons (fun K' hK' => ?_) | with_reducible refine ed_cons (fun K' hK' => ?_) | (with_reducible refine ev_id ?_; refine ev_guard rfl (fun K' hK' => ?_)) | (with_reducible refine ed_id ?_; refine ed_guard rfl (fun K' hK' => ?_))); simp [h10, h0, h1, h2, h3, pairs, ints]; repeat' (first | (with_reducible refine hK' _ _ ?_; clear hK' K') | (with_reducible refine And.intro ?_ ?_) | (with_reducible intro hg) | (clear hK' K'; omega)))
        | (with_reducible refine w_cond (fun A B hA hB => ?_); simp [h10, h0, h1, h2, h3, pairs, ints]; repeat' (first | (with_reducible refine hA ?_; clear hA hB A B) | (with_reducible refine hB ?_; clear hA hB A B) | (with_reducible refine And.intro ?_ ?_) | (with_reducible intro hc)))
        | (with_reducible refine awp_seq ?_))
      all_goals (refine ⟨?_, .refl _⟩; simp [mayC, mayA, hE, hC])
      all_goals first | omega | (rw [Bool.eq_iff_iff]; simp; omega)
theorem acalls_frz3 {f : FuncId} {x y : AV} {post : List AV} {H : Heap} {K : AV → Heap → Prop} {r off len top es : Nat} {e : TypeId} {cells : List AV} (hr : H r = none)
    (h : ACalls Try.prog w0 f (x :: y :: cut es cells off len :: post) H K) : ACalls Try.prog w0 f (x :: y :: .ref r off len top :: post) (upd H r (some (.arr es e cells top))) K :=
  acalls_frzG (pre := [x, y]) (upd_same _ _ _) (by rw [upd_upd, upd_none_self hr]; exact h)
theorem mayC_zero {n root : Int} {arcs : List (Int × Int)} : mayC n arcs (List.replicate arcs.length 0) root = mayA n arcs root := by
  simp [mayC, costOk]
def mayK (n : Int) (arcs : List (Int × Int)) (root k : Int) : Bool := mayA n arcs root && decide (1 ≤ k) && decide (k ≤ 8)
theorem arcsMay_ret {n root k : Int} {arcs : List (Int × Int)} (ha : smLen arcs) : Ret Try.prog w0 20 [I n, pairs arcs, I root, I k] (B (mayK n arcs root k)) := by
  intro H
  have hm := arborMay_ret (w0 := w0) (n := n) (root := root) (arcs := arcs) (cost := List.replicate arcs.length 0) (by simp only [okLen, smLen] at *; omega) (by simp only [okLen, smLen, List.length_replicate] at *; omega)
  rw [mayC_zero] at hm
  simp only [ints, List.map_replicate, List.length_replicate] at hm
  refine w_enter Try.func20 rfl Try.ntmps20 (ts := [8]) rfl (by simp) (by kernel_rfl) ?_
  repeat' (first
    | (with_reducible refine awp_skip ?_)
    | (with_reducible refine then_any ?_)
    | (with_reducible refine then_ret ?_)
    | (with_reducible refine then_exit ?_)
    | (with_reducible refine inBlock_normal ?_)
    | (with_reducible refine inBlock_ret ?_)
    | (with_reducible refine inBlock_hit ?_)
    | (with_reducible refine inBlock_miss (by decide) ?_)
    | (with_reducible refine awp_ret ?_)
    | (with_reducible refine awp_exit ?_)
    | (with_reducible refine post_ret ?_)
    | (with_reducible refine post_normal ?_)
    | (with_reducible refine awp_block ?_)
    | (with_reducible refine v_reg [] (fun K hK => ?_))
    | (with_reducible refine v_reg1 [] (fun K hK => ?_))
    | (with_reducible refine v_draw mixed [] [] (by kernel_rfl) (fun K hK => ?_))
    | (with_reducible refine v_draw1 mixed [] [] (by kernel_rfl) (fun K hK => ?_))
    | (with_reducible refine ev_nil (hK _ _ ?_); clear hK K)
    | (with_reducible refine ed_nil (hK _ _ ?_); clear hK K)
    | ((first | with_reducible refine ev_cons (fun K' hK' => ?_) | with_reducible refine ed_cons (fun K' hK' => ?_) | (with_reducible refine ev_id ?_; refine ev_guard rfl (fun K' hK' => ?_)) | (with_reducible refine ed_id ?_; refine ed_guard rfl (fun K' hK' => ?_))); simp [pairs]; repeat' (first | (with_reducible refine hK' _ _ ?_; clear hK' K') | ((with_reducible refine acalls_frz3 (by assumption) ?_; rw [cut_all (by simp)]; with_reducible refine Ret.use hm ?_); try simp [pairs]) | (with_reducible refine And.intro ?_ ?_) | (with_reducible intro hg) | (clear hK' K'; omega)))
    | (with_reducible refine w_cond (fun A B hA hB => ?_); simp [pairs]; repeat' (first | (with_reducible refine hA ?_; clear hA hB A B) | (with_reducible refine hB ?_; clear hA hB A B) | (with_reducible refine And.intro ?_ ?_) | (with_reducible intro hc)))
    | (with_reducible refine awp_seq ?_))
  all_goals (simp [mayK, *] <;> omega)
theorem may20_ret {n root k : Int} {arcs : List (Int × Int)} (ha : smLen arcs) : Ret Try.prog w0 21 [I n, pairs arcs, I root, I k] (B (mayK n arcs root k)) := by
  intro H
  have hm := may19_ret (w0 := w0) (n := n) (root := root) (arcs := arcs) (cost := List.replicate arcs.length 0) (by simp only [okLen, smLen] at *; omega) (by simp only [okLen, smLen, List.length_replicate] at *; omega)
  rw [mayC_zero] at hm
  simp only [ints, List.map_replicate, List.length_replicate] at hm
  refine w_enter Try.func21 rfl Try.ntmps21 (ts := [8]) rfl (by simp) (by kernel_rfl) ?_
  repeat' (first
    | (with_reducible refine awp_skip ?_)
    | (with_reducible refine then_any ?_)
    | (with_reducible refine then_ret ?_)
    | (with_reducible refine then_exit ?_)
    | (with_reducible refine inBlock_normal ?_)
    | (with_reducible refine inBlock_ret ?_)
    | (with_reducible refine inBlock_hit ?_)
    | (with_reducible refine inBlock_miss (by decide) ?_)
    | (with_reducible refine awp_ret ?_)
    | (with_reducible refine awp_exit ?_)
    | (with_reducible refine post_ret ?_)
    | (with_reducible refine post_normal ?_)
    | (with_reducible refine awp_block ?_)
    | (with_reducible refine v_reg [] (fun K hK => ?_))
    | (with_reducible refine v_reg1 [] (fun K hK => ?_))
    | (with_reducible refine v_draw mixed [] [] (by kernel_rfl) (fun K hK => ?_))
    | (with_reducible refine v_draw1 mixed [] [] (by kernel_rfl) (fun K hK => ?_))
    | (with_reducible refine ev_nil (hK _ _ ?_); clear hK K)
    | (with_reducible refine ed_nil (hK _ _ ?_); clear hK K)
    | ((first | with_reducible refine ev_cons (fun K' hK' => ?_) | with_reducible refine ed_cons (fun K' hK' => ?_) | (with_reducible refine ev_id ?_; refine ev_guard rfl (fun K' hK' => ?_)) | (with_reducible refine ed_id ?_; refine ed_guard rfl (fun K' hK' => ?_))); simp [pairs]; repeat' (first | (with_reducible refine hK' _ _ ?_; clear hK' K') | ((with_reducible refine acalls_frz3 (by assumption) ?_; rw [cut_all (by simp)]; with_reducible refine Ret.use hm ?_); try simp [pairs]) | (with_reducible refine And.intro ?_ ?_) | (with_reducible intro hg) | (clear hK' K'; omega)))
    | (with_reducible refine w_cond (fun A B hA hB => ?_); simp [pairs]; repeat' (first | (with_reducible refine hA ?_; clear hA hB A B) | (with_reducible refine hB ?_; clear hA hB A B) | (with_reducible refine And.intro ?_ ?_) | (with_reducible intro hc)))
    | (with_reducible refine awp_seq ?_))
  all_goals (simp [mayK, *] <;> omega)
theorem mayA_net {n root : Int} {arcs : List (Int × Int)} (h : mayA n arcs root = true) : ∃ m : Nat, n = m ∧ 1 ≤ m ∧ NetA m arcs root := by
  simp only [mayA, Bool.and_eq_true, decide_eq_true_eq] at h
  obtain ⟨⟨⟨⟨⟨a1, a2⟩, a3⟩, a4⟩, a5⟩, a6⟩ := h
  refine ⟨n.toNat, by omega, by omega, by omega, a3, ⟨a4, by omega⟩, fun i h0 h1 => ?_⟩
  have hi : i.toNat < arcs.length := by omega
  have := List.all_eq_true.1 a6 arcs[i.toNat] (List.getElem_mem _)
  have e1 : arcs[i.toNat].1 = tlA arcs i := by simp [tlA, hi]
  have e2 : arcs[i.toNat].2 = hdA arcs i := by simp [hdA, hi]
  simp only [edgeOk, Bool.and_eq_true, decide_eq_true_eq] at this
  omega
end Go.Am
namespace Go.Am
set_option linter.unusedVariables false
set_option linter.unusedSimpArgs false
section
variable (arcs : List (Int × Int))
def entP (gone T : Int → Bool) : Nat := (upto arcs.length).countP fun i => !gone i && T (hdA arcs i) && !T (tlA arcs i)
def VSet (n : Nat) (root : Int) (T : Int → Bool) : Prop := T root = false ∧ ∃ u : Int, 0 ≤ u ∧ u < n ∧ T u = true
variable {arcs} {n : Nat} {root : Int} {gone Hs : Int → Bool} {others : Nat}
theorem ent_sub (gone A B : Int → Bool) : entP arcs gone (fun u => A u && B u) + entP arcs gone (fun u => A u || B u) ≤ entP arcs gone A + entP arcs gone B := by
  unfold entP
  generalize upto arcs.length = l
  induction l with
  | nil => simp
  | cons i l ih =>
    dsimp only at ih
    simp only [List.countP_cons]
    cases gone i <;> cases A (hdA arcs i) <;> cases A (tlA arcs i) <;> cases B (hdA arcs i) <;> cases B (tlA arcs i) <;> simp only [Bool.not_true, Bool.not_false, Bool.and_true, Bool.and_false, Bool.true_and, Bool.false_and, Bool.or_true, Bool.or_false, Bool.true_or, Bool.false_or, if_true, Bool.false_eq_true, if_false] <;> omega
end
end Go.Am
namespace Go.Am
open Go Go.Proofs
set_option linter.unusedVariables false
set_option linter.unusedSimpArgs false
variable {w0 : World}
attribute [local irreducible] AWP ACalls
attribute [local congr] acalls_congr
section
variable {arcs : List (Int × Int)} {n : Nat} {gone full : Int → Bool} {root v : Int} {units : Nat} {by' : Int → Int} {come : Int → Bool}
theorem entA_len (T : List Int) : (entA arcs gone T).length = entP arcs gone (fun u => decide (u ∈ T)) := by
  rw [entA, entP, List.countP_eq_length_filter]
theorem NetA.ent_range (N : NetA n arcs root) (T : Int → Bool) : entP arcs gone T = (entA arcs gone ((upto n).filter T)).length := by
  rw [entA_len, entP, entP]
  refine List.countP_congr fun i hi => ?_
  obtain ⟨h0, h1⟩ := mem_upto.1 hi
  obtain ⟨ht, hh⟩ := N.ends i h0 h1
  have e : ∀ u : Int, (0 ≤ u ∧ u < n) → decide (u ∈ (upto n).filter T) = T u := fun u hu => by
    have : u ∈ upto n := mem_upto.2 hu
    cases e : T u <;> simp [List.mem_filter, this, e]
  rw [e _ hh, e _ ht]
def EnoughAt (arcs : List (Int × Int)) (gone : Int → Bool) (root : Int) (k : Nat) (v : Int) : Prop := ∀ T : Int → Bool, T root = false → T v = true → k ≤ entP arcs gone T
def EnoughP (arcs : List (Int × Int)) (n : Nat) (gone : Int → Bool) (root : Int) (k : Nat) : Prop := ∀ T : Int → Bool, VSet n root T → k ≤ entP arcs gone T
theorem enough_iff {k : Nat} : EnoughP arcs n gone root k ↔ ∀ v : Int, 0 ≤ v → v < n → v ≠ root → EnoughAt arcs gone root k v := by
  constructor
  · intro h v h0 h1 hr T hT hv
    exact h T ⟨hT, v, h0, h1, hv⟩
  · intro h T ⟨hT, v, h0, h1, hv⟩
    exact h v h0 h1 (fun e => by rw [e, hT] at hv; cases hv) T hT hv
theorem NetA.units_le (N : NetA n arcs root) (hf : FlowS arcs gone full root v units) (hv : 0 ≤ v ∧ v < n) : EnoughAt arcs gone root units v := by
  intro T hT hvT
  rw [N.ent_range]
  exact hf.le ((nodup_upto n).filter _) (fun h => by have := (List.mem_filter.1 h).2; rw [hT] at this; cases this) (List.mem_filter.2 ⟨mem_upto.2 hv, hvT⟩)
theorem NetA.units_tight (N : NetA n arcs root) (hf : FlowS arcs gone full root v units) (hw : WkA arcs n gone full root by' come) (hv : 0 ≤ v ∧ v < n) (hc : come v = false) :
    units = entP arcs gone (fun u => decide (u ∈ notC n come)) := by
  rw [← entA_len]
  exact hf.tight hw N.ends hv hc
theorem NetA.most_enough (N : NetA n arcs root) (hf : FlowS arcs gone full root v units) (hw : WkA arcs n gone full root by' come) (hv : 0 ≤ v ∧ v < n) {k : Nat} (hc : come v = false ∨ units = k) (hk : units ≤ k) :
    EnoughAt arcs gone root k v ↔ k ≤ units := by
  constructor
  · intro h
    rcases hc with hc | hc
    · rw [N.units_tight hf hw hv hc]
      refine h _ ?_ ?_
      · have : root ∉ notC n come := fun hx => by have := (mem_notC.1 hx).2; rw [hw.src] at this; cases this
        simp [this]
      · simp [mem_notC.2 ⟨hv, hc⟩]
    · omega
  · intro h
    have : k = units := by omega
    subst this
    exact N.units_le hf hv
end
open Classical in
noncomputable def enoughB (arcs : List (Int × Int)) (n : Nat) (gone : Int → Bool) (root : Int) (k : Nat) : Bool := decide (EnoughP arcs n gone root k)
theorem enoughB_true {arcs : List (Int × Int)} {n : Nat} {gone : Int → Bool} {root : Int} {k : Nat} : enoughB arcs n gone root k = true ↔ EnoughP arcs n gone root k := by simp [enoughB]
theorem enoughB_false {arcs : List (Int × Int)} {n : Nat} {gone : Int → Bool} {root : Int} {k : Nat} : enoughB arcs n gone root k = false ↔ ¬ EnoughP arcs n gone root k := by simp [enoughB]
theorem enough_at {H : Heap} {G n k : Nat} {arcs : List (Int × Int)} {gone : Int → Bool} {root : Int} (N : NetA n arcs root) (hG : H G = some (.arr 1 4 (labB arcs.length gone) arcs.length)) (hk : k ≤ 1000) :
    RetAt Try.prog w0 54 [I n, pairs arcs, .ref G 0 arcs.length arcs.length, I root, I k] (B (enoughB arcs n gone root k)) H := by
  refine .of ?_
  have hn := N.nle
  refine w_enter Try.func54 rfl Try.ntmps54 (ts := [10]) rfl (by simp) (by kernel_rfl) ?_
  repeat' (first
    | (with_reducible refine awp_skip ?_)
    | (with_reducible refine then_any ?_)
    | (with_reducible refine then_ret ?_)
    | (with_reducible refine then_exit ?_)
    | (with_reducible refine inBlock_normal ?_)
    | (with_reducible refine inBlock_ret ?_)
    | (with_reducible refine inBlock_hit ?_)
    | (with_reducible refine inBlock_miss (by decide) ?_)
    | (with_reducible refine awp_ret ?_)
    | (with_reducible refine awp_exit ?_)
    | (with_reducible refine post_ret ?_)
    | (with_reducible refine post_normal ?_)
    | (with_reducible refine awp_block ?_)
    | (with_reducible refine v_reg [] (fun K hK => ?_))
    | (with_reducible refine v_reg1 [] (fun K hK => ?_))
    | (with_reducible refine v_draw mixed [] [] (by kernel_rfl) (fun K hK => ?_))
    | (with_reducible refine v_draw1 mixed [] [] (by kernel_rfl) (fun K hK => ?_))
    | (with_reducible refine ev_nil (hK _ _ ?_); clear hK K)
    | (with_reducible refine ed_nil (hK _ _ ?_); clear hK K)
    | ((first | with_reducible refine ev_cons (fun K' hK' => ?_) | with_reducible refine ed_cons (fun K' hK' => ?_) | (with_reducible refine ev_id ?_; refine ev_guard rfl (fun K' hK' => ?_)) | (with_reducible refine ed_id ?_; refine ed_guard rfl (fun K' hK' => ?_))); simp; repeat' (first | (with_reducible refine hK' _ _ ?_; clear hK' K') | (with_reducible refine And.intro ?_ ?_) | (with_reducible intro hg) | (clear hK' K'; omega)))
    | (with_reducible refine w_cond (fun A B hA hB => ?_); simp; repeat' (first | (with_reducible refine hA ?_; clear hA hB A B) | (with_reducible refine hB ?_; clear hA hB A B) | (with_reducible refine And.intro ?_ ?_) | (with_reducible intro hc)))
    | (with_reducible refine awp_seq ?_))
  refine awp_loop (fun env h => ∃ v : Nat, v ≤ n ∧ (∀ u : Int, 0 ≤ u → u < v → u ≠ root → EnoughAt arcs gone root k u) ∧ env 15 = I v ∧ env 14 = I n ∧ env 0 = I n ∧ env 1 = pairs arcs ∧ env 2 = .ref G 0 arcs.length arcs.length ∧ env 3 = I root ∧ env 4 = I k ∧ h = H) (fun env _ => n - natA (env 15)) ?_ ?_
  · exact ⟨0, by omega, fun u a b => by omega, by simp, by simp, by simp, by simp, by simp, by simp, by simp, rfl⟩
  rintro env h ⟨v, hv, hE, h15, h14, h0, h1, h2, h3, h4, rfl⟩
  have hnat : natA (env 15) = v := by simp [h15]
  rw [hnat]; clear hnat
  by_cases hlt : v < n
  · by_cases hr : (v : Int) = root
    · subst hr
      repeat' (first
        | (with_reducible refine awp_skip ?_)
        | (with_reducible refine then_any ?_)
        | (with_reducible refine then_ret ?_)
        | (with_reducible refine then_exit ?_)
        | (with_reducible refine inBlock_normal ?_)
        | (with_reducible refine inBlock_ret ?_)
        | (with_reducible refine inBlock_hit ?_)
        | (with_reducible refine inBlock_miss (by decide) ?_)
        | (with_reducible refine awp_ret ?_)
        | (with_reducible refine awp_exit ?_)
        | (with_reducible refine post_ret ?_)
        | (with_reducible refine post_normal ?_)
        | (with_reducible refine awp_block ?_)
        | (with_reducible refine v_reg [] (fun K hK => ?_))
        | (with_reducible refine v_reg1 [] (fun K hK => ?_))
        | (with_reducible refine v_draw mixed [] [] (by kernel_rfl) (fun K hK => ?_))
        | (with_reducible refine v_draw1 mixed [] [] (by kernel_rfl) (fun K hK => ?_))
        | (with_reducible refine ev_nil (hK _ _ ?_); clear hK K)
        | (with_reducible refine ed_nil (hK _ _ ?_); clear hK K)
        | ((first | with_reducible refine ev_cons (fun K' hK' => ?_) | with_reducible refine ed_cons (fun K' hK' => ?_) | (with_reducible refine ev_id ?_; refine ev_guard rfl (fun K' hK' => ?_)) | (with_reducible refine ed_id ?_; refine ed_guard rfl (fun K' hK' => ?_))); simp [h15, h14, h0, h1, h2, h3, h4, hlt]; repeat' (first | (with_reducible refine hK' _ _ ?_; clear hK' K') | (with_reducible refine And.intro ?_ ?_) | (with_reducible intro hg) | (clear hK' K'; omega)))
        | (with_reducible refine w_cond (fun A B hA hB => ?_); simp [h15, h14, h0, h1, h2, h3, h4, hlt]; repeat' (first | (with_reducible refine hA ?_; clear hA hB A B) | (with_reducible refine hB ?_; clear hA hB A B) | (with_reducible refine And.intro ?_ ?_) | (with_reducible intro hc)))
        | (with_reducible refine awp_seq ?_))
      exact ⟨⟨v + 1, by omega, fun u a b c => hE u a (by omega) c, by simp, by simp [h14], by simp [h0], by simp [h1], by simp [h2], by simp [h3], by simp [h4], rfl⟩, by simp; omega⟩
    · have hmost := fun K k' => most_use (w0 := w0) (K := K) (v := (v : Int)) (enough := k) N hG ⟨by omega, by omega⟩ hr hk k'
      repeat' (first
        | (with_reducible refine awp_skip ?_)
        | (with_reducible refine then_any ?_)
        | (with_reducible refine then_ret ?_)
        | (with_reducible refine then_exit ?_)
        | (with_reducible refine inBlock_normal ?_)
        | (with_reducible refine inBlock_ret ?_)
        | (with_reducible refine inBlock_hit ?_)
        | (with_reducible refine inBlock_miss (by decide) ?_)
        | (with_reducible refine awp_ret ?_)
        | (with_reducible refine awp_exit ?_)
        | (with_reducible refine post_ret ?_)
        | (with_reducible refine post_normal ?_)
        | (with_reducible refine awp_block ?_)
        | (with_reducible refine v_reg [] (fun K hK => ?_))
        | (with_reducible refine v_reg1 [] (fun K hK => ?_))
        | (with_reducible refine v_draw mixed [] [] (by kernel_rfl) (fun K hK => ?_))
        | (with_reducible refine v_draw1 mixed [] [] (by kernel_rfl) (fun K hK => ?_))
        | (with_reducible refine ev_nil (hK _ _ ?_); clear hK K)
        | (with_reducible refine ed_nil (hK _ _ ?_); clear hK K)
        | ((first | with_reducible refine ev_cons (fun K' hK' => ?_) | with_reducible refine ed_cons (fun K' hK' => ?_) | (with_reducible refine ev_id ?_; refine ev_guard rfl (fun K' hK' => ?_)) | (with_reducible refine ed_id ?_; refine ed_guard rfl (fun K' hK' => ?_))); simp [h15, h14, h0, h1, h2, h3, h4, hlt, hr]; repeat' (first | (with_reducible refine hK' _ _ ?_; clear hK' K') | ((with_reducible refine hmost _ (fun units full by' come a b c d => ?_)); try simp [h15, h14, h0, h1, h2, h3, h4, hlt, hr]) | (with_reducible refine And.intro ?_ ?_) | (with_reducible intro hg) | (clear hK' K'; omega)))
        | (with_reducible refine w_cond (fun A B hA hB => ?_); simp [h15, h14, h0, h1, h2, h3, h4, hlt, hr]; repeat' (first | (with_reducible refine hA ?_; clear hA hB A B) | (with_reducible refine hB ?_; clear hA hB A B) | (with_reducible refine And.intro ?_ ?_) | (with_reducible intro hc)))
        | (with_reducible refine awp_seq ?_))
      · have hall : enoughB arcs n gone root k = false := enoughB_false.2 fun he => by
          have := (N.most_enough a b ⟨by omega, by omega⟩ c d).1 (enough_iff.1 he v (by omega) (by omega) hr)
          omega
        simp [hall]
      · have hE2 := (N.most_enough a b ⟨by omega, by omega⟩ c d).2 hc
        exact ⟨⟨v + 1, by omega, fun u u0 u1 u2 => by by_cases e : u = v; (· rw [e]; exact hE2); (· exact hE u u0 (by omega) u2), by simp, by simp [h14], by simp [h0], by simp [h1], by simp [h2], by simp [h3], by simp [h4], rfl⟩, by simp; omega⟩
  · have : v = n := by omega
    subst this
    have hall : enoughB arcs v gone root k = true := enoughB_true.2 (enough_iff.2 fun u a b c => hE u a (by omega) c)
    repeat' (first
      | (with_reducible refine awp_skip ?_)
      | (with_reducible refine then_any ?_)
      | (with_reducible refine then_ret ?_)
      | (with_reducible refine then_exit ?_)
      | (with_reducible refine inBlock_normal ?_)
      | (with_reducible refine inBlock_ret ?_)
      | (with_reducible refine inBlock_hit ?_)
      | (with_reducible refine inBlock_miss (by decide) ?_)
      | (with_reducible refine awp_ret ?_)
      | (with_reducible refine awp_exit ?_)
      | (with_reducible refine post_ret ?_)
      | (with_reducible refine post_normal ?_)
      | (with_reducible refine awp_block ?_)
      | (with_reducible refine v_reg [] (fun K hK => ?_))
      | (with_reducible refine v_reg1 [] (fun K hK => ?_))
      | (with_reducible refine v_draw mixed [] [] (by kernel_rfl) (fun K hK => ?_))
      | (with_reducible refine v_draw1 mixed [] [] (by kernel_rfl) (fun K hK => ?_))
      | (with_reducible refine ev_nil (hK _ _ ?_); clear hK K)
      | (with_reducible refine ed_nil (hK _ _ ?_); clear hK K)
      | ((first | with_reducible refine ev_cons (fun K' hK' => ?_) | with_reducible refine ed_cons (fun K' hK' => ?_) | (with_reducible refine ev_id ?_; refine ev_guard rfl (fun K' hK' => ?_)) | (with_reducible refine ed_id ?_; refine ed_guard rfl (fun K' hK' => ?_))); simp [h15, h14, h0]; repeat' (first | (with_reducible refine hK' _ _ ?_; clear hK' K') | (with_reducible refine And.intro ?_ ?_) | (with_reducible intro hg) | (clear hK' K'; omega)))
      | (with_reducible refine w_cond (fun A B hA hB => ?_); simp [h15, h14, h0]; repeat' (first | (with_reducible refine hA ?_; clear hA hB A B) | (with_reducible refine hB ?_; clear hA hB A B) | (with_reducible refine And.intro ?_ ?_) | (with_reducible intro hc)))
      | (with_reducible refine awp_seq ?_))
    simp [hall]
end Go.Am
namespace Go.Am
set_option linter.unusedVariables false
set_option linter.unusedSimpArgs false
abbrev no0 : Int → Bool := fun _ => false
structure FlowAns (arcs : List (Int × Int)) (n : Nat) (gone : Int → Bool) (root v : Int) (units : Nat) (s : List Int) : Prop where
  up : s.Pairwise (· < ·)
  rng : ∀ x ∈ s, 0 ≤ x ∧ x < n
  has : v ∈ s
  nroot : root ∉ s
  is : entP arcs gone (fun u => decide (u ∈ s)) = units
  least : EnoughAt arcs gone root units v
  all : ∀ T : Int → Bool, T root = false → T v = true → entP arcs gone T = units → ∀ u : Int, 0 ≤ u → u < n → T u = true → u ∈ s
section
variable {arcs : List (Int × Int)} {n : Nat} {gone : Int → Bool} {root v : Int} {units units' : Nat} {s s' : List Int}
theorem FlowAns.units_eq (h : FlowAns arcs n gone root v units s) (h' : FlowAns arcs n gone root v units' s') : units = units' := by
  have a := h.least (fun u => decide (u ∈ s')) (by simp [h'.nroot]) (by simp [h'.has])
  have b := h'.least (fun u => decide (u ∈ s)) (by simp [h.nroot]) (by simp [h.has])
  rw [h'.is] at a
  rw [h.is] at b
  omega
theorem FlowAns.set_eq (h : FlowAns arcs n gone root v units s) (h' : FlowAns arcs n gone root v units' s') : s = s' := by
  have e := h.units_eq h'
  subst e
  refine up_ext h.up h'.up fun x => ⟨fun hx => ?_, fun hx => ?_⟩
  · obtain ⟨a, b⟩ := h.rng x hx
    exact h'.all (fun u => decide (u ∈ s)) (by simp [h.nroot]) (by simp [h.has]) h.is x a b (by simpa using hx)
  · obtain ⟨a, b⟩ := h'.rng x hx
    exact h.all (fun u => decide (u ∈ s')) (by simp [h'.nroot]) (by simp [h'.has]) h'.is x a b (by simpa using hx)
theorem least_nat {p : Nat → Prop} (h : ∃ n, p n) : ∃ n, p n ∧ ∀ m, p m → n ≤ m := by
  obtain ⟨n, hn⟩ := h
  induction n using Nat.strongRecOn with
  | _ n ih =>
  by_cases hx : ∃ m, m < n ∧ p m
  · obtain ⟨m, hm, hp⟩ := hx
    exact ih m hm hp
  · exact ⟨n, hn, fun m hm => Nat.le_of_not_lt fun hlt => hx ⟨m, hlt, hm⟩⟩
theorem most_nat {p : Nat → Prop} (B : Nat) (h : ∃ n, p n) (hB : ∀ n, p n → n ≤ B) : ∃ n, p n ∧ ∀ m, p m → m ≤ n := by
  obtain ⟨m, ⟨n, hn, rfl⟩, hl⟩ := least_nat (p := fun m => ∃ n, p n ∧ m = B - n) (by obtain ⟨n, hn⟩ := h; exact ⟨_, n, hn, rfl⟩)
  refine ⟨n, hn, fun k hk => ?_⟩
  have := hl _ ⟨k, hk, rfl⟩
  have := hB k hk
  have := hB n hn
  omega
theorem countP_lt_of {l : List Int} {p q : Int → Bool} (h : ∀ x ∈ l, p x = true → q x = true) {x : Int} (hx : x ∈ l) (hp : p x = false) (hq : q x = true) : l.countP p < l.countP q := by
  induction l with
  | nil => cases hx
  | cons a l ih =>
    have hle : l.countP p ≤ l.countP q := List.countP_mono_left fun y hy => h y (List.mem_cons_of_mem _ hy)
    rw [List.countP_cons, List.countP_cons]
    rcases List.mem_cons.1 hx with e | e
    · subst e; simp [hp, hq]; omega
    · have := ih (fun y hy => h y (List.mem_cons_of_mem _ hy)) e
      have h2 := h a (by simp)
      cases e1 : p a <;> cases e2 : q a <;> simp <;> first | omega | (rw [e1, e2] at h2; simp at h2)
theorem NetA.ans (N : NetA n arcs root) (gone : Int → Bool) (hv : 0 ≤ v ∧ v < n) (hr : v ≠ root) : ∃ units s, FlowAns arcs n gone root v units s := by
  obtain ⟨m, ⟨T0, t0, t1, t2⟩, hl⟩ := least_nat (p := fun m => ∃ T : Int → Bool, T root = false ∧ T v = true ∧ entP arcs gone T = m) ⟨_, fun u => decide (u = v), by simpa using fun e => hr e.symm, by simp, rfl⟩
  have hleast : EnoughAt arcs gone root m v := fun T a b => hl _ ⟨T, a, b, rfl⟩
  obtain ⟨c, ⟨T, a1, a2, a3, a4⟩, hm⟩ := most_nat (p := fun c => ∃ T : Int → Bool, T root = false ∧ T v = true ∧ entP arcs gone T = m ∧ (upto n).countP T = c) (upto n).length ⟨_, T0, t0, t1, t2, rfl⟩
    (fun c ⟨T, _, _, _, e⟩ => by rw [← e]; exact List.countP_le_length)
  refine ⟨m, (upto n).filter T, (up_upto n).filter _, fun x hx => mem_upto.1 (List.mem_filter.1 hx).1, List.mem_filter.2 ⟨mem_upto.2 hv, a2⟩, (fun hx => by have := (List.mem_filter.1 hx).2; rw [a1] at this; cases this), ?_, hleast, fun A b1 b2 b3 u u0 un hu => ?_⟩
  · rw [← entA_len, ← N.ent_range, a3]
  · refine List.mem_filter.2 ⟨mem_upto.2 ⟨u0, un⟩, ?_⟩
    cases e : T u with
    | true => rfl
    | false =>
    exfalso
    have s1 := ent_sub (arcs := arcs) gone T A
    have s2 := hleast (fun u => T u && A u) (by simp [a1]) (by simp [a2, b2])
    have s3 := hleast (fun u => T u || A u) (by simp [a1, b1]) (by simp [a2])
    have s4 := hm _ ⟨fun u => T u || A u, by simp [a1, b1], by simp [a2], by omega, rfl⟩
    have := countP_lt_of (l := upto n) (p := T) (q := fun u => T u || A u) (fun x _ hx => by simp [hx]) (mem_upto.2 ⟨u0, un⟩) e (by simp [hu])
    omega
open Classical in
noncomputable def flowA (arcs : List (Int × Int)) (n : Nat) (gone : Int → Bool) (root v : Int) : Nat × List Int :=
  if h : ∃ p : Nat × List Int, FlowAns arcs n gone root v p.1 p.2 then h.choose else (0, [])
theorem FlowAns.eq (h : FlowAns arcs n gone root v units s) : flowA arcs n gone root v = (units, s) := by
  have hx : ∃ p : Nat × List Int, FlowAns arcs n gone root v p.1 p.2 := ⟨(units, s), h⟩
  rw [flowA, dif_pos hx]
  exact Prod.ext (hx.choose_spec.units_eq h) (hx.choose_spec.set_eq h)
theorem NetA.flow (N : NetA n arcs root) (gone : Int → Bool) (hv : 0 ≤ v ∧ v < n) (hr : v ≠ root) : FlowAns arcs n gone root v (flowA arcs n gone root v).1 (flowA arcs n gone root v).2 := by
  obtain ⟨u, s, h⟩ := N.ans gone hv hr
  rw [h.eq]
  exact h
theorem NetA.most_ans (N : NetA n arcs root) {full : Int → Bool} {by' : Int → Int} {come : Int → Bool} (hf : FlowS arcs gone full root v units) (hw : WkA arcs n gone full root by' come) (hv : 0 ≤ v ∧ v < n) (hc : come v = false) :
    FlowAns arcs n gone root v units (notC n come) where
  up := (up_upto n).filter _
  rng x hx := (mem_notC.1 hx).1
  has := mem_notC.2 ⟨hv, hc⟩
  nroot hx := by have := (mem_notC.1 hx).2; rw [hw.src] at this; cases this
  is := (N.units_tight hf hw hv hc).symm
  least := N.units_le hf hv
  all T a b e u u0 un hu := by
    refine mem_notC.2 ⟨⟨u0, un⟩, ?_⟩
    cases ec : come u with
    | false => rfl
    | true =>
    exfalso
    refine hf.within hw (T := (upto n).filter T) ((nodup_upto n).filter _) (fun h => ?_) (List.mem_filter.2 ⟨mem_upto.2 hv, b⟩) (by rw [← N.ent_range, e]) u ec (List.mem_filter.2 ⟨mem_upto.2 ⟨u0, un⟩, hu⟩)
    have := (List.mem_filter.1 h).2
    rw [a] at this
    cases this
theorem flow_le (h : FlowAns arcs n gone root v units s) : units ≤ arcs.length := by
  rw [← h.is, entP]
  exact Nat.le_trans List.countP_le_length (by rw [upto_length]; exact Nat.le_refl _)
end
end Go.Am
